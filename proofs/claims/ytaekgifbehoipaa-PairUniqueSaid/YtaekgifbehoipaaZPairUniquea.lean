/- What the functions of the package num answer. Conditions: none. -/
import Derived.Test.YtaekgifbehoipaaEvaW
import Derived.Test.YtaekgifbehoipaaCodeAll
import Derived.Test.YtaekgifbehoipaaEvaI2
import Derived.Test.YtaekgifbehoipaaEvaY
namespace Go.Proofs.Ytaekgifbehoipaa.Fl
open Go Go.Proofs.Ytaekgifbehoipaa.Eva Go.Proofs.Ytaekgifbehoipaa.CodeAll
set_option linter.unusedVariables false
set_option linter.unusedSimpArgs false
set_option maxRecDepth 10000
set_option maxHeartbeats 4000000

abbrev w (x : Int) : Int := IntKind.i64.wrap x

/-- The quotient, rounded down, and the error. -/
def dvd (a b : Int) : Int := if b = 0 then 0 else if (a == -9223372036854775808 && b == -1) = true then 0 else if (a.tmod b != 0 && (decide (a < 0) != decide (b < 0))) = true then w (w (a.tdiv b) - 1) else w (a.tdiv b)
def dve (a b : Int) : Int := if b = 0 then 10 else if (a == -9223372036854775808 && b == -1) = true then 2 else 0
theorem dvd_run (a b : Int) (H : List Ob) : ecall E 121 [.int .i64 a, .int .i64 b] H = some (.tup [.int .i64 (dvd a b), .int .i64 (dve a b)], H, H.length, H.length) := by
  refine call_plain e121 rfl (Nat.le_of_ble_eq_true rfl) rfl ?_
  by_cases hb : b = 0
  · subst hb
    simp (config := {maxSteps := 4000000}) only [c121, SS, bne_self_eq_false, wr_def, obOf, List.all_cons, List.all_nil, List.map_cons, List.map_nil, List.length_cons, List.length_nil, List.take_zero, List.take_succ_cons, List.take_nil, List.drop_zero, List.drop_succ_cons, List.drop_nil, Nat.reduceAdd, Nat.reduceMul, Nat.reduceSub, if_true, Nat.reduceLT, Nat.reduceLeDiff, ite_true, ite_false, Nat.reduceEqDiff, if_false, reduceCtorEq, ne_eq, List.getD, List.getElem?_cons_zero, List.getElem?_cons_succ, Option.getD_some, Option.bind_some, Option.map_some, Option.isSome_some, reduceIte, List.length_append, List.append_assoc, List.cons_append, List.nil_append, Option.some.injEq, forall_const, implies_true, Int.reduceNeg, eq_self, Prod.mk.injEq, List.self_eq_append_right, List.append_nil, exists_eq_left, exists_eq_left', exists_and_left, exists_eq_right, exists_and_right]
    simp [dvd, dve]
  · have hb' : (b == 0) = false := by simpa using hb
    simp (config := {maxSteps := 4000000}) only [c121, hb', abin_quo _ _ _ hb, abin_rem _ _ _ hb, SS, bne_self_eq_false, wr_def, obOf, List.all_cons, List.all_nil, List.map_cons, List.map_nil, List.length_cons, List.length_nil, List.take_zero, List.take_succ_cons, List.take_nil, List.drop_zero, List.drop_succ_cons, List.drop_nil, Nat.reduceAdd, Nat.reduceMul, Nat.reduceSub, if_true, Nat.reduceLT, Nat.reduceLeDiff, ite_true, ite_false, Nat.reduceEqDiff, if_false, reduceCtorEq, ne_eq, List.getD, List.getElem?_cons_zero, List.getElem?_cons_succ, Option.getD_some, Option.bind_some, Option.map_some, Option.isSome_some, reduceIte, List.length_append, List.append_assoc, List.cons_append, List.nil_append, Option.some.injEq, forall_const, implies_true, Int.reduceNeg, eq_self, Prod.mk.injEq, List.self_eq_append_right, List.append_nil, exists_eq_left, exists_eq_left', exists_and_left, exists_eq_right, exists_and_right]
    simp only [dvd, dve, if_neg hb]
    repeat' first | (refine And.intro ?_ ?_) | (intro hc; simp only [hc, if_true, Bool.false_eq_true, if_false])
    all_goals simp_all
theorem dvd_pc (a b : Int) (H : List Ob) : pcall E 121 [.int .i64 a, .int .i64 b] H = some (.tup [.int .i64 (dvd a b), .int .i64 (dve a b)]) := pcall_some.2 (dvd_run a b H)
def dvu (a b : Int) : Int := if (dve a b == 0 && a.tmod b != 0) = true then w (dvd a b + 1) else dvd a b
theorem dvu_run (a b : Int) (H : List Ob) : ecall E 122 [.int .i64 a, .int .i64 b] H = some (.tup [.int .i64 (dvu a b), .int .i64 (dve a b)], H, H.length, H.length) := by
  refine call_plain e122 rfl (Nat.le_of_ble_eq_true rfl) rfl ?_
  by_cases hb : b = 0
  · subst hb
    have h1 : (dve a 0 == 0) = false := by simp [dve]
    simp (config := {maxSteps := 4000000}) only [c122, dvd_pc, h1, SS, bne_self_eq_false, wr_def, obOf, List.all_cons, List.all_nil, List.map_cons, List.map_nil, List.length_cons, List.length_nil, List.take_zero, List.take_succ_cons, List.take_nil, List.drop_zero, List.drop_succ_cons, List.drop_nil, Nat.reduceAdd, Nat.reduceMul, Nat.reduceSub, if_true, Nat.reduceLT, Nat.reduceLeDiff, ite_true, ite_false, Nat.reduceEqDiff, if_false, reduceCtorEq, ne_eq, List.getD, List.getElem?_cons_zero, List.getElem?_cons_succ, Option.getD_some, Option.bind_some, Option.map_some, Option.isSome_some, reduceIte, List.length_append, List.append_assoc, List.cons_append, List.nil_append, Option.some.injEq, forall_const, implies_true, Int.reduceNeg, eq_self, Prod.mk.injEq, List.self_eq_append_right, List.append_nil, exists_eq_left, exists_eq_left', exists_and_left, exists_eq_right, exists_and_right]
    simp [dvu, h1]
  · simp (config := {maxSteps := 4000000}) only [c122, dvd_pc, abin_rem _ _ _ hb, SS, bne_self_eq_false, wr_def, obOf, List.all_cons, List.all_nil, List.map_cons, List.map_nil, List.length_cons, List.length_nil, List.take_zero, List.take_succ_cons, List.take_nil, List.drop_zero, List.drop_succ_cons, List.drop_nil, Nat.reduceAdd, Nat.reduceMul, Nat.reduceSub, if_true, Nat.reduceLT, Nat.reduceLeDiff, ite_true, ite_false, Nat.reduceEqDiff, if_false, reduceCtorEq, ne_eq, List.getD, List.getElem?_cons_zero, List.getElem?_cons_succ, Option.getD_some, Option.bind_some, Option.map_some, Option.isSome_some, reduceIte, List.length_append, List.append_assoc, List.cons_append, List.nil_append, Option.some.injEq, forall_const, implies_true, Int.reduceNeg, eq_self, Prod.mk.injEq, List.self_eq_append_right, List.append_nil, exists_eq_left, exists_eq_left', exists_and_left, exists_eq_right, exists_and_right]
    unfold dvu
    repeat' first | (refine And.intro ?_ ?_) | (intro hc; simp only [hc, if_true, Bool.false_eq_true, if_false])
    all_goals simp_all
theorem dvu_pc (a b : Int) (H : List Ob) : pcall E 122 [.int .i64 a, .int .i64 b] H = some (.tup [.int .i64 (dvu a b), .int .i64 (dve a b)]) := pcall_some.2 (dvu_run a b H)

/-- within. -/
def wi (n lo hi : Int) : Int := w (lo + (w (n.tmod (w (w (hi - lo) + 1)) + w (w (hi - lo) + 1))).tmod (w (w (hi - lo) + 1)))
end Go.Proofs.Ytaekgifbehoipaa.Fl
/- What Check, At of the package tube and Toward of the package plane answer. Conditions: the slice that is handed reads as told. -/
namespace Go.Proofs.Ytaekgifbehoipaa.Fl
open Go Go.Proofs.Ytaekgifbehoipaa.Eva Go.Proofs.Ytaekgifbehoipaa.CodeAll
set_option linter.unusedVariables false
set_option linter.unusedSimpArgs false
set_option maxRecDepth 10000
set_option maxHeartbeats 4000000

structure Nd where
  (t x y h r b : Int)
  deriving DecidableEq
def Nd.c (n : Nd) : List AV := [.int .i64 n.t, .int .i64 n.x, .int .i64 n.y, .int .i64 n.h, .int .i64 n.r, .int .i64 n.b]
def Nd.zero : Nd := ⟨0, 0, 0, 0, 0, 0⟩
def nout (p : Nd × Int) : AV := .tup [.agg p.1.c, .int .i64 p.2]

def pchk (x y : Int) : Int := if (decide (x < -1000000) || decide (1000000 < x) || decide (y < -1000000) || decide (1000000 < y)) then 4 else 0
theorem pchk_pc (x y : Int) (H : List Ob) : pcall E 53 [.agg [.int .i64 x, .int .i64 y]] H = some (.int .i64 (pchk x y)) := by
  refine pcall_some.2 (call_plain e53 rfl (Nat.le_of_ble_eq_true rfl) rfl ?_)
  generalize hv : AV.int .i64 (pchk x y) = v
  simp (config := {maxSteps := 4000000}) only [c53, SS, bne_self_eq_false, wr_def, obOf, List.all_cons, List.all_nil, List.map_cons, List.map_nil, List.length_cons, List.length_nil, List.take_zero, List.take_succ_cons, List.take_nil, List.drop_zero, List.drop_succ_cons, List.drop_nil, Nat.reduceAdd, Nat.reduceMul, Nat.reduceSub, if_true, Nat.reduceLT, Nat.reduceLeDiff, ite_true, ite_false, Nat.reduceEqDiff, if_false, reduceCtorEq, ne_eq, List.getD, List.getElem?_cons_zero, List.getElem?_cons_succ, Option.getD_some, Option.bind_some, Option.map_some, Option.isSome_some, reduceIte, List.length_append, List.append_assoc, List.cons_append, List.nil_append, Option.some.injEq, forall_const, implies_true, Int.reduceNeg, eq_self, Prod.mk.injEq, List.self_eq_append_right, List.append_nil, exists_eq_left, exists_eq_left', exists_and_left, exists_eq_right, exists_and_right]
  simp only [join_ite]
  subst hv
  unfold pchk
  simp only [apply_ite (AV.int .i64)]

def toward (ax ay bx «by» n d : Int) : (Int × Int) × Int :=
  if decide (d ≤ 0) then ((0, 0), 10) else
  if (decide (200000 < d) || decide (n < 0) || decide (d < n) || pchk ax ay != 0 || pchk bx «by» != 0) then ((0, 0), 4) else
  ((w (ax + dvd (w (w (bx - ax) * n)) d), w (ay + dvd (w (w («by» - ay) * n)) d)), 0)
def pout (p : (Int × Int) × Int) : AV := .tup [.agg [.int .i64 p.1.1, .int .i64 p.1.2], .int .i64 p.2]
theorem toward_pc (ax ay bx «by» n d : Int) (H : List Ob) : pcall E 101 [.agg [.int .i64 ax, .int .i64 ay], .agg [.int .i64 bx, .int .i64 «by»], .int .i64 n, .int .i64 d] H = some (pout (toward ax ay bx «by» n d)) := by
  refine pcall_some.2 (call_plain e101 rfl (Nat.le_of_ble_eq_true rfl) rfl ?_)
  generalize hv : pout (toward ax ay bx «by» n d) = v
  simp (config := {maxSteps := 4000000}) only [c101, pchk_pc, dvd_pc, SS, bne_self_eq_false, wr_def, obOf, List.all_cons, List.all_nil, List.map_cons, List.map_nil, List.length_cons, List.length_nil, List.take_zero, List.take_succ_cons, List.take_nil, List.drop_zero, List.drop_succ_cons, List.drop_nil, Nat.reduceAdd, Nat.reduceMul, Nat.reduceSub, if_true, Nat.reduceLT, Nat.reduceLeDiff, ite_true, ite_false, Nat.reduceEqDiff, if_false, reduceCtorEq, ne_eq, List.getD, List.getElem?_cons_zero, List.getElem?_cons_succ, Option.getD_some, Option.bind_some, Option.map_some, Option.isSome_some, reduceIte, List.length_append, List.append_assoc, List.cons_append, List.nil_append, Option.some.injEq, forall_const, implies_true, Int.reduceNeg, eq_self, Prod.mk.injEq, List.self_eq_append_right, List.append_nil, exists_eq_left, exists_eq_left', exists_and_left, exists_eq_right, exists_and_right]
  simp only [join_ite]
  subst hv
  unfold toward
  simp only [apply_ite pout]
  rfl
def tween (a b n d : Int) : Int := w (a + dvd (w (w (b - a) * n)) d)
def tabove (a b n d : Int) : Int := w (a + dvu (w (w (b - a) * n)) d)
theorem tween_pc (a b n d : Int) (H : List Ob) : pcall E 102 [.int .i64 a, .int .i64 b, .int .i64 n, .int .i64 d] H = some (.int .i64 (tween a b n d)) := by
  refine pcall_some.2 (call_plain e102 rfl (Nat.le_of_ble_eq_true rfl) rfl ?_)
  simp (config := {maxSteps := 4000000}) only [c102, dvd_pc, tween, SS, bne_self_eq_false, wr_def, obOf, List.all_cons, List.all_nil, List.map_cons, List.map_nil, List.length_cons, List.length_nil, List.take_zero, List.take_succ_cons, List.take_nil, List.drop_zero, List.drop_succ_cons, List.drop_nil, Nat.reduceAdd, Nat.reduceMul, Nat.reduceSub, if_true, Nat.reduceLT, Nat.reduceLeDiff, ite_true, ite_false, Nat.reduceEqDiff, if_false, reduceCtorEq, ne_eq, List.getD, List.getElem?_cons_zero, List.getElem?_cons_succ, Option.getD_some, Option.bind_some, Option.map_some, Option.isSome_some, reduceIte, List.length_append, List.append_assoc, List.cons_append, List.nil_append, Option.some.injEq, forall_const, implies_true, Int.reduceNeg, eq_self, Prod.mk.injEq, List.self_eq_append_right, List.append_nil, exists_eq_left, exists_eq_left', exists_and_left, exists_eq_right, exists_and_right]
theorem tabove_pc (a b n d : Int) (H : List Ob) : pcall E 103 [.int .i64 a, .int .i64 b, .int .i64 n, .int .i64 d] H = some (.int .i64 (tabove a b n d)) := by
  refine pcall_some.2 (call_plain e103 rfl (Nat.le_of_ble_eq_true rfl) rfl ?_)
  simp (config := {maxSteps := 4000000}) only [c103, dvu_pc, tabove, SS, bne_self_eq_false, wr_def, obOf, List.all_cons, List.all_nil, List.map_cons, List.map_nil, List.length_cons, List.length_nil, List.take_zero, List.take_succ_cons, List.take_nil, List.drop_zero, List.drop_succ_cons, List.drop_nil, Nat.reduceAdd, Nat.reduceMul, Nat.reduceSub, if_true, Nat.reduceLT, Nat.reduceLeDiff, ite_true, ite_false, Nat.reduceEqDiff, if_false, reduceCtorEq, ne_eq, List.getD, List.getElem?_cons_zero, List.getElem?_cons_succ, Option.getD_some, Option.bind_some, Option.map_some, Option.isSome_some, reduceIte, List.length_append, List.append_assoc, List.cons_append, List.nil_append, Option.some.injEq, forall_const, implies_true, Int.reduceNeg, eq_self, Prod.mk.injEq, List.self_eq_append_right, List.append_nil, exists_eq_left, exists_eq_left', exists_and_left, exists_eq_right, exists_and_right]

/-! ### Check -/
def tgo : Option Int → List Nd → Int
  | _, [] => 0
  | pv, n :: r =>
    if (decide (n.t < 0) || decide (200000 < n.t) || (match pv with | none => false | some p => decide (n.t ≤ p))) = true then 12
    else if (pchk n.x n.y != 0) = true then pchk n.x n.y
    else if (decide (n.h < 0) || decide (60000 < n.h) || decide (n.r < 0) || decide (1000000 < n.r) || decide (n.b < 0) || decide (60000 < n.b)) = true then 4
    else tgo (some n.t) r
def tchk (l : List Nd) : Int := if 64 < l.length then 2 else if l.length = 0 then 3 else tgo none l

theorem tchk_run {H : List Ob} {V : AV} {l : List Nd} (hs : SlL H V Nd.c 6 l) : ecall E 18 [V] H = some (.int .i64 (tchk l), H, H.length, H.length) := by
  refine call_plain e18 rfl (Nat.le_of_ble_eq_true rfl) rfl ?_
  generalize hR : tchk l = R
  unfold tchk at hR
  have hlen := hs.len
  by_cases c1 : 64 < l.length
  · rw [if_pos c1] at hR
    subst hR
    have c1' : decide ((64 : Int) < (l.length : Int)) = true := by simp; omega
    simp (config := {maxSteps := 4000000}) only [c18, hlen, c1', SS, bne_self_eq_false, wr_def, obOf, List.all_cons, List.all_nil, List.map_cons, List.map_nil, List.length_cons, List.length_nil, List.take_zero, List.take_succ_cons, List.take_nil, List.drop_zero, List.drop_succ_cons, List.drop_nil, Nat.reduceAdd, Nat.reduceMul, Nat.reduceSub, if_true, Nat.reduceLT, Nat.reduceLeDiff, ite_true, ite_false, Nat.reduceEqDiff, if_false, reduceCtorEq, ne_eq, List.getD, List.getElem?_cons_zero, List.getElem?_cons_succ, Option.getD_some, Option.bind_some, Option.map_some, Option.isSome_some, reduceIte, List.length_append, List.append_assoc, List.cons_append, List.nil_append, Option.some.injEq, forall_const, implies_true, Int.reduceNeg, eq_self, Prod.mk.injEq, List.self_eq_append_right, List.append_nil, exists_eq_left, exists_eq_left', exists_and_left, exists_eq_right, exists_and_right]
  rw [if_neg c1] at hR
  have c1' : decide ((64 : Int) < (l.length : Int)) = false := by simp; omega
  by_cases c2 : l.length = 0
  · rw [if_pos c2] at hR
    subst hR
    have c2' : ((l.length : Int) == 0) = true := by simp; exact List.length_eq_zero_iff.1 c2
    simp (config := {maxSteps := 4000000}) only [c18, hlen, c1', c2', SS, bne_self_eq_false, wr_def, obOf, List.all_cons, List.all_nil, List.map_cons, List.map_nil, List.length_cons, List.length_nil, List.take_zero, List.take_succ_cons, List.take_nil, List.drop_zero, List.drop_succ_cons, List.drop_nil, Nat.reduceAdd, Nat.reduceMul, Nat.reduceSub, if_true, Nat.reduceLT, Nat.reduceLeDiff, ite_true, ite_false, Nat.reduceEqDiff, if_false, reduceCtorEq, ne_eq, List.getD, List.getElem?_cons_zero, List.getElem?_cons_succ, Option.getD_some, Option.bind_some, Option.map_some, Option.isSome_some, reduceIte, List.length_append, List.append_assoc, List.cons_append, List.nil_append, Option.some.injEq, forall_const, implies_true, Int.reduceNeg, eq_self, Prod.mk.injEq, List.self_eq_append_right, List.append_nil, exists_eq_left, exists_eq_left', exists_and_left, exists_eq_right, exists_and_right]
  rw [if_neg c2] at hR
  have c2' : ((l.length : Int) == 0) = false := by simp; exact fun h => c2 (by rw [h]; rfl)
  simp (config := {maxSteps := 4000000}) only [c18, hlen, c1', c2', SS, bne_self_eq_false, wr_def, obOf, List.all_cons, List.all_nil, List.map_cons, List.map_nil, List.length_cons, List.length_nil, List.take_zero, List.take_succ_cons, List.take_nil, List.drop_zero, List.drop_succ_cons, List.drop_nil, Nat.reduceAdd, Nat.reduceMul, Nat.reduceSub, if_true, Nat.reduceLT, Nat.reduceLeDiff, ite_true, ite_false, Nat.reduceEqDiff, if_false, reduceCtorEq, ne_eq, List.getD, List.getElem?_cons_zero, List.getElem?_cons_succ, Option.getD_some, Option.bind_some, Option.map_some, Option.isSome_some, reduceIte, List.length_append, List.append_assoc, List.cons_append, List.nil_append, Option.some.injEq, forall_const, implies_true, Int.reduceNeg, eq_self, Prod.mk.injEq, List.self_eq_append_right, List.append_nil, exists_eq_left, exists_eq_left', exists_and_left, exists_eq_right, exists_and_right]
  refine W_loop (fun q f1 h1 => ∃ j : Nat, q = l.length - j ∧ j ≤ l.length ∧ f1 0 = V ∧ f1 14 = V ∧ f1 15 = .int .i64 l.length ∧ f1 16 = .int .i64 j ∧ SlL h1 V Nd.c 6 l ∧ tgo (if j = 0 then none else (l[j - 1]?).map Nd.t) (l.drop j) = R) (Nat.le_refl _) l.length ⟨0, rfl, Nat.zero_le _, rfl, rfl, rfl, rfl, hs, hR⟩ ?_
  rintro q f1 h1 hn1 _ ⟨j, rfl, hj, e0, e14, e15, e16, hs1, hgo⟩
  by_cases hjl : j < l.length
  · have hjl' : decide ((j : Int) < (l.length : Int)) = true := by simpa using hjl
    obtain ⟨n, hn⟩ : ∃ n, l[j]? = some n := ⟨_, List.getElem?_eq_getElem hjl⟩
    have hd : l.drop j = n :: l.drop (j + 1) := by
      rw [List.drop_eq_getElem_cons hjl]; congr 1
      rw [List.getElem?_eq_getElem hjl] at hn; simpa using hn
    have hwj : IntKind.i64.wrap ((j : Int) + 1) = ((j + 1 : Nat) : Int) := by rw [wrap64 (by omega) (by omega)]; omega
    have hok : idxOk 6 V (.int .i64 (j : Int)) := hs1.ok (by omega) (by omega)
    have hld : ldnA 6 h1 (idxV 6 V (.int .i64 (j : Int))) = _ := hs1.ldn (x := n) (by omega) (by simpa using hn)
    simp only [Nd.c] at hld
    rw [hd] at hgo
    simp only [tgo] at hgo
    by_cases hj0 : j = 0
    · have hgt : decide ((0 : Int) < (j : Int)) = false := by simp [hj0]
      simp (config := {maxSteps := 8000000}) only [e0, e14, e15, e16, hjl', hwj, hok, hld, hgt, pchk_pc, isPtr_fad, fad_fad, SS, bne_self_eq_false, wr_def, obOf, List.all_cons, List.all_nil, List.map_cons, List.map_nil, List.length_cons, List.length_nil, List.take_zero, List.take_succ_cons, List.take_nil, List.drop_zero, List.drop_succ_cons, List.drop_nil, Nat.reduceAdd, Nat.reduceMul, Nat.reduceSub, if_true, Nat.reduceLT, Nat.reduceLeDiff, ite_true, ite_false, Nat.reduceEqDiff, if_false, reduceCtorEq, ne_eq, List.getD, List.getElem?_cons_zero, List.getElem?_cons_succ, Option.getD_some, Option.bind_some, Option.map_some, Option.isSome_some, reduceIte, List.length_append, List.append_assoc, List.cons_append, List.nil_append, Option.some.injEq, forall_const, implies_true, Int.reduceNeg, eq_self, Prod.mk.injEq, List.self_eq_append_right, List.append_nil, exists_eq_left, exists_eq_left', exists_and_left, exists_eq_right, exists_and_right]
      rw [if_pos hj0] at hgo
      simp only [Bool.or_false] at hgo
      refine ⟨hn1, fun k1 => ?_, fun k1 => ⟨by omega, fun k2 => ?_, fun k2 => ⟨fun k3 => ?_, fun k3 => ?_⟩⟩⟩
      · rw [if_pos k1] at hgo; subst hgo; rfl
      · rw [if_neg (by simpa using k1), if_pos k2] at hgo; subst hgo; rfl
      · rw [if_neg (by simpa using k1), if_neg (by simpa using k2), if_pos k3] at hgo; subst hgo; rfl
      · rw [if_neg (by simpa using k1), if_neg (by simpa using k2), if_neg (by simpa using k3)] at hgo
        exact ⟨_, by omega, j + 1, rfl, by omega, rfl, hs1.keep _, by rw [if_neg (by omega)]; simp only [Nat.add_sub_cancel, hn]; exact hgo⟩
    · have hgt : decide ((0 : Int) < (j : Int)) = true := by simp; omega
      obtain ⟨p, hp⟩ : ∃ p, l[j - 1]? = some p := ⟨_, List.getElem?_eq_getElem (by omega)⟩
      have hwm : IntKind.i64.wrap ((j : Int) - 1) = ((j - 1 : Nat) : Int) := by rw [wrap64 (by omega) (by omega)]; omega
      have hok' : idxOk 6 V (.int .i64 ((j - 1 : Nat) : Int)) := hs1.ok (by omega) (by omega)
      have hld' : ∀ x, ld1A (h1 ++ x) (fadA (0 + 0) (idxV 6 V (.int .i64 ((j - 1 : Nat) : Int)))) = _ := fun x => (hs1.keep x).ldc (x := p) (by omega) (by simpa using hp) (by decide)
      simp only [Nd.c, Nat.add_zero] at hld'
      simp (config := {maxSteps := 8000000}) only [e0, e14, e15, e16, hjl', hwj, hwm, hok, hld, hok', isPtr_idx hok', hld', hgt, pchk_pc, isPtr_fad, fad_fad, SS, bne_self_eq_false, wr_def, obOf, List.all_cons, List.all_nil, List.map_cons, List.map_nil, List.length_cons, List.length_nil, List.take_zero, List.take_succ_cons, List.take_nil, List.drop_zero, List.drop_succ_cons, List.drop_nil, Nat.reduceAdd, Nat.reduceMul, Nat.reduceSub, if_true, Nat.reduceLT, Nat.reduceLeDiff, ite_true, ite_false, Nat.reduceEqDiff, if_false, reduceCtorEq, ne_eq, List.getD, List.getElem?_cons_zero, List.getElem?_cons_succ, Option.getD_some, Option.bind_some, Option.map_some, Option.isSome_some, reduceIte, List.length_append, List.append_assoc, List.cons_append, List.nil_append, Option.some.injEq, forall_const, implies_true, Int.reduceNeg, eq_self, Prod.mk.injEq, List.self_eq_append_right, List.append_nil, exists_eq_left, exists_eq_left', exists_and_left, exists_eq_right, exists_and_right]
      rw [if_neg hj0, hp] at hgo
      simp only [Option.map_some] at hgo
      refine ⟨hn1, fun k1 => ?_, fun k1 => ⟨by omega, fun k2 => ?_, fun k2 => ⟨fun k3 => ?_, fun k3 => ?_⟩⟩⟩
      · rw [if_pos k1] at hgo; subst hgo; rfl
      · rw [if_neg (by simpa using k1), if_pos k2] at hgo; subst hgo; rfl
      · rw [if_neg (by simpa using k1), if_neg (by simpa using k2), if_pos k3] at hgo; subst hgo; rfl
      · rw [if_neg (by simpa using k1), if_neg (by simpa using k2), if_neg (by simpa using k3)] at hgo
        exact ⟨_, by omega, j + 1, rfl, by omega, rfl, hs1.keep _, by rw [if_neg (by omega)]; simp only [Nat.add_sub_cancel, hn]; exact hgo⟩
  · have hjl' : decide ((j : Int) < (l.length : Int)) = false := by simpa using hjl
    have hd : l.drop j = [] := List.drop_eq_nil_of_le (by omega)
    rw [hd] at hgo
    simp only [tgo] at hgo
    subst hgo
    simp (config := {maxSteps := 8000000}) only [e0, e14, e15, e16, hjl', SS, bne_self_eq_false, wr_def, obOf, List.all_cons, List.all_nil, List.map_cons, List.map_nil, List.length_cons, List.length_nil, List.take_zero, List.take_succ_cons, List.take_nil, List.drop_zero, List.drop_succ_cons, List.drop_nil, Nat.reduceAdd, Nat.reduceMul, Nat.reduceSub, if_true, Nat.reduceLT, Nat.reduceLeDiff, ite_true, ite_false, Nat.reduceEqDiff, if_false, reduceCtorEq, ne_eq, List.getD, List.getElem?_cons_zero, List.getElem?_cons_succ, Option.getD_some, Option.bind_some, Option.map_some, Option.isSome_some, reduceIte, List.length_append, List.append_assoc, List.cons_append, List.nil_append, Option.some.injEq, forall_const, implies_true, Int.reduceNeg, eq_self, Prod.mk.injEq, List.self_eq_append_right, List.append_nil, exists_eq_left, exists_eq_left', exists_and_left, exists_eq_right, exists_and_right]
theorem tchk_pc {H : List Ob} {V : AV} {l : List Nd} (hs : SlL H V Nd.c 6 l) : pcall E 18 [V] H = some (.int .i64 (tchk l)) := pcall_some.2 (tchk_run hs)
theorem tchk_ne {l : List Nd} (h : tchk l = 0) : l ≠ [] := by
  intro hl; subst hl; exact absurd h (by decide)

theorem tchk_len {l : List Nd} (h : tchk l = 0) : l.length ≤ 64 := by
  unfold tchk at h
  split at h
  · omega
  · omega

/-! ### At -/
/-- The node with a number. -/
def nd (l : List Nd) (i : Nat) : Nd := l.getD i Nd.zero
def segGo (t : Int) : List Nd → Nat → Nat
  | [], k => k
  | n :: r, k => if n.t ≤ t then segGo t r (k + 1) else k
def tnode (a b : Nd) (t : Int) : Nd := ⟨t, (toward a.x a.y b.x b.y (w (t - a.t)) (w (b.t - a.t))).1.1, (toward a.x a.y b.x b.y (w (t - a.t)) (w (b.t - a.t))).1.2, tween a.h b.h (w (t - a.t)) (w (b.t - a.t)), tabove a.r b.r (w (t - a.t)) (w (b.t - a.t)), tabove a.b b.b (w (t - a.t)) (w (b.t - a.t))⟩
def tat (l : List Nd) (t : Int) : Nd × Int :=
  if t < (nd l 0).t ∨ (nd l (l.length - 1)).t < t then (Nd.zero, 12)
  else if (nd l (segGo t (l.drop 1) 0)).t = t then (nd l (segGo t (l.drop 1) 0), 0)
  else (tnode (nd l (segGo t (l.drop 1) 0)) (nd l (segGo t (l.drop 1) 0 + 1)) t, 0)

theorem at_run {H : List Ob} {V : AV} {l : List Nd} (hs : SlL H V Nd.c 6 l) (hc : tchk l = 0) (t : Int) : ecall E 66 [V, .int .i64 t] H = some (nout (tat l t), H, H.length, H.length) := by
  refine call_plain e66 rfl (Nat.le_of_ble_eq_true rfl) rfl ?_
  generalize hR : tat l t = R
  unfold tat at hR
  have hlen := hs.len
  have hget : ∀ i, i < l.length → l[i]? = some (nd l i) := fun i hi => by rw [nd, List.getD_eq_getElem?_getD, List.getElem?_eq_getElem hi]; rfl
  have hbig := tchk_len hc
  have hne := tchk_ne hc
  have hpos : 0 < l.length := List.length_pos_iff.2 hne
  have hwl : IntKind.i64.wrap ((l.length : Int) - 1) = ((l.length - 1 : Nat) : Int) := by rw [wrap64 (by omega) (by omega)]; omega
  have hok0 : idxOk 6 V (.int .i64 0) := hs.ok (by omega) (by omega)
  have hok1 : idxOk 6 V (.int .i64 ((l.length - 1 : Nat) : Int)) := hs.ok (by omega) (by omega)
  have hl0 : ∀ x, ld1A (H ++ x) (fadA (0 + 0) (idxV 6 V (.int .i64 0))) = _ := fun x => (hs.keep x).ldc (i := 0) (x := nd l 0) (by omega) (hget 0 hpos) (by decide)
  have hl1 : ∀ x, ld1A (H ++ x) (fadA (0 + 0) (idxV 6 V (.int .i64 ((l.length - 1 : Nat) : Int)))) = _ := fun x => (hs.keep x).ldc (x := nd l (l.length - 1)) (by omega) (by rw [Int.toNat_natCast]; exact hget (l.length - 1) (by omega)) (by decide)
  simp only [Nd.c, Nat.add_zero] at hl0 hl1
  by_cases c1 : t < (nd l 0).t ∨ (nd l (l.length - 1)).t < t
  · rw [if_pos c1] at hR
    subst hR
    have c1' : (decide (t < (nd l 0).t) || decide ((nd l (l.length - 1)).t < t)) = true := by simpa using c1
    simp (config := {maxSteps := 4000000}) only [c66, hlen, hwl, hok0, hok1, hl0, hl1, c1', isPtr_idx hok0, isPtr_idx hok1, SS, bne_self_eq_false, wr_def, obOf, List.all_cons, List.all_nil, List.map_cons, List.map_nil, List.length_cons, List.length_nil, List.take_zero, List.take_succ_cons, List.take_nil, List.drop_zero, List.drop_succ_cons, List.drop_nil, Nat.reduceAdd, Nat.reduceMul, Nat.reduceSub, if_true, Nat.reduceLT, Nat.reduceLeDiff, ite_true, ite_false, Nat.reduceEqDiff, if_false, reduceCtorEq, ne_eq, List.getD, List.getElem?_cons_zero, List.getElem?_cons_succ, Option.getD_some, Option.bind_some, Option.map_some, Option.isSome_some, reduceIte, List.length_append, List.append_assoc, List.cons_append, List.nil_append, Option.some.injEq, forall_const, implies_true, Int.reduceNeg, eq_self, Prod.mk.injEq, List.self_eq_append_right, List.append_nil, exists_eq_left, exists_eq_left', exists_and_left, exists_eq_right, exists_and_right]
    simp [nout, Nd.c, Nd.zero]
  rw [if_neg c1] at hR
  have c1' : (decide (t < (nd l 0).t) || decide ((nd l (l.length - 1)).t < t)) = false := by simpa using c1
  generalize hK : segGo t (l.drop 1) 0 = K at hR
  simp (config := {maxSteps := 4000000}) only [c66, hlen, hwl, hok0, hok1, hl0, hl1, c1', isPtr_idx hok0, isPtr_idx hok1, SS, bne_self_eq_false, wr_def, obOf, List.all_cons, List.all_nil, List.map_cons, List.map_nil, List.length_cons, List.length_nil, List.take_zero, List.take_succ_cons, List.take_nil, List.drop_zero, List.drop_succ_cons, List.drop_nil, Nat.reduceAdd, Nat.reduceMul, Nat.reduceSub, if_true, Nat.reduceLT, Nat.reduceLeDiff, ite_true, ite_false, Nat.reduceEqDiff, if_false, reduceCtorEq, ne_eq, List.getD, List.getElem?_cons_zero, List.getElem?_cons_succ, Option.getD_some, Option.bind_some, Option.map_some, Option.isSome_some, reduceIte, List.length_append, List.append_assoc, List.cons_append, List.nil_append, Option.some.injEq, forall_const, implies_true, Int.reduceNeg, eq_self, Prod.mk.injEq, List.self_eq_append_right, List.append_nil, exists_eq_left, exists_eq_left', exists_and_left, exists_eq_right, exists_and_right]
  refine W_loop (fun q f1 h1 => ∃ j : Nat, q = l.length - j ∧ j < l.length ∧ f1 0 = V ∧ f1 1 = .int .i64 t ∧ f1 4 = .ptr H.length 0 0 ∧ f1 6 = .int .i64 j ∧ SlL h1 V Nd.c 6 l ∧ (nd l j).t ≤ t ∧ segGo t (l.drop (j + 1)) j = K ∧ rdObj h1 H.length 0 = some ⟨Nd.zero.c, 0, 0, true, true⟩) (by simp) l.length ⟨0, rfl, hpos, rfl, rfl, rfl, rfl, hs.keep _, by omega, hK, rd_last (o := ⟨Nd.zero.c, 0, 0, true, true⟩)⟩ ?_
  rintro q f1 h1 hn1 _ ⟨j, rfl, hj, e0, e1, e4, e6, hs1, hjt, hgo, r4⟩
  have r4' : ∀ l, rdObj (h1 ++ l) H.length 0 = _ := fun l => rd_keep r4
  simp only [Nd.c, Nd.zero] at r4 r4'
  have hwj : IntKind.i64.wrap ((j : Int) + 1) = ((j + 1 : Nat) : Int) := by rw [wrap64 (by omega) (by omega)]; omega
  have hokj : idxOk 6 V (.int .i64 (j : Int)) := hs1.ok (by omega) (by omega)
  have hldj : ldnA 6 h1 (idxV 6 V (.int .i64 (j : Int))) = _ := hs1.ldn (x := nd l j) (by omega) (by rw [Int.toNat_natCast]; exact hget j hj)
  simp only [Nd.c] at hldj
  by_cases hj1 : j + 1 < l.length
  · have hlt : decide (((j + 1 : Nat) : Int) < (l.length : Int)) = true := by simp; omega
    have hok2 : idxOk 6 V (.int .i64 ((j + 1 : Nat) : Int)) := hs1.ok (by omega) (by omega)
    have hlc : ld1A h1 (fadA (0 + 0) (idxV 6 V (.int .i64 ((j + 1 : Nat) : Int)))) = _ := hs1.ldc (x := nd l (j + 1)) (by omega) (by rw [Int.toNat_natCast]; exact hget (j + 1) hj1) (by decide)
    have hld2 : ∀ x, ldnA 6 (h1 ++ x) (idxV 6 V (.int .i64 ((j + 1 : Nat) : Int))) = _ := fun x => (hs1.keep x).ldn (x := nd l (j + 1)) (by omega) (by rw [Int.toNat_natCast]; exact hget (j + 1) hj1)
    simp only [Nd.c, Nat.add_zero] at hlc hld2
    have hd : l.drop (j + 1) = nd l (j + 1) :: l.drop (j + 1 + 1) := by
      rw [List.drop_eq_getElem_cons hj1]; congr 1
      have := hget (j + 1) hj1
      rw [List.getElem?_eq_getElem hj1] at this; simpa using this
    rw [hd] at hgo
    simp only [segGo] at hgo
    simp (config := {maxSteps := 8000000}) only [e0, e1, e4, e6, r4, r4', hlen, hwj, hokj, hldj, hlt, hok2, hlc, hld2, isPtr_idx hok2, toward_pc, tween_pc, tabove_pc, pout, rd_put_same (r4' _), SS, bne_self_eq_false, wr_def, obOf, List.all_cons, List.all_nil, List.map_cons, List.map_nil, List.length_cons, List.length_nil, List.take_zero, List.take_succ_cons, List.take_nil, List.drop_zero, List.drop_succ_cons, List.drop_nil, Nat.reduceAdd, Nat.reduceMul, Nat.reduceSub, if_true, Nat.reduceLT, Nat.reduceLeDiff, ite_true, ite_false, Nat.reduceEqDiff, if_false, reduceCtorEq, ne_eq, List.getD, List.getElem?_cons_zero, List.getElem?_cons_succ, Option.getD_some, Option.bind_some, Option.map_some, Option.isSome_some, reduceIte, List.length_append, List.append_assoc, List.cons_append, List.nil_append, Option.some.injEq, forall_const, implies_true, Int.reduceNeg, eq_self, Prod.mk.injEq, List.self_eq_append_right, List.append_nil, exists_eq_left, exists_eq_left', exists_and_left, exists_eq_right, exists_and_right]
    refine ⟨fun k1 => ?_, fun k1 => ⟨hn1, fun k2 => ?_, fun k2 => ⟨by omega, by omega, by omega, by omega, by omega, by omega, ?_⟩⟩⟩
    · have k1' : (nd l (j + 1)).t ≤ t := by simpa using k1
      rw [if_pos k1'] at hgo
      exact ⟨_, by omega, j + 1, rfl, by omega, rfl, hs1, k1', hgo, rfl⟩
    · have k1' : ¬ (nd l (j + 1)).t ≤ t := by simpa using k1
      rw [if_neg k1'] at hgo
      subst hgo
      rw [if_pos (by simpa using k2)] at hR
      subst hR; rfl
    · have k1' : ¬ (nd l (j + 1)).t ≤ t := by simpa using k1
      rw [if_neg k1'] at hgo
      subst hgo
      rw [if_neg (by simpa using k2)] at hR
      subst hR; rfl
  · have hlt : decide (((j + 1 : Nat) : Int) < (l.length : Int)) = false := by simp; omega
    have hd : l.drop (j + 1) = [] := List.drop_eq_nil_of_le (by omega)
    rw [hd] at hgo
    simp only [segGo] at hgo
    subst hgo
    have hjl : j = l.length - 1 := by omega
    have hjt' : (nd l j).t = t := by subst hjl; omega
    have hjt2 : ((nd l j).t == t) = true := by simpa using hjt'
    rw [if_pos hjt'] at hR
    subst hR
    simp (config := {maxSteps := 8000000}) only [e0, e1, e4, e6, r4, r4', hlen, hwj, hokj, hldj, hlt, hjt2, rd_put_same (r4' _), SS, bne_self_eq_false, wr_def, obOf, List.all_cons, List.all_nil, List.map_cons, List.map_nil, List.length_cons, List.length_nil, List.take_zero, List.take_succ_cons, List.take_nil, List.drop_zero, List.drop_succ_cons, List.drop_nil, Nat.reduceAdd, Nat.reduceMul, Nat.reduceSub, if_true, Nat.reduceLT, Nat.reduceLeDiff, ite_true, ite_false, Nat.reduceEqDiff, if_false, reduceCtorEq, ne_eq, List.getD, List.getElem?_cons_zero, List.getElem?_cons_succ, Option.getD_some, Option.bind_some, Option.map_some, Option.isSome_some, reduceIte, List.length_append, List.append_assoc, List.cons_append, List.nil_append, Option.some.injEq, forall_const, implies_true, Int.reduceNeg, eq_self, Prod.mk.injEq, List.self_eq_append_right, List.append_nil, exists_eq_left, exists_eq_left', exists_and_left, exists_eq_right, exists_and_right]
    exact ⟨hn1, rfl⟩
end Go.Proofs.Ytaekgifbehoipaa.Fl
/- What the functions of the package pair answer. Conditions: the slices that are handed read as told. -/
namespace Go.Proofs.Ytaekgifbehoipaa.Fl
open Go Go.Proofs.Ytaekgifbehoipaa.Eva Go.Proofs.Ytaekgifbehoipaa.CodeAll
set_option linter.unusedVariables false
set_option linter.unusedSimpArgs false
set_option maxRecDepth 10000
set_option maxHeartbeats 4000000

/-- A track. -/
structure K where
  (id st t x y sx sy h ra r code hits mis : Int)
def K.c (k : K) : List AV := [.int .i64 k.id, .int .i64 k.st, .int .i64 k.t, .int .i64 k.x, .int .i64 k.y, .int .i64 k.sx, .int .i64 k.sy, .int .i64 k.h, .int .i64 k.ra, .int .i64 k.r, .int .i64 k.code, .int .i64 k.hits, .int .i64 k.mis]

def tAt (l : List Nd) (t : Int) : Nd × Int := if (tchk l != 0) = true then (Nd.zero, tchk l) else tat l t
theorem tAt_pc {H : List Ob} {V : AV} {l : List Nd} (hs : SlL H V Nd.c 6 l) (t : Int) : pcall E 30 [V, .int .i64 t] H = some (nout (tAt l t)) := by
  refine pcall_some.2 (call_plain e30 rfl (Nat.le_of_ble_eq_true rfl) rfl ?_)
  have h1 := fun x => tchk_pc (hs.keep x)
  generalize hv : nout (tAt l t) = v
  unfold tAt at hv
  by_cases c1 : (tchk l != 0) = true
  · rw [if_pos c1] at hv
    simp (config := {maxSteps := 4000000}) only [c30, h1, c1, SS, bne_self_eq_false, wr_def, obOf, List.all_cons, List.all_nil, List.map_cons, List.map_nil, List.length_cons, List.length_nil, List.take_zero, List.take_succ_cons, List.take_nil, List.drop_zero, List.drop_succ_cons, List.drop_nil, Nat.reduceAdd, Nat.reduceMul, Nat.reduceSub, if_true, Nat.reduceLT, Nat.reduceLeDiff, ite_true, ite_false, Nat.reduceEqDiff, if_false, reduceCtorEq, ne_eq, List.getD, List.getElem?_cons_zero, List.getElem?_cons_succ, Option.getD_some, Option.bind_some, Option.map_some, Option.isSome_some, reduceIte, List.length_append, List.append_assoc, List.cons_append, List.nil_append, Option.some.injEq, forall_const, implies_true, Int.reduceNeg, eq_self, Prod.mk.injEq, List.self_eq_append_right, List.append_nil, exists_eq_left, exists_eq_left', exists_and_left, exists_eq_right, exists_and_right]
    subst hv; rfl
  · rw [if_neg c1] at hv
    have c1' : (tchk l != 0) = false := by simpa using c1
    have c1'' : tchk l = 0 := by simpa using c1
    have h2 := fun x => pcall_some.2 (at_run (hs.keep x) c1'' t)
    generalize tat l t = R at h2 hv
    simp only [nout, Nd.c] at h2
    simp (config := {maxSteps := 4000000}) only [c30, h1, h2, c1', SS, bne_self_eq_false, wr_def, obOf, List.all_cons, List.all_nil, List.map_cons, List.map_nil, List.length_cons, List.length_nil, List.take_zero, List.take_succ_cons, List.take_nil, List.drop_zero, List.drop_succ_cons, List.drop_nil, Nat.reduceAdd, Nat.reduceMul, Nat.reduceSub, if_true, Nat.reduceLT, Nat.reduceLeDiff, ite_true, ite_false, Nat.reduceEqDiff, if_false, reduceCtorEq, ne_eq, List.getD, List.getElem?_cons_zero, List.getElem?_cons_succ, Option.getD_some, Option.bind_some, Option.map_some, Option.isSome_some, reduceIte, List.length_append, List.append_assoc, List.cons_append, List.nil_append, Option.some.injEq, forall_const, implies_true, Int.reduceNeg, eq_self, Prod.mk.injEq, List.self_eq_append_right, List.append_nil, exists_eq_left, exists_eq_left', exists_and_left, exists_eq_right, exists_and_right]
    subst hv; rfl

def K.chk (k : K) : Int := if (decide (k.t < 0) || decide (200000 < k.t) || decide (k.x < -1000000) || decide (1000000 < k.x) || decide (k.y < -1000000) || decide (1000000 < k.y) || decide (k.h < 0) || decide (60000 < k.h) || decide (k.r < 0) || decide (4000000 < k.r) || decide (k.code < -1) || decide (4095 < k.code)) then 4 else 0
theorem kchk_pc (id st t x y sx sy h ra r code hits mis : Int) (H : List Ob) : pcall E 63 [.agg [.int .i64 id, .int .i64 st, .int .i64 t, .int .i64 x, .int .i64 y, .int .i64 sx, .int .i64 sy, .int .i64 h, .int .i64 ra, .int .i64 r, .int .i64 code, .int .i64 hits, .int .i64 mis]] H = some (.int .i64 (K.chk ⟨id, st, t, x, y, sx, sy, h, ra, r, code, hits, mis⟩)) := by
  refine pcall_some.2 (call_plain e63 rfl (Nat.le_of_ble_eq_true rfl) rfl ?_)
  generalize hv : AV.int .i64 (K.chk ⟨id, st, t, x, y, sx, sy, h, ra, r, code, hits, mis⟩) = v
  simp (config := {maxSteps := 4000000}) only [c63, SS, bne_self_eq_false, wr_def, obOf, List.all_cons, List.all_nil, List.map_cons, List.map_nil, List.length_cons, List.length_nil, List.take_zero, List.take_succ_cons, List.take_nil, List.drop_zero, List.drop_succ_cons, List.drop_nil, Nat.reduceAdd, Nat.reduceMul, Nat.reduceSub, if_true, Nat.reduceLT, Nat.reduceLeDiff, ite_true, ite_false, Nat.reduceEqDiff, if_false, reduceCtorEq, ne_eq, List.getD, List.getElem?_cons_zero, List.getElem?_cons_succ, Option.getD_some, Option.bind_some, Option.map_some, Option.isSome_some, reduceIte, List.length_append, List.append_assoc, List.cons_append, List.nil_append, Option.some.injEq, forall_const, implies_true, Int.reduceNeg, eq_self, Prod.mk.injEq, List.self_eq_append_right, List.append_nil, exists_eq_left, exists_eq_left', exists_and_left, exists_eq_right, exists_and_right]
  simp only [join_ite]
  subst hv
  unfold K.chk
  simp only [apply_ite (AV.int .i64)]
def csq (ax ay bx «by» : Int) : Int := w (w (w (ax - bx) * w (ax - bx)) + w (w (ay - «by») * w (ay - «by»)))
theorem csq_pc (ax ay bx «by» : Int) (H : List Ob) : pcall E 64 [.agg [.int .i64 ax, .int .i64 ay], .agg [.int .i64 bx, .int .i64 «by»]] H = some (.int .i64 (csq ax ay bx «by»)) := by
  refine pcall_some.2 (call_plain e64 rfl (Nat.le_of_ble_eq_true rfl) rfl ?_)
  simp (config := {maxSteps := 4000000}) only [c64, csq, SS, bne_self_eq_false, wr_def, obOf, List.all_cons, List.all_nil, List.map_cons, List.map_nil, List.length_cons, List.length_nil, List.take_zero, List.take_succ_cons, List.take_nil, List.drop_zero, List.drop_succ_cons, List.drop_nil, Nat.reduceAdd, Nat.reduceMul, Nat.reduceSub, if_true, Nat.reduceLT, Nat.reduceLeDiff, ite_true, ite_false, Nat.reduceEqDiff, if_false, reduceCtorEq, ne_eq, List.getD, List.getElem?_cons_zero, List.getElem?_cons_succ, Option.getD_some, Option.bind_some, Option.map_some, Option.isSome_some, reduceIte, List.length_append, List.append_assoc, List.cons_append, List.nil_append, Option.some.injEq, forall_const, implies_true, Int.reduceNeg, eq_self, Prod.mk.injEq, List.self_eq_append_right, List.append_nil, exists_eq_left, exists_eq_left', exists_and_left, exists_eq_right, exists_and_right]
/-- What Fits answers: the values do not matter. -/
theorem fits_ex (k : K) (l : List Nd) : ∃ (b : Bool) (e : Int), (e ≠ 0 → b = false) ∧ (k.chk = 0 → tchk l = 0 → e = 0) ∧ (∀ {H : List Ob} {V : AV}, SlL H V Nd.c 6 l → pcall E 28 [.agg k.c, V] H = some (.tup [.bool b, .int .i64 e])) ∧
    (k.chk = 0 → tchk l = 0 → (tAt l k.t).2 = 0 → b = (decide (csq (tAt l k.t).1.x (tAt l k.t).1.y k.x k.y ≤ IntKind.i64.wrap (IntKind.i64.wrap ((tAt l k.t).1.r + k.r) * IntKind.i64.wrap ((tAt l k.t).1.r + k.r))) && decide (max (IntKind.i64.wrap ((tAt l k.t).1.h - k.h)) (IntKind.i64.wrap (k.h - (tAt l k.t).1.h)) ≤ IntKind.i64.wrap ((tAt l k.t).1.b + 100)))) := by
  obtain ⟨id, st, t, x, y, sx, sy, h, ra, r, code, hits, mis⟩ := k
  by_cases c1 : K.chk ⟨id, st, t, x, y, sx, sy, h, ra, r, code, hits, mis⟩ = 0
  rotate_left
  · have b1 : (K.chk ⟨id, st, t, x, y, sx, sy, h, ra, r, code, hits, mis⟩ != 0) = true := bne_iff_ne.2 c1
    refine ⟨false, K.chk ⟨id, st, t, x, y, sx, sy, h, ra, r, code, hits, mis⟩, fun _ => rfl, fun h => absurd h c1, fun hs => ?_, fun h => absurd h c1⟩
    have hk := fun H => kchk_pc id st t x y sx sy h ra r code hits mis H
    generalize K.chk ⟨id, st, t, x, y, sx, sy, h, ra, r, code, hits, mis⟩ = q at *
    refine pcall_some.2 (call_plain e28 rfl (Nat.le_of_ble_eq_true rfl) rfl ?_)
    simp (config := {maxSteps := 4000000}) only [K.c, c28, hk, b1, SS, bne_self_eq_false, wr_def, obOf, List.all_cons, List.all_nil, List.map_cons, List.map_nil, List.length_cons, List.length_nil, List.take_zero, List.take_succ_cons, List.take_nil, List.drop_zero, List.drop_succ_cons, List.drop_nil, Nat.reduceAdd, Nat.reduceMul, Nat.reduceSub, if_true, Nat.reduceLT, Nat.reduceLeDiff, ite_true, ite_false, Nat.reduceEqDiff, if_false, reduceCtorEq, ne_eq, List.getD, List.getElem?_cons_zero, List.getElem?_cons_succ, Option.getD_some, Option.bind_some, Option.map_some, Option.isSome_some, reduceIte, List.length_append, List.append_assoc, List.cons_append, List.nil_append, Option.some.injEq, forall_const, implies_true, Int.reduceNeg, eq_self, Prod.mk.injEq, List.self_eq_append_right, List.append_nil, exists_eq_left, exists_eq_left', exists_and_left, exists_eq_right, exists_and_right]
  have hk := fun H => kchk_pc id st t x y sx sy h ra r code hits mis H
  rw [c1] at hk
  have b1 : ((0 : Int) != 0) = false := rfl
  by_cases c2 : tchk l = 0
  rotate_left
  · have b2 : (tchk l != 0) = true := bne_iff_ne.2 c2
    refine ⟨false, tchk l, fun _ => rfl, fun _ h => absurd h c2, fun hs => ?_, fun _ h => absurd h c2⟩
    have ht := fun x => tchk_pc (hs.keep x)
    generalize tchk l = q at *
    refine pcall_some.2 (call_plain e28 rfl (Nat.le_of_ble_eq_true rfl) rfl ?_)
    simp (config := {maxSteps := 4000000}) only [K.c, c28, hk, ht, b1, b2, SS, bne_self_eq_false, wr_def, obOf, List.all_cons, List.all_nil, List.map_cons, List.map_nil, List.length_cons, List.length_nil, List.take_zero, List.take_succ_cons, List.take_nil, List.drop_zero, List.drop_succ_cons, List.drop_nil, Nat.reduceAdd, Nat.reduceMul, Nat.reduceSub, if_true, Nat.reduceLT, Nat.reduceLeDiff, ite_true, ite_false, Nat.reduceEqDiff, if_false, reduceCtorEq, ne_eq, List.getD, List.getElem?_cons_zero, List.getElem?_cons_succ, Option.getD_some, Option.bind_some, Option.map_some, Option.isSome_some, reduceIte, List.length_append, List.append_assoc, List.cons_append, List.nil_append, Option.some.injEq, forall_const, implies_true, Int.reduceNeg, eq_self, Prod.mk.injEq, List.self_eq_append_right, List.append_nil, exists_eq_left, exists_eq_left', exists_and_left, exists_eq_right, exists_and_right]
  obtain ⟨⟨n, e⟩, hn⟩ : ∃ R, tAt l t = R := ⟨_, rfl⟩
  by_cases c3 : e = 0
  rotate_left
  · have b3 : (e != 0) = true := bne_iff_ne.2 c3
    refine ⟨false, 0, fun _ => rfl, fun _ _ => rfl, fun hs => ?_, fun _ _ h => absurd (by rw [hn] at h; exact h) c3⟩
    have ht := fun x => tchk_pc (hs.keep x)
    have ha := fun x => tAt_pc (hs.keep x) t
    rw [c2] at ht
    rw [hn] at ha
    simp only [nout, Nd.c] at ha
    refine pcall_some.2 (call_plain e28 rfl (Nat.le_of_ble_eq_true rfl) rfl ?_)
    simp (config := {maxSteps := 4000000}) only [K.c, c28, hk, ht, ha, b1, b3, SS, bne_self_eq_false, wr_def, obOf, List.all_cons, List.all_nil, List.map_cons, List.map_nil, List.length_cons, List.length_nil, List.take_zero, List.take_succ_cons, List.take_nil, List.drop_zero, List.drop_succ_cons, List.drop_nil, Nat.reduceAdd, Nat.reduceMul, Nat.reduceSub, if_true, Nat.reduceLT, Nat.reduceLeDiff, ite_true, ite_false, Nat.reduceEqDiff, if_false, reduceCtorEq, ne_eq, List.getD, List.getElem?_cons_zero, List.getElem?_cons_succ, Option.getD_some, Option.bind_some, Option.map_some, Option.isSome_some, reduceIte, List.length_append, List.append_assoc, List.cons_append, List.nil_append, Option.some.injEq, forall_const, implies_true, Int.reduceNeg, eq_self, Prod.mk.injEq, List.self_eq_append_right, List.append_nil, exists_eq_left, exists_eq_left', exists_and_left, exists_eq_right, exists_and_right]
  subst c3
  obtain ⟨b4, h4⟩ : ∃ b, decide (csq n.x n.y x y ≤ IntKind.i64.wrap (IntKind.i64.wrap (n.r + r) * IntKind.i64.wrap (n.r + r))) = b := ⟨_, rfl⟩
  refine ⟨b4 && decide (max (IntKind.i64.wrap (n.h - h)) (IntKind.i64.wrap (h - n.h)) ≤ IntKind.i64.wrap (n.b + 100)), 0, fun h => absurd rfl h, fun _ _ => rfl, fun hs => ?_, fun _ _ _ => by rw [hn, ← h4]⟩
  have ht := fun x => tchk_pc (hs.keep x)
  have ha := fun x => tAt_pc (hs.keep x) t
  rw [c2] at ht
  rw [hn] at ha
  simp only [nout, Nd.c] at ha
  refine pcall_some.2 (call_plain e28 rfl (Nat.le_of_ble_eq_true rfl) rfl ?_)
  simp (config := {maxSteps := 4000000}) only [K.c, c28, hk, ht, ha, b1, csq_pc, h4, SS, bne_self_eq_false, wr_def, obOf, List.all_cons, List.all_nil, List.map_cons, List.map_nil, List.length_cons, List.length_nil, List.take_zero, List.take_succ_cons, List.take_nil, List.drop_zero, List.drop_succ_cons, List.drop_nil, Nat.reduceAdd, Nat.reduceMul, Nat.reduceSub, if_true, Nat.reduceLT, Nat.reduceLeDiff, ite_true, ite_false, Nat.reduceEqDiff, if_false, reduceCtorEq, ne_eq, List.getD, List.getElem?_cons_zero, List.getElem?_cons_succ, Option.getD_some, Option.bind_some, Option.map_some, Option.isSome_some, reduceIte, List.length_append, List.append_assoc, List.cons_append, List.nil_append, Option.some.injEq, forall_const, implies_true, Int.reduceNeg, eq_self, Prod.mk.injEq, List.self_eq_append_right, List.append_nil, exists_eq_left, exists_eq_left', exists_and_left, exists_eq_right, exists_and_right]
  cases b4
  · simp (config := {maxSteps := 4000000}) only [SS, bne_self_eq_false, wr_def, obOf, List.all_cons, List.all_nil, List.map_cons, List.map_nil, List.length_cons, List.length_nil, List.take_zero, List.take_succ_cons, List.take_nil, List.drop_zero, List.drop_succ_cons, List.drop_nil, Nat.reduceAdd, Nat.reduceMul, Nat.reduceSub, if_true, Nat.reduceLT, Nat.reduceLeDiff, ite_true, ite_false, Nat.reduceEqDiff, if_false, reduceCtorEq, ne_eq, List.getD, List.getElem?_cons_zero, List.getElem?_cons_succ, Option.getD_some, Option.bind_some, Option.map_some, Option.isSome_some, reduceIte, List.length_append, List.append_assoc, List.cons_append, List.nil_append, Option.some.injEq, forall_const, implies_true, Int.reduceNeg, eq_self, Prod.mk.injEq, List.self_eq_append_right, List.append_nil, exists_eq_left, exists_eq_left', exists_and_left, exists_eq_right, exists_and_right]
  · simp (config := {maxSteps := 4000000}) only [SS, bne_self_eq_false, wr_def, obOf, List.all_cons, List.all_nil, List.map_cons, List.map_nil, List.length_cons, List.length_nil, List.take_zero, List.take_succ_cons, List.take_nil, List.drop_zero, List.drop_succ_cons, List.drop_nil, Nat.reduceAdd, Nat.reduceMul, Nat.reduceSub, if_true, Nat.reduceLT, Nat.reduceLeDiff, ite_true, ite_false, Nat.reduceEqDiff, if_false, reduceCtorEq, ne_eq, List.getD, List.getElem?_cons_zero, List.getElem?_cons_succ, Option.getD_some, Option.bind_some, Option.map_some, Option.isSome_some, reduceIte, List.length_append, List.append_assoc, List.cons_append, List.nil_append, Option.some.injEq, forall_const, implies_true, Int.reduceNeg, eq_self, Prod.mk.injEq, List.self_eq_append_right, List.append_nil, exists_eq_left, exists_eq_left', exists_and_left, exists_eq_right, exists_and_right]
end Go.Proofs.Ytaekgifbehoipaa.Fl
/- Slices of slices that come in as arguments. Conditions stand in each lemma. -/
namespace Go.Proofs.Ytaekgifbehoipaa.Eva
open Go
set_option linter.unusedVariables false
set_option linter.unusedSimpArgs false

def avc (u : AV) : List AV := [u]
theorem flat_avc (vs : List AV) : flat avc vs = vs := by
  induction vs with
  | nil => rfl
  | cons x xs ih => simp only [flat, List.map_cons, List.flatten_cons] at ih ⊢; rw [ih]; rfl
/-- A slice of slices that is read. -/
structure NsS {α : Type} (c : α → List AV) (sz : Nat) (h : List Ob) (v : AV) (vs : List AV) (rows : List (List α)) : Prop where
  out : SlL h v avc 1 vs
  len : vs.length = rows.length
  inn : ∀ (i : Nat) u r, vs[i]? = some u → rows[i]? = some r → SlL h u c sz r ∧ FgL h u
theorem lay_rows {α : Type} {c : α → List AV} {P : α → Prop} {e : AT} {b : Nat} (hd : ∀ d, goodD e d → ∃ x, P x ∧ ∀ n, layD n e d = (c x, [])) (hsz : ∀ x, (c x).length = e.sz) (h0 : 0 < e.sz) (hsc : ∀ x, (c x).all AV.scalar = true) :
    ∀ l : List DV, (∀ d ∈ l, goodD (.sl e b) d) → ∃ rows : List (List α), rows.length = l.length ∧ (∀ r ∈ rows, (∀ x ∈ r, P x) ∧ r.length * b ≤ lim) ∧ ∀ n, ∃ vs o, layE (.sl e b) n l = (vs, o) ∧ vs.length = l.length ∧ ∀ h h' : List Ob, h.length = n → ∀ (i : Nat) u r, vs[i]? = some u → rows[i]? = some r → SlL (h ++ (o ++ h')) u c e.sz r ∧ FgL (h ++ (o ++ h')) u
  | [], _ => ⟨[], rfl, by simp, fun n => ⟨[], [], rfl, rfl, fun h h' _ i u r hu => by simp at hu⟩⟩
  | d :: l, hl => by
    obtain ⟨xs, p1, p2, p3⟩ := in_slf hd hsz h0 (hl d (by simp)) hsc
    obtain ⟨rows, q1, q2, q3⟩ := lay_rows hd hsz h0 hsc l (fun d hd => hl d (by simp [hd]))
    refine ⟨xs :: rows, by simp [q1], fun r hr => ?_, fun n => ?_⟩
    · rcases List.mem_cons.1 hr with rfl | hr
      · exact ⟨p1, p2⟩
      · exact q2 r hr
    · obtain ⟨v, o, e1, e2⟩ := p3 n
      obtain ⟨vs, o', e3, e4, e5⟩ := q3 (n + o.length)
      refine ⟨v :: vs, o ++ o', by simp only [layE, e1, e3, List.cons_append, List.nil_append], by simp [e4], fun h h' hn i u r hu hr => ?_⟩
      cases i with
      | zero =>
        simp only [List.getElem?_cons_zero, Option.some.injEq] at hu hr
        subst hu; subst hr
        have := e2 h (o' ++ h') hn
        rw [List.append_assoc]; exact this
      | succ i =>
        simp only [List.getElem?_cons_succ] at hu hr
        have := e5 (h ++ o) h' (by simp [hn]) i u r hu hr
        rw [List.append_assoc]
        rw [List.append_assoc] at this
        exact this
theorem in_sls {α : Type} {c : α → List AV} {P : α → Prop} {e : AT} {b B : Nat} (hd : ∀ d, goodD e d → ∃ x, P x ∧ ∀ n, layD n e d = (c x, [])) (hsz : ∀ x, (c x).length = e.sz) (h0 : 0 < e.sz) {d : DV} (h : goodD (.sl (.sl e b) B) d) (hsc : ∀ x, (c x).all AV.scalar = true := by intro x; rfl) :
    ∃ rows : List (List α), (∀ r ∈ rows, (∀ x ∈ r, P x) ∧ r.length * b ≤ lim) ∧ rows.length * B ≤ lim ∧ ∀ n, ∃ v o, layD n (.sl (.sl e b) B) d = ([v], o) ∧ ∀ h h' : List Ob, h.length = n → ∃ vs, NsS c e.sz (h ++ (o ++ h')) v vs rows := by
  obtain ⟨sh, l, rfl, h1, h2, h3, h4⟩ := good_sl h
  obtain ⟨rows, k1, k2, k3⟩ := lay_rows hd hsz h0 hsc l h4
  refine ⟨rows, k2, by rw [k1]; exact h3, fun n => ?_⟩
  by_cases s0 : sh = 0
  · have hl := h2 (by omega)
    subst hl
    have : rows = [] := List.length_eq_zero_iff.1 k1
    subst this
    exact ⟨.sl true 0 0 0 0 0, [], by simp only [layD, if_pos s0], fun h h' _ => ⟨[], ⟨fun _ => rfl, by decide, by simp [flat], Or.inl ⟨rfl, by simp⟩⟩, rfl, fun i u r hu => by simp at hu⟩⟩
  · by_cases s1 : sh = 1
    · have hl := h2 (by omega)
      subst hl
      have : rows = [] := List.length_eq_zero_iff.1 k1
      subst this
      exact ⟨.s0 false, [], by simp only [layD, if_neg s0, if_pos s1], fun h h' _ => ⟨[], ⟨fun _ => rfl, by decide, by simp [flat], Or.inl ⟨rfl, by simp⟩⟩, rfl, fun i u r hu => by simp at hu⟩⟩
    · obtain ⟨vs, o, e1, e2, e3⟩ := k3 n
      refine ⟨.sl false (n + o.length) 0 1 0 l.length, o ++ [⟨vs, 0, 1, false, vs.all AV.scalar⟩], by simp only [layD, if_neg s0, if_neg s1, e1]; rfl, fun h h' hn => ⟨vs, ⟨fun _ => rfl, by decide, by rw [flat_avc]; simp, Or.inr ⟨n + o.length, 0, 0, ⟨vs, 0, 1, false, vs.all AV.scalar⟩, by rw [e2], ?_, ?_, ?_⟩⟩, by rw [e2, k1], fun i u r hu hr => ?_⟩⟩
      · subst hn; unfold rdObj
        have : (h ++ (o ++ [(⟨vs, 0, 1, false, vs.all AV.scalar⟩ : Ob)] ++ h'))[h.length + o.length]? = some ⟨vs, 0, 1, false, vs.all AV.scalar⟩ := by
          rw [List.getElem?_append_right (by omega), Nat.add_sub_cancel_left, List.append_assoc, List.getElem?_append_right (Nat.le_refl _), Nat.sub_self]
          rfl
        rw [this]; rfl
      · simp
      · rw [flat_avc]; simp
      · have := e3 h ([⟨vs, 0, 1, false, vs.all AV.scalar⟩] ++ h') hn i u r hu hr
        rw [List.append_assoc]; exact this
end Go.Proofs.Ytaekgifbehoipaa.Eva
/- Slices of whole numbers. Conditions: none. -/
namespace Go.Proofs.Ytaekgifbehoipaa.Fl
open Go Go.Proofs.Ytaekgifbehoipaa.Eva
def intC (x : Int) : List AV := [.int .i64 x]
theorem dv_i (d : DV) (h : goodD (.int .i64) d) : ∃ x : Int, True ∧ ∀ n, layD n (.int .i64) d = (intC x, []) := by
  obtain ⟨n1, rfl, lo1, hi1⟩ := good_i64 h
  exact ⟨n1, trivial, fun n => rfl⟩
end Go.Proofs.Ytaekgifbehoipaa.Fl
/- Check of the package pair. Conditions: the slices that are handed read as told. -/
namespace Go.Proofs.Ytaekgifbehoipaa.Fl
open Go Go.Proofs.Ytaekgifbehoipaa.Eva Go.Proofs.Ytaekgifbehoipaa.CodeAll
set_option linter.unusedVariables false
set_option linter.unusedSimpArgs false
set_option maxRecDepth 10000
set_option maxHeartbeats 4000000

theorem NsS.keep {α : Type} {c : α → List AV} {sz : Nat} {h : List Ob} {v : AV} {vs : List AV} {rows : List (List α)} (A : NsS c sz h v vs rows) (o : List Ob) : NsS c sz (h ++ o) v vs rows :=
  ⟨A.out.keep o, A.len, fun i u r h1 h2 => ⟨(A.inn i u r h1 h2).1.keep o, (A.inn i u r h1 h2).2.keep (A.inn i u r h1 h2).1 o⟩⟩
theorem NsS.row {α : Type} {c : α → List AV} {sz : Nat} {h : List Ob} {v : AV} {vs : List AV} {rows : List (List α)} (A : NsS c sz h v vs rows) {i : Nat} (hi : i < rows.length) : ∃ u r, rows[i]? = some r ∧ vs[i]? = some u ∧ SlL h u c sz r ∧ (∀ o, ld1A (h ++ o) (idxV 1 v (.int .i64 (i : Int))) = some u) ∧ idxOk 1 v (.int .i64 (i : Int)) := by
  obtain ⟨r, hr⟩ : ∃ r, rows[i]? = some r := ⟨_, List.getElem?_eq_getElem hi⟩
  obtain ⟨u, hu⟩ : ∃ u, vs[i]? = some u := ⟨_, List.getElem?_eq_getElem (by rw [A.len]; exact hi)⟩
  refine ⟨u, r, hr, hu, (A.inn i u r hu hr).1, fun o => ?_, A.out.ok (by omega) (by rw [A.len]; omega)⟩
  rw [(A.out.keep o).ld0 (x := u) (by omega) (by simpa using hu)]
  rfl
def cgo : List (List Nd) → List Int → Int
  | l :: ls, c :: cs => if (tchk l != 0) = true then tchk l else if (decide (c < 0) || decide (4095 < c)) = true then 4 else cgo ls cs
  | _, _ => 0
def prchk (ls : List (List Nd)) (cs : List Int) : Int := if 24 < ls.length then 2 else if cs.length ≠ ls.length then 3 else cgo ls cs
theorem prchk_pc {H : List Ob} {V W : AV} {vs : List AV} {ls : List (List Nd)} {cs : List Int} (A : NsS Nd.c 6 H V vs ls) (hs : SlL H W intC 1 cs) (hb1 : ls.length < 1125899906842624) (hb2 : cs.length < 1125899906842624) :
    pcall E 65 [V, W] H = some (.int .i64 (prchk ls cs)) := by
  refine pcall_some.2 (call_plain e65 rfl (Nat.le_of_ble_eq_true rfl) rfl ?_)
  have hl1 := A.out.len
  rw [A.len] at hl1
  have hl2 := hs.len
  by_cases c1 : 24 < ls.length
  · have b1 : decide ((24 : Int) < (ls.length : Int)) = true := decide_eq_true (by omega)
    simp (config := {maxSteps := 4000000}) only [c65, prchk, if_pos c1, hl1, b1, SS, bne_self_eq_false, wr_def, obOf, List.all_cons, List.all_nil, List.map_cons, List.map_nil, List.length_cons, List.length_nil, List.take_zero, List.take_succ_cons, List.take_nil, List.drop_zero, List.drop_succ_cons, List.drop_nil, Nat.reduceAdd, Nat.reduceMul, Nat.reduceSub, if_true, Nat.reduceLT, Nat.reduceLeDiff, ite_true, ite_false, Nat.reduceEqDiff, if_false, reduceCtorEq, ne_eq, List.getD, List.getElem?_cons_zero, List.getElem?_cons_succ, Option.getD_some, Option.bind_some, Option.map_some, Option.isSome_some, reduceIte, List.length_append, List.append_assoc, List.cons_append, List.nil_append, Option.some.injEq, forall_const, implies_true, Int.reduceNeg, eq_self, Prod.mk.injEq, List.self_eq_append_right, List.append_nil, exists_eq_left, exists_eq_left', exists_and_left, exists_eq_right, exists_and_right]
  have b1 : decide ((24 : Int) < (ls.length : Int)) = false := decide_eq_false (by omega)
  by_cases c2 : cs.length = ls.length
  rotate_left
  · have b2 : ((cs.length : Int) != (ls.length : Int)) = true := bne_iff_ne.2 (by omega)
    simp (config := {maxSteps := 4000000}) only [c65, prchk, if_neg c1, if_pos c2, hl1, hl2, b1, b2, SS, bne_self_eq_false, wr_def, obOf, List.all_cons, List.all_nil, List.map_cons, List.map_nil, List.length_cons, List.length_nil, List.take_zero, List.take_succ_cons, List.take_nil, List.drop_zero, List.drop_succ_cons, List.drop_nil, Nat.reduceAdd, Nat.reduceMul, Nat.reduceSub, if_true, Nat.reduceLT, Nat.reduceLeDiff, ite_true, ite_false, Nat.reduceEqDiff, if_false, reduceCtorEq, ne_eq, List.getD, List.getElem?_cons_zero, List.getElem?_cons_succ, Option.getD_some, Option.bind_some, Option.map_some, Option.isSome_some, reduceIte, List.length_append, List.append_assoc, List.cons_append, List.nil_append, Option.some.injEq, forall_const, implies_true, Int.reduceNeg, eq_self, Prod.mk.injEq, List.self_eq_append_right, List.append_nil, exists_eq_left, exists_eq_left', exists_and_left, exists_eq_right, exists_and_right]
  have b2 : ((cs.length : Int) != (ls.length : Int)) = false := by rw [c2]; simp
  have hR : prchk ls cs = cgo ls cs := by rw [prchk, if_neg c1, if_neg (fun h => h c2)]
  rw [hR]
  generalize hR : cgo ls cs = R
  simp (config := {maxSteps := 4000000}) only [c65, hl1, hl2, b1, b2, SS, bne_self_eq_false, wr_def, obOf, List.all_cons, List.all_nil, List.map_cons, List.map_nil, List.length_cons, List.length_nil, List.take_zero, List.take_succ_cons, List.take_nil, List.drop_zero, List.drop_succ_cons, List.drop_nil, Nat.reduceAdd, Nat.reduceMul, Nat.reduceSub, if_true, Nat.reduceLT, Nat.reduceLeDiff, ite_true, ite_false, Nat.reduceEqDiff, if_false, reduceCtorEq, ne_eq, List.getD, List.getElem?_cons_zero, List.getElem?_cons_succ, Option.getD_some, Option.bind_some, Option.map_some, Option.isSome_some, reduceIte, List.length_append, List.append_assoc, List.cons_append, List.nil_append, Option.some.injEq, forall_const, implies_true, Int.reduceNeg, eq_self, Prod.mk.injEq, List.self_eq_append_right, List.append_nil, exists_eq_left, exists_eq_left', exists_and_left, exists_eq_right, exists_and_right]
  refine W_loop (fun q f1 h1 => ∃ j : Nat, q = ls.length - j ∧ j ≤ ls.length ∧ f1 1 = W ∧ f1 16 = V ∧ f1 17 = .int .i64 ls.length ∧ f1 18 = .int .i64 j ∧ cgo (ls.drop j) (cs.drop j) = R) (Nat.le_refl _) ls.length ⟨0, rfl, Nat.zero_le _, rfl, rfl, rfl, rfl, hR⟩ ?_
  rintro q f1 h1 hn1 ht ⟨j, rfl, hj, e1, e16, e17, e18, hgo⟩
  rw [List.take_length] at ht
  have hH := take_eq ht
  generalize h1.drop H.length = z at hH
  subst hH
  by_cases hjl : j < ls.length
  · have hjl' : decide ((j : Int) < (ls.length : Int)) = true := by simpa using hjl
    have hwj : IntKind.i64.wrap ((j : Int) + 1) = ((j + 1 : Nat) : Int) := by rw [wrap64 (by omega) (by omega)]; omega
    obtain ⟨u, l, hl, hu, hsl, hld, hok⟩ := NsS.row A hjl
    obtain ⟨c, hc⟩ : ∃ c, cs[j]? = some c := ⟨_, List.getElem?_eq_getElem (by omega)⟩
    have hok2 : idxOk 1 W (.int .i64 (j : Int)) := hs.ok (by omega) (by omega)
    have hld2 : ld1A (H ++ z) (idxV 1 W (.int .i64 (j : Int))) = some (.int .i64 c) := by rw [(hs.keep z).ld0 (x := c) (by omega) (by simpa using hc)]; rfl
    have hld1 := hld z
    have htc := tchk_pc (hsl.keep z)
    have hd1 : ls.drop j = l :: ls.drop (j + 1) := by
      have := (List.getElem?_eq_some_iff.1 hl).2
      rw [← this]; exact List.drop_eq_getElem_cons hjl
    have hd2 : cs.drop j = c :: cs.drop (j + 1) := by
      have := (List.getElem?_eq_some_iff.1 hc).2
      rw [← this]; exact List.drop_eq_getElem_cons (by omega)
    rw [hd1, hd2, cgo] at hgo
    by_cases c3 : (tchk l != 0) = true
    · rw [if_pos c3] at hgo
      simp (config := {maxSteps := 4000000}) only [c65, e1, e16, e17, e18, hjl', hwj, hok, hok2, isPtr_idx hok, isPtr_idx hok2, hld1, hld2, htc, c3, SS, bne_self_eq_false, wr_def, obOf, List.all_cons, List.all_nil, List.map_cons, List.map_nil, List.length_cons, List.length_nil, List.take_zero, List.take_succ_cons, List.take_nil, List.drop_zero, List.drop_succ_cons, List.drop_nil, Nat.reduceAdd, Nat.reduceMul, Nat.reduceSub, if_true, Nat.reduceLT, Nat.reduceLeDiff, ite_true, ite_false, Nat.reduceEqDiff, if_false, reduceCtorEq, ne_eq, List.getD, List.getElem?_cons_zero, List.getElem?_cons_succ, Option.getD_some, Option.bind_some, Option.map_some, Option.isSome_some, reduceIte, List.length_append, List.append_assoc, List.cons_append, List.nil_append, Option.some.injEq, forall_const, implies_true, Int.reduceNeg, eq_self, Prod.mk.injEq, List.self_eq_append_right, List.append_nil, exists_eq_left, exists_eq_left', exists_and_left, exists_eq_right, exists_and_right]
      rw [hgo]
    rw [if_neg c3] at hgo
    have c3' : (tchk l != 0) = false := by simpa using c3
    by_cases c4 : c < 0
    · have b4 : decide (c < 0) = true := decide_eq_true c4
      rw [b4, Bool.true_or, if_pos rfl] at hgo
      simp (config := {maxSteps := 4000000}) only [c65, e1, e16, e17, e18, hjl', hwj, hok, hok2, isPtr_idx hok, isPtr_idx hok2, hld1, hld2, htc, c3', b4, SS, bne_self_eq_false, wr_def, obOf, List.all_cons, List.all_nil, List.map_cons, List.map_nil, List.length_cons, List.length_nil, List.take_zero, List.take_succ_cons, List.take_nil, List.drop_zero, List.drop_succ_cons, List.drop_nil, Nat.reduceAdd, Nat.reduceMul, Nat.reduceSub, if_true, Nat.reduceLT, Nat.reduceLeDiff, ite_true, ite_false, Nat.reduceEqDiff, if_false, reduceCtorEq, ne_eq, List.getD, List.getElem?_cons_zero, List.getElem?_cons_succ, Option.getD_some, Option.bind_some, Option.map_some, Option.isSome_some, reduceIte, List.length_append, List.append_assoc, List.cons_append, List.nil_append, Option.some.injEq, forall_const, implies_true, Int.reduceNeg, eq_self, Prod.mk.injEq, List.self_eq_append_right, List.append_nil, exists_eq_left, exists_eq_left', exists_and_left, exists_eq_right, exists_and_right]
      rw [hgo]
    have b4 : decide (c < 0) = false := decide_eq_false c4
    by_cases c5 : 4095 < c
    · have b5 : decide (4095 < c) = true := decide_eq_true c5
      rw [b5, Bool.or_true, if_pos rfl] at hgo
      simp (config := {maxSteps := 4000000}) only [c65, e1, e16, e17, e18, hjl', hwj, hok, hok2, isPtr_idx hok, isPtr_idx hok2, hld1, hld2, htc, c3', b4, b5, SS, bne_self_eq_false, wr_def, obOf, List.all_cons, List.all_nil, List.map_cons, List.map_nil, List.length_cons, List.length_nil, List.take_zero, List.take_succ_cons, List.take_nil, List.drop_zero, List.drop_succ_cons, List.drop_nil, Nat.reduceAdd, Nat.reduceMul, Nat.reduceSub, if_true, Nat.reduceLT, Nat.reduceLeDiff, ite_true, ite_false, Nat.reduceEqDiff, if_false, reduceCtorEq, ne_eq, List.getD, List.getElem?_cons_zero, List.getElem?_cons_succ, Option.getD_some, Option.bind_some, Option.map_some, Option.isSome_some, reduceIte, List.length_append, List.append_assoc, List.cons_append, List.nil_append, Option.some.injEq, forall_const, implies_true, Int.reduceNeg, eq_self, Prod.mk.injEq, List.self_eq_append_right, List.append_nil, exists_eq_left, exists_eq_left', exists_and_left, exists_eq_right, exists_and_right]
      rw [hgo]
    have b5 : decide (4095 < c) = false := decide_eq_false c5
    rw [b4, b5, Bool.or_false, if_neg (by decide)] at hgo
    simp (config := {maxSteps := 4000000}) only [c65, e1, e16, e17, e18, hjl', hwj, hok, hok2, isPtr_idx hok, isPtr_idx hok2, hld1, hld2, htc, c3', b4, b5, SS, bne_self_eq_false, wr_def, obOf, List.all_cons, List.all_nil, List.map_cons, List.map_nil, List.length_cons, List.length_nil, List.take_zero, List.take_succ_cons, List.take_nil, List.drop_zero, List.drop_succ_cons, List.drop_nil, Nat.reduceAdd, Nat.reduceMul, Nat.reduceSub, if_true, Nat.reduceLT, Nat.reduceLeDiff, ite_true, ite_false, Nat.reduceEqDiff, if_false, reduceCtorEq, ne_eq, List.getD, List.getElem?_cons_zero, List.getElem?_cons_succ, Option.getD_some, Option.bind_some, Option.map_some, Option.isSome_some, reduceIte, List.length_append, List.append_assoc, List.cons_append, List.nil_append, Option.some.injEq, forall_const, implies_true, Int.reduceNeg, eq_self, Prod.mk.injEq, List.self_eq_append_right, List.append_nil, exists_eq_left, exists_eq_left', exists_and_left, exists_eq_right, exists_and_right]
    exact ⟨_, by omega, j + 1, rfl, by omega, rfl, hgo⟩
  · have hjl' : decide ((j : Int) < (ls.length : Int)) = false := by simpa using hjl
    have hd1 : ls.drop j = [] := List.drop_eq_nil_of_le (by omega)
    rw [hd1] at hgo
    simp only [cgo] at hgo
    simp (config := {maxSteps := 8000000}) only [c65, e1, e16, e17, e18, hjl', SS, bne_self_eq_false, wr_def, obOf, List.all_cons, List.all_nil, List.map_cons, List.map_nil, List.length_cons, List.length_nil, List.take_zero, List.take_succ_cons, List.take_nil, List.drop_zero, List.drop_succ_cons, List.drop_nil, Nat.reduceAdd, Nat.reduceMul, Nat.reduceSub, if_true, Nat.reduceLT, Nat.reduceLeDiff, ite_true, ite_false, Nat.reduceEqDiff, if_false, reduceCtorEq, ne_eq, List.getD, List.getElem?_cons_zero, List.getElem?_cons_succ, Option.getD_some, Option.bind_some, Option.map_some, Option.isSome_some, reduceIte, List.length_append, List.append_assoc, List.cons_append, List.nil_append, Option.some.injEq, forall_const, implies_true, Int.reduceNeg, eq_self, Prod.mk.injEq, List.self_eq_append_right, List.append_nil, exists_eq_left, exists_eq_left', exists_and_left, exists_eq_right, exists_and_right]
    rw [← hgo]
end Go.Proofs.Ytaekgifbehoipaa.Fl
/- Assignments of least sum: the plain facts of shortest alternating ways with potentials. Conditions stand in each lemma. -/
namespace Go.Proofs.Ytaekgifbehoipaa.Hg
set_option linter.unusedVariables false
set_option linter.unusedSimpArgs false

/-- The sum below n. -/
def sumN : Nat → (Nat → Int) → Int
  | 0, _ => 0
  | n + 1, f => sumN n f + f n
theorem sumN_congr {f g : Nat → Int} : ∀ {n : Nat}, (∀ i, i < n → f i = g i) → sumN n f = sumN n g
  | 0, _ => rfl
  | n + 1, h => by simp only [sumN]; rw [sumN_congr (fun i hi => h i (by omega)), h n (by omega)]
theorem sumN_le {f g : Nat → Int} : ∀ {n : Nat}, (∀ i, i < n → f i ≤ g i) → sumN n f ≤ sumN n g
  | 0, _ => Int.le_refl _
  | n + 1, h => by
    simp only [sumN]
    have := sumN_le (n := n) (fun i hi => h i (by omega)); have := h n (by omega); omega
theorem sumN_add {f g : Nat → Int} : ∀ {n : Nat}, sumN n (fun i => f i + g i) = sumN n f + sumN n g
  | 0 => rfl
  | n + 1 => by simp only [sumN]; rw [sumN_add]; omega
theorem sumN_zero : ∀ {n : Nat}, sumN n (fun _ => 0) = 0
  | 0 => rfl
  | n + 1 => by simp only [sumN]; rw [sumN_zero]; rfl
theorem sumN_const {c : Int} : ∀ {n : Nat}, sumN n (fun _ => c) = n * c
  | 0 => by simp [sumN]
  | n + 1 => by simp only [sumN]; rw [sumN_const]; rw [Int.natCast_add, Int.add_mul]; simp
theorem sumN_single {a : Nat} {f : Nat → Int} : ∀ {n : Nat}, a < n → sumN n (fun k => if k = a then f k else 0) = f a
  | 0, h => by omega
  | n + 1, h => by
    simp only [sumN]
    by_cases ha : a < n
    · rw [sumN_single ha, if_neg (by omega)]; omega
    · have : a = n := by omega
      subst this
      rw [if_pos rfl, sumN_congr (g := fun _ => 0) (fun i hi => if_neg (by omega)), sumN_zero]; omega

/-- Different numbers below C for the numbers below R. -/
structure Inj (R C : Nat) (σ : Nat → Nat) : Prop where
  lt : ∀ i, i < R → σ i < C
  inj : ∀ i j, i < R → j < R → σ i = σ j → i = j
open Classical in
theorem reindex {C : Nat} {σ : Nat → Nat} (g : Nat → Int) : ∀ {R : Nat}, Inj R C σ → sumN R (fun i => g (σ i)) = sumN C (fun k => if ∃ i, i < R ∧ σ i = k then g k else 0)
  | 0, _ => by
    rw [sumN_congr (g := fun _ => 0) (fun k hk => if_neg (by rintro ⟨i, hi, _⟩; omega)), sumN_zero]; rfl
  | R + 1, hI => by
    have hI' : Inj R C σ := ⟨fun i hi => hI.lt i (by omega), fun i j hi hj => hI.inj i j (by omega) (by omega)⟩
    simp only [sumN]
    rw [reindex g hI', ← sumN_single (f := g) (hI.lt R (by omega)), ← sumN_add]
    apply sumN_congr
    intro k hk
    by_cases h1 : ∃ i, i < R ∧ σ i = k
    · rw [if_pos h1]
      obtain ⟨i, hi, he⟩ := h1
      rw [if_pos (show ∃ i, i < R + 1 ∧ σ i = k from ⟨i, by omega, he⟩), if_neg, Int.add_zero]
      intro e
      have := hI.inj i R (by omega) (by omega) (he.trans e); omega
    · rw [if_neg h1]
      by_cases h2 : k = σ R
      · rw [if_pos h2, if_pos ⟨R, by omega, h2.symm⟩, Int.zero_add]
      · rw [if_neg h2, if_neg, Int.add_zero]
        rintro ⟨i, hi, he⟩
        by_cases h3 : i = R
        · subst h3; exact h2 he.symm
        · exact h1 ⟨i, by omega, he⟩
theorem pigeon {R C : Nat} {σ : Nat → Nat} (hI : Inj R C σ) : R ≤ C := by
  have h1 := reindex (fun _ => 1) hI
  have h2 : sumN R (fun _ => (1 : Int)) = R := by rw [sumN_const]; omega
  have h3 : sumN C (fun _ => (1 : Int)) = C := by rw [sumN_const]; omega
  have h4 := sumN_le (n := C) (f := fun k => if ∃ i, i < R ∧ σ i = k then (1 : Int) else 0) (g := fun _ => 1) (fun k _ => by
    split <;> omega)
  omega

theorem or_lt {m k : Nat} {p : Prop} (h : m + 1 ≤ k ∨ p) : m ≤ k ∨ p := h.imp_left (by omega)
def upd {α : Type} (f : Nat → α) (i : Nat) (x : α) : Nat → α := fun k => if k = i then x else f k
theorem upd_same {α : Type} {f : Nat → α} {i : Nat} {x : α} : upd f i x i = x := if_pos rfl
theorem upd_ne {α : Type} {f : Nat → α} {i k : Nat} {x : α} (h : k ≠ i) : upd f i x k = f k := if_neg h

/-- What is left of a cost. -/
def sl (M : Nat → Nat → Int) (u v : Nat → Int) (i k : Nat) : Int := M (i - 1) (k - 1) - u i - v k

/-- After r rows. -/
structure Base (M : Nat → Nat → Int) (C r : Nat) (u v : Nat → Int) (fo : Nat → Nat) : Prop where
  tight : ∀ k, 1 ≤ k → k ≤ C → fo k ≠ 0 → sl M u v (fo k) k = 0
  pos : ∀ i k, 1 ≤ i → i ≤ r → 1 ≤ k → k ≤ C → 0 ≤ sl M u v i k
  vneg : ∀ k, 1 ≤ k → k ≤ C → v k ≤ 0
  vfree : ∀ k, 1 ≤ k → k ≤ C → fo k = 0 → v k = 0
  ofr : ∀ k, 1 ≤ k → k ≤ C → fo k ≤ r
  inj : ∀ j k, 1 ≤ j → j ≤ C → 1 ≤ k → k ≤ C → fo j = fo k → fo j ≠ 0 → j = k
  sur : ∀ i, 1 ≤ i → i ≤ r → ∃ k, 1 ≤ k ∧ k ≤ C ∧ fo k = i
  upos : ∀ i, 0 ≤ u i
  u0 : u 0 = 0
  uzero : ∀ i, r < i → u i = 0
  uN : ∀ i, u i ≤ 1125899906842624
  v0 : -(r * 1125899906842624) ≤ v 0 ∧ v 0 ≤ 0

/-- The way back to 0. -/
inductive Tr (way : Nat → Nat) : List Nat → Prop
  | nil : Tr way [0]
  | cons {k : Nat} {l : List Nat} : k ≠ 0 → k ∉ l → way k ∈ l → Tr way l → Tr way (k :: l)

structure Ph (M : Nat → Nat → Int) (C r : Nat) (u v : Nat → Int) (fo : Nat → Nat) (least : Nat → Int) (way : Nat → Nat) (done : Nat → Bool) (a : Nat) (l : List Nat) : Prop where
  tight : ∀ k, 1 ≤ k → k ≤ C → fo k ≠ 0 → sl M u v (fo k) k = 0
  pos : ∀ i k, 1 ≤ i → i ≤ r + 1 → 1 ≤ k → k ≤ C → 0 ≤ sl M u v i k
  vneg : ∀ k, 1 ≤ k → k ≤ C → v k ≤ 0
  vfree : ∀ k, 1 ≤ k → k ≤ C → fo k = 0 → v k = 0
  ofr : ∀ k, 1 ≤ k → k ≤ C → fo k ≤ r
  inj : ∀ j k, 1 ≤ j → j ≤ C → 1 ≤ k → k ≤ C → fo j = fo k → fo j ≠ 0 → j = k
  sur : ∀ i, 1 ≤ i → i ≤ r → ∃ k, 1 ≤ k ∧ k ≤ C ∧ fo k = i
  upos : ∀ i, 0 ≤ u i
  u0 : u 0 = 0
  uzero : ∀ i, r + 1 < i → u i = 0
  v0 : -(r * 1125899906842624) ≤ v 0 + u (r + 1) ∧ v 0 ≤ 0
  of0 : fo 0 = r + 1
  trl : Tr way (a :: l)
  dn : ∀ k, done k = true ↔ k ∈ l
  inC : ∀ k, k ∈ a :: l → k ≤ C
  occ : ∀ k, k ∈ l → fo k ≠ 0
  tw : ∀ k, k ∈ a :: l → k ≠ 0 → sl M u v (fo (way k)) k = 0
  lst0 : l = [] → ∀ k, 1 ≤ k → k ≤ C → least k = 4503599627370496
  lst1 : l ≠ [] → ∀ k, 1 ≤ k → k ≤ C → k ∉ l → least k = sl M u v (fo (way k)) k ∧ way k ∈ l ∧ ∀ j, j ∈ l → least k ≤ sl M u v (fo j) k

theorem Tr.zero {way : Nat → Nat} {l : List Nat} (t : Tr way l) : 0 ∈ l := by
  induction t with
  | nil => simp
  | cons _ _ _ _ ih => exact List.mem_cons_of_mem _ ih
theorem Tr.suffix {way : Nat → Nat} : ∀ {l : List Nat} {j : Nat}, Tr way l → j ∈ l → ∃ b, Tr way (j :: b) ∧ b.length < l.length ∧ ∀ k, k ∈ j :: b → k ∈ l
  | [], j, t, h => by cases h
  | k :: l, j, t, h => by
    by_cases hj : j = k
    · subst hj; exact ⟨l, t, by simp, fun _ h => h⟩
    · have hm : j ∈ l := by simpa [hj] using h
      cases t with
      | nil => simp at hm
      | cons h1 h2 h3 h4 =>
        obtain ⟨b, k1, k2, k3⟩ := Tr.suffix h4 hm
        exact ⟨b, k1, by simp; omega, fun k hk => List.mem_cons_of_mem _ (k3 k hk)⟩
theorem Tr.congr {way way' : Nat → Nat} {l : List Nat} (t : Tr way l) (h : ∀ k, k ∈ l → k ≠ 0 → way' k = way k) : Tr way' l := by
  induction t with
  | nil => exact .nil
  | @cons k l h1 h2 h3 h4 ih => exact .cons h1 h2 (by rw [h k (by simp) h1]; exact h3) (ih fun j hj => h j (List.mem_cons_of_mem _ hj))
theorem Tr.head_not {way : Nat → Nat} {k : Nat} {l : List Nat} (t : Tr way (k :: l)) : k ∉ l := by
  cases t with
  | nil => simp
  | cons _ h _ _ => exact h
theorem Tr.head_way {way : Nat → Nat} {k : Nat} {l : List Nat} (t : Tr way (k :: l)) (hk : k ≠ 0) : way k ∈ l := by
  cases t with
  | nil => exact absurd rfl hk
  | cons _ _ h _ => exact h
theorem Tr.head_zero {way : Nat → Nat} {l : List Nat} (t : Tr way (0 :: l)) : l = [] := by
  cases t with
  | nil => rfl
  | cons h => exact absurd rfl h

section
variable {M : Nat → Nat → Int} {C r : Nat} {u v : Nat → Int} {fo : Nat → Nat} {least : Nat → Int} {way : Nat → Nat} {done : Nat → Bool} {a : Nat} {l : List Nat}
theorem Base.free (B : Base M C r u v fo) (hr : r < C) : ∃ f, 1 ≤ f ∧ f ≤ C ∧ fo f = 0 := by
  apply Classical.byContradiction
  intro hno
  have hne : ∀ f, 1 ≤ f → f ≤ C → fo f ≠ 0 := fun f h1 h2 h3 => hno ⟨f, h1, h2, h3⟩
  have : Inj C r (fun k => fo (k + 1) - 1) := ⟨fun i hi => by
      have := hne (i + 1) (by omega) (by omega); have := B.ofr (i + 1) (by omega) (by omega); omega,
    fun i j hi hj he => by
      have h1 := hne (i + 1) (by omega) (by omega); have h2 := hne (j + 1) (by omega) (by omega)
      have := B.inj (i + 1) (j + 1) (by omega) (by omega) (by omega) (by omega) (by omega) h1
      omega⟩
  have := pigeon this
  omega
theorem Base.start (B : Base M C r u v fo) (hM : ∀ i k, 0 ≤ M i k ∧ M i k ≤ 1125899906842624) (fo' : Nat → Nat) (h0 : fo' 0 = r + 1) (hf : ∀ k, 1 ≤ k → fo' k = fo k) (least : Nat → Int) (hl : ∀ k, 1 ≤ k → k ≤ C → least k = 4503599627370496) (way : Nat → Nat) (done : Nat → Bool) (hd : ∀ k, done k = false) :
    Ph M C r u v fo' least way done 0 [] where
  tight k h1 h2 h3 := by rw [hf k h1] at h3 ⊢; exact B.tight k h1 h2 h3
  pos i k h1 h2 h3 h4 := by
    by_cases hi : i ≤ r
    · exact B.pos i k h1 hi h3 h4
    · have := B.uzero i (by omega); have := B.vneg k h3 h4; have := hM (i - 1) (k - 1)
      unfold sl; omega
  vneg := B.vneg
  vfree k h1 h2 h3 := B.vfree k h1 h2 (by rw [← hf k h1]; exact h3)
  ofr k h1 h2 := by rw [hf k h1]; exact B.ofr k h1 h2
  inj j k h1 h2 h3 h4 h5 h6 := by rw [hf j h1] at h5 h6; rw [hf k h3] at h5; exact B.inj j k h1 h2 h3 h4 h5 h6
  sur i h1 h2 := by obtain ⟨k, k1, k2, k3⟩ := B.sur i h1 h2; exact ⟨k, k1, k2, by rw [hf k k1]; exact k3⟩
  upos := B.upos
  u0 := B.u0
  uzero i h := B.uzero i (by omega)
  v0 := by have := B.v0; have := B.uzero (r + 1) (by omega); omega
  of0 := h0
  trl := .nil
  dn k := by simp [hd]
  inC k h := by simp at h; omega
  occ k h := by simp at h
  tw k h h0 := by simp at h; exact absurd h h0
  lst0 _ := hl
  lst1 h := absurd rfl h

theorem Ph.free (P : Ph M C r u v fo least way done a l) (hr : r < C) : ∃ f, 1 ≤ f ∧ f ≤ C ∧ fo f = 0 := by
  apply Classical.byContradiction
  intro hno
  have hne : ∀ f, 1 ≤ f → f ≤ C → fo f ≠ 0 := fun f h1 h2 h3 => hno ⟨f, h1, h2, h3⟩
  have : Inj C r (fun k => fo (k + 1) - 1) := ⟨fun i hi => by
      have := hne (i + 1) (by omega) (by omega); have := P.ofr (i + 1) (by omega) (by omega); omega,
    fun i j hi hj he => by
      have h1 := hne (i + 1) (by omega) (by omega); have h2 := hne (j + 1) (by omega) (by omega)
      have := P.inj (i + 1) (j + 1) (by omega) (by omega) (by omega) (by omega) (by omega) h1
      omega⟩
  have := pigeon this
  omega
theorem Ph.uN (P : Ph M C r u v fo least way done a l) (hr : r < C) (hM : ∀ i k, 0 ≤ M i k ∧ M i k ≤ 1125899906842624) (i : Nat) : u i ≤ 1125899906842624 := by
  by_cases h0 : i = 0
  · subst h0; have := P.u0; omega
  by_cases h1 : i ≤ r + 1
  · obtain ⟨f, f1, f2, f3⟩ := P.free hr
    have h2 := P.pos i f (by omega) h1 f1 f2
    have h3 := P.vfree f f1 f2 f3
    have h4 := hM (i - 1) (f - 1)
    unfold sl at h2; omega
  · have := P.uzero i (by omega); omega
theorem Ph.vN (P : Ph M C r u v fo least way done a l) (hr : r < C) (hM : ∀ i k, 0 ≤ M i k ∧ M i k ≤ 1125899906842624) (k : Nat) (h1 : 1 ≤ k) (h2 : k ≤ C) : -1125899906842624 ≤ v k := by
  by_cases h0 : fo k = 0
  · have := P.vfree k h1 h2 h0; omega
  · have h3 := P.tight k h1 h2 h0
    have h4 := P.uN hr hM (fo k)
    have h5 := hM (fo k - 1) (k - 1)
    unfold sl at h3; omega
theorem Ph.slN (P : Ph M C r u v fo least way done a l) (hr : r < C) (hM : ∀ i k, 0 ≤ M i k ∧ M i k ≤ 1125899906842624) (i k : Nat) (h1 : 1 ≤ k) (h2 : k ≤ C) : sl M u v i k ≤ 2251799813685248 := by
  have := P.vN hr hM k h1 h2; have := P.upos i; have := hM (i - 1) (k - 1); unfold sl; omega
theorem Ph.ofN (P : Ph M C r u v fo least way done a l) (k : Nat) (h : k ≤ C) : fo k ≤ r + 1 := by
  by_cases h0 : k = 0
  · subst h0; have := P.of0; omega
  · have := P.ofr k (by omega) h; omega
theorem Ph.inj0 (P : Ph M C r u v fo least way done a l) (j k : Nat) (h1 : j ≤ C) (h2 : k ≤ C) (h3 : fo j = fo k) (h4 : fo j ≠ 0) : j = k := by
  by_cases hj : j = 0
  · by_cases hk : k = 0
    · omega
    · have := P.ofr k (by omega) h2; have := P.of0; subst hj; omega
  · by_cases hk : k = 0
    · have := P.ofr j (by omega) h1; have := P.of0; subst hk; omega
    · exact P.inj j k (by omega) h1 (by omega) h2 h3 h4
end

/-- The search for the next column: the columns before m are looked at. -/
structure Scn (M : Nat → Nat → Int) (u v : Nat → Int) (least : Nat → Int) (way : Nat → Nat) (S : Nat → Bool) (i a m : Nat) (least' : Nat → Int) (way' : Nat → Nat) (delta : Int) (next : Nat) : Prop where
  d1 : ∀ k, 1 ≤ k → k < m → S k = false → (sl M u v i k < least k → least' k = sl M u v i k ∧ way' k = a) ∧ (least k ≤ sl M u v i k → least' k = least k ∧ way' k = way k)
  d2 : ∀ k, (k = 0 ∨ m ≤ k ∨ S k = true) → least' k = least k ∧ way' k = way k
  mn : ∀ k, 1 ≤ k → k < m → S k = false → delta ≤ least' k
  nx : (next = 0 ∧ delta = 4503599627370496) ∨ (1 ≤ next ∧ next < m ∧ S next = false ∧ least' next = delta ∧ delta < 4503599627370496)
section
variable {M : Nat → Nat → Int} {u v : Nat → Int} {least : Nat → Int} {way : Nat → Nat} {S : Nat → Bool} {i a m : Nat} {least' : Nat → Int} {way' : Nat → Nat} {delta : Int} {next : Nat}
theorem Scn.init : Scn M u v least way S i a 1 least way 4503599627370496 0 :=
  ⟨fun k h1 h2 => by omega, fun k _ => ⟨rfl, rfl⟩, fun k h1 h2 => by omega, Or.inl ⟨rfl, rfl⟩⟩
theorem Scn.skip (h : Scn M u v least way S i a m least' way' delta next) (hS : S m = true) : Scn M u v least way S i a (m + 1) least' way' delta next := by
  have hne : ∀ k, S k = false → k ≠ m := fun k hk e => by subst e; rw [hS] at hk; cases hk
  refine ⟨fun k h1 h2 h3 => h.d1 k h1 (by have := hne k h3; omega) h3, fun k hk => h.d2 k ?_, fun k h1 h2 h3 => h.mn k h1 (by have := hne k h3; omega) h3, ?_⟩
  · rcases hk with hk | hk | hk
    · exact Or.inl hk
    · exact Or.inr (Or.inl (by omega))
    · exact Or.inr (Or.inr hk)
  · rcases h.nx with h1 | ⟨h1, h2, h3⟩
    · exact Or.inl h1
    · exact Or.inr ⟨h1, by omega, h3⟩
theorem Scn.step (h : Scn M u v least way S i a m least' way' delta next) (hm : 1 ≤ m) (hS : S m = false) {L : Nat → Int} {W : Nat → Nat} {D : Int} {X : Nat}
    (h1 : (sl M u v i m < least' m ∧ L = upd least' m (sl M u v i m) ∧ W = upd way' m a) ∨ (least' m ≤ sl M u v i m ∧ L = least' ∧ W = way'))
    (h2 : (L m < delta ∧ D = L m ∧ X = m) ∨ (delta ≤ L m ∧ D = delta ∧ X = next)) : Scn M u v least way S i a (m + 1) L W D X := by
  have hL : ∀ k, k ≠ m → L k = least' k ∧ W k = way' k := by
    intro k hk
    rcases h1 with ⟨_, rfl, rfl⟩ | ⟨_, rfl, rfl⟩
    · exact ⟨upd_ne hk, upd_ne hk⟩
    · exact ⟨rfl, rfl⟩
  have ho := h.d2 m (Or.inr (Or.inl (Nat.le_refl _)))
  have hDl : D ≤ delta := by rcases h2 with ⟨_, rfl, _⟩ | ⟨_, rfl, _⟩ <;> omega
  refine ⟨fun k k1 k2 k3 => ?_, fun k hk => ?_, fun k k1 k2 k3 => ?_, ?_⟩
  · by_cases e : k = m
    · subst e
      rcases h1 with ⟨g1, rfl, rfl⟩ | ⟨g1, rfl, rfl⟩
      · exact ⟨fun _ => ⟨upd_same, upd_same⟩, fun g => by rw [ho.1] at g1; omega⟩
      · exact ⟨fun g => by rw [ho.1] at g1; omega, fun _ => ho⟩
    · rw [(hL k e).1, (hL k e).2]; exact h.d1 k k1 (by omega) k3
  · have hk' : k ≠ m := by
      rintro rfl
      rcases hk with hk | hk | hk
      · omega
      · omega
      · rw [hS] at hk; cases hk
    rw [(hL k hk').1, (hL k hk').2]
    exact h.d2 k (by rcases hk with hk | hk | hk; · exact Or.inl hk
                     · exact Or.inr (Or.inl (by omega))
                     · exact Or.inr (Or.inr hk))
  · by_cases e : k = m
    · subst e
      rcases h2 with ⟨_, rfl, _⟩ | ⟨g, rfl, _⟩
      · exact Int.le_refl _
      · exact g
    · rw [(hL k e).1]; exact Int.le_trans hDl (h.mn k k1 (by omega) k3)
  · rcases h2 with ⟨g, rfl, rfl⟩ | ⟨g, rfl, rfl⟩
    · refine Or.inr ⟨hm, by omega, hS, rfl, ?_⟩
      rcases h.nx with ⟨_, g2⟩ | ⟨_, _, _, _, g2⟩ <;> omega
    · rcases h.nx with g1 | ⟨g1, g2, g3, g4, g5⟩
      · exact Or.inl g1
      · exact Or.inr ⟨g1, by omega, g3, by rw [(hL X (by omega)).1]; exact g4, g5⟩
end
/-- The potentials moved, for the columns before m. -/
structure Shf (S : Nat → Bool) (fo : Nat → Nat) (δ : Int) (u v least : Nat → Int) (m : Nat) (u' v' least' : Nat → Int) : Prop where
  u1 : ∀ k, k < m → S k = true → u' (fo k) = u (fo k) + δ
  u2 : ∀ i, (∀ k, k < m → S k = true → fo k ≠ i) → u' i = u i
  v1 : ∀ k, k < m → S k = true → v' k = v k - δ
  v2 : ∀ k, (m ≤ k ∨ S k = false) → v' k = v k
  l1 : ∀ k, k < m → S k = false → least' k = least k - δ
  l2 : ∀ k, (m ≤ k ∨ S k = true) → least' k = least k
section
variable {S : Nat → Bool} {fo : Nat → Nat} {δ : Int} {u v least : Nat → Int} {m : Nat} {u' v' least' : Nat → Int}
theorem Shf.init : Shf S fo δ u v least 0 u v least :=
  ⟨fun k h => by omega, fun _ _ => rfl, fun k h => by omega, fun _ _ => rfl, fun k h => by omega, fun _ _ => rfl⟩
theorem Shf.inn (h : Shf S fo δ u v least m u' v' least') (hS : S m = true) (hi : ∀ k, k < m → S k = true → fo k ≠ fo m) : Shf S fo δ u v least (m + 1) (upd u' (fo m) (u' (fo m) + δ)) (upd v' m (v' m - δ)) least' := by
  have hne : ∀ k, S k = false → k ≠ m := fun k hk e => by subst e; rw [hS] at hk; cases hk
  refine ⟨fun k k1 k2 => ?_, fun i k1 => ?_, fun k k1 k2 => ?_, fun k k1 => ?_, fun k k1 k2 => h.l1 k (by have := hne k k2; omega) k2, fun k k1 => h.l2 k (or_lt k1)⟩
  · by_cases e : k = m
    · subst e; rw [upd_same, h.u2 (fo k) (fun j j1 j2 => hi j j1 j2)]
    · rw [upd_ne (hi k (by omega) k2)]; exact h.u1 k (by omega) k2
  · rw [upd_ne (fun e => k1 m (by omega) hS e.symm)]; exact h.u2 i (fun j j1 j2 => k1 j (by omega) j2)
  · by_cases e : k = m
    · subst e; rw [upd_same, h.v2 k (Or.inl (Nat.le_refl _))]
    · rw [upd_ne e]; exact h.v1 k (by omega) k2
  · have : k ≠ m := by
      rcases k1 with k1 | k1
      · omega
      · exact hne k k1
    rw [upd_ne this]; exact h.v2 k (or_lt k1)
theorem Shf.out (h : Shf S fo δ u v least m u' v' least') (hS : S m = false) : Shf S fo δ u v least (m + 1) u' v' (upd least' m (least' m - δ)) := by
  have hne : ∀ k, S k = true → k ≠ m := fun k hk e => by subst e; rw [hS] at hk; cases hk
  refine ⟨fun k k1 k2 => h.u1 k (by have := hne k k2; omega) k2, fun i k1 => h.u2 i (fun j j1 j2 => k1 j (by omega) j2), fun k k1 k2 => h.v1 k (by have := hne k k2; omega) k2, fun k k1 => h.v2 k (or_lt k1), fun k k1 k2 => ?_, fun k k1 => ?_⟩
  · by_cases e : k = m
    · subst e; rw [upd_same, h.l2 k (Or.inl (Nat.le_refl _))]
    · rw [upd_ne e]; exact h.l1 k (by omega) k2
  · have : k ≠ m := by
      rcases k1 with k1 | k1
      · omega
      · exact hne k k1
    rw [upd_ne this]; exact h.l2 k (or_lt k1)
end
end Go.Proofs.Ytaekgifbehoipaa.Hg
/- Assignments of least sum: the steps of a phase, the way back, the answer. Conditions stand in each lemma. -/
namespace Go.Proofs.Ytaekgifbehoipaa.Hg
set_option linter.unusedVariables false
set_option linter.unusedSimpArgs false

theorem Tr.mem_way {way : Nat → Nat} {l : List Nat} (t : Tr way l) : ∀ k, k ∈ l → k ≠ 0 → way k ∈ l := by
  induction t with
  | nil => intro k hk h0; simp at hk; exact absurd hk h0
  | @cons j l h1 h2 h3 h4 ih =>
    intro k hk h0
    by_cases e : k = j
    · subst e; exact List.mem_cons_of_mem _ h3
    · exact List.mem_cons_of_mem _ (ih k (by simpa [e] using hk) h0)
section
variable {M : Nat → Nat → Int} {C r : Nat} {u v : Nat → Int} {fo : Nat → Nat} {least : Nat → Int} {way : Nat → Nat} {done : Nat → Bool} {a : Nat} {l : List Nat}
  {least' : Nat → Int} {way' : Nat → Nat} {δ : Int} {nx : Nat}
theorem Ph.mem (P : Ph M C r u v fo least way done a l) (k : Nat) : upd done a true k = true ↔ k ∈ a :: l := by
  by_cases e : k = a
  · subst e; simp [upd_same]
  · rw [upd_ne e, P.dn]; simp [e]
theorem Ph.nmem (P : Ph M C r u v fo least way done a l) (k : Nat) : upd done a true k = false ↔ k ∉ a :: l := by
  rw [← P.mem k]; simp
/-- What the search has found for a column that is not done. -/
theorem Ph.found (P : Ph M C r u v fo least way done a l) (hr : r < C) (hM : ∀ i k, 0 ≤ M i k ∧ M i k ≤ 1125899906842624) (Sc : Scn M u v least way (upd done a true) (fo a) a (C + 1) least' way' δ nx)
    (k : Nat) (h1 : 1 ≤ k) (h2 : k ≤ C) (h3 : k ∉ a :: l) : least' k = sl M u v (fo (way' k)) k ∧ way' k ∈ a :: l ∧ ∀ j, j ∈ a :: l → least' k ≤ sl M u v (fo j) k := by
  have hS := (P.nmem k).2 h3
  obtain ⟨d1, d2⟩ := Sc.d1 k h1 (by omega) hS
  have hs := P.slN hr hM (fo a) k h1 h2
  by_cases hl : l = []
  · have h4 := P.lst0 hl k h1 h2
    obtain ⟨e1, e2⟩ := d1 (by omega)
    subst hl
    exact ⟨by rw [e2]; exact e1, by rw [e2]; simp, fun j hj => by simp at hj; subst hj; rw [e1]; exact Int.le_refl _⟩
  · obtain ⟨g1, g2, g3⟩ := P.lst1 hl k h1 h2 (fun h => h3 (List.mem_cons_of_mem _ h))
    by_cases hc : sl M u v (fo a) k < least k
    · obtain ⟨e1, e2⟩ := d1 hc
      refine ⟨by rw [e2]; exact e1, by rw [e2]; simp, fun j hj => ?_⟩
      rw [e1]
      rcases List.mem_cons.1 hj with rfl | hj
      · exact Int.le_refl _
      · have := g3 j hj; omega
    · obtain ⟨e1, e2⟩ := d2 (by omega)
      refine ⟨by rw [e1, e2]; exact g1, by rw [e2]; exact List.mem_cons_of_mem _ g2, fun j hj => ?_⟩
      rw [e1]
      rcases List.mem_cons.1 hj with rfl | hj
      · omega
      · exact g3 j hj
theorem Ph.occ' (P : Ph M C r u v fo least way done a l) (ha : fo a ≠ 0) (k : Nat) (h : k ∈ a :: l) : fo k ≠ 0 := by
  rcases List.mem_cons.1 h with rfl | h
  · exact ha
  · exact P.occ k h
theorem Ph.next (P : Ph M C r u v fo least way done a l) (hr : r < C) (hM : ∀ i k, 0 ≤ M i k ∧ M i k ≤ 1125899906842624) (ha : fo a ≠ 0) (Sc : Scn M u v least way (upd done a true) (fo a) a (C + 1) least' way' δ nx) :
    1 ≤ nx ∧ nx ≤ C ∧ nx ∉ a :: l ∧ least' nx = δ ∧ 0 ≤ δ ∧ δ ≤ 1125899906842624 := by
  obtain ⟨f, f1, f2, f3⟩ := P.free hr
  have hf : f ∉ a :: l := fun h => P.occ' ha f h f3
  obtain ⟨-, -, h3⟩ := P.found hr hM Sc f f1 f2 hf
  have h4 := h3 0 P.trl.zero
  rw [P.of0] at h4
  have h5 := Sc.mn f f1 (by omega) ((P.nmem f).2 hf)
  have h6 := P.vfree f f1 f2 f3
  have h7 := hM (r + 1 - 1) (f - 1)
  have h8 := P.upos (r + 1)
  have h9 : δ ≤ 1125899906842624 := by unfold sl at h4; omega
  rcases Sc.nx with ⟨_, h⟩ | ⟨k1, k2, k3, k4, k5⟩
  · omega
  have k3' := (P.nmem nx).1 k3
  refine ⟨k1, by omega, k3', k4, ?_, h9⟩
  obtain ⟨g1, g2, _⟩ := P.found hr hM Sc nx k1 (by omega) k3'
  have h10 := P.occ' ha _ g2
  have h11 := P.ofN _ (P.inC _ g2)
  have := P.pos (fo (way' nx)) nx (by omega) h11 k1 (by omega)
  omega
theorem Ph.step (P : Ph M C r u v fo least way done a l) (hr : r < C) (hM : ∀ i k, 0 ≤ M i k ∧ M i k ≤ 1125899906842624) (ha : fo a ≠ 0) (Sc : Scn M u v least way (upd done a true) (fo a) a (C + 1) least' way' δ nx)
    {u' v' least'' : Nat → Int} (Sh : Shf (upd done a true) fo δ u v least' (C + 1) u' v' least'') : Ph M C r u' v' fo least'' way' (upd done a true) nx (a :: l) := by
  obtain ⟨n1, n2, n3, n4, n5, n6⟩ := P.next hr hM ha Sc
  have hin : ∀ k, k ∈ a :: l → u' (fo k) = u (fo k) + δ ∧ v' k = v k - δ := fun k hk => by
    have := P.inC k hk
    exact ⟨Sh.u1 k (by omega) ((P.mem k).2 hk), Sh.v1 k (by omega) ((P.mem k).2 hk)⟩
  have hv : ∀ k, k ∉ a :: l → v' k = v k := fun k hk => Sh.v2 k (Or.inr ((P.nmem k).2 hk))
  have hu : ∀ i, (∀ k, k ∈ a :: l → fo k ≠ i) → u' i = u i := fun i h => Sh.u2 i fun k _ hk => h k ((P.mem k).1 hk)
  have hu2 : ∀ i, u' i = u i ∨ u' i = u i + δ := by
    intro i
    by_cases h : ∀ k, k ∈ a :: l → fo k ≠ i
    · exact Or.inl (hu i h)
    · simp only [Classical.not_forall, Classical.not_not] at h
      obtain ⟨k, hk, rfl⟩ := h
      exact Or.inr (hin k hk).1
  have hout : ∀ k, k ≤ C → k ∉ a :: l → fo k ≠ 0 → u' (fo k) = u (fo k) := by
    intro k h1 h2 h3
    refine hu _ fun j hj e => ?_
    have := P.inj0 j k (P.inC j hj) h1 e (P.occ' ha j hj)
    subst this; exact h2 hj
  have hl : ∀ k, k ≤ C → k ∉ a :: l → least'' k = least' k - δ := fun k h1 h2 => Sh.l1 k (by omega) ((P.nmem k).2 h2)
  have hway : ∀ k, k ∈ a :: l → way' k = way k := fun k hk => (Sc.d2 k (Or.inr (Or.inr ((P.mem k).2 hk)))).2
  refine ⟨fun k h1 h2 h3 => ?_, fun i k h1 h2 h3 h4 => ?_, fun k h1 h2 => ?_, fun k h1 h2 h3 => ?_, P.ofr, P.inj, P.sur, fun i => ?_, ?_, fun i hi => ?_, ?_, P.of0, ?_, P.mem, fun k hk => ?_, fun k hk => P.occ' ha k hk, fun k hk h0 => ?_, fun h => by simp at h, fun _ k h1 h2 h3 => ?_⟩
  · have := P.tight k h1 h2 h3
    by_cases hk : k ∈ a :: l
    · have := hin k hk; unfold sl at *; omega
    · have := hv k hk; have := hout k h2 hk h3; unfold sl at *; omega
  · have hp := P.pos i k h1 h2 h3 h4
    obtain ⟨j, j1, j2⟩ : ∃ j, j ≤ C ∧ fo j = i := by
      by_cases h : i = r + 1
      · exact ⟨0, by omega, by rw [P.of0]; exact h.symm⟩
      · obtain ⟨j, _, g2, g3⟩ := P.sur i h1 (by omega); exact ⟨j, g2, g3⟩
    by_cases hk : k ∈ a :: l
    · have := (hin k hk).2; have := hu2 i; unfold sl at *; omega
    · have h5 := hv k hk
      by_cases hj : j ∈ a :: l
      · have h6 := (hin j hj).1
        have h7 := (P.found hr hM Sc k h3 h4 hk).2.2 j hj
        have h8 := Sc.mn k h3 (by omega) ((P.nmem k).2 hk)
        rw [j2] at h6 h7
        unfold sl at *; omega
      · have h6 := hout j j1 hj (by omega)
        rw [j2] at h6
        unfold sl at *; omega
  · have := P.vneg k h1 h2
    by_cases hk : k ∈ a :: l
    · have := (hin k hk).2; omega
    · have := hv k hk; omega
  · rw [hv k fun hk => P.occ' ha k hk h3]; exact P.vfree k h1 h2 h3
  · have := P.upos i; have := hu2 i; omega
  · rw [hu 0 fun k hk => P.occ' ha k hk]; exact P.u0
  · rw [hu i fun k hk => by have := P.ofN k (P.inC k hk); omega]; exact P.uzero i hi
  · have h1 := hin 0 P.trl.zero; have h2 := P.v0; rw [P.of0] at h1; omega
  · obtain ⟨_, g2, _⟩ := P.found hr hM Sc nx n1 n2 n3
    exact .cons (by omega) n3 g2 (P.trl.congr fun k hk _ => hway k hk)
  · rcases List.mem_cons.1 hk with rfl | hk
    · exact n2
    · exact P.inC k hk
  · rcases List.mem_cons.1 hk with rfl | hk
    · obtain ⟨g1, g2, _⟩ := P.found hr hM Sc k n1 n2 n3
      have := (hin _ g2).1; have := hv k n3; unfold sl at *; omega
    · rw [hway k hk]
      have h1 := P.tw k hk h0
      have h2 := (hin _ (P.trl.mem_way k hk h0)).1
      have h3 := (hin k hk).2
      unfold sl at *; omega
  · obtain ⟨g1, g2, g3⟩ := P.found hr hM Sc k h1 h2 h3
    have h4 := hl k h2 h3
    have h5 := hv k h3
    refine ⟨?_, g2, fun j hj => ?_⟩
    · have := (hin _ g2).1; unfold sl at *; omega
    · have := (hin j hj).1; have := g3 j hj; unfold sl at *; omega
end

/-- The way back: the column a is to be given anew. -/
structure Bk (M : Nat → Nat → Int) (C r : Nat) (u v : Nat → Int) (way : Nat → Nat) (fo : Nat → Nat) (a : Nat) (b : List Nat) : Prop where
  tr : Tr way (a :: b)
  inC : ∀ k, k ∈ a :: b → k ≤ C
  occ : ∀ k, k ∈ b → fo k ≠ 0
  tw : ∀ k, k ∈ a :: b → k ≠ 0 → sl M u v (fo (way k)) k = 0
  tight : ∀ k, 1 ≤ k → k ≤ C → k ≠ a → fo k ≠ 0 → sl M u v (fo k) k = 0
  inj : ∀ j k, j ≤ C → k ≤ C → j ≠ a → k ≠ a → fo j = fo k → fo j ≠ 0 → j = k
  sur : ∀ i, 1 ≤ i → i ≤ r + 1 → ∃ k, k ≤ C ∧ k ≠ a ∧ fo k = i
  ofr : ∀ k, k ≤ C → fo k ≤ r + 1
  vfree : ∀ k, 1 ≤ k → k ≤ C → k ≠ a → fo k = 0 → v k = 0
section
variable {M : Nat → Nat → Int} {C r : Nat} {u v : Nat → Int} {fo : Nat → Nat} {least : Nat → Int} {way : Nat → Nat} {done : Nat → Bool} {a : Nat} {l : List Nat} {b : List Nat}
theorem Ph.back (P : Ph M C r u v fo least way done a l) (ha : fo a = 0) : Bk M C r u v way fo a l := by
  have h0 : a ≠ 0 := fun e => by subst e; have := P.of0; omega
  exact ⟨P.trl, P.inC, P.occ, P.tw, fun k h1 h2 _ h3 => P.tight k h1 h2 h3, fun j k h1 h2 _ _ h3 h4 => P.inj0 j k h1 h2 h3 h4, fun i h1 h2 => by
    by_cases h : i = r + 1
    · exact ⟨0, by omega, fun e => h0 e.symm, by rw [P.of0]; exact h.symm⟩
    · obtain ⟨k, k1, k2, k3⟩ := P.sur i h1 (by omega)
      exact ⟨k, k2, fun e => by subst e; omega, k3⟩, P.ofN, fun k h1 h2 _ h3 => P.vfree k h1 h2 h3⟩
theorem Bk.step (B : Bk M C r u v way fo a b) (ha : a ≠ 0) : ∃ b', b'.length < b.length ∧ Bk M C r u v way (upd fo a (fo (way a))) (way a) b' := by
  have hw := B.tr.head_way ha
  have hn := B.tr.head_not
  have ht : Tr way b := by
    have := B.tr
    cases this with
    | nil => exact absurd rfl ha
    | cons _ _ _ h => exact h
  obtain ⟨b', t, hlen, hsub⟩ := ht.suffix hw
  have hwa : way a ≠ a := fun e => hn (by rw [← e]; exact hw)
  have hne : ∀ k, k ∈ way a :: b' → k ≠ a := fun k hk e => hn (by rw [← e]; exact hsub k hk)
  have hoc := B.occ _ hw
  refine ⟨b', hlen, t, fun k hk => B.inC k (List.mem_cons_of_mem _ (hsub k hk)), fun k hk => ?_, fun k hk h0 => ?_, fun k h1 h2 h3 h4 => ?_, fun j k h1 h2 h3 h4 h5 h6 => ?_, fun i h1 h2 => ?_, fun k hk => ?_, fun k h1 h2 h3 h4 => ?_⟩
  · rw [upd_ne (hne k (List.mem_cons_of_mem _ hk))]; exact B.occ k (hsub k (List.mem_cons_of_mem _ hk))
  · rw [upd_ne (hne _ (t.mem_way k hk h0))]; exact B.tw k (List.mem_cons_of_mem _ (hsub k hk)) h0
  · by_cases e : k = a
    · subst e; rw [upd_same]; exact B.tw k (by simp) ha
    · rw [upd_ne e] at h4 ⊢; exact B.tight k h1 h2 e h4
  · by_cases ej : j = a
    · by_cases ek : k = a
      · omega
      · subst ej
        rw [upd_same] at h5 h6; rw [upd_ne ek] at h5
        exact absurd (B.inj (way j) k (B.inC _ (List.mem_cons_of_mem _ hw)) h2 hwa ek h5 h6) (fun e => h4 e.symm)
    · by_cases ek : k = a
      · subst ek
        rw [upd_ne ej] at h5 h6; rw [upd_same] at h5
        exact absurd (B.inj j (way k) h1 (B.inC _ (List.mem_cons_of_mem _ hw)) ej hwa h5 h6) h3
      · rw [upd_ne ej] at h5 h6; rw [upd_ne ek] at h5
        exact B.inj j k h1 h2 ej ek h5 h6
  · obtain ⟨k, k1, k2, k3⟩ := B.sur i h1 h2
    by_cases e : k = way a
    · subst e
      exact ⟨a, B.inC a (by simp), fun e => hwa e.symm, by rw [upd_same]; exact k3⟩
    · exact ⟨k, k1, e, by rw [upd_ne k2]; exact k3⟩
  · by_cases e : k = a
    · subst e; rw [upd_same]; exact B.ofr _ (B.inC _ (List.mem_cons_of_mem _ hw))
    · rw [upd_ne e]; exact B.ofr k hk
  · by_cases e : k = a
    · subst e; rw [upd_same] at h4; exact absurd h4 hoc
    · rw [upd_ne e] at h4; exact B.vfree k h1 h2 e h4
theorem Bk.fin {fo0 : Nat → Nat} (B : Bk M C r u v way fo 0 b) (P : Ph M C r u v fo0 least way done a l) (hr : r < C) (hM : ∀ i k, 0 ≤ M i k ∧ M i k ≤ 1125899906842624) : Base M C (r + 1) u v fo where
  tight k h1 h2 h3 := B.tight k h1 h2 (by omega) h3
  pos := P.pos
  vneg := P.vneg
  vfree k h1 h2 h3 := B.vfree k h1 h2 (by omega) h3
  ofr k _ h2 := B.ofr k h2
  inj j k h1 h2 h3 h4 h5 h6 := B.inj j k h2 h4 (by omega) (by omega) h5 h6
  sur i h1 h2 := by obtain ⟨k, k1, k2, k3⟩ := B.sur i h1 h2; exact ⟨k, by omega, k1, k3⟩
  upos := P.upos
  u0 := P.u0
  uzero := P.uzero
  uN := P.uN hr hM
  v0 := by have := P.v0; have := P.uN hr hM (r + 1); rw [Int.natCast_add, Int.add_mul]; omega
theorem Base.init : Base M C 0 (fun _ => 0) (fun _ => 0) (fun _ => 0) :=
  ⟨fun k _ _ h => absurd rfl h, fun i k h1 h2 => by omega, fun _ _ _ => Int.le_refl _, fun _ _ _ _ => rfl, fun _ _ _ => Nat.le_refl _, fun _ _ _ _ _ _ _ h => absurd rfl h, fun i h1 h2 => by omega, fun _ => Int.le_refl _, rfl, fun _ _ => rfl, fun _ => by decide, by constructor <;> simp⟩
end
/-- T is the least sum of M over R rows and C columns. -/
def Least (M : Nat → Nat → Int) (R C : Nat) (T : Int) : Prop :=
  (∃ σ, Inj R C σ ∧ T = sumN R (fun i => M i (σ i))) ∧ ∀ σ, Inj R C σ → T ≤ sumN R (fun i => M i (σ i))
open Classical in
theorem Base.least {M : Nat → Nat → Int} {C R : Nat} {u v : Nat → Int} {fo : Nat → Nat} (B : Base M C R u v fo) : Least M R C (sumN C (fun k => if 0 < fo (k + 1) then M (fo (k + 1) - 1) k else 0)) := by
  have h0 : ∀ i, ∃ k, i < R → k < C ∧ fo (k + 1) = i + 1 := by
    intro i
    by_cases hi : i < R
    · obtain ⟨k, k1, k2, k3⟩ := B.sur (i + 1) (by omega) (by omega)
      exact ⟨k - 1, fun _ => ⟨by omega, by rw [show k - 1 + 1 = k by omega]; exact k3⟩⟩
    · exact ⟨0, fun h => absurd h hi⟩
  obtain ⟨σ, hσ⟩ := Classical.skolem.1 h0
  have hI : Inj R C σ := ⟨fun i hi => (hσ i hi).1, fun i j hi hj e => by
    have h1 := (hσ i hi).2; have h2 := (hσ j hj).2; rw [e] at h1; omega⟩
  have hT : sumN C (fun k => if 0 < fo (k + 1) then M (fo (k + 1) - 1) k else 0) = sumN R (fun i => M i (σ i)) := by
    have h1 : sumN R (fun i => M i (σ i)) = sumN R (fun i => (fun k => M (fo (k + 1) - 1) k) (σ i)) := sumN_congr fun i hi => by
      show M i (σ i) = M (fo (σ i + 1) - 1) (σ i)
      rw [(hσ i hi).2, Nat.add_sub_cancel]
    rw [h1, reindex (fun k => M (fo (k + 1) - 1) k) hI]
    apply sumN_congr
    intro k hk
    by_cases hp : 0 < fo (k + 1)
    · rw [if_pos hp, if_pos]
      have hr := B.ofr (k + 1) (by omega) (by omega)
      refine ⟨fo (k + 1) - 1, by omega, ?_⟩
      have h2 := hσ (fo (k + 1) - 1) (by omega)
      have := B.inj (σ (fo (k + 1) - 1) + 1) (k + 1) (by omega) (by omega) (by omega) (by omega) (by rw [h2.2]; omega) (by rw [h2.2]; omega)
      omega
    · rw [if_neg hp, if_neg]
      rintro ⟨i, hi, rfl⟩
      have := (hσ i hi).2; omega
  refine ⟨⟨σ, hI, hT⟩, fun τ hτ => ?_⟩
  have key : ∀ τ, Inj R C τ → sumN R (fun i => u (i + 1)) + sumN C (fun k => if ∃ i, i < R ∧ τ i = k then v (k + 1) else 0) = sumN R (fun i => u (i + 1) + v (τ i + 1)) := by
    intro τ hτ
    rw [← reindex (fun k => v (k + 1)) hτ, sumN_add]
  have h2 : sumN R (fun i => M i (σ i)) = sumN R (fun i => u (i + 1) + v (σ i + 1)) := sumN_congr fun i hi => by
    have h3 := hσ i hi
    have h4 := B.tight (σ i + 1) (by omega) (by omega) (by rw [h3.2]; omega)
    rw [h3.2] at h4
    simp only [sl, Nat.add_sub_cancel] at h4
    omega
  have h3 : sumN R (fun i => u (i + 1) + v (τ i + 1)) ≤ sumN R (fun i => M i (τ i)) := sumN_le fun i hi => by
    have h4 := hτ.lt i hi
    have h5 := B.pos (i + 1) (τ i + 1) (by omega) (by omega) (by omega) (by omega)
    simp only [sl, Nat.add_sub_cancel] at h5
    omega
  have h4 : sumN C (fun k => if ∃ i, i < R ∧ σ i = k then v (k + 1) else 0) ≤ sumN C (fun k => if ∃ i, i < R ∧ τ i = k then v (k + 1) else 0) := sumN_le fun k hk => by
    have h5 := B.vneg (k + 1) (by omega) (by omega)
    by_cases hc : ∃ i, i < R ∧ σ i = k
    · rw [if_pos hc]
      split <;> omega
    · rw [if_neg hc]
      have : fo (k + 1) = 0 := Classical.byContradiction fun hne => hc (by
        have hr := B.ofr (k + 1) (by omega) (by omega)
        refine ⟨fo (k + 1) - 1, by omega, ?_⟩
        have h2 := hσ (fo (k + 1) - 1) (by omega)
        have := B.inj (σ (fo (k + 1) - 1) + 1) (k + 1) (by omega) (by omega) (by omega) (by omega) (by rw [h2.2]; omega) (by rw [h2.2]; omega)
        omega)
      have := B.vfree (k + 1) (by omega) (by omega) this
      split <;> omega
  have h5 := key σ hI
  have h6 := key τ hτ
  omega
theorem Least.unique {M : Nat → Nat → Int} {R C : Nat} {T T' : Int} (h : Least M R C T) (h' : Least M R C T') : T = T' := by
  obtain ⟨⟨σ, h1, h2⟩, h3⟩ := h
  obtain ⟨⟨τ, k1, k2⟩, k3⟩ := h'
  have := h3 τ k1; have := k3 σ h1; omega
end Go.Proofs.Ytaekgifbehoipaa.Hg
/- Index, Contains and Equal of slices of whole numbers. Conditions stand in each lemma. -/
namespace Go.Proofs.Ytaekgifbehoipaa.Hg
open Go Go.Proofs.Ytaekgifbehoipaa.Eva Go.Proofs.Ytaekgifbehoipaa.CodeAll Go.Proofs.Ytaekgifbehoipaa.Fl
set_option linter.unusedVariables false
set_option linter.unusedSimpArgs false
set_option maxRecDepth 10000
set_option maxHeartbeats 4000000

theorem ix_drop {α : Type} {ks : List α} {j : Nat} (hj : j < ks.length) : ∃ k, ks[j]? = some k ∧ ks.drop j = k :: ks.drop (j + 1) := by
  refine ⟨ks[j], List.getElem?_eq_getElem hj, ?_⟩
  rw [List.drop_eq_getElem_cons hj]
theorem index_i {H : List Ob} {V : AV} {ks : List Int} (hs : SlL H V intC 1 ks) (hbig : ks.length ≤ 1125899906842624) (y : Int) :
    ecall E 67 [V, .int .i64 y] H = some (.int .i64 (ixGo (fun x => y == x) ks 0), H, H.length, H.length) := by
  refine call_plain e67 rfl (Nat.le_of_ble_eq_true rfl) rfl ?_
  generalize hR : ixGo (fun x => y == x) ks 0 = R
  have hlen := hs.len
  simp (config := {maxSteps := 4000000}) only [c67, hlen, SS, bne_self_eq_false, wr_def, obOf, List.all_cons, List.all_nil, List.map_cons, List.map_nil, List.length_cons, List.length_nil, List.take_zero, List.take_succ_cons, List.take_nil, List.drop_zero, List.drop_succ_cons, List.drop_nil, Nat.reduceAdd, Nat.reduceMul, Nat.reduceSub, if_true, Nat.reduceLT, Nat.reduceLeDiff, ite_true, ite_false, Nat.reduceEqDiff, if_false, reduceCtorEq, ne_eq, List.getD, List.getElem?_cons_zero, List.getElem?_cons_succ, Option.getD_some, Option.bind_some, Option.map_some, Option.isSome_some, reduceIte, List.length_append, List.append_assoc, List.cons_append, List.nil_append, Option.some.injEq, forall_const, implies_true, Int.reduceNeg, eq_self, Prod.mk.injEq, List.self_eq_append_right, List.append_nil, exists_eq_left, exists_eq_left', exists_and_left, exists_eq_right, exists_and_right]
  refine W_loop (fun q f1 h1 => ∃ j : Nat, q = ks.length - j ∧ j ≤ ks.length ∧ f1 0 = V ∧ f1 1 = .int .i64 y ∧ f1 7 = .int .i64 ks.length ∧ f1 8 = .int .i64 j ∧ ixGo (fun x => y == x) (ks.drop j) j = R) (Nat.le_refl _) ks.length ⟨0, rfl, Nat.zero_le _, rfl, rfl, rfl, rfl, hR⟩ ?_
  rintro q f1 h1 hn1 ht ⟨j, rfl, hj, e0, e1, e7, e8, hgo⟩
  rw [List.take_length] at ht
  have hH := take_eq ht
  generalize h1.drop H.length = z at hH
  subst hH
  by_cases hjl : j < ks.length
  · have hjl' : decide ((j : Int) < (ks.length : Int)) = true := by simpa using hjl
    obtain ⟨k, hk, hd⟩ := ix_drop hjl
    have hwj : IntKind.i64.wrap ((j : Int) + 1) = ((j + 1 : Nat) : Int) := by rw [wrap64 (by omega) (by omega)]; omega
    have hok : idxOk 1 V (.int .i64 (j : Int)) := hs.ok (by omega) (by omega)
    have hld : ld1A (H ++ z) (idxV 1 V (.int .i64 (j : Int))) = some (.int .i64 k) := by rw [(hs.keep z).ld0 (x := k) (by omega) (by simpa using hk)]; rfl
    rw [hd] at hgo
    simp only [ixGo] at hgo
    by_cases hyk : y = k
    · have hb : (y == k) = true := by rw [beq_iff_eq]; exact hyk
      rw [if_pos hb] at hgo
      simp (config := {maxSteps := 4000000}) only [e0, e1, e7, e8, hjl', hwj, hok, isPtr_idx hok, hld, hb, SS, bne_self_eq_false, wr_def, obOf, List.all_cons, List.all_nil, List.map_cons, List.map_nil, List.length_cons, List.length_nil, List.take_zero, List.take_succ_cons, List.take_nil, List.drop_zero, List.drop_succ_cons, List.drop_nil, Nat.reduceAdd, Nat.reduceMul, Nat.reduceSub, if_true, Nat.reduceLT, Nat.reduceLeDiff, ite_true, ite_false, Nat.reduceEqDiff, if_false, reduceCtorEq, ne_eq, List.getD, List.getElem?_cons_zero, List.getElem?_cons_succ, Option.getD_some, Option.bind_some, Option.map_some, Option.isSome_some, reduceIte, List.length_append, List.append_assoc, List.cons_append, List.nil_append, Option.some.injEq, forall_const, implies_true, Int.reduceNeg, eq_self, Prod.mk.injEq, List.self_eq_append_right, List.append_nil, exists_eq_left, exists_eq_left', exists_and_left, exists_eq_right, exists_and_right]
      rw [← hgo]
    · have hb : (y == k) = false := by rw [beq_eq_false_iff_ne]; exact hyk
      rw [if_neg (by rw [hb]; decide)] at hgo
      simp (config := {maxSteps := 4000000}) only [e0, e1, e7, e8, hjl', hwj, hok, isPtr_idx hok, hld, hb, SS, bne_self_eq_false, wr_def, obOf, List.all_cons, List.all_nil, List.map_cons, List.map_nil, List.length_cons, List.length_nil, List.take_zero, List.take_succ_cons, List.take_nil, List.drop_zero, List.drop_succ_cons, List.drop_nil, Nat.reduceAdd, Nat.reduceMul, Nat.reduceSub, if_true, Nat.reduceLT, Nat.reduceLeDiff, ite_true, ite_false, Nat.reduceEqDiff, if_false, reduceCtorEq, ne_eq, List.getD, List.getElem?_cons_zero, List.getElem?_cons_succ, Option.getD_some, Option.bind_some, Option.map_some, Option.isSome_some, reduceIte, List.length_append, List.append_assoc, List.cons_append, List.nil_append, Option.some.injEq, forall_const, implies_true, Int.reduceNeg, eq_self, Prod.mk.injEq, List.self_eq_append_right, List.append_nil, exists_eq_left, exists_eq_left', exists_and_left, exists_eq_right, exists_and_right]
      exact ⟨_, by omega, j + 1, rfl, by omega, rfl, hgo⟩
  · have hjl' : decide ((j : Int) < (ks.length : Int)) = false := by simpa using hjl
    have hd : ks.drop j = [] := List.drop_eq_nil_of_le (by omega)
    rw [hd] at hgo
    simp only [ixGo] at hgo
    subst hgo
    simp (config := {maxSteps := 8000000}) only [e0, e1, e7, e8, hjl', SS, bne_self_eq_false, wr_def, obOf, List.all_cons, List.all_nil, List.map_cons, List.map_nil, List.length_cons, List.length_nil, List.take_zero, List.take_succ_cons, List.take_nil, List.drop_zero, List.drop_succ_cons, List.drop_nil, Nat.reduceAdd, Nat.reduceMul, Nat.reduceSub, if_true, Nat.reduceLT, Nat.reduceLeDiff, ite_true, ite_false, Nat.reduceEqDiff, if_false, reduceCtorEq, ne_eq, List.getD, List.getElem?_cons_zero, List.getElem?_cons_succ, Option.getD_some, Option.bind_some, Option.map_some, Option.isSome_some, reduceIte, List.length_append, List.append_assoc, List.cons_append, List.nil_append, Option.some.injEq, forall_const, implies_true, Int.reduceNeg, eq_self, Prod.mk.injEq, List.self_eq_append_right, List.append_nil, exists_eq_left, exists_eq_left', exists_and_left, exists_eq_right, exists_and_right]
theorem contains_i {H : List Ob} {V : AV} {ks : List Int} (hs : SlL H V intC 1 ks) (hbig : ks.length ≤ 1125899906842624) (y : Int) :
    pcall E 31 [V, .int .i64 y] H = some (.bool (ks.any (fun x => y == x))) := by
  refine pcall_some.2 (call_plain e31 rfl (Nat.le_of_ble_eq_true rfl) rfl ?_)
  have h1 := pcall_some.2 (index_i hs hbig y)
  simp (config := {maxSteps := 4000000}) only [c31, h1, SS, bne_self_eq_false, wr_def, obOf, List.all_cons, List.all_nil, List.map_cons, List.map_nil, List.length_cons, List.length_nil, List.take_zero, List.take_succ_cons, List.take_nil, List.drop_zero, List.drop_succ_cons, List.drop_nil, Nat.reduceAdd, Nat.reduceMul, Nat.reduceSub, if_true, Nat.reduceLT, Nat.reduceLeDiff, ite_true, ite_false, Nat.reduceEqDiff, if_false, reduceCtorEq, ne_eq, List.getD, List.getElem?_cons_zero, List.getElem?_cons_succ, Option.getD_some, Option.bind_some, Option.map_some, Option.isSome_some, reduceIte, List.length_append, List.append_assoc, List.cons_append, List.nil_append, Option.some.injEq, forall_const, implies_true, Int.reduceNeg, eq_self, Prod.mk.injEq, List.self_eq_append_right, List.append_nil, exists_eq_left, exists_eq_left', exists_and_left, exists_eq_right, exists_and_right]
  exact congrArg AV.bool (ixGo_any _ ks 0)
theorem equal_i {H : List Ob} {V W : AV} {ks ls : List Int} (hs : SlL H V intC 1 ks) (ht : SlL H W intC 1 ls) (hbig : ks.length ≤ 1125899906842624) :
    pcall E 27 [V, W] H = some (.bool (decide (ks = ls))) := by
  refine pcall_some.2 (call_plain e27 rfl (Nat.le_of_ble_eq_true rfl) rfl ?_)
  have hlen := hs.len
  have hlen2 := ht.len
  by_cases hl : ks.length = ls.length
  · have hb : ((ks.length : Int) != (ls.length : Int)) = false := by rw [hl]; simp
    simp (config := {maxSteps := 4000000}) only [c27, hlen, hlen2, hb, SS, bne_self_eq_false, wr_def, obOf, List.all_cons, List.all_nil, List.map_cons, List.map_nil, List.length_cons, List.length_nil, List.take_zero, List.take_succ_cons, List.take_nil, List.drop_zero, List.drop_succ_cons, List.drop_nil, Nat.reduceAdd, Nat.reduceMul, Nat.reduceSub, if_true, Nat.reduceLT, Nat.reduceLeDiff, ite_true, ite_false, Nat.reduceEqDiff, if_false, reduceCtorEq, ne_eq, List.getD, List.getElem?_cons_zero, List.getElem?_cons_succ, Option.getD_some, Option.bind_some, Option.map_some, Option.isSome_some, reduceIte, List.length_append, List.append_assoc, List.cons_append, List.nil_append, Option.some.injEq, forall_const, implies_true, Int.reduceNeg, eq_self, Prod.mk.injEq, List.self_eq_append_right, List.append_nil, exists_eq_left, exists_eq_left', exists_and_left, exists_eq_right, exists_and_right]
    refine W_loop (fun q f1 h1 => ∃ j : Nat, q = ks.length - j ∧ j ≤ ks.length ∧ f1 0 = V ∧ f1 1 = W ∧ f1 12 = .int .i64 ks.length ∧ f1 13 = .int .i64 j ∧ ∀ i, i < j → ks[i]? = ls[i]?) (Nat.le_refl _) ks.length ⟨0, rfl, Nat.zero_le _, rfl, rfl, rfl, rfl, fun i h => by omega⟩ ?_
    rintro q f1 h1 hn1 ht1 ⟨j, rfl, hj, e0, e1, e12, e13, hgo⟩
    rw [List.take_length] at ht1
    have hH := take_eq ht1
    generalize h1.drop H.length = z at hH
    subst hH
    by_cases hjl : j < ks.length
    · have hjl' : decide ((j : Int) < (ks.length : Int)) = true := by simpa using hjl
      have hwj : IntKind.i64.wrap ((j : Int) + 1) = ((j + 1 : Nat) : Int) := by rw [wrap64 (by omega) (by omega)]; omega
      obtain ⟨k, hk⟩ : ∃ k, ks[j]? = some k := ⟨_, List.getElem?_eq_getElem hjl⟩
      obtain ⟨l, hlk⟩ : ∃ k, ls[j]? = some k := ⟨_, List.getElem?_eq_getElem (by omega)⟩
      have hok : idxOk 1 V (.int .i64 (j : Int)) := hs.ok (by omega) (by omega)
      have hok2 : idxOk 1 W (.int .i64 (j : Int)) := ht.ok (by omega) (by omega)
      have hld : ld1A (H ++ z) (idxV 1 V (.int .i64 (j : Int))) = some (.int .i64 k) := by rw [(hs.keep z).ld0 (x := k) (by omega) (by simpa using hk)]; rfl
      have hld2 : ld1A (H ++ z) (idxV 1 W (.int .i64 (j : Int))) = some (.int .i64 l) := by rw [(ht.keep z).ld0 (x := l) (by omega) (by simpa using hlk)]; rfl
      by_cases hkl : k = l
      · have hb : (k != l) = false := by rw [hkl]; simp
        simp (config := {maxSteps := 4000000}) only [e0, e1, e12, e13, hjl', hwj, hok, isPtr_idx hok, hld, hok2, isPtr_idx hok2, hld2, hb, SS, bne_self_eq_false, wr_def, obOf, List.all_cons, List.all_nil, List.map_cons, List.map_nil, List.length_cons, List.length_nil, List.take_zero, List.take_succ_cons, List.take_nil, List.drop_zero, List.drop_succ_cons, List.drop_nil, Nat.reduceAdd, Nat.reduceMul, Nat.reduceSub, if_true, Nat.reduceLT, Nat.reduceLeDiff, ite_true, ite_false, Nat.reduceEqDiff, if_false, reduceCtorEq, ne_eq, List.getD, List.getElem?_cons_zero, List.getElem?_cons_succ, Option.getD_some, Option.bind_some, Option.map_some, Option.isSome_some, reduceIte, List.length_append, List.append_assoc, List.cons_append, List.nil_append, Option.some.injEq, forall_const, implies_true, Int.reduceNeg, eq_self, Prod.mk.injEq, List.self_eq_append_right, List.append_nil, exists_eq_left, exists_eq_left', exists_and_left, exists_eq_right, exists_and_right]
        refine ⟨_, by omega, j + 1, rfl, by omega, rfl, fun i hi => ?_⟩
        by_cases hij : i < j
        · exact hgo i hij
        · have : i = j := by omega
          subst this; rw [hk, hlk, hkl]
      · have hb : (k != l) = true := by rw [bne_iff_ne]; exact hkl
        simp (config := {maxSteps := 4000000}) only [e0, e1, e12, e13, hjl', hwj, hok, isPtr_idx hok, hld, hok2, isPtr_idx hok2, hld2, hb, SS, bne_self_eq_false, wr_def, obOf, List.all_cons, List.all_nil, List.map_cons, List.map_nil, List.length_cons, List.length_nil, List.take_zero, List.take_succ_cons, List.take_nil, List.drop_zero, List.drop_succ_cons, List.drop_nil, Nat.reduceAdd, Nat.reduceMul, Nat.reduceSub, if_true, Nat.reduceLT, Nat.reduceLeDiff, ite_true, ite_false, Nat.reduceEqDiff, if_false, reduceCtorEq, ne_eq, List.getD, List.getElem?_cons_zero, List.getElem?_cons_succ, Option.getD_some, Option.bind_some, Option.map_some, Option.isSome_some, reduceIte, List.length_append, List.append_assoc, List.cons_append, List.nil_append, Option.some.injEq, forall_const, implies_true, Int.reduceNeg, eq_self, Prod.mk.injEq, List.self_eq_append_right, List.append_nil, exists_eq_left, exists_eq_left', exists_and_left, exists_eq_right, exists_and_right]
        have : ¬ ks = ls := fun h => by subst h; rw [hk] at hlk; exact hkl (by simpa using hlk)
        simp [this]
    · have hjl' : decide ((j : Int) < (ks.length : Int)) = false := by simpa using hjl
      simp (config := {maxSteps := 8000000}) only [e0, e1, e12, e13, hjl', SS, bne_self_eq_false, wr_def, obOf, List.all_cons, List.all_nil, List.map_cons, List.map_nil, List.length_cons, List.length_nil, List.take_zero, List.take_succ_cons, List.take_nil, List.drop_zero, List.drop_succ_cons, List.drop_nil, Nat.reduceAdd, Nat.reduceMul, Nat.reduceSub, if_true, Nat.reduceLT, Nat.reduceLeDiff, ite_true, ite_false, Nat.reduceEqDiff, if_false, reduceCtorEq, ne_eq, List.getD, List.getElem?_cons_zero, List.getElem?_cons_succ, Option.getD_some, Option.bind_some, Option.map_some, Option.isSome_some, reduceIte, List.length_append, List.append_assoc, List.cons_append, List.nil_append, Option.some.injEq, forall_const, implies_true, Int.reduceNeg, eq_self, Prod.mk.injEq, List.self_eq_append_right, List.append_nil, exists_eq_left, exists_eq_left', exists_and_left, exists_eq_right, exists_and_right]
      have : ks = ls := List.ext_getElem? fun i => by
        by_cases hi : i < j
        · exact hgo i hi
        · rw [List.getElem?_eq_none (by omega), List.getElem?_eq_none (by omega)]
      simp [this]
  · have hb : ((ks.length : Int) != (ls.length : Int)) = true := by rw [bne_iff_ne]; omega
    simp (config := {maxSteps := 4000000}) only [c27, hlen, hlen2, hb, SS, bne_self_eq_false, wr_def, obOf, List.all_cons, List.all_nil, List.map_cons, List.map_nil, List.length_cons, List.length_nil, List.take_zero, List.take_succ_cons, List.take_nil, List.drop_zero, List.drop_succ_cons, List.drop_nil, Nat.reduceAdd, Nat.reduceMul, Nat.reduceSub, if_true, Nat.reduceLT, Nat.reduceLeDiff, ite_true, ite_false, Nat.reduceEqDiff, if_false, reduceCtorEq, ne_eq, List.getD, List.getElem?_cons_zero, List.getElem?_cons_succ, Option.getD_some, Option.bind_some, Option.map_some, Option.isSome_some, reduceIte, List.length_append, List.append_assoc, List.cons_append, List.nil_append, Option.some.injEq, forall_const, implies_true, Int.reduceNeg, eq_self, Prod.mk.injEq, List.self_eq_append_right, List.append_nil, exists_eq_left, exists_eq_left', exists_and_left, exists_eq_right, exists_and_right]
    have : ¬ ks = ls := fun h => hl (by rw [h])
    simp [this]
end Go.Proofs.Ytaekgifbehoipaa.Hg
