/- What the functions of the package num answer. Conditions: none. -/
import Derived.Test.YtaekgifbehoipaaEvaW
import Derived.Test.YtaekgifbehoipaaCodeAll
import Derived.Test.YtaekgifbehoipaaEvaY
import Derived.Test.YtaekgifbehoipaaEvaI2
namespace Go.Proofs.Ytaekgifbehoipaa.Fl
open Go Go.Proofs.Ytaekgifbehoipaa.Eva Go.Proofs.Ytaekgifbehoipaa.CodeAll
set_option linter.unusedVariables false
set_option linter.unusedSimpArgs false
set_option maxRecDepth 10000
set_option maxHeartbeats 4000000

abbrev w (x : Int) : Int := IntKind.i64.wrap x

/-- The quotient, rounded down, and the error. -/
def dvd (a b : Int) : Int := if b = 0 then 0 else if (a == -9223372036854775808 && b == -1) = true then 0 else if (a.tmod b != 0 && (decide (a < 0) != decide (b < 0))) = true then w (w (a.tdiv b) - 1) else w (a.tdiv b)
def dve (a b : Int) : Int := if b = 0 then 10 else if (a == -9223372036854775808 && b == -1) = true then 2 else 0
theorem dvd_run (a b : Int) (H : List Ob) : ecall E 121 [.int .i64 a, .int .i64 b] H = some (.tup [.int .i64 (dvd a b), .int .i64 (dve a b)], H, H.length, H.length) := by
  refine call_plain e121 rfl (Nat.le_of_ble_eq_true rfl) rfl ?_
  by_cases hb : b = 0
  · subst hb
    simp (config := {maxSteps := 4000000}) only [c121, SS, bne_self_eq_false, wr_def, obOf, List.all_cons, List.all_nil, List.map_cons, List.map_nil, List.length_cons, List.length_nil, List.take_zero, List.take_succ_cons, List.take_nil, List.drop_zero, List.drop_succ_cons, List.drop_nil, Nat.reduceAdd, Nat.reduceMul, Nat.reduceSub, if_true, Nat.reduceLT, Nat.reduceLeDiff, ite_true, ite_false, Nat.reduceEqDiff, if_false, reduceCtorEq, ne_eq, List.getD, List.getElem?_cons_zero, List.getElem?_cons_succ, Option.getD_some, Option.bind_some, Option.map_some, Option.isSome_some, reduceIte, List.length_append, List.append_assoc, List.cons_append, List.nil_append, Option.some.injEq, forall_const, implies_true, Int.reduceNeg, eq_self, Prod.mk.injEq, List.self_eq_append_right, List.append_nil, exists_eq_left, exists_eq_left', exists_and_left, exists_eq_right, exists_and_right]
    simp [dvd, dve]
  · have hb' : (b == 0) = false := by simpa using hb
    simp (config := {maxSteps := 4000000}) only [c121, hb', abin_quo _ _ _ hb, abin_rem _ _ _ hb, SS, bne_self_eq_false, wr_def, obOf, List.all_cons, List.all_nil, List.map_cons, List.map_nil, List.length_cons, List.length_nil, List.take_zero, List.take_succ_cons, List.take_nil, List.drop_zero, List.drop_succ_cons, List.drop_nil, Nat.reduceAdd, Nat.reduceMul, Nat.reduceSub, if_true, Nat.reduceLT, Nat.reduceLeDiff, ite_true, ite_false, Nat.reduceEqDiff, if_false, reduceCtorEq, ne_eq, List.getD, List.getElem?_cons_zero, List.getElem?_cons_succ, Option.getD_some, Option.bind_some, Option.map_some, Option.isSome_some, reduceIte, List.length_append, List.append_assoc, List.cons_append, List.nil_append, Option.some.injEq, forall_const, implies_true, Int.reduceNeg, eq_self, Prod.mk.injEq, List.self_eq_append_right, List.append_nil, exists_eq_left, exists_eq_left', exists_and_left, exists_eq_right, exists_and_right]
    simp only [dvd, dve, if_neg hb]
    repeat' first | (refine And.intro ?_ ?_) | (intro hc; simp only [hc, if_true, Bool.false_eq_true, if_false])
    all_goals simp_all
theorem dvd_pc (a b : Int) (H : List Ob) : pcall E 121 [.int .i64 a, .int .i64 b] H = some (.tup [.int .i64 (dvd a b), .int .i64 (dve a b)]) := pcall_some.2 (dvd_run a b H)
def dvu (a b : Int) : Int := if (dve a b == 0 && a.tmod b != 0) = true then w (dvd a b + 1) else dvd a b
theorem dvu_run (a b : Int) (H : List Ob) : ecall E 122 [.int .i64 a, .int .i64 b] H = some (.tup [.int .i64 (dvu a b), .int .i64 (dve a b)], H, H.length, H.length) := by
  refine call_plain e122 rfl (Nat.le_of_ble_eq_true rfl) rfl ?_
  by_cases hb : b = 0
  · subst hb
    have h1 : (dve a 0 == 0) = false := by simp [dve]
    simp (config := {maxSteps := 4000000}) only [c122, dvd_pc, h1, SS, bne_self_eq_false, wr_def, obOf, List.all_cons, List.all_nil, List.map_cons, List.map_nil, List.length_cons, List.length_nil, List.take_zero, List.take_succ_cons, List.take_nil, List.drop_zero, List.drop_succ_cons, List.drop_nil, Nat.reduceAdd, Nat.reduceMul, Nat.reduceSub, if_true, Nat.reduceLT, Nat.reduceLeDiff, ite_true, ite_false, Nat.reduceEqDiff, if_false, reduceCtorEq, ne_eq, List.getD, List.getElem?_cons_zero, List.getElem?_cons_succ, Option.getD_some, Option.bind_some, Option.map_some, Option.isSome_some, reduceIte, List.length_append, List.append_assoc, List.cons_append, List.nil_append, Option.some.injEq, forall_const, implies_true, Int.reduceNeg, eq_self, Prod.mk.injEq, List.self_eq_append_right, List.append_nil, exists_eq_left, exists_eq_left', exists_and_left, exists_eq_right, exists_and_right]
    simp [dvu, h1]
  · simp (config := {maxSteps := 4000000}) only [c122, dvd_pc, abin_rem _ _ _ hb, SS, bne_self_eq_false, wr_def, obOf, List.all_cons, List.all_nil, List.map_cons, List.map_nil, List.length_cons, List.length_nil, List.take_zero, List.take_succ_cons, List.take_nil, List.drop_zero, List.drop_succ_cons, List.drop_nil, Nat.reduceAdd, Nat.reduceMul, Nat.reduceSub, if_true, Nat.reduceLT, Nat.reduceLeDiff, ite_true, ite_false, Nat.reduceEqDiff, if_false, reduceCtorEq, ne_eq, List.getD, List.getElem?_cons_zero, List.getElem?_cons_succ, Option.getD_some, Option.bind_some, Option.map_some, Option.isSome_some, reduceIte, List.length_append, List.append_assoc, List.cons_append, List.nil_append, Option.some.injEq, forall_const, implies_true, Int.reduceNeg, eq_self, Prod.mk.injEq, List.self_eq_append_right, List.append_nil, exists_eq_left, exists_eq_left', exists_and_left, exists_eq_right, exists_and_right]
    unfold dvu
    repeat' first | (refine And.intro ?_ ?_) | (intro hc; simp only [hc, if_true, Bool.false_eq_true, if_false])
    all_goals simp_all
theorem dvu_pc (a b : Int) (H : List Ob) : pcall E 122 [.int .i64 a, .int .i64 b] H = some (.tup [.int .i64 (dvu a b), .int .i64 (dve a b)]) := pcall_some.2 (dvu_run a b H)

/-- within. -/
def wi (n lo hi : Int) : Int := w (lo + (w (n.tmod (w (w (hi - lo) + 1)) + w (w (hi - lo) + 1))).tmod (w (w (hi - lo) + 1)))
end Go.Proofs.Ytaekgifbehoipaa.Fl
/- What Check, At of the package tube and Toward of the package plane answer. Conditions: the slice that is handed reads as told. -/
namespace Go.Proofs.Ytaekgifbehoipaa.Fl
open Go Go.Proofs.Ytaekgifbehoipaa.Eva Go.Proofs.Ytaekgifbehoipaa.CodeAll
set_option linter.unusedVariables false
set_option linter.unusedSimpArgs false
set_option maxRecDepth 10000
set_option maxHeartbeats 4000000

structure Nd where
  (t x y h r b : Int)
  deriving DecidableEq
def Nd.c (n : Nd) : List AV := [.int .i64 n.t, .int .i64 n.x, .int .i64 n.y, .int .i64 n.h, .int .i64 n.r, .int .i64 n.b]
def Nd.zero : Nd := ⟨0, 0, 0, 0, 0, 0⟩
def nout (p : Nd × Int) : AV := .tup [.agg p.1.c, .int .i64 p.2]

def pchk (x y : Int) : Int := if (decide (x < -1000000) || decide (1000000 < x) || decide (y < -1000000) || decide (1000000 < y)) then 4 else 0
theorem pchk_pc (x y : Int) (H : List Ob) : pcall E 53 [.agg [.int .i64 x, .int .i64 y]] H = some (.int .i64 (pchk x y)) := by
  refine pcall_some.2 (call_plain e53 rfl (Nat.le_of_ble_eq_true rfl) rfl ?_)
  generalize hv : AV.int .i64 (pchk x y) = v
  simp (config := {maxSteps := 4000000}) only [c53, SS, bne_self_eq_false, wr_def, obOf, List.all_cons, List.all_nil, List.map_cons, List.map_nil, List.length_cons, List.length_nil, List.take_zero, List.take_succ_cons, List.take_nil, List.drop_zero, List.drop_succ_cons, List.drop_nil, Nat.reduceAdd, Nat.reduceMul, Nat.reduceSub, if_true, Nat.reduceLT, Nat.reduceLeDiff, ite_true, ite_false, Nat.reduceEqDiff, if_false, reduceCtorEq, ne_eq, List.getD, List.getElem?_cons_zero, List.getElem?_cons_succ, Option.getD_some, Option.bind_some, Option.map_some, Option.isSome_some, reduceIte, List.length_append, List.append_assoc, List.cons_append, List.nil_append, Option.some.injEq, forall_const, implies_true, Int.reduceNeg, eq_self, Prod.mk.injEq, List.self_eq_append_right, List.append_nil, exists_eq_left, exists_eq_left', exists_and_left, exists_eq_right, exists_and_right]
  simp only [join_ite]
  subst hv
  unfold pchk
  simp only [apply_ite (AV.int .i64)]

def toward (ax ay bx «by» n d : Int) : (Int × Int) × Int :=
  if decide (d ≤ 0) then ((0, 0), 10) else
  if (decide (200000 < d) || decide (n < 0) || decide (d < n) || pchk ax ay != 0 || pchk bx «by» != 0) then ((0, 0), 4) else
  ((w (ax + dvd (w (w (bx - ax) * n)) d), w (ay + dvd (w (w («by» - ay) * n)) d)), 0)
def pout (p : (Int × Int) × Int) : AV := .tup [.agg [.int .i64 p.1.1, .int .i64 p.1.2], .int .i64 p.2]
theorem toward_pc (ax ay bx «by» n d : Int) (H : List Ob) : pcall E 101 [.agg [.int .i64 ax, .int .i64 ay], .agg [.int .i64 bx, .int .i64 «by»], .int .i64 n, .int .i64 d] H = some (pout (toward ax ay bx «by» n d)) := by
  refine pcall_some.2 (call_plain e101 rfl (Nat.le_of_ble_eq_true rfl) rfl ?_)
  generalize hv : pout (toward ax ay bx «by» n d) = v
  simp (config := {maxSteps := 4000000}) only [c101, pchk_pc, dvd_pc, SS, bne_self_eq_false, wr_def, obOf, List.all_cons, List.all_nil, List.map_cons, List.map_nil, List.length_cons, List.length_nil, List.take_zero, List.take_succ_cons, List.take_nil, List.drop_zero, List.drop_succ_cons, List.drop_nil, Nat.reduceAdd, Nat.reduceMul, Nat.reduceSub, if_true, Nat.reduceLT, Nat.reduceLeDiff, ite_true, ite_false, Nat.reduceEqDiff, if_false, reduceCtorEq, ne_eq, List.getD, List.getElem?_cons_zero, List.getElem?_cons_succ, Option.getD_some, Option.bind_some, Option.map_some, Option.isSome_some, reduceIte, List.length_append, List.append_assoc, List.cons_append, List.nil_append, Option.some.injEq, forall_const, implies_true, Int.reduceNeg, eq_self, Prod.mk.injEq, List.self_eq_append_right, List.append_nil, exists_eq_left, exists_eq_left', exists_and_left, exists_eq_right, exists_and_right]
  simp only [join_ite]
  subst hv
  unfold toward
  simp only [apply_ite pout]
  rfl
def tween (a b n d : Int) : Int := w (a + dvd (w (w (b - a) * n)) d)
def tabove (a b n d : Int) : Int := w (a + dvu (w (w (b - a) * n)) d)
theorem tween_pc (a b n d : Int) (H : List Ob) : pcall E 102 [.int .i64 a, .int .i64 b, .int .i64 n, .int .i64 d] H = some (.int .i64 (tween a b n d)) := by
  refine pcall_some.2 (call_plain e102 rfl (Nat.le_of_ble_eq_true rfl) rfl ?_)
  simp (config := {maxSteps := 4000000}) only [c102, dvd_pc, tween, SS, bne_self_eq_false, wr_def, obOf, List.all_cons, List.all_nil, List.map_cons, List.map_nil, List.length_cons, List.length_nil, List.take_zero, List.take_succ_cons, List.take_nil, List.drop_zero, List.drop_succ_cons, List.drop_nil, Nat.reduceAdd, Nat.reduceMul, Nat.reduceSub, if_true, Nat.reduceLT, Nat.reduceLeDiff, ite_true, ite_false, Nat.reduceEqDiff, if_false, reduceCtorEq, ne_eq, List.getD, List.getElem?_cons_zero, List.getElem?_cons_succ, Option.getD_some, Option.bind_some, Option.map_some, Option.isSome_some, reduceIte, List.length_append, List.append_assoc, List.cons_append, List.nil_append, Option.some.injEq, forall_const, implies_true, Int.reduceNeg, eq_self, Prod.mk.injEq, List.self_eq_append_right, List.append_nil, exists_eq_left, exists_eq_left', exists_and_left, exists_eq_right, exists_and_right]
theorem tabove_pc (a b n d : Int) (H : List Ob) : pcall E 103 [.int .i64 a, .int .i64 b, .int .i64 n, .int .i64 d] H = some (.int .i64 (tabove a b n d)) := by
  refine pcall_some.2 (call_plain e103 rfl (Nat.le_of_ble_eq_true rfl) rfl ?_)
  simp (config := {maxSteps := 4000000}) only [c103, dvu_pc, tabove, SS, bne_self_eq_false, wr_def, obOf, List.all_cons, List.all_nil, List.map_cons, List.map_nil, List.length_cons, List.length_nil, List.take_zero, List.take_succ_cons, List.take_nil, List.drop_zero, List.drop_succ_cons, List.drop_nil, Nat.reduceAdd, Nat.reduceMul, Nat.reduceSub, if_true, Nat.reduceLT, Nat.reduceLeDiff, ite_true, ite_false, Nat.reduceEqDiff, if_false, reduceCtorEq, ne_eq, List.getD, List.getElem?_cons_zero, List.getElem?_cons_succ, Option.getD_some, Option.bind_some, Option.map_some, Option.isSome_some, reduceIte, List.length_append, List.append_assoc, List.cons_append, List.nil_append, Option.some.injEq, forall_const, implies_true, Int.reduceNeg, eq_self, Prod.mk.injEq, List.self_eq_append_right, List.append_nil, exists_eq_left, exists_eq_left', exists_and_left, exists_eq_right, exists_and_right]

/-! ### Check -/
def tgo : Option Int → List Nd → Int
  | _, [] => 0
  | pv, n :: r =>
    if (decide (n.t < 0) || decide (200000 < n.t) || (match pv with | none => false | some p => decide (n.t ≤ p))) = true then 12
    else if (pchk n.x n.y != 0) = true then pchk n.x n.y
    else if (decide (n.h < 0) || decide (60000 < n.h) || decide (n.r < 0) || decide (1000000 < n.r) || decide (n.b < 0) || decide (60000 < n.b)) = true then 4
    else tgo (some n.t) r
def tchk (l : List Nd) : Int := if 64 < l.length then 2 else if l.length = 0 then 3 else tgo none l

theorem tchk_run {H : List Ob} {V : AV} {l : List Nd} (hs : SlL H V Nd.c 6 l) : ecall E 18 [V] H = some (.int .i64 (tchk l), H, H.length, H.length) := by
  refine call_plain e18 rfl (Nat.le_of_ble_eq_true rfl) rfl ?_
  generalize hR : tchk l = R
  unfold tchk at hR
  have hlen := hs.len
  by_cases c1 : 64 < l.length
  · rw [if_pos c1] at hR
    subst hR
    have c1' : decide ((64 : Int) < (l.length : Int)) = true := by simp; omega
    simp (config := {maxSteps := 4000000}) only [c18, hlen, c1', SS, bne_self_eq_false, wr_def, obOf, List.all_cons, List.all_nil, List.map_cons, List.map_nil, List.length_cons, List.length_nil, List.take_zero, List.take_succ_cons, List.take_nil, List.drop_zero, List.drop_succ_cons, List.drop_nil, Nat.reduceAdd, Nat.reduceMul, Nat.reduceSub, if_true, Nat.reduceLT, Nat.reduceLeDiff, ite_true, ite_false, Nat.reduceEqDiff, if_false, reduceCtorEq, ne_eq, List.getD, List.getElem?_cons_zero, List.getElem?_cons_succ, Option.getD_some, Option.bind_some, Option.map_some, Option.isSome_some, reduceIte, List.length_append, List.append_assoc, List.cons_append, List.nil_append, Option.some.injEq, forall_const, implies_true, Int.reduceNeg, eq_self, Prod.mk.injEq, List.self_eq_append_right, List.append_nil, exists_eq_left, exists_eq_left', exists_and_left, exists_eq_right, exists_and_right]
  rw [if_neg c1] at hR
  have c1' : decide ((64 : Int) < (l.length : Int)) = false := by simp; omega
  by_cases c2 : l.length = 0
  · rw [if_pos c2] at hR
    subst hR
    have c2' : ((l.length : Int) == 0) = true := by simp; exact List.length_eq_zero_iff.1 c2
    simp (config := {maxSteps := 4000000}) only [c18, hlen, c1', c2', SS, bne_self_eq_false, wr_def, obOf, List.all_cons, List.all_nil, List.map_cons, List.map_nil, List.length_cons, List.length_nil, List.take_zero, List.take_succ_cons, List.take_nil, List.drop_zero, List.drop_succ_cons, List.drop_nil, Nat.reduceAdd, Nat.reduceMul, Nat.reduceSub, if_true, Nat.reduceLT, Nat.reduceLeDiff, ite_true, ite_false, Nat.reduceEqDiff, if_false, reduceCtorEq, ne_eq, List.getD, List.getElem?_cons_zero, List.getElem?_cons_succ, Option.getD_some, Option.bind_some, Option.map_some, Option.isSome_some, reduceIte, List.length_append, List.append_assoc, List.cons_append, List.nil_append, Option.some.injEq, forall_const, implies_true, Int.reduceNeg, eq_self, Prod.mk.injEq, List.self_eq_append_right, List.append_nil, exists_eq_left, exists_eq_left', exists_and_left, exists_eq_right, exists_and_right]
  rw [if_neg c2] at hR
  have c2' : ((l.length : Int) == 0) = false := by simp; exact fun h => c2 (by rw [h]; rfl)
  simp (config := {maxSteps := 4000000}) only [c18, hlen, c1', c2', SS, bne_self_eq_false, wr_def, obOf, List.all_cons, List.all_nil, List.map_cons, List.map_nil, List.length_cons, List.length_nil, List.take_zero, List.take_succ_cons, List.take_nil, List.drop_zero, List.drop_succ_cons, List.drop_nil, Nat.reduceAdd, Nat.reduceMul, Nat.reduceSub, if_true, Nat.reduceLT, Nat.reduceLeDiff, ite_true, ite_false, Nat.reduceEqDiff, if_false, reduceCtorEq, ne_eq, List.getD, List.getElem?_cons_zero, List.getElem?_cons_succ, Option.getD_some, Option.bind_some, Option.map_some, Option.isSome_some, reduceIte, List.length_append, List.append_assoc, List.cons_append, List.nil_append, Option.some.injEq, forall_const, implies_true, Int.reduceNeg, eq_self, Prod.mk.injEq, List.self_eq_append_right, List.append_nil, exists_eq_left, exists_eq_left', exists_and_left, exists_eq_right, exists_and_right]
  refine W_loop (fun q f1 h1 => ∃ j : Nat, q = l.length - j ∧ j ≤ l.length ∧ f1 0 = V ∧ f1 14 = V ∧ f1 15 = .int .i64 l.length ∧ f1 16 = .int .i64 j ∧ SlL h1 V Nd.c 6 l ∧ tgo (if j = 0 then none else (l[j - 1]?).map Nd.t) (l.drop j) = R) (Nat.le_refl _) l.length ⟨0, rfl, Nat.zero_le _, rfl, rfl, rfl, rfl, hs, hR⟩ ?_
  rintro q f1 h1 hn1 _ ⟨j, rfl, hj, e0, e14, e15, e16, hs1, hgo⟩
  by_cases hjl : j < l.length
  · have hjl' : decide ((j : Int) < (l.length : Int)) = true := by simpa using hjl
    obtain ⟨n, hn⟩ : ∃ n, l[j]? = some n := ⟨_, List.getElem?_eq_getElem hjl⟩
    have hd : l.drop j = n :: l.drop (j + 1) := by
      rw [List.drop_eq_getElem_cons hjl]; congr 1
      rw [List.getElem?_eq_getElem hjl] at hn; simpa using hn
    have hwj : IntKind.i64.wrap ((j : Int) + 1) = ((j + 1 : Nat) : Int) := by rw [wrap64 (by omega) (by omega)]; omega
    have hok : idxOk 6 V (.int .i64 (j : Int)) := hs1.ok (by omega) (by omega)
    have hld : ldnA 6 h1 (idxV 6 V (.int .i64 (j : Int))) = _ := hs1.ldn (x := n) (by omega) (by simpa using hn)
    simp only [Nd.c] at hld
    rw [hd] at hgo
    simp only [tgo] at hgo
    by_cases hj0 : j = 0
    · have hgt : decide ((0 : Int) < (j : Int)) = false := by simp [hj0]
      simp (config := {maxSteps := 8000000}) only [e0, e14, e15, e16, hjl', hwj, hok, hld, hgt, pchk_pc, isPtr_fad, fad_fad, SS, bne_self_eq_false, wr_def, obOf, List.all_cons, List.all_nil, List.map_cons, List.map_nil, List.length_cons, List.length_nil, List.take_zero, List.take_succ_cons, List.take_nil, List.drop_zero, List.drop_succ_cons, List.drop_nil, Nat.reduceAdd, Nat.reduceMul, Nat.reduceSub, if_true, Nat.reduceLT, Nat.reduceLeDiff, ite_true, ite_false, Nat.reduceEqDiff, if_false, reduceCtorEq, ne_eq, List.getD, List.getElem?_cons_zero, List.getElem?_cons_succ, Option.getD_some, Option.bind_some, Option.map_some, Option.isSome_some, reduceIte, List.length_append, List.append_assoc, List.cons_append, List.nil_append, Option.some.injEq, forall_const, implies_true, Int.reduceNeg, eq_self, Prod.mk.injEq, List.self_eq_append_right, List.append_nil, exists_eq_left, exists_eq_left', exists_and_left, exists_eq_right, exists_and_right]
      rw [if_pos hj0] at hgo
      simp only [Bool.or_false] at hgo
      refine ⟨hn1, fun k1 => ?_, fun k1 => ⟨by omega, fun k2 => ?_, fun k2 => ⟨fun k3 => ?_, fun k3 => ?_⟩⟩⟩
      · rw [if_pos k1] at hgo; subst hgo; rfl
      · rw [if_neg (by simpa using k1), if_pos k2] at hgo; subst hgo; rfl
      · rw [if_neg (by simpa using k1), if_neg (by simpa using k2), if_pos k3] at hgo; subst hgo; rfl
      · rw [if_neg (by simpa using k1), if_neg (by simpa using k2), if_neg (by simpa using k3)] at hgo
        exact ⟨_, by omega, j + 1, rfl, by omega, rfl, hs1.keep _, by rw [if_neg (by omega)]; simp only [Nat.add_sub_cancel, hn]; exact hgo⟩
    · have hgt : decide ((0 : Int) < (j : Int)) = true := by simp; omega
      obtain ⟨p, hp⟩ : ∃ p, l[j - 1]? = some p := ⟨_, List.getElem?_eq_getElem (by omega)⟩
      have hwm : IntKind.i64.wrap ((j : Int) - 1) = ((j - 1 : Nat) : Int) := by rw [wrap64 (by omega) (by omega)]; omega
      have hok' : idxOk 6 V (.int .i64 ((j - 1 : Nat) : Int)) := hs1.ok (by omega) (by omega)
      have hld' : ∀ x, ld1A (h1 ++ x) (fadA (0 + 0) (idxV 6 V (.int .i64 ((j - 1 : Nat) : Int)))) = _ := fun x => (hs1.keep x).ldc (x := p) (by omega) (by simpa using hp) (by decide)
      simp only [Nd.c, Nat.add_zero] at hld'
      simp (config := {maxSteps := 8000000}) only [e0, e14, e15, e16, hjl', hwj, hwm, hok, hld, hok', isPtr_idx hok', hld', hgt, pchk_pc, isPtr_fad, fad_fad, SS, bne_self_eq_false, wr_def, obOf, List.all_cons, List.all_nil, List.map_cons, List.map_nil, List.length_cons, List.length_nil, List.take_zero, List.take_succ_cons, List.take_nil, List.drop_zero, List.drop_succ_cons, List.drop_nil, Nat.reduceAdd, Nat.reduceMul, Nat.reduceSub, if_true, Nat.reduceLT, Nat.reduceLeDiff, ite_true, ite_false, Nat.reduceEqDiff, if_false, reduceCtorEq, ne_eq, List.getD, List.getElem?_cons_zero, List.getElem?_cons_succ, Option.getD_some, Option.bind_some, Option.map_some, Option.isSome_some, reduceIte, List.length_append, List.append_assoc, List.cons_append, List.nil_append, Option.some.injEq, forall_const, implies_true, Int.reduceNeg, eq_self, Prod.mk.injEq, List.self_eq_append_right, List.append_nil, exists_eq_left, exists_eq_left', exists_and_left, exists_eq_right, exists_and_right]
      rw [if_neg hj0, hp] at hgo
      simp only [Option.map_some] at hgo
      refine ⟨hn1, fun k1 => ?_, fun k1 => ⟨by omega, fun k2 => ?_, fun k2 => ⟨fun k3 => ?_, fun k3 => ?_⟩⟩⟩
      · rw [if_pos k1] at hgo; subst hgo; rfl
      · rw [if_neg (by simpa using k1), if_pos k2] at hgo; subst hgo; rfl
      · rw [if_neg (by simpa using k1), if_neg (by simpa using k2), if_pos k3] at hgo; subst hgo; rfl
      · rw [if_neg (by simpa using k1), if_neg (by simpa using k2), if_neg (by simpa using k3)] at hgo
        exact ⟨_, by omega, j + 1, rfl, by omega, rfl, hs1.keep _, by rw [if_neg (by omega)]; simp only [Nat.add_sub_cancel, hn]; exact hgo⟩
  · have hjl' : decide ((j : Int) < (l.length : Int)) = false := by simpa using hjl
    have hd : l.drop j = [] := List.drop_eq_nil_of_le (by omega)
    rw [hd] at hgo
    simp only [tgo] at hgo
    subst hgo
    simp (config := {maxSteps := 8000000}) only [e0, e14, e15, e16, hjl', SS, bne_self_eq_false, wr_def, obOf, List.all_cons, List.all_nil, List.map_cons, List.map_nil, List.length_cons, List.length_nil, List.take_zero, List.take_succ_cons, List.take_nil, List.drop_zero, List.drop_succ_cons, List.drop_nil, Nat.reduceAdd, Nat.reduceMul, Nat.reduceSub, if_true, Nat.reduceLT, Nat.reduceLeDiff, ite_true, ite_false, Nat.reduceEqDiff, if_false, reduceCtorEq, ne_eq, List.getD, List.getElem?_cons_zero, List.getElem?_cons_succ, Option.getD_some, Option.bind_some, Option.map_some, Option.isSome_some, reduceIte, List.length_append, List.append_assoc, List.cons_append, List.nil_append, Option.some.injEq, forall_const, implies_true, Int.reduceNeg, eq_self, Prod.mk.injEq, List.self_eq_append_right, List.append_nil, exists_eq_left, exists_eq_left', exists_and_left, exists_eq_right, exists_and_right]
theorem tchk_pc {H : List Ob} {V : AV} {l : List Nd} (hs : SlL H V Nd.c 6 l) : pcall E 18 [V] H = some (.int .i64 (tchk l)) := pcall_some.2 (tchk_run hs)
theorem tchk_ne {l : List Nd} (h : tchk l = 0) : l ≠ [] := by
  intro hl; subst hl; exact absurd h (by decide)

theorem tchk_len {l : List Nd} (h : tchk l = 0) : l.length ≤ 64 := by
  unfold tchk at h
  split at h
  · omega
  · omega

/-! ### At -/
/-- The node with a number. -/
def nd (l : List Nd) (i : Nat) : Nd := l.getD i Nd.zero
def segGo (t : Int) : List Nd → Nat → Nat
  | [], k => k
  | n :: r, k => if n.t ≤ t then segGo t r (k + 1) else k
def tnode (a b : Nd) (t : Int) : Nd := ⟨t, (toward a.x a.y b.x b.y (w (t - a.t)) (w (b.t - a.t))).1.1, (toward a.x a.y b.x b.y (w (t - a.t)) (w (b.t - a.t))).1.2, tween a.h b.h (w (t - a.t)) (w (b.t - a.t)), tabove a.r b.r (w (t - a.t)) (w (b.t - a.t)), tabove a.b b.b (w (t - a.t)) (w (b.t - a.t))⟩
def tat (l : List Nd) (t : Int) : Nd × Int :=
  if t < (nd l 0).t ∨ (nd l (l.length - 1)).t < t then (Nd.zero, 12)
  else if (nd l (segGo t (l.drop 1) 0)).t = t then (nd l (segGo t (l.drop 1) 0), 0)
  else (tnode (nd l (segGo t (l.drop 1) 0)) (nd l (segGo t (l.drop 1) 0 + 1)) t, 0)

theorem at_run {H : List Ob} {V : AV} {l : List Nd} (hs : SlL H V Nd.c 6 l) (hc : tchk l = 0) (t : Int) : ecall E 66 [V, .int .i64 t] H = some (nout (tat l t), H, H.length, H.length) := by
  refine call_plain e66 rfl (Nat.le_of_ble_eq_true rfl) rfl ?_
  generalize hR : tat l t = R
  unfold tat at hR
  have hlen := hs.len
  have hget : ∀ i, i < l.length → l[i]? = some (nd l i) := fun i hi => by rw [nd, List.getD_eq_getElem?_getD, List.getElem?_eq_getElem hi]; rfl
  have hbig := tchk_len hc
  have hne := tchk_ne hc
  have hpos : 0 < l.length := List.length_pos_iff.2 hne
  have hwl : IntKind.i64.wrap ((l.length : Int) - 1) = ((l.length - 1 : Nat) : Int) := by rw [wrap64 (by omega) (by omega)]; omega
  have hok0 : idxOk 6 V (.int .i64 0) := hs.ok (by omega) (by omega)
  have hok1 : idxOk 6 V (.int .i64 ((l.length - 1 : Nat) : Int)) := hs.ok (by omega) (by omega)
  have hl0 : ∀ x, ld1A (H ++ x) (fadA (0 + 0) (idxV 6 V (.int .i64 0))) = _ := fun x => (hs.keep x).ldc (i := 0) (x := nd l 0) (by omega) (hget 0 hpos) (by decide)
  have hl1 : ∀ x, ld1A (H ++ x) (fadA (0 + 0) (idxV 6 V (.int .i64 ((l.length - 1 : Nat) : Int)))) = _ := fun x => (hs.keep x).ldc (x := nd l (l.length - 1)) (by omega) (by rw [Int.toNat_natCast]; exact hget (l.length - 1) (by omega)) (by decide)
  simp only [Nd.c, Nat.add_zero] at hl0 hl1
  by_cases c1 : t < (nd l 0).t ∨ (nd l (l.length - 1)).t < t
  · rw [if_pos c1] at hR
    subst hR
    have c1' : (decide (t < (nd l 0).t) || decide ((nd l (l.length - 1)).t < t)) = true := by simpa using c1
    simp (config := {maxSteps := 4000000}) only [c66, hlen, hwl, hok0, hok1, hl0, hl1, c1', isPtr_idx hok0, isPtr_idx hok1, SS, bne_self_eq_false, wr_def, obOf, List.all_cons, List.all_nil, List.map_cons, List.map_nil, List.length_cons, List.length_nil, List.take_zero, List.take_succ_cons, List.take_nil, List.drop_zero, List.drop_succ_cons, List.drop_nil, Nat.reduceAdd, Nat.reduceMul, Nat.reduceSub, if_true, Nat.reduceLT, Nat.reduceLeDiff, ite_true, ite_false, Nat.reduceEqDiff, if_false, reduceCtorEq, ne_eq, List.getD, List.getElem?_cons_zero, List.getElem?_cons_succ, Option.getD_some, Option.bind_some, Option.map_some, Option.isSome_some, reduceIte, List.length_append, List.append_assoc, List.cons_append, List.nil_append, Option.some.injEq, forall_const, implies_true, Int.reduceNeg, eq_self, Prod.mk.injEq, List.self_eq_append_right, List.append_nil, exists_eq_left, exists_eq_left', exists_and_left, exists_eq_right, exists_and_right]
    simp [nout, Nd.c, Nd.zero]
  rw [if_neg c1] at hR
  have c1' : (decide (t < (nd l 0).t) || decide ((nd l (l.length - 1)).t < t)) = false := by simpa using c1
  generalize hK : segGo t (l.drop 1) 0 = K at hR
  simp (config := {maxSteps := 4000000}) only [c66, hlen, hwl, hok0, hok1, hl0, hl1, c1', isPtr_idx hok0, isPtr_idx hok1, SS, bne_self_eq_false, wr_def, obOf, List.all_cons, List.all_nil, List.map_cons, List.map_nil, List.length_cons, List.length_nil, List.take_zero, List.take_succ_cons, List.take_nil, List.drop_zero, List.drop_succ_cons, List.drop_nil, Nat.reduceAdd, Nat.reduceMul, Nat.reduceSub, if_true, Nat.reduceLT, Nat.reduceLeDiff, ite_true, ite_false, Nat.reduceEqDiff, if_false, reduceCtorEq, ne_eq, List.getD, List.getElem?_cons_zero, List.getElem?_cons_succ, Option.getD_some, Option.bind_some, Option.map_some, Option.isSome_some, reduceIte, List.length_append, List.append_assoc, List.cons_append, List.nil_append, Option.some.injEq, forall_const, implies_true, Int.reduceNeg, eq_self, Prod.mk.injEq, List.self_eq_append_right, List.append_nil, exists_eq_left, exists_eq_left', exists_and_left, exists_eq_right, exists_and_right]
  refine W_loop (fun q f1 h1 => ∃ j : Nat, q = l.length - j ∧ j < l.length ∧ f1 0 = V ∧ f1 1 = .int .i64 t ∧ f1 4 = .ptr H.length 0 0 ∧ f1 6 = .int .i64 j ∧ SlL h1 V Nd.c 6 l ∧ (nd l j).t ≤ t ∧ segGo t (l.drop (j + 1)) j = K ∧ rdObj h1 H.length 0 = some ⟨Nd.zero.c, 0, 0, true, true⟩) (by simp) l.length ⟨0, rfl, hpos, rfl, rfl, rfl, rfl, hs.keep _, by omega, hK, rd_last (o := ⟨Nd.zero.c, 0, 0, true, true⟩)⟩ ?_
  rintro q f1 h1 hn1 _ ⟨j, rfl, hj, e0, e1, e4, e6, hs1, hjt, hgo, r4⟩
  have r4' : ∀ l, rdObj (h1 ++ l) H.length 0 = _ := fun l => rd_keep r4
  simp only [Nd.c, Nd.zero] at r4 r4'
  have hwj : IntKind.i64.wrap ((j : Int) + 1) = ((j + 1 : Nat) : Int) := by rw [wrap64 (by omega) (by omega)]; omega
  have hokj : idxOk 6 V (.int .i64 (j : Int)) := hs1.ok (by omega) (by omega)
  have hldj : ldnA 6 h1 (idxV 6 V (.int .i64 (j : Int))) = _ := hs1.ldn (x := nd l j) (by omega) (by rw [Int.toNat_natCast]; exact hget j hj)
  simp only [Nd.c] at hldj
  by_cases hj1 : j + 1 < l.length
  · have hlt : decide (((j + 1 : Nat) : Int) < (l.length : Int)) = true := by simp; omega
    have hok2 : idxOk 6 V (.int .i64 ((j + 1 : Nat) : Int)) := hs1.ok (by omega) (by omega)
    have hlc : ld1A h1 (fadA (0 + 0) (idxV 6 V (.int .i64 ((j + 1 : Nat) : Int)))) = _ := hs1.ldc (x := nd l (j + 1)) (by omega) (by rw [Int.toNat_natCast]; exact hget (j + 1) hj1) (by decide)
    have hld2 : ∀ x, ldnA 6 (h1 ++ x) (idxV 6 V (.int .i64 ((j + 1 : Nat) : Int))) = _ := fun x => (hs1.keep x).ldn (x := nd l (j + 1)) (by omega) (by rw [Int.toNat_natCast]; exact hget (j + 1) hj1)
    simp only [Nd.c, Nat.add_zero] at hlc hld2
    have hd : l.drop (j + 1) = nd l (j + 1) :: l.drop (j + 1 + 1) := by
      rw [List.drop_eq_getElem_cons hj1]; congr 1
      have := hget (j + 1) hj1
      rw [List.getElem?_eq_getElem hj1] at this; simpa using this
    rw [hd] at hgo
    simp only [segGo] at hgo
    simp (config := {maxSteps := 8000000}) only [e0, e1, e4, e6, r4, r4', hlen, hwj, hokj, hldj, hlt, hok2, hlc, hld2, isPtr_idx hok2, toward_pc, tween_pc, tabove_pc, pout, rd_put_same (r4' _), SS, bne_self_eq_false, wr_def, obOf, List.all_cons, List.all_nil, List.map_cons, List.map_nil, List.length_cons, List.length_nil, List.take_zero, List.take_succ_cons, List.take_nil, List.drop_zero, List.drop_succ_cons, List.drop_nil, Nat.reduceAdd, Nat.reduceMul, Nat.reduceSub, if_true, Nat.reduceLT, Nat.reduceLeDiff, ite_true, ite_false, Nat.reduceEqDiff, if_false, reduceCtorEq, ne_eq, List.getD, List.getElem?_cons_zero, List.getElem?_cons_succ, Option.getD_some, Option.bind_some, Option.map_some, Option.isSome_some, reduceIte, List.length_append, List.append_assoc, List.cons_append, List.nil_append, Option.some.injEq, forall_const, implies_true, Int.reduceNeg, eq_self, Prod.mk.injEq, List.self_eq_append_right, List.append_nil, exists_eq_left, exists_eq_left', exists_and_left, exists_eq_right, exists_and_right]
    refine ⟨fun k1 => ?_, fun k1 => ⟨hn1, fun k2 => ?_, fun k2 => ⟨by omega, by omega, by omega, by omega, by omega, by omega, ?_⟩⟩⟩
    · have k1' : (nd l (j + 1)).t ≤ t := by simpa using k1
      rw [if_pos k1'] at hgo
      exact ⟨_, by omega, j + 1, rfl, by omega, rfl, hs1, k1', hgo, rfl⟩
    · have k1' : ¬ (nd l (j + 1)).t ≤ t := by simpa using k1
      rw [if_neg k1'] at hgo
      subst hgo
      rw [if_pos (by simpa using k2)] at hR
      subst hR; rfl
    · have k1' : ¬ (nd l (j + 1)).t ≤ t := by simpa using k1
      rw [if_neg k1'] at hgo
      subst hgo
      rw [if_neg (by simpa using k2)] at hR
      subst hR; rfl
  · have hlt : decide (((j + 1 : Nat) : Int) < (l.length : Int)) = false := by simp; omega
    have hd : l.drop (j + 1) = [] := List.drop_eq_nil_of_le (by omega)
    rw [hd] at hgo
    simp only [segGo] at hgo
    subst hgo
    have hjl : j = l.length - 1 := by omega
    have hjt' : (nd l j).t = t := by subst hjl; omega
    have hjt2 : ((nd l j).t == t) = true := by simpa using hjt'
    rw [if_pos hjt'] at hR
    subst hR
    simp (config := {maxSteps := 8000000}) only [e0, e1, e4, e6, r4, r4', hlen, hwj, hokj, hldj, hlt, hjt2, rd_put_same (r4' _), SS, bne_self_eq_false, wr_def, obOf, List.all_cons, List.all_nil, List.map_cons, List.map_nil, List.length_cons, List.length_nil, List.take_zero, List.take_succ_cons, List.take_nil, List.drop_zero, List.drop_succ_cons, List.drop_nil, Nat.reduceAdd, Nat.reduceMul, Nat.reduceSub, if_true, Nat.reduceLT, Nat.reduceLeDiff, ite_true, ite_false, Nat.reduceEqDiff, if_false, reduceCtorEq, ne_eq, List.getD, List.getElem?_cons_zero, List.getElem?_cons_succ, Option.getD_some, Option.bind_some, Option.map_some, Option.isSome_some, reduceIte, List.length_append, List.append_assoc, List.cons_append, List.nil_append, Option.some.injEq, forall_const, implies_true, Int.reduceNeg, eq_self, Prod.mk.injEq, List.self_eq_append_right, List.append_nil, exists_eq_left, exists_eq_left', exists_and_left, exists_eq_right, exists_and_right]
    exact ⟨hn1, rfl⟩
end Go.Proofs.Ytaekgifbehoipaa.Fl
/- Arithmetic: wraps and divisions that round. -/
namespace Go.Proofs.Ytaekgifbehoipaa.Fl
open Go Go.Proofs.Ytaekgifbehoipaa.Eva Go.Proofs.Ytaekgifbehoipaa.CodeAll
set_option linter.unusedVariables false
set_option linter.unusedSimpArgs false
set_option maxRecDepth 10000
set_option maxHeartbeats 4000000

theorem w_lo (x : Int) : -9223372036854775808 ≤ w x := by
  simp only [w, IntKind.wrap, IntKind.signed, IntKind.bits, Bool.true_and]
  split <;> rename_i hc <;> simp only [decide_eq_true_eq, ge_iff_le] at hc <;> omega
theorem w_hi (x : Int) : w x ≤ 9223372036854775807 := by
  simp only [w, IntKind.wrap, IntKind.signed, IntKind.bits, Bool.true_and]
  split <;> rename_i hc <;> simp only [decide_eq_true_eq, ge_iff_le] at hc <;> omega
theorem w_id {x : Int} (h1 : -9223372036854775808 ≤ x) (h2 : x ≤ 9223372036854775807) : w x = x := wrap64 h1 h2

/-- Division that rounds down is Lean's. -/
theorem dvd_eq {a b : Int} (hb : 0 < b) (h1 : -9223372036854775808 < a) (h2 : a ≤ 9223372036854775807) : dvd a b = a / b := by
  unfold dvd
  rw [if_neg (by omega), if_neg (by simp; omega)]
  have hd := Int.mul_tdiv_add_tmod a b
  have hm1 := Int.tmod_lt_of_pos a hb
  have hm0 := Int.lt_tmod_of_pos a hb
  have hq : -9223372036854775808 < a.tdiv b ∧ a.tdiv b ≤ 9223372036854775807 := by
    constructor
    · rcases Int.le_total 0 a with h | h
      · have := Int.tdiv_nonneg h (Int.le_of_lt hb); omega
      · have : (-a).tdiv b ≤ -a := Int.tdiv_le_self b (by omega)
        rw [Int.neg_tdiv] at this; omega
    · rcases Int.le_total 0 a with h | h
      · have := Int.tdiv_le_self (a := a) b h; omega
      · have : 0 ≤ (-a).tdiv b := Int.tdiv_nonneg (by omega) (Int.le_of_lt hb)
        rw [Int.neg_tdiv] at this; omega
  have key : ∀ q r : Int, b * q + r = a → 0 ≤ r → r < b → a / b = q := by
    intro q r e h1 h2
    rw [← e, Int.add_comm, Int.add_mul_ediv_left _ _ (by omega), Int.ediv_eq_zero_of_lt h1 h2]; omega
  split
  · rename_i hc
    simp only [bne_iff_ne, ne_eq, Bool.and_eq_true, decide_eq_decide] at hc
    have hneg : a.tmod b < 0 := by
      have := Int.tmod_nonneg (a := a) b
      by_cases ha : 0 ≤ a
      · exact absurd ⟨fun h => by omega, fun h => by omega⟩ hc.2
      · have h3 : 0 ≤ (-a).tmod b := Int.tmod_nonneg b (by omega)
        rw [Int.neg_tmod] at h3; omega
    have e1 := w_id (x := a.tdiv b) (by omega) (by omega)
    rw [e1, w_id (by omega) (by omega)]
    exact (key _ (a.tmod b + b) (by rw [Int.mul_sub]; omega) (by omega) (by omega)).symm
  · rename_i hc
    simp only [bne_iff_ne, ne_eq, Bool.and_eq_true, decide_eq_decide, not_and, Classical.not_not] at hc
    rw [w_id (by omega) (by omega)]
    refine (key _ (a.tmod b) hd ?_ hm1).symm
    by_cases hz : a.tmod b = 0
    · omega
    · have := hc hz
      exact Int.tmod_nonneg b (by omega)
theorem dve_pos {a b : Int} (hb : 0 < b) : dve a b = 0 := by
  unfold dve
  rw [if_neg (by omega), if_neg (by simp; omega)]
/-- Division that rounds up. -/
theorem dvu_eq {a b : Int} (hb : 0 < b) (h1 : -9223372036854775808 < a) (h2 : a ≤ 9223372036854775807) : dvu a b = -(-a / b) := by
  unfold dvu
  rw [dve_pos hb, dvd_eq hb h1 h2]
  have hd := Int.mul_tdiv_add_tmod a b
  have he := Int.mul_ediv_add_emod a b
  have he0 := Int.emod_nonneg a (b := b) (by omega)
  have he1 := Int.emod_lt_of_pos a hb
  have hz : a.tmod b = 0 ↔ a % b = 0 := by
    constructor
    · intro h; exact Int.emod_eq_zero_of_dvd (Int.dvd_of_tmod_eq_zero h)
    · intro h; exact Int.tmod_eq_zero_of_dvd (Int.dvd_of_emod_eq_zero h)
  have key : ∀ q r : Int, b * q + r = -a → 0 ≤ r → r < b → -a / b = q := by
    intro q r e h1 h2
    rw [← e, Int.add_comm, Int.add_mul_ediv_left _ _ (by omega), Int.ediv_eq_zero_of_lt h1 h2]; omega
  have hlo : -9223372036854775808 ≤ a / b ∧ (a % b ≠ 0 → a / b < 9223372036854775807) := by
    constructor
    · rcases Int.le_total 0 a with h | h
      · have := Int.ediv_nonneg h (Int.le_of_lt hb); omega
      · have : a ≤ a / b := by
          apply Int.le_ediv_of_mul_le hb
          have : a * b ≤ a * 1 := Int.mul_le_mul_of_nonpos_left h (by omega)
          omega
        omega
    · intro hne
      rcases Int.le_total 0 a with h | h
      · by_cases hb1 : b = 1
        · subst hb1; omega
        · have : a / b < a ∨ a = 0 := by
            by_cases ha : a = 0
            · exact Or.inr ha
            · exact Or.inl (Int.ediv_lt_self_of_pos_of_ne_one (by omega) hb1)
          rcases this with h | h
          · omega
          · subst h; simp at hne
      · have : a / b ≤ 0 := by
          have h9 := Int.ediv_le_ediv hb h
          rwa [Int.zero_ediv] at h9
        omega
  by_cases hr : a % b = 0
  · have h3 : a.tmod b = 0 := hz.2 hr
    simp only [h3, bne_self_eq_false, Bool.and_false, Bool.false_eq_true, if_false]
    rw [key (-(a / b)) 0 (by rw [Int.mul_neg]; omega) (by omega) hb]; omega
  · have h3 : ¬ a.tmod b = 0 := fun h => hr (hz.1 h)
    have h4 : ((0 : Int) == 0 && a.tmod b != 0) = true := by simp [h3]
    rw [if_pos h4]
    have := hlo.2 hr
    rw [w_id (by omega) (by omega), key (-(a / b) - 1) (b - a % b) (by rw [Int.mul_sub, Int.mul_neg]; omega) (by omega) (by omega)]; omega
theorem wi_bd {n lo hi : Int} (h0 : lo ≤ hi) (h1 : -1000000000000 ≤ lo) (h2 : hi ≤ 1000000000000) : lo ≤ wi n lo hi ∧ wi n lo hi ≤ hi := by
  unfold wi
  have e1 : w (w (hi - lo) + 1) = hi - lo + 1 := by
    have := w_id (x := hi - lo) (by omega) (by omega)
    rw [this]; exact w_id (by omega) (by omega)
  rw [e1]
  have a1 := Int.lt_tmod_of_pos n (show 0 < hi - lo + 1 by omega)
  have a2 := Int.tmod_lt_of_pos n (show 0 < hi - lo + 1 by omega)
  rw [w_id (x := n.tmod (hi - lo + 1) + (hi - lo + 1)) (by omega) (by omega)]
  have a3 := Int.tmod_nonneg (a := n.tmod (hi - lo + 1) + (hi - lo + 1)) (hi - lo + 1) (by omega)
  have a4 := Int.tmod_lt_of_pos (n.tmod (hi - lo + 1) + (hi - lo + 1)) (show 0 < hi - lo + 1 by omega)
  rw [w_id (by omega) (by omega)]
  omega
theorem wi_nz {lo hi : Int} (h0 : lo ≤ hi) (h1 : -1000000000000 ≤ lo) (h2 : hi ≤ 1000000000000) : w (w (hi - lo) + 1) ≠ 0 := by
  have := w_id (x := hi - lo) (by omega) (by omega)
  rw [this, w_id (by omega) (by omega)]; omega
end Go.Proofs.Ytaekgifbehoipaa.Fl
/- Plain facts about tubes: what a valid tube is, its nodes between. Conditions stand in each lemma. -/
namespace Go.Proofs.Ytaekgifbehoipaa.Fl
open Go Go.Proofs.Ytaekgifbehoipaa.Eva Go.Proofs.Ytaekgifbehoipaa.CodeAll
set_option linter.unusedVariables false
set_option linter.unusedSimpArgs false
set_option maxRecDepth 10000
set_option maxHeartbeats 4000000

/-- A valid node. -/
structure Nd.Ok (n : Nd) : Prop where
  t0 : 0 ≤ n.t
  t1 : n.t ≤ 200000
  x0 : -1000000 ≤ n.x
  x1 : n.x ≤ 1000000
  y0 : -1000000 ≤ n.y
  y1 : n.y ≤ 1000000
  h0 : 0 ≤ n.h
  h1 : n.h ≤ 60000
  r0 : 0 ≤ n.r
  r1 : n.r ≤ 1000000
  b0 : 0 ≤ n.b
  b1 : n.b ≤ 60000
theorem pchk_ok {x y : Int} (h : pchk x y = 0) : -1000000 ≤ x ∧ x ≤ 1000000 ∧ -1000000 ≤ y ∧ y ≤ 1000000 := by
  unfold pchk at h
  split at h
  · omega
  · rename_i hc
    simp only [Bool.or_eq_true, decide_eq_true_eq, not_or, Int.not_lt] at hc
    omega
def late1 (pv : Option Int) (t : Int) : Bool := match pv with | none => false | some p => decide (t ≤ p)
theorem tgo_cons (pv : Option Int) (n : Nd) (r : List Nd) : tgo pv (n :: r) =
    if (decide (n.t < 0) || decide (200000 < n.t) || late1 pv n.t) = true then 12
    else if (pchk n.x n.y != 0) = true then pchk n.x n.y
    else if (decide (n.h < 0) || decide (60000 < n.h) || decide (n.r < 0) || decide (1000000 < n.r) || decide (n.b < 0) || decide (60000 < n.b)) = true then 4
    else tgo (some n.t) r := by cases pv <;> rfl
theorem tgo_ok : ∀ (l : List Nd) (pv : Option Int), tgo pv l = 0 → (∀ n ∈ l, n.Ok) ∧ (∀ i : Nat, i + 1 < l.length → (nd l i).t < (nd l (i + 1)).t) ∧ (∀ p n r, pv = some p → l = n :: r → p < n.t)
  | [], pv, _ => ⟨by simp, fun i hi => by simp at hi, fun p n r _ h => by cases h⟩
  | n :: r, pv, h => by
    rw [tgo_cons] at h
    by_cases c1 : (decide (n.t < 0) || decide (200000 < n.t) || late1 pv n.t) = true
    · rw [if_pos c1] at h; omega
    rw [if_neg c1] at h
    by_cases c2 : (pchk n.x n.y != 0) = true
    · rw [if_pos c2] at h; rw [h] at c2; simp at c2
    rw [if_neg c2] at h
    by_cases c3 : (decide (n.h < 0) || decide (60000 < n.h) || decide (n.r < 0) || decide (1000000 < n.r) || decide (n.b < 0) || decide (60000 < n.b)) = true
    · rw [if_pos c3] at h; omega
    rw [if_neg c3] at h
    obtain ⟨i1, i2, i3⟩ := tgo_ok r (some n.t) h
    have hp := pchk_ok (x := n.x) (y := n.y) (by simpa using c2)
    simp only [Bool.or_eq_true, decide_eq_true_eq, not_or, Int.not_lt] at c1 c3
    refine ⟨fun m hm => ?_, fun i hi => ?_, fun p m s hp hl => ?_⟩
    · rcases List.mem_cons.1 hm with rfl | hm
      · constructor <;> omega
      · exact i1 m hm
    · cases i with
      | zero =>
        cases r with
        | nil => simp at hi
        | cons m s => exact i3 n.t m s rfl rfl
      | succ i =>
        have := i2 i (by simp at hi; omega)
        simpa [nd] using this
    · simp only [List.cons.injEq] at hl
      obtain ⟨rfl, rfl⟩ := hl
      subst hp
      have := c1.2
      simp only [late1, decide_eq_true_eq, Int.not_le] at this
      exact this
theorem tchk_ok {l : List Nd} (h : tchk l = 0) : l ≠ [] ∧ (∀ n ∈ l, n.Ok) ∧ (∀ i : Nat, i + 1 < l.length → (nd l i).t < (nd l (i + 1)).t) := by
  refine ⟨tchk_ne h, ?_⟩
  unfold tchk at h
  split at h
  · omega
  · split at h
    · omega
    · have := tgo_ok l none h
      exact ⟨this.1, this.2.1⟩
theorem nd_mem {l : List Nd} {i : Nat} (h : i < l.length) : nd l i ∈ l := by
  unfold nd
  rw [List.getD_eq_getElem?_getD, List.getElem?_eq_getElem h]
  exact List.getElem_mem h
theorem segGo_spec (t : Int) : ∀ (r : List Nd) (k : Nat), k ≤ segGo t r k ∧ segGo t r k ≤ k + r.length ∧ (∀ i : Nat, k ≤ i → i < segGo t r k → (nd r (i - k)).t ≤ t) ∧ (segGo t r k < k + r.length → t < (nd r (segGo t r k - k)).t)
  | [], k => by
    simp only [segGo]
    exact ⟨Nat.le_refl _, by simp, fun i h1 h2 => by omega, fun h => by simp at h⟩
  | n :: r, k => by
    simp only [segGo]
    split
    · rename_i hn
      obtain ⟨h1, h2, h3, h4⟩ := segGo_spec t r (k + 1)
      refine ⟨by omega, by simp; omega, fun i hi1 hi2 => ?_, fun h => ?_⟩
      · by_cases hik : i = k
        · subst hik; simpa [nd] using hn
        · have := h3 i (by omega) hi2
          have e : i - k = (i - (k + 1)) + 1 := by omega
          rw [e]; simpa [nd] using this
      · have := h4 (by simp at h; omega)
        have e : segGo t r (k + 1) - k = (segGo t r (k + 1) - (k + 1)) + 1 := by omega
        rw [e]; simpa [nd] using this
    · rename_i hn
      exact ⟨Nat.le_refl _, by omega, fun i h1 h2 => by omega, fun _ => by simp [nd]; omega⟩

/-- Between two numbers. -/
theorem mix_in {a b n d lo hi : Int} (hd : 0 < d) (n0 : 0 ≤ n) (n1 : n ≤ d) (a0 : lo ≤ a) (a1 : a ≤ hi) (b0 : lo ≤ b) (b1 : b ≤ hi) : lo ≤ a + (b - a) * n / d ∧ a + (b - a) * n / d ≤ hi := by
  have m1 : (lo - a) * d ≤ (b - a) * n := by
    have k1 := Int.mul_nonneg (show 0 ≤ a - lo by omega) (show 0 ≤ d - n by omega)
    have k2 := Int.mul_nonneg (show 0 ≤ b - lo by omega) n0
    simp only [Int.sub_mul, Int.mul_sub] at k1 k2 ⊢
    omega
  have m2 : (b - a) * n ≤ (hi - a) * d := by
    have k1 := Int.mul_nonneg (show 0 ≤ hi - a by omega) (show 0 ≤ d - n by omega)
    have k2 := Int.mul_nonneg (show 0 ≤ hi - b by omega) n0
    simp only [Int.sub_mul, Int.mul_sub] at k1 k2 ⊢
    omega
  have d1 := Int.le_ediv_of_mul_le hd m1
  have d2 := Int.ediv_le_of_le_mul hd m2
  omega
theorem mixup_in {a b n d lo hi : Int} (hd : 0 < d) (n0 : 0 ≤ n) (n1 : n ≤ d) (a0 : lo ≤ a) (a1 : a ≤ hi) (b0 : lo ≤ b) (b1 : b ≤ hi) : lo ≤ a + -(-((b - a) * n) / d) ∧ a + -(-((b - a) * n) / d) ≤ hi := by
  have := mix_in (a := -a) (b := -b) (lo := -hi) (hi := -lo) hd n0 n1 (by omega) (by omega) (by omega) (by omega)
  have e : (-b - -a) * n = -((b - a) * n) := by rw [← Int.neg_mul]; congr 1; omega
  rw [e] at this; omega

theorem tat_ok {l : List Nd} (h : tchk l = 0) {t : Int} {n : Nd} (hn : tat l t = (n, 0)) : (nd l 0).t ≤ t ∧ t ≤ (nd l (l.length - 1)).t ∧ n.Ok ∧ 0 ≤ t ∧ t ≤ 200000 := by
  obtain ⟨hne, hok, hinc⟩ := tchk_ok h
  have hlen := tchk_len h
  have hpos : 0 < l.length := List.length_pos_iff.2 hne
  unfold tat at hn
  split at hn
  · simp only [Prod.mk.injEq] at hn; omega
  rename_i c1
  have o0 := hok _ (nd_mem hpos)
  have o1 := hok _ (nd_mem (show l.length - 1 < l.length by omega))
  have t0 := o0.t0; have t1 := o1.t1
  obtain ⟨s1, s2, s3, s4⟩ := segGo_spec t (l.drop 1) 0
  have e1 : ∀ i, nd (l.drop 1) i = nd l (i + 1) := fun i => by unfold nd; rw [List.getD_eq_getElem?_getD, List.getD_eq_getElem?_getD, List.getElem?_drop, Nat.add_comm]
  generalize segGo t (l.drop 1) 0 = k at s1 s2 s3 s4 hn
  simp only [Nat.sub_zero, Nat.zero_add, List.length_drop, e1] at s2 s3 s4
  have hk : k < l.length := by omega
  have ok := hok _ (nd_mem hk)
  refine ⟨by omega, by omega, ?_, by omega, by omega⟩
  split at hn
  · simp only [Prod.mk.injEq, and_true] at hn
    subst hn; exact ok
  · rename_i c2
    simp only [Prod.mk.injEq, and_true] at hn
    subst hn
    have hkt : (nd l k).t ≤ t := by
      cases k with
      | zero => omega
      | succ j => exact s3 j (by omega) (by omega)
    have hk1 : k + 1 < l.length := by
      by_cases hc : k + 1 < l.length
      · exact hc
      · have : k = l.length - 1 := by omega
        subst this; omega
    have ob := hok _ (nd_mem hk1)
    have hlt := s4 (by omega)
    generalize nd l k = a at ok hkt c2
    generalize nd l (k + 1) = b at ob hlt
    have a1 := ok.t0; have a2 := ok.t1; have a3 := ok.x0; have a4 := ok.x1; have a5 := ok.y0; have a6 := ok.y1; have a7 := ok.h0; have a8 := ok.h1; have a9 := ok.r0; have a10 := ok.r1; have a11 := ok.b0; have a12 := ok.b1
    have b1 := ob.t0; have b2 := ob.t1; have b3 := ob.x0; have b4 := ob.x1; have b5 := ob.y0; have b6 := ob.y1; have b7 := ob.h0; have b8 := ob.h1; have b9 := ob.r0; have b10 := ob.r1; have b11 := ob.b0; have b12 := ob.b1
    have wn : w (t - a.t) = t - a.t := w_id (by omega) (by omega)
    have wd : w (b.t - a.t) = b.t - a.t := w_id (by omega) (by omega)
    have down : ∀ u v lo hi : Int, lo ≤ u → u ≤ hi → lo ≤ v → v ≤ hi → -10000000 ≤ lo → hi ≤ 10000000 → lo ≤ w (u + dvd (w (w (v - u) * (t - a.t))) (b.t - a.t)) ∧ w (u + dvd (w (w (v - u) * (t - a.t))) (b.t - a.t)) ≤ hi := by
      intro u v lo hi h1 h2 h3 h4 h5 h6
      have m := mix_in (a := u) (b := v) (n := t - a.t) (d := b.t - a.t) (by omega) (by omega) (by omega) h1 h2 h3 h4
      have k1 := Int.mul_nonneg (show 0 ≤ 20000000 - (v - u) by omega) (show 0 ≤ t - a.t by omega)
      have k2 := Int.mul_nonneg (show 0 ≤ 20000000 + (v - u) by omega) (show 0 ≤ t - a.t by omega)
      have k3 : (20000000 : Int) * (t - a.t) ≤ 20000000 * 200000 := Int.mul_le_mul_of_nonneg_left (by omega) (by omega)
      rw [Int.sub_mul] at k1; rw [Int.add_mul] at k2
      rw [w_id (x := v - u) (by omega) (by omega), w_id (x := (v - u) * (t - a.t)) (by omega) (by omega), dvd_eq (by omega) (by omega) (by omega), w_id (by omega) (by omega)]
      exact m
    have up : ∀ u v lo hi : Int, lo ≤ u → u ≤ hi → lo ≤ v → v ≤ hi → -10000000 ≤ lo → hi ≤ 10000000 → lo ≤ w (u + dvu (w (w (v - u) * (t - a.t))) (b.t - a.t)) ∧ w (u + dvu (w (w (v - u) * (t - a.t))) (b.t - a.t)) ≤ hi := by
      intro u v lo hi h1 h2 h3 h4 h5 h6
      have m := mixup_in (a := u) (b := v) (n := t - a.t) (d := b.t - a.t) (by omega) (by omega) (by omega) h1 h2 h3 h4
      have k1 := Int.mul_nonneg (show 0 ≤ 20000000 - (v - u) by omega) (show 0 ≤ t - a.t by omega)
      have k2 := Int.mul_nonneg (show 0 ≤ 20000000 + (v - u) by omega) (show 0 ≤ t - a.t by omega)
      have k3 : (20000000 : Int) * (t - a.t) ≤ 20000000 * 200000 := Int.mul_le_mul_of_nonneg_left (by omega) (by omega)
      rw [Int.sub_mul] at k1; rw [Int.add_mul] at k2
      rw [w_id (x := v - u) (by omega) (by omega), w_id (x := (v - u) * (t - a.t)) (by omega) (by omega), dvu_eq (by omega) (by omega) (by omega), w_id (by omega) (by omega)]
      exact m
    have hpa : pchk a.x a.y = 0 := by unfold pchk; rw [if_neg]; simp only [Bool.or_eq_true, decide_eq_true_eq]; omega
    have hpb : pchk b.x b.y = 0 := by unfold pchk; rw [if_neg]; simp only [Bool.or_eq_true, decide_eq_true_eq]; omega
    have htw : toward a.x a.y b.x b.y (t - a.t) (b.t - a.t) = ((w (a.x + dvd (w (w (b.x - a.x) * (t - a.t))) (b.t - a.t)), w (a.y + dvd (w (w (b.y - a.y) * (t - a.t))) (b.t - a.t))), 0) := by
      unfold toward
      rw [if_neg (by simp only [decide_eq_true_eq]; omega), if_neg]
      simp only [hpa, hpb, Bool.or_eq_true, decide_eq_true_eq, bne_self_eq_false, Bool.false_eq_true, or_false]; omega
    have q1 := down a.x b.x (-1000000) 1000000 (by omega) (by omega) (by omega) (by omega) (by omega) (by omega)
    have q2 := down a.y b.y (-1000000) 1000000 (by omega) (by omega) (by omega) (by omega) (by omega) (by omega)
    have q3 := down a.h b.h 0 60000 (by omega) (by omega) (by omega) (by omega) (by omega) (by omega)
    have q4 := up a.r b.r 0 1000000 (by omega) (by omega) (by omega) (by omega) (by omega) (by omega)
    have q5 := up a.b b.b 0 60000 (by omega) (by omega) (by omega) (by omega) (by omega) (by omega)
    unfold tnode
    rw [wn, wd, htw]
    exact ⟨by show 0 ≤ t; omega, by show t ≤ 200000; omega, q1.1, q1.2, q2.1, q2.2, q3.1, q3.2, q4.1, q4.2, q5.1, q5.2⟩

end Go.Proofs.Ytaekgifbehoipaa.Fl
/- The square root of a float that stands for a positive whole number, made whole: between 1 and 2^53. Conditions stand in each lemma. -/
namespace Go.Proofs.Ytaekgifbehoipaa.Sq
open Go Go.Proofs.Ytaekgifbehoipaa.Eva Ieee

theorem log2_bd {m : Nat} (hm : m ≠ 0) : 2 ^ m.log2 ≤ m ∧ m < 2 ^ (m.log2 + 1) := ⟨Nat.log2_self_le hm, Nat.lt_log2_self⟩

theorem cut_zero_drop (n : Nat) : Toward.even.cut false n 0 = n := by
  simp [Toward.cut, Nat.mod_one]
theorem cut_bd {n d : Nat} (hd : d ≤ n.log2 + 2) : n / 2 ^ d ≤ Toward.even.cut false n d ∧ Toward.even.cut false n d ≤ n / 2 ^ d + 1 := by
  have e : (1 : Nat) <<< min d (n.log2 + 2) = 2 ^ d := by rw [Nat.min_eq_left hd, Nat.one_shiftLeft]
  simp only [Toward.cut, e]
  refine ⟨Nat.le_add_right _ _, Nat.add_le_add_left ?_ _⟩
  exact Bool.toNat_le _

theorem lp : double.leastPlace = -1074 := by decide
theorem bn : double.binade = 2 ^ 52 := rfl
theorem ir : double.infRung = 2047 * 2 ^ 52 := rfl

theorem nearest_pos {m : Nat} {p : Int} (hm : m ≠ 0) (h1 : -1022 ≤ p + m.log2) (h2 : p + m.log2 ≤ 1022) :
    ∃ kept, 2 ^ 52 ≤ kept ∧ kept ≤ 2 ^ 53 ∧ double.nearest false m p = (p + m.log2 + 1022).toNat * 2 ^ 52 + kept := by
  obtain ⟨b1, b2⟩ := log2_bd hm
  generalize hL : m.log2 = L at *
  have hlast : max (p + (L : Int) - 52) (-1074) = p + L - 52 := by omega
  have key : ∃ kept, 2 ^ 52 ≤ kept ∧ kept ≤ 2 ^ 53 ∧ Toward.even.cut false (m <<< (p - (p + (L : Int) - 52)).toNat) ((p + (L : Int) - 52) - p).toNat = kept := by
    refine ⟨_, ?_, ?_, rfl⟩ <;> by_cases hc : L ≤ 52
    · have e1 : (p - (p + (L : Int) - 52)).toNat = 52 - L := by omega
      have e2 : ((p + (L : Int) - 52) - p).toNat = 0 := by omega
      rw [e1, e2, cut_zero_drop, Nat.shiftLeft_eq]
      calc 2 ^ 52 = 2 ^ L * 2 ^ (52 - L) := by rw [← Nat.pow_add]; congr 1; omega
        _ ≤ m * 2 ^ (52 - L) := Nat.mul_le_mul_right _ b1
    · have e1 : (p - (p + (L : Int) - 52)).toNat = 0 := by omega
      have e2 : ((p + (L : Int) - 52) - p).toNat = L - 52 := by omega
      rw [e1, e2, Nat.shiftLeft_zero]
      refine Nat.le_trans ?_ (cut_bd (by rw [hL]; omega)).1
      rw [Nat.le_div_iff_mul_le (Nat.two_pow_pos _), ← Nat.pow_add]
      have : 52 + (L - 52) = L := by omega
      rw [this]; exact b1
    · have e1 : (p - (p + (L : Int) - 52)).toNat = 52 - L := by omega
      have e2 : ((p + (L : Int) - 52) - p).toNat = 0 := by omega
      rw [e1, e2, cut_zero_drop, Nat.shiftLeft_eq]
      calc m * 2 ^ (52 - L) ≤ 2 ^ (L + 1) * 2 ^ (52 - L) := Nat.mul_le_mul_right _ (Nat.le_of_lt b2)
        _ = 2 ^ 53 := by rw [← Nat.pow_add]; congr 1; omega
    · have e1 : (p - (p + (L : Int) - 52)).toNat = 0 := by omega
      have e2 : ((p + (L : Int) - 52) - p).toNat = L - 52 := by omega
      rw [e1, e2, Nat.shiftLeft_zero]
      refine Nat.le_trans (cut_bd (by rw [hL]; omega)).2 ?_
      have : m / 2 ^ (L - 52) < 2 ^ 53 := by
        rw [Nat.div_lt_iff_lt_mul (Nat.two_pow_pos _), ← Nat.pow_add]
        have : 53 + (L - 52) = L + 1 := by omega
        rw [this]; exact b2
      omega
  obtain ⟨kept, k1, k2, k3⟩ := key
  refine ⟨kept, k1, k2, ?_⟩
  unfold Format.nearest
  rw [if_neg hm]
  simp only [lp, bn, ir, hL]
  have hf : (double.fractionBits : Int) = 52 := rfl
  rw [hf, hlast, k3]
  have e3 : (p + (L : Int) - 52 - -1074).toNat = (p + L + 1022).toNat := by congr 1; omega
  rw [e3]
  have hle : (p + (L : Int) + 1022).toNat * 2 ^ 52 + kept ≤ 2047 * 2 ^ 52 := by omega
  rw [Nat.min_eq_left hle]
  simp [Format.word]

theorem read_pos {e kept : Nat} (h1 : 2 ^ 52 ≤ kept) (h2 : kept ≤ 2 ^ 53) (he : e ≤ 2044) :
    ∃ M P, double.read (e * 2 ^ 52 + kept) = .number false M P ∧ 2 ^ 52 ≤ M ∧ M < 2 ^ 53 ∧ (P = -1074 + e ∨ P = -1074 + e + 1) := by
  have hsw : double.signWeight = 2 ^ 63 := rfl
  have hlt : e * 2 ^ 52 + kept < 2 ^ 63 := by omega
  have e1 : (e * 2 ^ 52 + kept) / 2 ^ 63 = 0 := Nat.div_eq_of_lt hlt
  have e2 : (e * 2 ^ 52 + kept) % 2 ^ 63 = e * 2 ^ 52 + kept := Nat.mod_eq_of_lt hlt
  unfold Format.read
  simp only [hsw, e1, e2, bn, ir, lp]
  rw [if_neg (by omega), if_pos (by omega)]
  refine ⟨_, _, rfl, by omega, by have := Nat.mod_lt (e * 2 ^ 52 + kept) (show 2 ^ 52 > 0 by decide); omega, ?_⟩
  omega

theorem rootFrom_ge (n : Nat) : ∀ (t r : Nat), r ≤ Datum.rootFrom n t r
  | 0, r => Nat.le_refl _
  | t + 1, r => by
    simp only [Datum.rootFrom]
    split
    · exact Nat.le_trans (Nat.le_add_right _ _) (rootFrom_ge n t _)
    · exact rootFrom_ge n t r
theorem rootFrom_sq (n : Nat) : ∀ (t r : Nat), r * r ≤ n → Datum.rootFrom n t r * Datum.rootFrom n t r ≤ n
  | 0, r, h => h
  | t + 1, r, h => by
    simp only [Datum.rootFrom]
    split
    · rename_i h2
      exact rootFrom_sq n t _ h2
    · exact rootFrom_sq n t r h
theorem rootFrom_low (n k : Nat) (hk : 2 ^ k * 2 ^ k ≤ n) : ∀ (t : Nat), k < t → 2 ^ k ≤ Datum.rootFrom n t 0
  | 0, h => by omega
  | t + 1, h => by
    simp only [Datum.rootFrom, Nat.zero_add, Nat.one_shiftLeft]
    by_cases hkt : k = t
    · subst hkt
      rw [if_pos hk]
      exact rootFrom_ge n k _
    · split
      · exact Nat.le_trans (Nat.pow_le_pow_right (by decide) (by omega)) (rootFrom_ge n t _)
      · exact rootFrom_low n k hk t (by omega)

theorem log2_of {m k : Nat} (h1 : 2 ^ k ≤ m) (h2 : m < 2 ^ (k + 1)) : m.log2 = k := by
  have hm : m ≠ 0 := by have := Nat.two_pow_pos k; omega
  exact (Nat.log2_eq_iff hm).2 ⟨h1, h2⟩

theorem root_pos {M : Nat} {i : Int} (h1 : 2 ^ 52 ≤ M) (h2 : M < 2 ^ 53) :
    ∃ R, (Datum.number false M i).root 54 = some (.number false R ((i - (56 + (i % 2).toNat : Nat)) / 2 - 1)) ∧ 2 ^ 55 ≤ R ∧ R < 2 ^ 56 := by
  have hM : M ≠ 0 := by omega
  have hl : M.log2 = 52 := log2_of h1 h2
  have hb : (i - 56) % 2 = i % 2 := by omega
  simp only [Datum.root, if_neg hM, hl, Bool.false_eq_true, if_false]
  have e56 : ((2 * 54 - 52 : Nat) : Int) = 56 := rfl
  have e56' : (2 * 54 - 52 : Nat) = 56 := rfl
  rw [e56, hb, e56']
  generalize hn : M <<< (56 + (i % 2).toNat) = n
  have hn1 : 2 ^ 108 ≤ n := by
    rw [← hn, Nat.shiftLeft_eq, Nat.pow_add]
    have h9 : 1 ≤ 2 ^ (i % 2).toNat := Nat.one_le_two_pow
    calc 2 ^ 108 = 2 ^ 52 * (2 ^ 56 * 1) := by decide
      _ ≤ M * (2 ^ 56 * 2 ^ (i % 2).toNat) := Nat.mul_le_mul h1 (Nat.mul_le_mul_left _ h9)
  have hn2 : n < 2 ^ 110 := by
    rw [← hn, Nat.shiftLeft_eq]
    have h9 : 56 + (i % 2).toNat ≤ 57 := by omega
    calc M * 2 ^ (56 + (i % 2).toNat) < 2 ^ 53 * 2 ^ (56 + (i % 2).toNat) := Nat.mul_lt_mul_of_pos_right h2 (Nat.two_pow_pos _)
      _ ≤ 2 ^ 53 * 2 ^ 57 := Nat.mul_le_mul_left _ (Nat.pow_le_pow_right (by decide) h9)
      _ = 2 ^ 110 := by decide
  have hn0 : n ≠ 0 := by omega
  have hlg : 108 ≤ n.log2 := by
    rw [Nat.le_log2 hn0]; exact hn1
  generalize hw : Datum.rootFrom n (n.log2 / 2 + 1) 0 = whole
  have w1 : 2 ^ 54 ≤ whole := by rw [← hw]; exact rootFrom_low n 54 (by omega) _ (by omega)
  have w2 : whole * whole ≤ n := by rw [← hw]; exact rootFrom_sq n _ 0 (by omega)
  have w3 : whole < 2 ^ 55 := Nat.lt_of_not_le fun h => by
    have := Nat.mul_le_mul h h
    omega
  refine ⟨_, rfl, by omega, ?_⟩
  have hb2 := Bool.toNat_le (whole * whole != n)
  omega

/-- The conversion of a positive number, its root, and that made whole. -/
theorem sqrt_ok {n : Int} (h1 : 1 ≤ n) (h2 : n < 2 ^ 63) : ∃ y r, FloatKind.f64.format.sqrt (FloatKind.f64.nearest n) = some y ∧ acfi .i64 (.flt .f64 y) = some (.int .i64 r) ∧ 1 ≤ r ∧ r < 2 ^ 53 := by
  have hm : n.natAbs ≠ 0 := by omega
  have hlg : n.natAbs.log2 ≤ 62 := by
    have : n.natAbs.log2 < 63 := (Nat.log2_lt hm).2 (by omega)
    omega
  obtain ⟨k, k1, k2, k3⟩ := nearest_pos (p := 0) hm (by omega) (by omega)
  have e0 : FloatKind.f64.nearest n = double.nearest false n.natAbs 0 := by
    have : decide (n < 0) = false := by simp; omega
    simp only [FloatKind.nearest, FloatKind.encode, FloatKind.format, Format.write, this]
  have ef : FloatKind.f64.format = double := rfl
  obtain ⟨M, P, r1, r2, r3, r4⟩ := read_pos (e := (0 + (n.natAbs.log2 : Int) + 1022).toNat) k1 k2 (by omega)
  obtain ⟨R, t1, t2, t3⟩ := root_pos (i := P) r2 r3
  have hR : R ≠ 0 := by omega
  have hRl : R.log2 = 55 := log2_of t2 t3
  generalize hq : (P - (56 + (P % 2).toNat : Nat)) / 2 - 1 = q at t1
  have hq1 : -55 ≤ q := by omega
  have hq2 : q ≤ -24 := by omega
  obtain ⟨k', k1', k2', k3'⟩ := nearest_pos (p := q) hR (by omega) (by omega)
  obtain ⟨M', P', r1', r2', r3', r4'⟩ := read_pos (e := (q + (R.log2 : Int) + 1022).toNat) k1' k2' (by omega)
  refine ⟨double.nearest false R q, ?_⟩
  have s1 : FloatKind.f64.format.sqrt (FloatKind.f64.nearest n) = some (double.nearest false R q) := by
    have e2 : double.fractionBits + 2 = 54 := rfl
    rw [ef, e0, k3]
    unfold Format.sqrt
    rw [r1, e2, t1]
    rfl
  have hd : FloatKind.f64.decode (double.nearest false R q) = .number false M' P' := by
    rw [k3']; exact r1'
  have hP1 : (-P').toNat ≤ 52 := by omega
  have hP2 : P'.toNat = 0 := by omega
  have hl' : M'.log2 = 52 := log2_of r2' r3'
  have hc : Toward.zero.cut false (M' <<< P'.toNat) (-P').toNat = M' / 2 ^ (-P').toNat := by
    rw [hP2, Nat.shiftLeft_zero]
    have e : (1 : Nat) <<< min (-P').toNat (M'.log2 + 2) = 2 ^ (-P').toNat := by rw [Nat.min_eq_left (by omega), Nat.one_shiftLeft]
    simp only [Toward.cut, e, Bool.toNat_false, Nat.add_zero]
  have hi : (FloatKind.f64.decode (double.nearest false R q)).toInt .zero = some ((M' / 2 ^ (-P').toNat : Nat) : Int) := by
    rw [hd]
    simp only [Datum.toInt, Datum.integral, hc, signed, Bool.false_eq_true, if_false, Nat.shiftLeft_zero]
  have v1 : 1 ≤ M' / 2 ^ (-P').toNat := by
    rw [Nat.le_div_iff_mul_le (Nat.two_pow_pos _), Nat.one_mul]
    exact Nat.le_trans (Nat.pow_le_pow_right (by decide) hP1) r2'
  have v2 : M' / 2 ^ (-P').toNat < 2 ^ 53 := Nat.lt_of_le_of_lt (Nat.div_le_self _ _) r3'
  refine ⟨((M' / 2 ^ (-P').toNat : Nat) : Int), s1, ?_, by omega, by omega⟩
  have b1 : IntKind.i64.min = -9223372036854775808 := rfl
  have b2 : IntKind.i64.max = 9223372036854775807 := rfl
  simp only [acfi, hi, b1, b2]
  rw [if_pos (by omega)]
end Go.Proofs.Ytaekgifbehoipaa.Sq
/- What Root of the package num answers: the whole part of the square root. Conditions stand in each lemma. -/
namespace Go.Proofs.Ytaekgifbehoipaa.Fl
open Go Go.Proofs.Ytaekgifbehoipaa.Eva Go.Proofs.Ytaekgifbehoipaa.CodeAll
set_option linter.unusedVariables false
set_option linter.unusedSimpArgs false
set_option maxRecDepth 10000
set_option maxHeartbeats 4000000

/-- The whole part of the square root; 0 where there is none. -/
def IsRt (n r : Int) : Prop := (n ≤ 0 ∧ r = 0) ∨ (0 < n ∧ 0 ≤ r ∧ r * r ≤ n ∧ n < (r + 1) * (r + 1))
theorem rt_ex (n : Int) : ∃ r, IsRt n r := by
  by_cases h : n ≤ 0
  · exact ⟨0, .inl ⟨h, rfl⟩⟩
  · have key : ∀ k : Nat, ∃ r : Int, 0 ≤ r ∧ r * r ≤ k ∧ (k : Int) < (r + 1) * (r + 1) := by
      intro k
      induction k with
      | zero => exact ⟨0, by omega, by simp, by simp⟩
      | succ k ih =>
        obtain ⟨r, h0, h1, h2⟩ := ih
        by_cases hc : (r + 1) * (r + 1) ≤ ((k + 1 : Nat) : Int)
        · refine ⟨r + 1, by omega, hc, ?_⟩
          have : (r + 1 + 1) * (r + 1 + 1) = (r + 1) * (r + 1) + 2 * r + 3 := by grind
          omega
        · exact ⟨r, h0, by omega, by omega⟩
    obtain ⟨r, h0, h1, h2⟩ := key n.toNat
    exact ⟨r, .inr ⟨by omega, h0, by omega, by omega⟩⟩
noncomputable def rt (n : Int) : Int := Classical.choose (rt_ex n)
theorem rt_spec (n : Int) : IsRt n (rt n) := Classical.choose_spec (rt_ex n)
theorem sq_mono {a b : Int} (h0 : 0 ≤ a) (h : a ≤ b) : a * a ≤ b * b := Int.mul_le_mul h h h0 (by omega)
theorem rt_uniq {n r s : Int} (h : IsRt n r) (h' : IsRt n s) : r = s := by
  rcases h with ⟨h, rfl⟩ | ⟨h, a0, a1, a2⟩ <;> rcases h' with ⟨h', rfl⟩ | ⟨h', b0, b1, b2⟩ <;> (try omega)
  refine Classical.byContradiction fun hne => ?_
  rcases Int.lt_or_gt_of_ne hne with hc | hc
  · have := sq_mono (a := r + 1) (b := s) (by omega) (by omega)
    omega
  · have := sq_mono (a := s + 1) (b := r) (by omega) (by omega)
    omega
theorem rt_eq {n r : Int} (h : IsRt n r) : rt n = r := rt_uniq (rt_spec n) h

theorem msqrt_pc {x y : Nat} (e : FloatKind.f64.format.sqrt x = some y) (H : List Ob) : pcall E 174 [.flt .f64 x] H = some (.flt .f64 y) := by
  refine pcall_some.2 (call_plain e174 rfl (Nat.le_of_ble_eq_true rfl) rfl ?_)
  simp only [c174, axf_sqrt e, SS, bne_self_eq_false, wr_def, obOf, List.all_cons, List.all_nil, List.map_cons, List.map_nil, List.length_cons, List.length_nil, List.take_zero, List.take_succ_cons, List.take_nil, List.drop_zero, List.drop_succ_cons, List.drop_nil, Nat.reduceAdd, Nat.reduceMul, Nat.reduceSub, if_true, Nat.reduceLT, Nat.reduceLeDiff, ite_true, ite_false, Nat.reduceEqDiff, if_false, reduceCtorEq, ne_eq, List.getD, List.getElem?_cons_zero, List.getElem?_cons_succ, Option.getD_some, Option.bind_some, Option.map_some, Option.isSome_some, reduceIte, List.length_append, List.append_assoc, List.cons_append, List.nil_append, Option.some.injEq, forall_const, implies_true, Int.reduceNeg, eq_self, Prod.mk.injEq, List.self_eq_append_right, List.append_nil, exists_eq_left, exists_eq_left', exists_and_left, exists_eq_right, exists_and_right]

theorem root_pc {n : Int} (hn : n < 9223372036854775808) (H : List Ob) : pcall E 165 [.int .i64 n] H = some (.int .i64 (rt n)) := by
  refine pcall_some.2 (call_plain e165 rfl (Nat.le_of_ble_eq_true rfl) rfl ?_)
  by_cases h0 : n ≤ 0
  · have h0' : decide (n ≤ 0) = true := decide_eq_true h0
    rw [rt_eq (.inl ⟨h0, rfl⟩)]
    simp (config := {maxSteps := 4000000}) only [c165, h0', SS, bne_self_eq_false, wr_def, obOf, List.all_cons, List.all_nil, List.map_cons, List.map_nil, List.length_cons, List.length_nil, List.take_zero, List.take_succ_cons, List.take_nil, List.drop_zero, List.drop_succ_cons, List.drop_nil, Nat.reduceAdd, Nat.reduceMul, Nat.reduceSub, if_true, Nat.reduceLT, Nat.reduceLeDiff, ite_true, ite_false, Nat.reduceEqDiff, if_false, reduceCtorEq, ne_eq, List.getD, List.getElem?_cons_zero, List.getElem?_cons_succ, Option.getD_some, Option.bind_some, Option.map_some, Option.isSome_some, reduceIte, List.length_append, List.append_assoc, List.cons_append, List.nil_append, Option.some.injEq, forall_const, implies_true, Int.reduceNeg, eq_self, Prod.mk.injEq, List.self_eq_append_right, List.append_nil, exists_eq_left, exists_eq_left', exists_and_left, exists_eq_right, exists_and_right]
  have h0' : decide (n ≤ 0) = false := decide_eq_false h0
  obtain ⟨y, r0, s1, s2, s3, s4⟩ := Sq.sqrt_ok (n := n) (by omega) (by omega)
  have hm := fun H => msqrt_pc s1 H
  simp (config := {maxSteps := 4000000}) only [c165, h0', hm, s2, SS, bne_self_eq_false, wr_def, obOf, List.all_cons, List.all_nil, List.map_cons, List.map_nil, List.length_cons, List.length_nil, List.take_zero, List.take_succ_cons, List.take_nil, List.drop_zero, List.drop_succ_cons, List.drop_nil, Nat.reduceAdd, Nat.reduceMul, Nat.reduceSub, if_true, Nat.reduceLT, Nat.reduceLeDiff, ite_true, ite_false, Nat.reduceEqDiff, if_false, reduceCtorEq, ne_eq, List.getD, List.getElem?_cons_zero, List.getElem?_cons_succ, Option.getD_some, Option.bind_some, Option.map_some, Option.isSome_some, reduceIte, List.length_append, List.append_assoc, List.cons_append, List.nil_append, Option.some.injEq, forall_const, implies_true, Int.reduceNeg, eq_self, Prod.mk.injEq, List.self_eq_append_right, List.append_nil, exists_eq_left, exists_eq_left', exists_and_left, exists_eq_right, exists_and_right]
  refine W_loop (fun q f1 h1 => ∃ r : Int, q = r.toNat ∧ 1 ≤ r ∧ r < 9007199254740992 ∧ f1 0 = .int .i64 n ∧ f1 3 = .int .i64 r ∧ h1 = H) (by simp) r0.toNat ⟨r0, rfl, s3, by omega, rfl, rfl, rfl⟩ ?_
  rintro q f1 h1 hn1 ht ⟨r, rfl, r1, r2, e0, e3, rfl⟩
  have hr0 : r ≠ 0 := by omega
  have hq : n.tdiv r = n / r := Int.tdiv_eq_ediv_of_nonneg (by omega)
  have hq0 : 0 ≤ n / r := Int.ediv_nonneg (by omega) (by omega)
  have hq1 : n / r ≤ n := Int.ediv_le_self _ (by omega)
  have hqw : IntKind.i64.wrap (n.tdiv r) = n / r := by rw [hq, wrap64 (by omega) (by omega)]
  have hrw : IntKind.i64.wrap (r - 1) = r - 1 := wrap64 (by omega) (by omega)
  by_cases hc : n / r < r
  · have hc' : decide (n / r < r) = true := decide_eq_true hc
    have hr2 : 1 ≤ r - 1 := by
      refine Classical.byContradiction fun h => ?_
      have : r = 1 := by omega
      subst this
      simp at hc; omega
    simp (config := {maxSteps := 4000000}) only [e0, e3, abin_quo _ _ _ hr0, hqw, hc', hrw, SS, bne_self_eq_false, wr_def, obOf, List.all_cons, List.all_nil, List.map_cons, List.map_nil, List.length_cons, List.length_nil, List.take_zero, List.take_succ_cons, List.take_nil, List.drop_zero, List.drop_succ_cons, List.drop_nil, Nat.reduceAdd, Nat.reduceMul, Nat.reduceSub, if_true, Nat.reduceLT, Nat.reduceLeDiff, ite_true, ite_false, Nat.reduceEqDiff, if_false, reduceCtorEq, ne_eq, List.getD, List.getElem?_cons_zero, List.getElem?_cons_succ, Option.getD_some, Option.bind_some, Option.map_some, Option.isSome_some, reduceIte, List.length_append, List.append_assoc, List.cons_append, List.nil_append, Option.some.injEq, forall_const, implies_true, Int.reduceNeg, eq_self, Prod.mk.injEq, List.self_eq_append_right, List.append_nil, exists_eq_left, exists_eq_left', exists_and_left, exists_eq_right, exists_and_right]
    exact ⟨(r - 1).toNat, by omega, r - 1, rfl, hr2, by omega, rfl⟩
  have hc' : decide (n / r < r) = false := decide_eq_false hc
  have hrr : r * r ≤ n := by
    have := (Int.le_ediv_iff_mul_le (show 0 < r by omega)).1 (Int.not_lt.1 hc)
    exact this
  simp (config := {maxSteps := 4000000}) only [e0, e3, abin_quo _ _ _ hr0, hqw, hc', SS, bne_self_eq_false, wr_def, obOf, List.all_cons, List.all_nil, List.map_cons, List.map_nil, List.length_cons, List.length_nil, List.take_zero, List.take_succ_cons, List.take_nil, List.drop_zero, List.drop_succ_cons, List.drop_nil, Nat.reduceAdd, Nat.reduceMul, Nat.reduceSub, if_true, Nat.reduceLT, Nat.reduceLeDiff, ite_true, ite_false, Nat.reduceEqDiff, if_false, reduceCtorEq, ne_eq, List.getD, List.getElem?_cons_zero, List.getElem?_cons_succ, Option.getD_some, Option.bind_some, Option.map_some, Option.isSome_some, reduceIte, List.length_append, List.append_assoc, List.cons_append, List.nil_append, Option.some.injEq, forall_const, implies_true, Int.reduceNeg, eq_self, Prod.mk.injEq, List.self_eq_append_right, List.append_nil, exists_eq_left, exists_eq_left', exists_and_left, exists_eq_right, exists_and_right]
  clear hc hc' hrw hqw hq1 hq0 hq hr0
  refine W_loop (fun q f1 h2 => ∃ r : Int, q = (n - r).toNat ∧ 1 ≤ r ∧ r * r ≤ n ∧ f1 0 = .int .i64 n ∧ f1 3 = .int .i64 r ∧ h2 = h1) (by simp) (n - r).toNat ⟨r, rfl, r1, hrr, by simp only [SS, bne_self_eq_false, wr_def, obOf, List.all_cons, List.all_nil, List.map_cons, List.map_nil, List.length_cons, List.length_nil, List.take_zero, List.take_succ_cons, List.take_nil, List.drop_zero, List.drop_succ_cons, List.drop_nil, Nat.reduceAdd, Nat.reduceMul, Nat.reduceSub, if_true, Nat.reduceLT, Nat.reduceLeDiff, ite_true, ite_false, Nat.reduceEqDiff, if_false, reduceCtorEq, ne_eq, List.getD, List.getElem?_cons_zero, List.getElem?_cons_succ, Option.getD_some, Option.bind_some, Option.map_some, Option.isSome_some, reduceIte, List.length_append, List.append_assoc, List.cons_append, List.nil_append, Option.some.injEq, forall_const, implies_true, Int.reduceNeg, eq_self, Prod.mk.injEq, List.self_eq_append_right, List.append_nil, exists_eq_left, exists_eq_left', exists_and_left, exists_eq_right, exists_and_right, e0], by simp only [SS, bne_self_eq_false, wr_def, obOf, List.all_cons, List.all_nil, List.map_cons, List.map_nil, List.length_cons, List.length_nil, List.take_zero, List.take_succ_cons, List.take_nil, List.drop_zero, List.drop_succ_cons, List.drop_nil, Nat.reduceAdd, Nat.reduceMul, Nat.reduceSub, if_true, Nat.reduceLT, Nat.reduceLeDiff, ite_true, ite_false, Nat.reduceEqDiff, if_false, reduceCtorEq, ne_eq, List.getD, List.getElem?_cons_zero, List.getElem?_cons_succ, Option.getD_some, Option.bind_some, Option.map_some, Option.isSome_some, reduceIte, List.length_append, List.append_assoc, List.cons_append, List.nil_append, Option.some.injEq, forall_const, implies_true, Int.reduceNeg, eq_self, Prod.mk.injEq, List.self_eq_append_right, List.append_nil, exists_eq_left, exists_eq_left', exists_and_left, exists_eq_right, exists_and_right, e3], rfl⟩ ?_
  clear e0 e3 hrr r1 r2 ht hn1
  rintro q f2 h2 hn2 ht2 ⟨r, rfl, r1, r2, e0, e3, rfl⟩
  have hrb : r ≤ 3037000499 := by
    refine Classical.byContradiction fun h => ?_
    have := sq_mono (a := 3037000500) (b := r) (by omega) (by omega)
    omega
  have hr0 : r + 1 ≠ 0 := by omega
  have hq : n.tdiv (r + 1) = n / (r + 1) := Int.tdiv_eq_ediv_of_nonneg (by omega)
  have hq0 : 0 ≤ n / (r + 1) := Int.ediv_nonneg (by omega) (by omega)
  have hq1 : n / (r + 1) ≤ n := Int.ediv_le_self _ (by omega)
  have hqw : IntKind.i64.wrap (n.tdiv (r + 1)) = n / (r + 1) := by rw [hq, wrap64 (by omega) (by omega)]
  have hrw : IntKind.i64.wrap (r + 1) = r + 1 := wrap64 (by omega) (by omega)
  by_cases hc : r + 1 ≤ n / (r + 1)
  · have hc' : decide (r + 1 ≤ n / (r + 1)) = true := decide_eq_true hc
    have hrr : (r + 1) * (r + 1) ≤ n := (Int.le_ediv_iff_mul_le (show 0 < r + 1 by omega)).1 hc
    have hrn : r + 1 ≤ n := by
      have : (r + 1) * 1 ≤ (r + 1) * (r + 1) := Int.mul_le_mul_of_nonneg_left (by omega) (by omega)
      omega
    simp (config := {maxSteps := 4000000}) only [e0, e3, hrw, abin_quo _ _ _ hr0, hqw, hc', SS, bne_self_eq_false, wr_def, obOf, List.all_cons, List.all_nil, List.map_cons, List.map_nil, List.length_cons, List.length_nil, List.take_zero, List.take_succ_cons, List.take_nil, List.drop_zero, List.drop_succ_cons, List.drop_nil, Nat.reduceAdd, Nat.reduceMul, Nat.reduceSub, if_true, Nat.reduceLT, Nat.reduceLeDiff, ite_true, ite_false, Nat.reduceEqDiff, if_false, reduceCtorEq, ne_eq, List.getD, List.getElem?_cons_zero, List.getElem?_cons_succ, Option.getD_some, Option.bind_some, Option.map_some, Option.isSome_some, reduceIte, List.length_append, List.append_assoc, List.cons_append, List.nil_append, Option.some.injEq, forall_const, implies_true, Int.reduceNeg, eq_self, Prod.mk.injEq, List.self_eq_append_right, List.append_nil, exists_eq_left, exists_eq_left', exists_and_left, exists_eq_right, exists_and_right]
    exact ⟨(n - (r + 1)).toNat, by omega, r + 1, rfl, by omega, hrr, rfl⟩
  · have hc' : decide (r + 1 ≤ n / (r + 1)) = false := decide_eq_false hc
    have hrr : n < (r + 1) * (r + 1) := by
      refine Classical.byContradiction fun h => hc ?_
      exact (Int.le_ediv_iff_mul_le (show 0 < r + 1 by omega)).2 (Int.not_lt.1 h)
    have hre : rt n = r := rt_eq (.inr ⟨by omega, by omega, r2, hrr⟩)
    simp (config := {maxSteps := 4000000}) only [e0, e3, hrw, abin_quo _ _ _ hr0, hqw, hc', hre, SS, bne_self_eq_false, wr_def, obOf, List.all_cons, List.all_nil, List.map_cons, List.map_nil, List.length_cons, List.length_nil, List.take_zero, List.take_succ_cons, List.take_nil, List.drop_zero, List.drop_succ_cons, List.drop_nil, Nat.reduceAdd, Nat.reduceMul, Nat.reduceSub, if_true, Nat.reduceLT, Nat.reduceLeDiff, ite_true, ite_false, Nat.reduceEqDiff, if_false, reduceCtorEq, ne_eq, List.getD, List.getElem?_cons_zero, List.getElem?_cons_succ, Option.getD_some, Option.bind_some, Option.map_some, Option.isSome_some, reduceIte, List.length_append, List.append_assoc, List.cons_append, List.nil_append, Option.some.injEq, forall_const, implies_true, Int.reduceNeg, eq_self, Prod.mk.injEq, List.self_eq_append_right, List.append_nil, exists_eq_left, exists_eq_left', exists_and_left, exists_eq_right, exists_and_right]
end Go.Proofs.Ytaekgifbehoipaa.Fl
/- Slices of whole numbers. Conditions: none. -/
namespace Go.Proofs.Ytaekgifbehoipaa.Fl
open Go Go.Proofs.Ytaekgifbehoipaa.Eva
def intC (x : Int) : List AV := [.int .i64 x]
theorem dv_i (d : DV) (h : goodD (.int .i64) d) : ∃ x : Int, True ∧ ∀ n, layD n (.int .i64) d = (intC x, []) := by
  obtain ⟨n1, rfl, lo1, hi1⟩ := good_i64 h
  exact ⟨n1, trivial, fun n => rfl⟩
end Go.Proofs.Ytaekgifbehoipaa.Fl
/- Slices of slices that come in as arguments. Conditions stand in each lemma. -/
namespace Go.Proofs.Ytaekgifbehoipaa.Eva
open Go
set_option linter.unusedVariables false
set_option linter.unusedSimpArgs false

def avc (u : AV) : List AV := [u]
theorem flat_avc (vs : List AV) : flat avc vs = vs := by
  induction vs with
  | nil => rfl
  | cons x xs ih => simp only [flat, List.map_cons, List.flatten_cons] at ih ⊢; rw [ih]; rfl
/-- A slice of slices that is read. -/
structure NsS {α : Type} (c : α → List AV) (sz : Nat) (h : List Ob) (v : AV) (vs : List AV) (rows : List (List α)) : Prop where
  out : SlL h v avc 1 vs
  len : vs.length = rows.length
  inn : ∀ (i : Nat) u r, vs[i]? = some u → rows[i]? = some r → SlL h u c sz r ∧ FgL h u
theorem lay_rows {α : Type} {c : α → List AV} {P : α → Prop} {e : AT} {b : Nat} (hd : ∀ d, goodD e d → ∃ x, P x ∧ ∀ n, layD n e d = (c x, [])) (hsz : ∀ x, (c x).length = e.sz) (h0 : 0 < e.sz) (hsc : ∀ x, (c x).all AV.scalar = true) :
    ∀ l : List DV, (∀ d ∈ l, goodD (.sl e b) d) → ∃ rows : List (List α), rows.length = l.length ∧ (∀ r ∈ rows, (∀ x ∈ r, P x) ∧ r.length * b ≤ lim) ∧ ∀ n, ∃ vs o, layE (.sl e b) n l = (vs, o) ∧ vs.length = l.length ∧ ∀ h h' : List Ob, h.length = n → ∀ (i : Nat) u r, vs[i]? = some u → rows[i]? = some r → SlL (h ++ (o ++ h')) u c e.sz r ∧ FgL (h ++ (o ++ h')) u
  | [], _ => ⟨[], rfl, by simp, fun n => ⟨[], [], rfl, rfl, fun h h' _ i u r hu => by simp at hu⟩⟩
  | d :: l, hl => by
    obtain ⟨xs, p1, p2, p3⟩ := in_slf hd hsz h0 (hl d (by simp)) hsc
    obtain ⟨rows, q1, q2, q3⟩ := lay_rows hd hsz h0 hsc l (fun d hd => hl d (by simp [hd]))
    refine ⟨xs :: rows, by simp [q1], fun r hr => ?_, fun n => ?_⟩
    · rcases List.mem_cons.1 hr with rfl | hr
      · exact ⟨p1, p2⟩
      · exact q2 r hr
    · obtain ⟨v, o, e1, e2⟩ := p3 n
      obtain ⟨vs, o', e3, e4, e5⟩ := q3 (n + o.length)
      refine ⟨v :: vs, o ++ o', by simp only [layE, e1, e3, List.cons_append, List.nil_append], by simp [e4], fun h h' hn i u r hu hr => ?_⟩
      cases i with
      | zero =>
        simp only [List.getElem?_cons_zero, Option.some.injEq] at hu hr
        subst hu; subst hr
        have := e2 h (o' ++ h') hn
        rw [List.append_assoc]; exact this
      | succ i =>
        simp only [List.getElem?_cons_succ] at hu hr
        have := e5 (h ++ o) h' (by simp [hn]) i u r hu hr
        rw [List.append_assoc]
        rw [List.append_assoc] at this
        exact this
theorem in_sls {α : Type} {c : α → List AV} {P : α → Prop} {e : AT} {b B : Nat} (hd : ∀ d, goodD e d → ∃ x, P x ∧ ∀ n, layD n e d = (c x, [])) (hsz : ∀ x, (c x).length = e.sz) (h0 : 0 < e.sz) {d : DV} (h : goodD (.sl (.sl e b) B) d) (hsc : ∀ x, (c x).all AV.scalar = true := by intro x; rfl) :
    ∃ rows : List (List α), (∀ r ∈ rows, (∀ x ∈ r, P x) ∧ r.length * b ≤ lim) ∧ rows.length * B ≤ lim ∧ ∀ n, ∃ v o, layD n (.sl (.sl e b) B) d = ([v], o) ∧ ∀ h h' : List Ob, h.length = n → ∃ vs, NsS c e.sz (h ++ (o ++ h')) v vs rows := by
  obtain ⟨sh, l, rfl, h1, h2, h3, h4⟩ := good_sl h
  obtain ⟨rows, k1, k2, k3⟩ := lay_rows hd hsz h0 hsc l h4
  refine ⟨rows, k2, by rw [k1]; exact h3, fun n => ?_⟩
  by_cases s0 : sh = 0
  · have hl := h2 (by omega)
    subst hl
    have : rows = [] := List.length_eq_zero_iff.1 k1
    subst this
    exact ⟨.sl true 0 0 0 0 0, [], by simp only [layD, if_pos s0], fun h h' _ => ⟨[], ⟨fun _ => rfl, by decide, by simp [flat], Or.inl ⟨rfl, by simp⟩⟩, rfl, fun i u r hu => by simp at hu⟩⟩
  · by_cases s1 : sh = 1
    · have hl := h2 (by omega)
      subst hl
      have : rows = [] := List.length_eq_zero_iff.1 k1
      subst this
      exact ⟨.s0 false, [], by simp only [layD, if_neg s0, if_pos s1], fun h h' _ => ⟨[], ⟨fun _ => rfl, by decide, by simp [flat], Or.inl ⟨rfl, by simp⟩⟩, rfl, fun i u r hu => by simp at hu⟩⟩
    · obtain ⟨vs, o, e1, e2, e3⟩ := k3 n
      refine ⟨.sl false (n + o.length) 0 1 0 l.length, o ++ [⟨vs, 0, 1, false, vs.all AV.scalar⟩], by simp only [layD, if_neg s0, if_neg s1, e1]; rfl, fun h h' hn => ⟨vs, ⟨fun _ => rfl, by decide, by rw [flat_avc]; simp, Or.inr ⟨n + o.length, 0, 0, ⟨vs, 0, 1, false, vs.all AV.scalar⟩, by rw [e2], ?_, ?_, ?_⟩⟩, by rw [e2, k1], fun i u r hu hr => ?_⟩⟩
      · subst hn; unfold rdObj
        have : (h ++ (o ++ [(⟨vs, 0, 1, false, vs.all AV.scalar⟩ : Ob)] ++ h'))[h.length + o.length]? = some ⟨vs, 0, 1, false, vs.all AV.scalar⟩ := by
          rw [List.getElem?_append_right (by omega), Nat.add_sub_cancel_left, List.append_assoc, List.getElem?_append_right (Nat.le_refl _), Nat.sub_self]
          rfl
        rw [this]; rfl
      · simp
      · rw [flat_avc]; simp
      · have := e3 h ([⟨vs, 0, 1, false, vs.all AV.scalar⟩] ++ h') hn i u r hu hr
        rw [List.append_assoc]; exact this
end Go.Proofs.Ytaekgifbehoipaa.Eva
/- Distances of the package plane, and Floor, Mix and Node of the reference. Conditions stand in each lemma. -/
namespace Go.Proofs.Ytaekgifbehoipaa.Pb
open Go Go.Proofs.Ytaekgifbehoipaa.Eva Go.Proofs.Ytaekgifbehoipaa.CodeAll Go.Proofs.Ytaekgifbehoipaa.Fl
set_option linter.unusedVariables false
set_option linter.unusedSimpArgs false
set_option maxRecDepth 10000
set_option maxHeartbeats 4000000

theorem sub_pc (px py qx qy : Int) (H : List Ob) : pcall E 172 [.agg [.int .i64 px, .int .i64 py], .agg [.int .i64 qx, .int .i64 qy]] H = some (.agg [.int .i64 (w (px - qx)), .int .i64 (w (py - qy))]) := by
  refine pcall_some.2 (call_plain e172 rfl (Nat.le_of_ble_eq_true rfl) rfl ?_)
  simp (config := {maxSteps := 8000000}) only [c172, SS, bne_self_eq_false, wr_def, obOf, List.all_cons, List.all_nil, List.map_cons, List.map_nil, List.length_cons, List.length_nil, List.take_zero, List.take_succ_cons, List.take_nil, List.drop_zero, List.drop_succ_cons, List.drop_nil, Nat.reduceAdd, Nat.reduceMul, Nat.reduceSub, if_true, Nat.reduceLT, Nat.reduceLeDiff, ite_true, ite_false, Nat.reduceEqDiff, if_false, reduceCtorEq, ne_eq, List.getD, List.getElem?_cons_zero, List.getElem?_cons_succ, Option.getD_some, Option.bind_some, Option.map_some, Option.isSome_some, reduceIte, List.length_append, List.append_assoc, List.cons_append, List.nil_append, Option.some.injEq, forall_const, implies_true, Int.reduceNeg, eq_self, Prod.mk.injEq, List.self_eq_append_right, List.append_nil, exists_eq_left, exists_eq_left', exists_and_left, exists_eq_right, exists_and_right]
def dot (a b c d : Int) : Int := w (w (a * c) + w (b * d))
theorem dot_pc (a b c d : Int) (H : List Ob) : pcall E 173 [.agg [.int .i64 a, .int .i64 b], .agg [.int .i64 c, .int .i64 d]] H = some (.int .i64 (dot a b c d)) := by
  refine pcall_some.2 (call_plain e173 rfl (Nat.le_of_ble_eq_true rfl) rfl ?_)
  simp (config := {maxSteps := 8000000}) only [c173, dot, SS, bne_self_eq_false, wr_def, obOf, List.all_cons, List.all_nil, List.map_cons, List.map_nil, List.length_cons, List.length_nil, List.take_zero, List.take_succ_cons, List.take_nil, List.drop_zero, List.drop_succ_cons, List.drop_nil, Nat.reduceAdd, Nat.reduceMul, Nat.reduceSub, if_true, Nat.reduceLT, Nat.reduceLeDiff, ite_true, ite_false, Nat.reduceEqDiff, if_false, reduceCtorEq, ne_eq, List.getD, List.getElem?_cons_zero, List.getElem?_cons_succ, Option.getD_some, Option.bind_some, Option.map_some, Option.isSome_some, reduceIte, List.length_append, List.append_assoc, List.cons_append, List.nil_append, Option.some.injEq, forall_const, implies_true, Int.reduceNeg, eq_self, Prod.mk.injEq, List.self_eq_append_right, List.append_nil, exists_eq_left, exists_eq_left', exists_and_left, exists_eq_right, exists_and_right]
def sqr (px py qx qy : Int) : Int := dot (w (px - qx)) (w (py - qy)) (w (px - qx)) (w (py - qy))
theorem square_pc (px py qx qy : Int) (H : List Ob) : pcall E 164 [.agg [.int .i64 px, .int .i64 py], .agg [.int .i64 qx, .int .i64 qy]] H = some (.int .i64 (sqr px py qx qy)) := by
  refine pcall_some.2 (call_plain e164 rfl (Nat.le_of_ble_eq_true rfl) rfl ?_)
  have h1 := fun H => sub_pc px py qx qy H
  unfold sqr
  generalize w (px - qx) = X at *
  generalize w (py - qy) = Y at *
  simp (config := {maxSteps := 8000000}) only [c164, h1, dot_pc, SS, bne_self_eq_false, wr_def, obOf, List.all_cons, List.all_nil, List.map_cons, List.map_nil, List.length_cons, List.length_nil, List.take_zero, List.take_succ_cons, List.take_nil, List.drop_zero, List.drop_succ_cons, List.drop_nil, Nat.reduceAdd, Nat.reduceMul, Nat.reduceSub, if_true, Nat.reduceLT, Nat.reduceLeDiff, ite_true, ite_false, Nat.reduceEqDiff, if_false, reduceCtorEq, ne_eq, List.getD, List.getElem?_cons_zero, List.getElem?_cons_succ, Option.getD_some, Option.bind_some, Option.map_some, Option.isSome_some, reduceIte, List.length_append, List.append_assoc, List.cons_append, List.nil_append, Option.some.injEq, forall_const, implies_true, Int.reduceNeg, eq_self, Prod.mk.injEq, List.self_eq_append_right, List.append_nil, exists_eq_left, exists_eq_left', exists_and_left, exists_eq_right, exists_and_right]
noncomputable def dist (s : Int) : Int × Int := if decide (w (rt s * rt s) < s) = true then (rt s, w (rt s + 1)) else (rt s, rt s)
theorem distance_pc {px py qx qy s : Int} (hs : sqr px py qx qy = s) (hb : s < 9223372036854775808) (H : List Ob) : pcall E 141 [.agg [.int .i64 px, .int .i64 py], .agg [.int .i64 qx, .int .i64 qy]] H = some (.tup [.int .i64 (dist s).1, .int .i64 (dist s).2]) := by
  refine pcall_some.2 (call_plain e141 rfl (Nat.le_of_ble_eq_true rfl) rfl ?_)
  have h1 := fun H => square_pc px py qx qy H
  rw [hs] at h1
  have h2 := fun H => root_pc hb H
  unfold dist
  generalize rt s = r at *
  cases hc : decide (w (r * r) < s) <;> simp (config := {maxSteps := 8000000}) only [c141, h1, h2, hc, SS, bne_self_eq_false, wr_def, obOf, List.all_cons, List.all_nil, List.map_cons, List.map_nil, List.length_cons, List.length_nil, List.take_zero, List.take_succ_cons, List.take_nil, List.drop_zero, List.drop_succ_cons, List.drop_nil, Nat.reduceAdd, Nat.reduceMul, Nat.reduceSub, if_true, Nat.reduceLT, Nat.reduceLeDiff, ite_true, ite_false, Nat.reduceEqDiff, if_false, reduceCtorEq, ne_eq, List.getD, List.getElem?_cons_zero, List.getElem?_cons_succ, Option.getD_some, Option.bind_some, Option.map_some, Option.isSome_some, reduceIte, List.length_append, List.append_assoc, List.cons_append, List.nil_append, Option.some.injEq, forall_const, implies_true, Int.reduceNeg, eq_self, Prod.mk.injEq, List.self_eq_append_right, List.append_nil, exists_eq_left, exists_eq_left', exists_and_left, exists_eq_right, exists_and_right]

theorem floor_fact {a b q r : Int} (hb : 0 < b) (h : a = q * b + r) (h0 : 0 ≤ r) (h1 : r < b) : a / b = q := by
  subst h
  rw [Int.add_comm, Int.add_mul_ediv_right _ _ (by omega), Int.ediv_eq_zero_of_lt h0 h1]; omega
theorem floor_pos_pc {a : Int} {b : Nat} (ha : 0 ≤ a) (ha2 : a < 9223372036854775808) (hb : 0 < b) (hb2 : b < 9223372036854775808) (H : List Ob) : pcall E 114 [.int .i64 a, .int .i64 (b : Int)] H = some (.int .i64 (a / (b : Int))) := by
  refine pcall_some.2 (call_plain e114 rfl (Nat.le_of_ble_eq_true rfl) rfl ?_)
  have c0 : decide (a < 0) = false := decide_eq_false (by omega)
  simp (config := {maxSteps := 8000000}) only [c114, c0, SS, bne_self_eq_false, wr_def, obOf, List.all_cons, List.all_nil, List.map_cons, List.map_nil, List.length_cons, List.length_nil, List.take_zero, List.take_succ_cons, List.take_nil, List.drop_zero, List.drop_succ_cons, List.drop_nil, Nat.reduceAdd, Nat.reduceMul, Nat.reduceSub, if_true, Nat.reduceLT, Nat.reduceLeDiff, ite_true, ite_false, Nat.reduceEqDiff, if_false, reduceCtorEq, ne_eq, List.getD, List.getElem?_cons_zero, List.getElem?_cons_succ, Option.getD_some, Option.bind_some, Option.map_some, Option.isSome_some, reduceIte, List.length_append, List.append_assoc, List.cons_append, List.nil_append, Option.some.injEq, forall_const, implies_true, Int.reduceNeg, eq_self, Prod.mk.injEq, List.self_eq_append_right, List.append_nil, exists_eq_left, exists_eq_left', exists_and_left, exists_eq_right, exists_and_right]
  refine W_loop (fun s f1 h1 => ∃ r q : Int, s ≤ 63 ∧ 0 ≤ r ∧ 0 ≤ q ∧ a = q * (b : Int) + r ∧ r < ((b * 2 ^ s : Nat) : Int) ∧ f1 0 = .int .i64 r ∧ f1 1 = .int .i64 (b : Int) ∧ f1 5 = .int .i64 q ∧ f1 6 = .int .i64 ((s : Int) - 1) ∧ h1 = H) (by simp) 63 ⟨a, 0, by omega, ha, by omega, by omega, by omega, rfl, rfl, rfl, rfl, rfl⟩ ?_
  rintro s f1 h1 hn1 ht ⟨r, q, hs, r0, q0, hq, hr, e0, e1, e5, e6, rfl⟩
  by_cases hs0 : s = 0
  · subst hs0
    have hc : decide ((0 : Int) ≤ ((0 : Nat) : Int) - 1) = false := rfl
    have hf := floor_fact (a := a) (b := b) (q := q) (r := r) (by omega) hq r0 (by simpa using hr)
    rw [hf]
    simp (config := {maxSteps := 8000000}) only [e0, e1, e5, e6, hc, SS, bne_self_eq_false, wr_def, obOf, List.all_cons, List.all_nil, List.map_cons, List.map_nil, List.length_cons, List.length_nil, List.take_zero, List.take_succ_cons, List.take_nil, List.drop_zero, List.drop_succ_cons, List.drop_nil, Nat.reduceAdd, Nat.reduceMul, Nat.reduceSub, if_true, Nat.reduceLT, Nat.reduceLeDiff, ite_true, ite_false, Nat.reduceEqDiff, if_false, reduceCtorEq, ne_eq, List.getD, List.getElem?_cons_zero, List.getElem?_cons_succ, Option.getD_some, Option.bind_some, Option.map_some, Option.isSome_some, reduceIte, List.length_append, List.append_assoc, List.cons_append, List.nil_append, Option.some.injEq, forall_const, implies_true, Int.reduceNeg, eq_self, Prod.mk.injEq, List.self_eq_append_right, List.append_nil, exists_eq_left, exists_eq_left', exists_and_left, exists_eq_right, exists_and_right]
  obtain ⟨k, rfl⟩ : ∃ k, s = k + 1 := ⟨s - 1, by omega⟩
  have ek : ((k + 1 : Nat) : Int) - 1 = (k : Int) := by omega
  rw [ek] at e6
  have hc : decide ((0 : Int) ≤ (k : Int)) = true := decide_eq_true (by omega)
  have wk : IntKind.i64.wrap ((k : Int) - 1) = (k : Int) - 1 := wrap64 (by omega) (by omega)
  have sr := shr_i (kk := .i64) r k (by omega)
  have hq1 : q ≤ a := by
    have : q * 1 ≤ q * (b : Int) := Int.mul_le_mul_of_nonneg_left (by omega) q0
    omega
  have hqb : 0 ≤ q * (b : Int) := Int.mul_nonneg q0 (by omega)
  obtain ⟨B, hB⟩ : ∃ B, b * 2 ^ k = B := ⟨_, rfl⟩
  obtain ⟨P, hP⟩ : ∃ P, 2 ^ k = P := ⟨_, rfl⟩
  have hpw : b * 2 ^ (k + 1) = 2 * B := by rw [Nat.pow_succ, ← Nat.mul_assoc, hB, Nat.mul_comm]
  rw [hpw] at hr
  have hBP : (B : Int) = (P : Int) * (b : Int) := by rw [← hB, ← hP, Int.natCast_mul, Int.mul_comm]
  have hPB : P ≤ B := by rw [← hB, ← hP]; exact Nat.le_mul_of_pos_left _ hb
  have hPI : (2 : Int) ^ k = (P : Int) := by rw [← hP]; simp
  have hP0 : 0 < P := by rw [← hP]; exact Nat.two_pow_pos k
  rw [hPI] at sr
  by_cases hle : (b : Int) ≤ r / (P : Int)
  · have hle' : decide ((b : Int) ≤ r / (P : Int)) = true := decide_eq_true hle
    have hbk : (B : Int) ≤ r := by
      have := (Int.le_ediv_iff_mul_le (c := (P : Int)) (by omega)).1 hle
      rw [Int.mul_comm] at this; omega
    have s1 := shl_i (kk := .i64) b k (by rw [hB]; omega) (by omega)
    have s2 : abin .shl (.int .i64 1) (.int .i64 (k : Int)) = some (.int .i64 (P : Int)) := by
      have := shl_i (kk := .i64) 1 k (by rw [hP]; omega) (by omega)
      rw [hP, Nat.one_mul] at this
      exact this
    rw [hB] at s1
    have hq2 : a = (q + (P : Int)) * (b : Int) + (r - (B : Int)) := by
      rw [Int.add_mul]; omega
    have hq3 : q + (P : Int) ≤ a := by
      have : (q + (P : Int)) * 1 ≤ (q + (P : Int)) * (b : Int) := Int.mul_le_mul_of_nonneg_left (by omega) (by omega)
      omega
    have w1 : IntKind.i64.wrap (r - (B : Int)) = r - B := wrap64 (by omega) (by omega)
    have w2 : IntKind.i64.wrap (q + (P : Int)) = q + P := wrap64 (by omega) (by omega)
    simp (config := {maxSteps := 8000000}) only [e0, e1, e5, e6, hc, wk, sr, hle', s1, s2, w1, w2, SS, bne_self_eq_false, wr_def, obOf, List.all_cons, List.all_nil, List.map_cons, List.map_nil, List.length_cons, List.length_nil, List.take_zero, List.take_succ_cons, List.take_nil, List.drop_zero, List.drop_succ_cons, List.drop_nil, Nat.reduceAdd, Nat.reduceMul, Nat.reduceSub, if_true, Nat.reduceLT, Nat.reduceLeDiff, ite_true, ite_false, Nat.reduceEqDiff, if_false, reduceCtorEq, ne_eq, List.getD, List.getElem?_cons_zero, List.getElem?_cons_succ, Option.getD_some, Option.bind_some, Option.map_some, Option.isSome_some, reduceIte, List.length_append, List.append_assoc, List.cons_append, List.nil_append, Option.some.injEq, forall_const, implies_true, Int.reduceNeg, eq_self, Prod.mk.injEq, List.self_eq_append_right, List.append_nil, exists_eq_left, exists_eq_left', exists_and_left, exists_eq_right, exists_and_right]
    exact ⟨k, by omega, by omega, r - B, by omega, q + P, by omega, hq2, by rw [hB]; omega, rfl, rfl, rfl⟩
  · have hle' : decide ((b : Int) ≤ r / (P : Int)) = false := decide_eq_false hle
    have hbk : r < (B : Int) := by
      have := (Int.ediv_lt_iff_lt_mul (c := (P : Int)) (by omega)).1 (Int.not_le.1 hle)
      rw [Int.mul_comm] at this; omega
    simp (config := {maxSteps := 8000000}) only [e0, e1, e5, e6, hc, wk, sr, hle', SS, bne_self_eq_false, wr_def, obOf, List.all_cons, List.all_nil, List.map_cons, List.map_nil, List.length_cons, List.length_nil, List.take_zero, List.take_succ_cons, List.take_nil, List.drop_zero, List.drop_succ_cons, List.drop_nil, Nat.reduceAdd, Nat.reduceMul, Nat.reduceSub, if_true, Nat.reduceLT, Nat.reduceLeDiff, ite_true, ite_false, Nat.reduceEqDiff, if_false, reduceCtorEq, ne_eq, List.getD, List.getElem?_cons_zero, List.getElem?_cons_succ, Option.getD_some, Option.bind_some, Option.map_some, Option.isSome_some, reduceIte, List.length_append, List.append_assoc, List.cons_append, List.nil_append, Option.some.injEq, forall_const, implies_true, Int.reduceNeg, eq_self, Prod.mk.injEq, List.self_eq_append_right, List.append_nil, exists_eq_left, exists_eq_left', exists_and_left, exists_eq_right, exists_and_right]
    exact ⟨k, by omega, by omega, r, by omega, q, by omega, hq, by rw [hB]; omega, rfl, rfl, rfl⟩
theorem floor_pc {a : Int} {b : Nat} (ha : -4000000000000000000 ≤ a) (ha2 : a ≤ 4000000000000000000) (hb : 0 < b) (hb2 : b ≤ 4000000000000000000) (H : List Ob) : pcall E 114 [.int .i64 a, .int .i64 (b : Int)] H = some (.int .i64 (a / (b : Int))) := by
  by_cases h0 : 0 ≤ a
  · exact floor_pos_pc h0 (by omega) hb (by omega) H
  refine pcall_some.2 (call_plain e114 rfl (Nat.le_of_ble_eq_true rfl) rfl ?_)
  have c0 : decide (a < 0) = true := decide_eq_true (by omega)
  have w1 : IntKind.i64.wrap (0 - a) = -a := by rw [wrap64 (by omega) (by omega)]; omega
  have w2 : IntKind.i64.wrap (-a + (b : Int)) = -a + b := wrap64 (by omega) (by omega)
  have w3 : IntKind.i64.wrap (-a + (b : Int) - 1) = -a + b - 1 := wrap64 (by omega) (by omega)
  have h1 := fun H => floor_pos_pc (a := -a + b - 1) (b := b) (by omega) (by omega) hb (by omega) H
  have hq0 : 0 ≤ (-a + b - 1) / (b : Int) := Int.ediv_nonneg (by omega) (by omega)
  have hq1 : (-a + b - 1) / (b : Int) ≤ -a + b - 1 := Int.ediv_le_self _ (by omega)
  have hD := Int.mul_ediv_add_emod (-a + b - 1) b
  have hm0 := Int.emod_nonneg (-a + b - 1) (show (b : Int) ≠ 0 by omega)
  have hm1 := Int.emod_lt_of_pos (-a + b - 1) (show 0 < (b : Int) by omega)
  have hf : a / (b : Int) = -((-a + b - 1) / (b : Int)) := by
    refine floor_fact (r := (b : Int) - 1 - (-a + b - 1) % (b : Int)) (by omega) ?_ (by omega) (by omega)
    generalize (-a + b - 1) / (b : Int) = Q at *
    rw [Int.neg_mul, Int.mul_comm Q]
    omega
  have w4 : IntKind.i64.wrap (0 - (-a + b - 1) / (b : Int)) = a / (b : Int) := by rw [wrap64 (by omega) (by omega), hf]; omega
  simp (config := {maxSteps := 8000000}) only [c114, c0, w1, w2, w3, h1, w4, SS, bne_self_eq_false, wr_def, obOf, List.all_cons, List.all_nil, List.map_cons, List.map_nil, List.length_cons, List.length_nil, List.take_zero, List.take_succ_cons, List.take_nil, List.drop_zero, List.drop_succ_cons, List.drop_nil, Nat.reduceAdd, Nat.reduceMul, Nat.reduceSub, if_true, Nat.reduceLT, Nat.reduceLeDiff, ite_true, ite_false, Nat.reduceEqDiff, if_false, reduceCtorEq, ne_eq, List.getD, List.getElem?_cons_zero, List.getElem?_cons_succ, Option.getD_some, Option.bind_some, Option.map_some, Option.isSome_some, reduceIte, List.length_append, List.append_assoc, List.cons_append, List.nil_append, Option.some.injEq, forall_const, implies_true, Int.reduceNeg, eq_self, Prod.mk.injEq, List.self_eq_append_right, List.append_nil, exists_eq_left, exists_eq_left', exists_and_left, exists_eq_right, exists_and_right]
theorem mul_bd' {u n d : Int} (h1 : -2000000 ≤ u) (h2 : u ≤ 2000000) (n0 : 0 ≤ n) (n1 : n ≤ d) (d1 : d ≤ 200000) : -400000000000 ≤ u * n ∧ u * n ≤ 400000000000 := by
  have a1 := Int.mul_nonneg (show 0 ≤ 2000000 - u by omega) n0
  have a2 := Int.mul_nonneg (show 0 ≤ 2000000 + u by omega) n0
  rw [Int.sub_mul] at a1; rw [Int.add_mul] at a2
  have a3 : (2000000 : Int) * n ≤ 2000000 * 200000 := Int.mul_le_mul_of_nonneg_left (by omega) (by omega)
  omega
theorem div_bd {m d : Int} (h1 : -400000000000 ≤ m) (h2 : m ≤ 400000000000) (d0 : 0 < d) : -400000000000 ≤ m / d ∧ m / d ≤ 400000000000 := by
  have e := Int.mul_ediv_add_emod m d
  have e1 := Int.emod_nonneg m (show d ≠ 0 by omega)
  have e2 := Int.emod_lt_of_pos m d0
  constructor
  · rw [Int.le_ediv_iff_mul_le d0]
    have : (-400000000000 : Int) * d ≤ -400000000000 * 1 := by
      have := Int.mul_le_mul_of_nonneg_left (show (1 : Int) ≤ d by omega) (show (0 : Int) ≤ 400000000000 by omega)
      omega
    omega
  · have : m / d < 400000000001 := by
      rw [Int.ediv_lt_iff_lt_mul d0]
      have := Int.mul_le_mul_of_nonneg_left (show (1 : Int) ≤ d by omega) (show (0 : Int) ≤ 400000000001 by omega)
      omega
    omega
theorem mix_pc {a b n d : Int} (a0 : -1000000 ≤ a) (a1 : a ≤ 1000000) (b0 : -1000000 ≤ b) (b1 : b ≤ 1000000) (n0 : 0 ≤ n) (n1 : n ≤ d) (d0 : 0 < d) (d1 : d ≤ 200000) (H : List Ob) :
    pcall E 95 [.int .i64 a, .int .i64 b, .int .i64 n, .int .i64 d] H = some (.int .i64 (w (a + dvd (w (w (b - a) * n)) d))) := by
  refine pcall_some.2 (call_plain e95 rfl (Nat.le_of_ble_eq_true rfl) rfl ?_)
  obtain ⟨m0, m1⟩ := mul_bd' (u := b - a) (by omega) (by omega) n0 n1 d1
  obtain ⟨k, hk⟩ : ∃ k : Nat, d = (k : Int) := ⟨d.toNat, by omega⟩
  have x1 : IntKind.i64.wrap (b - a) = b - a := wrap64 (by omega) (by omega)
  have x2 : IntKind.i64.wrap ((b - a) * n) = (b - a) * n := wrap64 (by omega) (by omega)
  have hd := dvd_eq (a := (b - a) * n) (b := d) d0 (by omega) (by omega)
  have e1 : w (b - a) = b - a := x1
  have e2 : w ((b - a) * n) = (b - a) * n := x2
  rw [e1, e2, hd]
  have hf := fun H => floor_pc (a := (b - a) * n) (b := k) (by omega) (by omega) (by omega) (by omega) H
  subst hk
  simp (config := {maxSteps := 4000000}) only [c95, x1, x2, hf, SS, bne_self_eq_false, wr_def, obOf, List.all_cons, List.all_nil, List.map_cons, List.map_nil, List.length_cons, List.length_nil, List.take_zero, List.take_succ_cons, List.take_nil, List.drop_zero, List.drop_succ_cons, List.drop_nil, Nat.reduceAdd, Nat.reduceMul, Nat.reduceSub, if_true, Nat.reduceLT, Nat.reduceLeDiff, ite_true, ite_false, Nat.reduceEqDiff, if_false, reduceCtorEq, ne_eq, List.getD, List.getElem?_cons_zero, List.getElem?_cons_succ, Option.getD_some, Option.bind_some, Option.map_some, Option.isSome_some, reduceIte, List.length_append, List.append_assoc, List.cons_append, List.nil_append, Option.some.injEq, forall_const, implies_true, Int.reduceNeg, eq_self, Prod.mk.injEq, List.self_eq_append_right, List.append_nil, exists_eq_left, exists_eq_left', exists_and_left, exists_eq_right, exists_and_right]
theorem ceil_pc {m d : Int} (m0 : -400000000000 ≤ m) (m1 : m ≤ 400000000000) (d0 : 0 < d) (d1 : d ≤ 200000) (H : List Ob) :
    pcall E 115 [.int .i64 m, .int .i64 d] H = some (.int .i64 (-(-m / d))) := by
  refine pcall_some.2 (call_plain e115 rfl (Nat.le_of_ble_eq_true rfl) rfl ?_)
  obtain ⟨k, hk⟩ : ∃ k : Nat, d = (k : Int) := ⟨d.toNat, by omega⟩
  have x1 : IntKind.i64.wrap (0 - m) = -m := by rw [wrap64 (by omega) (by omega)]; omega
  obtain ⟨q0, q1⟩ := div_bd (m := -m) (d := d) (by omega) (by omega) d0
  have x2 : IntKind.i64.wrap (0 - -m / d) = -(-m / d) := by rw [wrap64 (by omega) (by omega)]; omega
  subst hk
  have hf := fun H => floor_pc (a := -m) (b := k) (by omega) (by omega) (by omega) (by omega) H
  simp (config := {maxSteps := 4000000}) only [c115, x1, hf, x2, SS, bne_self_eq_false, wr_def, obOf, List.all_cons, List.all_nil, List.map_cons, List.map_nil, List.length_cons, List.length_nil, List.take_zero, List.take_succ_cons, List.take_nil, List.drop_zero, List.drop_succ_cons, List.drop_nil, Nat.reduceAdd, Nat.reduceMul, Nat.reduceSub, if_true, Nat.reduceLT, Nat.reduceLeDiff, ite_true, ite_false, Nat.reduceEqDiff, if_false, reduceCtorEq, ne_eq, List.getD, List.getElem?_cons_zero, List.getElem?_cons_succ, Option.getD_some, Option.bind_some, Option.map_some, Option.isSome_some, reduceIte, List.length_append, List.append_assoc, List.cons_append, List.nil_append, Option.some.injEq, forall_const, implies_true, Int.reduceNeg, eq_self, Prod.mk.injEq, List.self_eq_append_right, List.append_nil, exists_eq_left, exists_eq_left', exists_and_left, exists_eq_right, exists_and_right]
theorem mixup_pc {a b n d : Int} (a0 : -1000000 ≤ a) (a1 : a ≤ 1000000) (b0 : -1000000 ≤ b) (b1 : b ≤ 1000000) (n0 : 0 ≤ n) (n1 : n ≤ d) (d0 : 0 < d) (d1 : d ≤ 200000) (H : List Ob) :
    pcall E 96 [.int .i64 a, .int .i64 b, .int .i64 n, .int .i64 d] H = some (.int .i64 (w (a + dvu (w (w (b - a) * n)) d))) := by
  refine pcall_some.2 (call_plain e96 rfl (Nat.le_of_ble_eq_true rfl) rfl ?_)
  obtain ⟨m0, m1⟩ := mul_bd' (u := b - a) (by omega) (by omega) n0 n1 d1
  have x1 : IntKind.i64.wrap (b - a) = b - a := wrap64 (by omega) (by omega)
  have x2 : IntKind.i64.wrap ((b - a) * n) = (b - a) * n := wrap64 (by omega) (by omega)
  have hd := dvu_eq (a := (b - a) * n) (b := d) d0 (by omega) (by omega)
  have e1 : w (b - a) = b - a := x1
  have e2 : w ((b - a) * n) = (b - a) * n := x2
  rw [e1, e2, hd]
  have hf := fun H => ceil_pc (m := (b - a) * n) (d := d) m0 m1 d0 d1 H
  simp (config := {maxSteps := 4000000}) only [c96, x1, x2, hf, SS, bne_self_eq_false, wr_def, obOf, List.all_cons, List.all_nil, List.map_cons, List.map_nil, List.length_cons, List.length_nil, List.take_zero, List.take_succ_cons, List.take_nil, List.drop_zero, List.drop_succ_cons, List.drop_nil, Nat.reduceAdd, Nat.reduceMul, Nat.reduceSub, if_true, Nat.reduceLT, Nat.reduceLeDiff, ite_true, ite_false, Nat.reduceEqDiff, if_false, reduceCtorEq, ne_eq, List.getD, List.getElem?_cons_zero, List.getElem?_cons_succ, Option.getD_some, Option.bind_some, Option.map_some, Option.isSome_some, reduceIte, List.length_append, List.append_assoc, List.cons_append, List.nil_append, Option.some.injEq, forall_const, implies_true, Int.reduceNeg, eq_self, Prod.mk.injEq, List.self_eq_append_right, List.append_nil, exists_eq_left, exists_eq_left', exists_and_left, exists_eq_right, exists_and_right]
theorem abs_pc {a : Int} (a0 : -1000000000000 ≤ a) (a1 : a ≤ 1000000000000) (H : List Ob) : pcall E 94 [.int .i64 a] H = some (.int .i64 (a.natAbs : Int)) := by
  refine pcall_some.2 (call_plain e94 rfl (Nat.le_of_ble_eq_true rfl) rfl ?_)
  by_cases h : a < 0
  · have b1 : decide (a < 0) = true := decide_eq_true h
    have x1 : IntKind.i64.wrap (0 - a) = (a.natAbs : Int) := by rw [wrap64 (by omega) (by omega)]; omega
    simp (config := {maxSteps := 4000000}) only [c94, b1, x1, SS, bne_self_eq_false, wr_def, obOf, List.all_cons, List.all_nil, List.map_cons, List.map_nil, List.length_cons, List.length_nil, List.take_zero, List.take_succ_cons, List.take_nil, List.drop_zero, List.drop_succ_cons, List.drop_nil, Nat.reduceAdd, Nat.reduceMul, Nat.reduceSub, if_true, Nat.reduceLT, Nat.reduceLeDiff, ite_true, ite_false, Nat.reduceEqDiff, if_false, reduceCtorEq, ne_eq, List.getD, List.getElem?_cons_zero, List.getElem?_cons_succ, Option.getD_some, Option.bind_some, Option.map_some, Option.isSome_some, reduceIte, List.length_append, List.append_assoc, List.cons_append, List.nil_append, Option.some.injEq, forall_const, implies_true, Int.reduceNeg, eq_self, Prod.mk.injEq, List.self_eq_append_right, List.append_nil, exists_eq_left, exists_eq_left', exists_and_left, exists_eq_right, exists_and_right]
  · have b1 : decide (a < 0) = false := decide_eq_false h
    have x1 : (a.natAbs : Int) = a := by omega
    simp (config := {maxSteps := 4000000}) only [c94, b1, x1, SS, bne_self_eq_false, wr_def, obOf, List.all_cons, List.all_nil, List.map_cons, List.map_nil, List.length_cons, List.length_nil, List.take_zero, List.take_succ_cons, List.take_nil, List.drop_zero, List.drop_succ_cons, List.drop_nil, Nat.reduceAdd, Nat.reduceMul, Nat.reduceSub, if_true, Nat.reduceLT, Nat.reduceLeDiff, ite_true, ite_false, Nat.reduceEqDiff, if_false, reduceCtorEq, ne_eq, List.getD, List.getElem?_cons_zero, List.getElem?_cons_succ, Option.getD_some, Option.bind_some, Option.map_some, Option.isSome_some, reduceIte, List.length_append, List.append_assoc, List.cons_append, List.nil_append, Option.some.injEq, forall_const, implies_true, Int.reduceNeg, eq_self, Prod.mk.injEq, List.self_eq_append_right, List.append_nil, exists_eq_left, exists_eq_left', exists_and_left, exists_eq_right, exists_and_right]
def rsq (ax ay bx «by» : Int) : Int := w (w (w (ax - bx) * w (ax - bx)) + w (w (ay - «by») * w (ay - «by»)))
theorem rsq_pc (ax ay bx «by» : Int) (H : List Ob) : pcall E 93 [.agg [.int .i64 ax, .int .i64 ay], .agg [.int .i64 bx, .int .i64 «by»]] H = some (.int .i64 (rsq ax ay bx «by»)) := by
  refine pcall_some.2 (call_plain e93 rfl (Nat.le_of_ble_eq_true rfl) rfl ?_)
  simp (config := {maxSteps := 4000000}) only [c93, rsq, SS, bne_self_eq_false, wr_def, obOf, List.all_cons, List.all_nil, List.map_cons, List.map_nil, List.length_cons, List.length_nil, List.take_zero, List.take_succ_cons, List.take_nil, List.drop_zero, List.drop_succ_cons, List.drop_nil, Nat.reduceAdd, Nat.reduceMul, Nat.reduceSub, if_true, Nat.reduceLT, Nat.reduceLeDiff, ite_true, ite_false, Nat.reduceEqDiff, if_false, reduceCtorEq, ne_eq, List.getD, List.getElem?_cons_zero, List.getElem?_cons_succ, Option.getD_some, Option.bind_some, Option.map_some, Option.isSome_some, reduceIte, List.length_append, List.append_assoc, List.cons_append, List.nil_append, Option.some.injEq, forall_const, implies_true, Int.reduceNeg, eq_self, Prod.mk.injEq, List.self_eq_append_right, List.append_nil, exists_eq_left, exists_eq_left', exists_and_left, exists_eq_right, exists_and_right]
end Go.Proofs.Ytaekgifbehoipaa.Pb
