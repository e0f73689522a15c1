/- What the functions of the package fuse answer: Same, better, Tracks. Conditions: slices that come in read as told. -/
import Derived.Test.YtpehhlfbnkakpaaFlA
import Derived.Test.YtpehhlfbnkakpaaNmB
namespace Go.Proofs.Ytpehhlfbnkakpaa.Fl
open Go Go.Proofs.Ytpehhlfbnkakpaa.Eva Go.Proofs.Ytpehhlfbnkakpaa.CodeAll
set_option linter.unusedVariables false
set_option linter.unusedSimpArgs false
set_option maxRecDepth 10000
set_option maxHeartbeats 4000000

def sqF (x y x2 y2 : Int) : Int := w (w (w (x - x2) * w (x - x2)) + w (w (y - y2) * w (y - y2)))
theorem sqF_pc (x y x2 y2 : Int) (H : List Ob) : pcall E 71 [.agg [.int .i64 x, .int .i64 y], .agg [.int .i64 x2, .int .i64 y2]] H = some (.int .i64 (sqF x y x2 y2)) := by
  refine pcall_some.2 (call_plain e71 rfl (Nat.le_of_ble_eq_true rfl) rfl ?_)
  simp (config := {maxSteps := 8000000}) only [c71, sqF, SS, bne_self_eq_false, wr_def, obOf, List.all_cons, List.all_nil, List.map_cons, List.map_nil, List.length_cons, List.length_nil, List.take_zero, List.take_succ_cons, List.take_nil, List.drop_zero, List.drop_succ_cons, List.drop_nil, Nat.reduceAdd, Nat.reduceMul, Nat.reduceSub, if_true, Nat.reduceLT, Nat.reduceLeDiff, ite_true, ite_false, Nat.reduceEqDiff, if_false, reduceCtorEq, ne_eq, List.getD, List.getElem?_cons_zero, List.getElem?_cons_succ, Option.getD_some, Option.bind_some, Option.map_some, Option.isSome_some, reduceIte, List.length_append, List.append_assoc, List.cons_append, List.nil_append, Option.some.injEq, forall_const, implies_true, Int.reduceNeg, eq_self, Prod.mk.injEq, List.self_eq_append_right, List.append_nil, exists_eq_left, exists_eq_left', exists_and_left, exists_eq_right, exists_and_right]
def apF (a b : Int) : Int := max (w (a - b)) (w (b - a))
theorem apF_pc (a b : Int) (H : List Ob) : pcall E 72 [.int .i64 a, .int .i64 b] H = some (.int .i64 (apF a b)) := by
  refine pcall_some.2 (call_plain e72 rfl (Nat.le_of_ble_eq_true rfl) rfl ?_)
  simp (config := {maxSteps := 8000000}) only [c72, apF, SS, bne_self_eq_false, wr_def, obOf, List.all_cons, List.all_nil, List.map_cons, List.map_nil, List.length_cons, List.length_nil, List.take_zero, List.take_succ_cons, List.take_nil, List.drop_zero, List.drop_succ_cons, List.drop_nil, Nat.reduceAdd, Nat.reduceMul, Nat.reduceSub, if_true, Nat.reduceLT, Nat.reduceLeDiff, ite_true, ite_false, Nat.reduceEqDiff, if_false, reduceCtorEq, ne_eq, List.getD, List.getElem?_cons_zero, List.getElem?_cons_succ, Option.getD_some, Option.bind_some, Option.map_some, Option.isSome_some, reduceIte, List.length_append, List.append_assoc, List.cons_append, List.nil_append, Option.some.injEq, forall_const, implies_true, Int.reduceNeg, eq_self, Prod.mk.injEq, List.self_eq_append_right, List.append_nil, exists_eq_left, exists_eq_left', exists_and_left, exists_eq_right, exists_and_right]
def smB (a b : T) (band : Int) : Bool := (a.ti == b.ti && (decide (a.code < 0) || decide (b.code < 0) || a.code == b.code)) && decide (sqF a.x a.y b.x b.y ≤ w (w (a.rad + b.rad) * w (a.rad + b.rad))) && decide (apF a.hgt b.hgt ≤ band)
def sameT (a b : T) (band : Int) : Bool × Int :=
  if a.chk ≠ 0 then (false, a.chk) else if b.chk ≠ 0 then (false, b.chk) else if (decide (band < 0) || decide (60000 < band)) = true then (false, 4) else (smB a b band, 0)
theorem same_pc (a b : T) (band : Int) (H : List Ob) : pcall E 30 [.agg a.c, .agg b.c, .int .i64 band] H = some (.tup [.bool (sameT a b band).1, .int .i64 (sameT a b band).2]) := by
  refine pcall_some.2 (call_plain e30 rfl (Nat.le_of_ble_eq_true rfl) rfl ?_)
  generalize hR : sameT a b band = R
  unfold sameT at hR
  have ca := fun H => check_pc a H
  have cb := fun H => check_pc b H
  have h3 := fun H => sqF_pc a.x a.y b.x b.y H
  have h4 := fun H => apF_pc a.hgt b.hgt H
  simp only [T.c] at ca cb
  have d0 : decide ((0 : Int) < 2) = true := rfl
  have d1 : decide ((1 : Int) < 2) = true := rfl
  have d2 : decide ((2 : Int) < 2) = false := rfl
  have w1 : IntKind.i64.wrap (0 + 1) = 1 := by decide
  have w2 : IntKind.i64.wrap (1 + 1) = 2 := by decide
  simp (config := {maxSteps := 8000000}) only [T.c, c30, SS, bne_self_eq_false, wr_def, obOf, List.all_cons, List.all_nil, List.map_cons, List.map_nil, List.length_cons, List.length_nil, List.take_zero, List.take_succ_cons, List.take_nil, List.drop_zero, List.drop_succ_cons, List.drop_nil, Nat.reduceAdd, Nat.reduceMul, Nat.reduceSub, if_true, Nat.reduceLT, Nat.reduceLeDiff, ite_true, ite_false, Nat.reduceEqDiff, if_false, reduceCtorEq, ne_eq, List.getD, List.getElem?_cons_zero, List.getElem?_cons_succ, Option.getD_some, Option.bind_some, Option.map_some, Option.isSome_some, reduceIte, List.length_append, List.append_assoc, List.cons_append, List.nil_append, Option.some.injEq, forall_const, implies_true, Int.reduceNeg, eq_self, Prod.mk.injEq, List.self_eq_append_right, List.append_nil, exists_eq_left, exists_eq_left', exists_and_left, exists_eq_right, exists_and_right]
  refine W_once (by simp) ?_
  by_cases c1 : a.chk = 0
  · rw [if_neg (by simpa using c1)] at hR
    rw [c1] at ca
    have n0 : ((0 : Int) != 0) = false := rfl
    simp (config := {maxSteps := 8000000}) only [d0, w1, ca, n0, SS, bne_self_eq_false, wr_def, obOf, List.all_cons, List.all_nil, List.map_cons, List.map_nil, List.length_cons, List.length_nil, List.take_zero, List.take_succ_cons, List.take_nil, List.drop_zero, List.drop_succ_cons, List.drop_nil, Nat.reduceAdd, Nat.reduceMul, Nat.reduceSub, if_true, Nat.reduceLT, Nat.reduceLeDiff, ite_true, ite_false, Nat.reduceEqDiff, if_false, reduceCtorEq, ne_eq, List.getD, List.getElem?_cons_zero, List.getElem?_cons_succ, Option.getD_some, Option.bind_some, Option.map_some, Option.isSome_some, reduceIte, List.length_append, List.append_assoc, List.cons_append, List.nil_append, Option.some.injEq, forall_const, implies_true, Int.reduceNeg, eq_self, Prod.mk.injEq, List.self_eq_append_right, List.append_nil, exists_eq_left, exists_eq_left', exists_and_left, exists_eq_right, exists_and_right]
    refine W_once (by simp) ?_
    by_cases c2 : b.chk = 0
    · rw [if_neg (by simpa using c2)] at hR
      rw [c2] at cb
      simp (config := {maxSteps := 8000000}) only [d1, w2, cb, n0, SS, bne_self_eq_false, wr_def, obOf, List.all_cons, List.all_nil, List.map_cons, List.map_nil, List.length_cons, List.length_nil, List.take_zero, List.take_succ_cons, List.take_nil, List.drop_zero, List.drop_succ_cons, List.drop_nil, Nat.reduceAdd, Nat.reduceMul, Nat.reduceSub, if_true, Nat.reduceLT, Nat.reduceLeDiff, ite_true, ite_false, Nat.reduceEqDiff, if_false, reduceCtorEq, ne_eq, List.getD, List.getElem?_cons_zero, List.getElem?_cons_succ, Option.getD_some, Option.bind_some, Option.map_some, Option.isSome_some, reduceIte, List.length_append, List.append_assoc, List.cons_append, List.nil_append, Option.some.injEq, forall_const, implies_true, Int.reduceNeg, eq_self, Prod.mk.injEq, List.self_eq_append_right, List.append_nil, exists_eq_left, exists_eq_left', exists_and_left, exists_eq_right, exists_and_right]
      refine W_once (by simp) ?_
      cases c3 : (decide (band < 0) || decide (60000 < band))
      · rw [c3, if_neg (by decide)] at hR
        subst hR
        unfold smB
        generalize sqF a.x a.y b.x b.y = X at *
        generalize apF a.hgt b.hgt = Y at *
        simp (config := {maxSteps := 8000000}) only [d2, c3, h3, h4, SS, bne_self_eq_false, wr_def, obOf, List.all_cons, List.all_nil, List.map_cons, List.map_nil, List.length_cons, List.length_nil, List.take_zero, List.take_succ_cons, List.take_nil, List.drop_zero, List.drop_succ_cons, List.drop_nil, Nat.reduceAdd, Nat.reduceMul, Nat.reduceSub, if_true, Nat.reduceLT, Nat.reduceLeDiff, ite_true, ite_false, Nat.reduceEqDiff, if_false, reduceCtorEq, ne_eq, List.getD, List.getElem?_cons_zero, List.getElem?_cons_succ, Option.getD_some, Option.bind_some, Option.map_some, Option.isSome_some, reduceIte, List.length_append, List.append_assoc, List.cons_append, List.nil_append, Option.some.injEq, forall_const, implies_true, Int.reduceNeg, eq_self, Prod.mk.injEq, List.self_eq_append_right, List.append_nil, exists_eq_left, exists_eq_left', exists_and_left, exists_eq_right, exists_and_right]
      · rw [c3, if_pos rfl] at hR
        subst hR
        simp (config := {maxSteps := 8000000}) only [d2, c3, SS, bne_self_eq_false, wr_def, obOf, List.all_cons, List.all_nil, List.map_cons, List.map_nil, List.length_cons, List.length_nil, List.take_zero, List.take_succ_cons, List.take_nil, List.drop_zero, List.drop_succ_cons, List.drop_nil, Nat.reduceAdd, Nat.reduceMul, Nat.reduceSub, if_true, Nat.reduceLT, Nat.reduceLeDiff, ite_true, ite_false, Nat.reduceEqDiff, if_false, reduceCtorEq, ne_eq, List.getD, List.getElem?_cons_zero, List.getElem?_cons_succ, Option.getD_some, Option.bind_some, Option.map_some, Option.isSome_some, reduceIte, List.length_append, List.append_assoc, List.cons_append, List.nil_append, Option.some.injEq, forall_const, implies_true, Int.reduceNeg, eq_self, Prod.mk.injEq, List.self_eq_append_right, List.append_nil, exists_eq_left, exists_eq_left', exists_and_left, exists_eq_right, exists_and_right]
    · rw [if_pos (by simpa using c2)] at hR
      subst hR
      have n1 : (b.chk != 0) = true := by simpa using c2
      generalize b.chk = C at *
      simp (config := {maxSteps := 8000000}) only [d1, w2, cb, n1, SS, bne_self_eq_false, wr_def, obOf, List.all_cons, List.all_nil, List.map_cons, List.map_nil, List.length_cons, List.length_nil, List.take_zero, List.take_succ_cons, List.take_nil, List.drop_zero, List.drop_succ_cons, List.drop_nil, Nat.reduceAdd, Nat.reduceMul, Nat.reduceSub, if_true, Nat.reduceLT, Nat.reduceLeDiff, ite_true, ite_false, Nat.reduceEqDiff, if_false, reduceCtorEq, ne_eq, List.getD, List.getElem?_cons_zero, List.getElem?_cons_succ, Option.getD_some, Option.bind_some, Option.map_some, Option.isSome_some, reduceIte, List.length_append, List.append_assoc, List.cons_append, List.nil_append, Option.some.injEq, forall_const, implies_true, Int.reduceNeg, eq_self, Prod.mk.injEq, List.self_eq_append_right, List.append_nil, exists_eq_left, exists_eq_left', exists_and_left, exists_eq_right, exists_and_right]
  · rw [if_pos (by simpa using c1)] at hR
    subst hR
    have n1 : (a.chk != 0) = true := by simpa using c1
    generalize a.chk = C at *
    simp (config := {maxSteps := 8000000}) only [d0, w1, ca, n1, SS, bne_self_eq_false, wr_def, obOf, List.all_cons, List.all_nil, List.map_cons, List.map_nil, List.length_cons, List.length_nil, List.take_zero, List.take_succ_cons, List.take_nil, List.drop_zero, List.drop_succ_cons, List.drop_nil, Nat.reduceAdd, Nat.reduceMul, Nat.reduceSub, if_true, Nat.reduceLT, Nat.reduceLeDiff, ite_true, ite_false, Nat.reduceEqDiff, if_false, reduceCtorEq, ne_eq, List.getD, List.getElem?_cons_zero, List.getElem?_cons_succ, Option.getD_some, Option.bind_some, Option.map_some, Option.isSome_some, reduceIte, List.length_append, List.append_assoc, List.cons_append, List.nil_append, Option.some.injEq, forall_const, implies_true, Int.reduceNeg, eq_self, Prod.mk.injEq, List.self_eq_append_right, List.append_nil, exists_eq_left, exists_eq_left', exists_and_left, exists_eq_right, exists_and_right]

theorem nan_pc (a : Int) (H : List Ob) : pcall E 128 [.int .i64 a] H = some (.bool false) := by
  refine pcall_some.2 (call_plain e128 rfl (Nat.le_of_ble_eq_true rfl) rfl ?_)
  simp (config := {maxSteps := 8000000}) only [c128, bne_self_eq_false, SS, bne_self_eq_false, wr_def, obOf, List.all_cons, List.all_nil, List.map_cons, List.map_nil, List.length_cons, List.length_nil, List.take_zero, List.take_succ_cons, List.take_nil, List.drop_zero, List.drop_succ_cons, List.drop_nil, Nat.reduceAdd, Nat.reduceMul, Nat.reduceSub, if_true, Nat.reduceLT, Nat.reduceLeDiff, ite_true, ite_false, Nat.reduceEqDiff, if_false, reduceCtorEq, ne_eq, List.getD, List.getElem?_cons_zero, List.getElem?_cons_succ, Option.getD_some, Option.bind_some, Option.map_some, Option.isSome_some, reduceIte, List.length_append, List.append_assoc, List.cons_append, List.nil_append, Option.some.injEq, forall_const, implies_true, Int.reduceNeg, eq_self, Prod.mk.injEq, List.self_eq_append_right, List.append_nil, exists_eq_left, exists_eq_left', exists_and_left, exists_eq_right, exists_and_right]
def cmpc (a b : Int) : Int := if a < b then -1 else if b < a then 1 else 0
theorem compare_pc (a b : Int) (H : List Ob) : pcall E 110 [.int .i64 a, .int .i64 b] H = some (.int .i64 (cmpc a b)) := by
  refine pcall_some.2 (call_plain e110 rfl (Nat.le_of_ble_eq_true rfl) rfl ?_)
  by_cases h1 : a < b
  · have h1' : decide (a < b) = true := decide_eq_true h1
    simp (config := {maxSteps := 8000000}) only [c110, nan_pc, h1', cmpc, h1, SS, bne_self_eq_false, wr_def, obOf, List.all_cons, List.all_nil, List.map_cons, List.map_nil, List.length_cons, List.length_nil, List.take_zero, List.take_succ_cons, List.take_nil, List.drop_zero, List.drop_succ_cons, List.drop_nil, Nat.reduceAdd, Nat.reduceMul, Nat.reduceSub, if_true, Nat.reduceLT, Nat.reduceLeDiff, ite_true, ite_false, Nat.reduceEqDiff, if_false, reduceCtorEq, ne_eq, List.getD, List.getElem?_cons_zero, List.getElem?_cons_succ, Option.getD_some, Option.bind_some, Option.map_some, Option.isSome_some, reduceIte, List.length_append, List.append_assoc, List.cons_append, List.nil_append, Option.some.injEq, forall_const, implies_true, Int.reduceNeg, eq_self, Prod.mk.injEq, List.self_eq_append_right, List.append_nil, exists_eq_left, exists_eq_left', exists_and_left, exists_eq_right, exists_and_right]
  have h1' : decide (a < b) = false := decide_eq_false h1
  by_cases h2 : b < a
  · have h2' : decide (b < a) = true := decide_eq_true h2
    simp (config := {maxSteps := 8000000}) only [c110, nan_pc, h1', h2', cmpc, h1, h2, SS, bne_self_eq_false, wr_def, obOf, List.all_cons, List.all_nil, List.map_cons, List.map_nil, List.length_cons, List.length_nil, List.take_zero, List.take_succ_cons, List.take_nil, List.drop_zero, List.drop_succ_cons, List.drop_nil, Nat.reduceAdd, Nat.reduceMul, Nat.reduceSub, if_true, Nat.reduceLT, Nat.reduceLeDiff, ite_true, ite_false, Nat.reduceEqDiff, if_false, reduceCtorEq, ne_eq, List.getD, List.getElem?_cons_zero, List.getElem?_cons_succ, Option.getD_some, Option.bind_some, Option.map_some, Option.isSome_some, reduceIte, List.length_append, List.append_assoc, List.cons_append, List.nil_append, Option.some.injEq, forall_const, implies_true, Int.reduceNeg, eq_self, Prod.mk.injEq, List.self_eq_append_right, List.append_nil, exists_eq_left, exists_eq_left', exists_and_left, exists_eq_right, exists_and_right]
  have h2' : decide (b < a) = false := decide_eq_false h2
  simp (config := {maxSteps := 8000000}) only [c110, nan_pc, h1', h2', cmpc, h1, h2, SS, bne_self_eq_false, wr_def, obOf, List.all_cons, List.all_nil, List.map_cons, List.map_nil, List.length_cons, List.length_nil, List.take_zero, List.take_succ_cons, List.take_nil, List.drop_zero, List.drop_succ_cons, List.drop_nil, Nat.reduceAdd, Nat.reduceMul, Nat.reduceSub, if_true, Nat.reduceLT, Nat.reduceLeDiff, ite_true, ite_false, Nat.reduceEqDiff, if_false, reduceCtorEq, ne_eq, List.getD, List.getElem?_cons_zero, List.getElem?_cons_succ, Option.getD_some, Option.bind_some, Option.map_some, Option.isSome_some, reduceIte, List.length_append, List.append_assoc, List.cons_append, List.nil_append, Option.some.injEq, forall_const, implies_true, Int.reduceNeg, eq_self, Prod.mk.injEq, List.self_eq_append_right, List.append_nil, exists_eq_left, exists_eq_left', exists_and_left, exists_eq_right, exists_and_right]
/-- The first that is not 0. -/
def orGo : List Int → Int
  | [] => 0
  | x :: r => if x = 0 then orGo r else x
theorem or_pc {H : List Ob} {V : AV} {l : List Int} (hs : SlL H V intC 1 l) (hb : l.length ≤ 1000) : pcall E 109 [V] H = some (.int .i64 (orGo l)) := by
  refine pcall_some.2 (call_plain e109 rfl (Nat.le_of_ble_eq_true rfl) rfl ?_)
  generalize hR : orGo l = R
  have hlen := hs.len
  simp (config := {maxSteps := 8000000}) only [c109, hlen, SS, bne_self_eq_false, wr_def, obOf, List.all_cons, List.all_nil, List.map_cons, List.map_nil, List.length_cons, List.length_nil, List.take_zero, List.take_succ_cons, List.take_nil, List.drop_zero, List.drop_succ_cons, List.drop_nil, Nat.reduceAdd, Nat.reduceMul, Nat.reduceSub, if_true, Nat.reduceLT, Nat.reduceLeDiff, ite_true, ite_false, Nat.reduceEqDiff, if_false, reduceCtorEq, ne_eq, List.getD, List.getElem?_cons_zero, List.getElem?_cons_succ, Option.getD_some, Option.bind_some, Option.map_some, Option.isSome_some, reduceIte, List.length_append, List.append_assoc, List.cons_append, List.nil_append, Option.some.injEq, forall_const, implies_true, Int.reduceNeg, eq_self, Prod.mk.injEq, List.self_eq_append_right, List.append_nil, exists_eq_left, exists_eq_left', exists_and_left, exists_eq_right, exists_and_right]
  refine W_loop (fun q f1 h1 => ∃ j : Nat, q = l.length - j ∧ j ≤ l.length ∧ f1 3 = .int .i64 0 ∧ f1 6 = V ∧ f1 7 = .int .i64 l.length ∧ f1 8 = .int .i64 j ∧ orGo (l.drop j) = R ∧ h1 = H) (Nat.le_refl _) l.length ⟨0, rfl, Nat.zero_le _, rfl, rfl, rfl, rfl, hR, rfl⟩ ?_
  rintro q f1 h1 hn1 ht ⟨j, rfl, hj, e3, e6, e7, e8, hgo, rfl⟩
  by_cases hjl : j < l.length
  · have hjl' : decide ((j : Int) < (l.length : Int)) = true := decide_eq_true (by omega)
    obtain ⟨k, hk⟩ : ∃ k, l[j]? = some k := ⟨_, List.getElem?_eq_getElem hjl⟩
    have hd : l.drop j = k :: l.drop (j + 1) := by
      rw [List.drop_eq_getElem_cons hjl]; congr 1
      rw [List.getElem?_eq_getElem hjl] at hk; simpa using hk
    have hwj : IntKind.i64.wrap ((j : Int) + 1) = ((j + 1 : Nat) : Int) := by rw [wrap64 (by omega) (by omega)]; omega
    have hok : idxOk 1 V (.int .i64 (j : Int)) := hs.ok (by omega) (by omega)
    have hld := hs.ld0 (i := (j : Int)) (kk := .i64) (x := k) (by omega) (by simpa using hk)
    rw [hd] at hgo
    simp only [orGo] at hgo
    simp only [intC, getC_zero] at hld
    by_cases hk0 : k = 0
    · rw [if_pos hk0] at hgo
      subst hk0
      simp (config := {maxSteps := 8000000}) only [e3, e6, e7, e8, hjl', hwj, hok, isPtr_idx hok, hld, bne_self_eq_false, SS, bne_self_eq_false, wr_def, obOf, List.all_cons, List.all_nil, List.map_cons, List.map_nil, List.length_cons, List.length_nil, List.take_zero, List.take_succ_cons, List.take_nil, List.drop_zero, List.drop_succ_cons, List.drop_nil, Nat.reduceAdd, Nat.reduceMul, Nat.reduceSub, if_true, Nat.reduceLT, Nat.reduceLeDiff, ite_true, ite_false, Nat.reduceEqDiff, if_false, reduceCtorEq, ne_eq, List.getD, List.getElem?_cons_zero, List.getElem?_cons_succ, Option.getD_some, Option.bind_some, Option.map_some, Option.isSome_some, reduceIte, List.length_append, List.append_assoc, List.cons_append, List.nil_append, Option.some.injEq, forall_const, implies_true, Int.reduceNeg, eq_self, Prod.mk.injEq, List.self_eq_append_right, List.append_nil, exists_eq_left, exists_eq_left', exists_and_left, exists_eq_right, exists_and_right]
      exact ⟨_, by omega, j + 1, rfl, by omega, rfl, hgo⟩
    · rw [if_neg hk0] at hgo
      subst hgo
      have hk1 : (k != 0) = true := by simpa using hk0
      simp (config := {maxSteps := 8000000}) only [e3, e6, e7, e8, hjl', hwj, hok, isPtr_idx hok, hld, hk1, SS, bne_self_eq_false, wr_def, obOf, List.all_cons, List.all_nil, List.map_cons, List.map_nil, List.length_cons, List.length_nil, List.take_zero, List.take_succ_cons, List.take_nil, List.drop_zero, List.drop_succ_cons, List.drop_nil, Nat.reduceAdd, Nat.reduceMul, Nat.reduceSub, if_true, Nat.reduceLT, Nat.reduceLeDiff, ite_true, ite_false, Nat.reduceEqDiff, if_false, reduceCtorEq, ne_eq, List.getD, List.getElem?_cons_zero, List.getElem?_cons_succ, Option.getD_some, Option.bind_some, Option.map_some, Option.isSome_some, reduceIte, List.length_append, List.append_assoc, List.cons_append, List.nil_append, Option.some.injEq, forall_const, implies_true, Int.reduceNeg, eq_self, Prod.mk.injEq, List.self_eq_append_right, List.append_nil, exists_eq_left, exists_eq_left', exists_and_left, exists_eq_right, exists_and_right]
  · have hjl' : decide ((j : Int) < (l.length : Int)) = false := decide_eq_false (by omega)
    have hd : l.drop j = [] := List.drop_eq_nil_of_le (by omega)
    rw [hd] at hgo
    simp only [orGo] at hgo
    subst hgo
    simp (config := {maxSteps := 8000000}) only [e3, e6, e7, e8, hjl', SS, bne_self_eq_false, wr_def, obOf, List.all_cons, List.all_nil, List.map_cons, List.map_nil, List.length_cons, List.length_nil, List.take_zero, List.take_succ_cons, List.take_nil, List.drop_zero, List.drop_succ_cons, List.drop_nil, Nat.reduceAdd, Nat.reduceMul, Nat.reduceSub, if_true, Nat.reduceLT, Nat.reduceLeDiff, ite_true, ite_false, Nat.reduceEqDiff, if_false, reduceCtorEq, ne_eq, List.getD, List.getElem?_cons_zero, List.getElem?_cons_succ, Option.getD_some, Option.bind_some, Option.map_some, Option.isSome_some, reduceIte, List.length_append, List.append_assoc, List.cons_append, List.nil_append, Option.some.injEq, forall_const, implies_true, Int.reduceNeg, eq_self, Prod.mk.injEq, List.self_eq_append_right, List.append_nil, exists_eq_left, exists_eq_left', exists_and_left, exists_eq_right, exists_and_right]
def btr (a b : T) : Bool := decide (orGo [cmpc a.rad b.rad, cmpc b.hits a.hits, cmpc a.id b.id] < 0)
theorem better_pc (a b : T) (H : List Ob) : pcall E 70 [.agg a.c, .agg b.c] H = some (.bool (btr a b)) := by
  refine pcall_some.2 (call_plain e70 rfl (Nat.le_of_ble_eq_true rfl) rfl ?_)
  have k1 := fun H => compare_pc a.rad b.rad H
  have k2 := fun H => compare_pc b.hits a.hits H
  have k3 := fun H => compare_pc a.id b.id H
  unfold btr
  generalize cmpc a.rad b.rad = x at *
  generalize cmpc b.hits a.hits = y at *
  generalize cmpc a.id b.id = z at *
  have hs : ∀ A B o, SlL (H ++ (A :: B :: ⟨[.int .i64 x, .int .i64 y, .int .i64 z], 0, 1, true, true⟩ :: o)) (.sl false (H.length + 2) 0 1 0 3) intC 1 [x, y, z] := fun A B o =>
    ⟨fun _ => rfl, by decide, rfl, Or.inr ⟨_, 0, 0, ⟨[.int .i64 x, .int .i64 y, .int .i64 z], 0, 1, true, true⟩, rfl, by simp [rdObj], by simp, rfl⟩⟩
  have k4 := fun A B o => or_pc (hs A B o) (by simp)
  simp (config := {maxSteps := 8000000}) only [T.c, c70, k1, k2, k3, k4, SS, bne_self_eq_false, wr_def, obOf, List.all_cons, List.all_nil, List.map_cons, List.map_nil, List.length_cons, List.length_nil, List.take_zero, List.take_succ_cons, List.take_nil, List.drop_zero, List.drop_succ_cons, List.drop_nil, Nat.reduceAdd, Nat.reduceMul, Nat.reduceSub, if_true, Nat.reduceLT, Nat.reduceLeDiff, ite_true, ite_false, Nat.reduceEqDiff, if_false, reduceCtorEq, ne_eq, List.getD, List.getElem?_cons_zero, List.getElem?_cons_succ, Option.getD_some, Option.bind_some, Option.map_some, Option.isSome_some, reduceIte, List.length_append, List.append_assoc, List.cons_append, List.nil_append, Option.some.injEq, forall_const, implies_true, Int.reduceNeg, eq_self, Prod.mk.injEq, List.self_eq_append_right, List.append_nil, exists_eq_left, exists_eq_left', exists_and_left, exists_eq_right, exists_and_right]

/-- Does the k-th push the i-th out? -/
def hitB (a b : T) (i k : Nat) (band : Int) : Bool :=
  !(i == k) && (sameT a b band).1 && !decide (a.code < 0) && !(a.code != b.code) && (btr b a || (!btr a b && decide (k < i)))
def hit (l : List T) (band : Int) (i k : Nat) : Bool := match l[i]?, l[k]? with
  | some a, some b => hitB a b i k band
  | _, _ => false
def gup (l : List T) (band : Int) (i : Nat) : Nat → Bool
  | 0 => false
  | k + 1 => gup l band i k || hit l band i k
def outG (l : List T) (band : Int) : List T → Nat → List T
  | [], _ => []
  | a :: r, i => if gup l band i l.length = true then outG l band r (i + 1) else a :: outG l band r (i + 1)
def chkGo : List T → Int
  | [] => 0
  | a :: r => if a.chk ≠ 0 then a.chk else chkGo r
def trk (l : List T) (band : Int) : List T × Int :=
  if 32 < l.length then ([], 2) else if chkGo l ≠ 0 then ([], chkGo l) else if (decide (band < 0) || decide (60000 < band)) = true then ([], 4) else (outG l band l 0, 0)
theorem outG_len (l : List T) (band : Int) : ∀ (r : List T) (i : Nat), (outG l band r i).length ≤ r.length
  | [], i => by simp [outG]
  | a :: r, i => by
    have := outG_len l band r (i + 1)
    simp only [outG]; split <;> simp <;> omega
/-- The flags while the i-th is compared with the first k. -/
def gst (l : List T) (band : Int) (i k j : Nat) : Bool := if j < i then gup l band j l.length else if j = i then gup l band i k else false
end Go.Proofs.Ytpehhlfbnkakpaa.Fl
