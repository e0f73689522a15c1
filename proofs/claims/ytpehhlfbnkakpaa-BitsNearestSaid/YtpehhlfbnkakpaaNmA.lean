/- What the functions of the package num answer. Conditions: none. -/
import Derived.Test.YtpehhlfbnkakpaaEvaW
import Derived.Test.YtpehhlfbnkakpaaCodeAll
namespace Go.Proofs.Ytpehhlfbnkakpaa.Fl
open Go Go.Proofs.Ytpehhlfbnkakpaa.Eva Go.Proofs.Ytpehhlfbnkakpaa.CodeAll
set_option linter.unusedVariables false
set_option linter.unusedSimpArgs false
set_option maxRecDepth 10000
set_option maxHeartbeats 4000000

abbrev w (x : Int) : Int := IntKind.i64.wrap x

/-- The quotient, rounded down, and the error. -/
def dvd (a b : Int) : Int := if b = 0 then 0 else if (a == -9223372036854775808 && b == -1) = true then 0 else if (a.tmod b != 0 && (decide (a < 0) != decide (b < 0))) = true then w (w (a.tdiv b) - 1) else w (a.tdiv b)
def dve (a b : Int) : Int := if b = 0 then 10 else if (a == -9223372036854775808 && b == -1) = true then 2 else 0
theorem dvd_run (a b : Int) (H : List Ob) : ecall E 58 [.int .i64 a, .int .i64 b] H = some (.tup [.int .i64 (dvd a b), .int .i64 (dve a b)], H, H.length, H.length) := by
  refine call_plain e58 rfl (Nat.le_of_ble_eq_true rfl) rfl ?_
  by_cases hb : b = 0
  · subst hb
    simp (config := {maxSteps := 4000000}) only [c58, SS, bne_self_eq_false, wr_def, obOf, List.all_cons, List.all_nil, List.map_cons, List.map_nil, List.length_cons, List.length_nil, List.take_zero, List.take_succ_cons, List.take_nil, List.drop_zero, List.drop_succ_cons, List.drop_nil, Nat.reduceAdd, Nat.reduceMul, Nat.reduceSub, if_true, Nat.reduceLT, Nat.reduceLeDiff, ite_true, ite_false, Nat.reduceEqDiff, if_false, reduceCtorEq, ne_eq, List.getD, List.getElem?_cons_zero, List.getElem?_cons_succ, Option.getD_some, Option.bind_some, Option.map_some, Option.isSome_some, reduceIte, List.length_append, List.append_assoc, List.cons_append, List.nil_append, Option.some.injEq, forall_const, implies_true, Int.reduceNeg, eq_self, Prod.mk.injEq, List.self_eq_append_right, List.append_nil, exists_eq_left, exists_eq_left', exists_and_left, exists_eq_right, exists_and_right]
    simp [dvd, dve]
  · have hb' : (b == 0) = false := by simpa using hb
    simp (config := {maxSteps := 4000000}) only [c58, hb', abin_quo _ _ _ hb, abin_rem _ _ _ hb, SS, bne_self_eq_false, wr_def, obOf, List.all_cons, List.all_nil, List.map_cons, List.map_nil, List.length_cons, List.length_nil, List.take_zero, List.take_succ_cons, List.take_nil, List.drop_zero, List.drop_succ_cons, List.drop_nil, Nat.reduceAdd, Nat.reduceMul, Nat.reduceSub, if_true, Nat.reduceLT, Nat.reduceLeDiff, ite_true, ite_false, Nat.reduceEqDiff, if_false, reduceCtorEq, ne_eq, List.getD, List.getElem?_cons_zero, List.getElem?_cons_succ, Option.getD_some, Option.bind_some, Option.map_some, Option.isSome_some, reduceIte, List.length_append, List.append_assoc, List.cons_append, List.nil_append, Option.some.injEq, forall_const, implies_true, Int.reduceNeg, eq_self, Prod.mk.injEq, List.self_eq_append_right, List.append_nil, exists_eq_left, exists_eq_left', exists_and_left, exists_eq_right, exists_and_right]
    simp only [dvd, dve, if_neg hb]
    repeat' first | (refine And.intro ?_ ?_) | (intro hc; simp only [hc, if_true, Bool.false_eq_true, if_false])
    all_goals simp_all
theorem dvd_pc (a b : Int) (H : List Ob) : pcall E 58 [.int .i64 a, .int .i64 b] H = some (.tup [.int .i64 (dvd a b), .int .i64 (dve a b)]) := pcall_some.2 (dvd_run a b H)
def dvu (a b : Int) : Int := if (dve a b == 0 && a.tmod b != 0) = true then w (dvd a b + 1) else dvd a b
theorem dvu_run (a b : Int) (H : List Ob) : ecall E 120 [.int .i64 a, .int .i64 b] H = some (.tup [.int .i64 (dvu a b), .int .i64 (dve a b)], H, H.length, H.length) := by
  refine call_plain e120 rfl (Nat.le_of_ble_eq_true rfl) rfl ?_
  by_cases hb : b = 0
  · subst hb
    have h1 : (dve a 0 == 0) = false := by simp [dve]
    simp (config := {maxSteps := 4000000}) only [c120, dvd_pc, h1, SS, bne_self_eq_false, wr_def, obOf, List.all_cons, List.all_nil, List.map_cons, List.map_nil, List.length_cons, List.length_nil, List.take_zero, List.take_succ_cons, List.take_nil, List.drop_zero, List.drop_succ_cons, List.drop_nil, Nat.reduceAdd, Nat.reduceMul, Nat.reduceSub, if_true, Nat.reduceLT, Nat.reduceLeDiff, ite_true, ite_false, Nat.reduceEqDiff, if_false, reduceCtorEq, ne_eq, List.getD, List.getElem?_cons_zero, List.getElem?_cons_succ, Option.getD_some, Option.bind_some, Option.map_some, Option.isSome_some, reduceIte, List.length_append, List.append_assoc, List.cons_append, List.nil_append, Option.some.injEq, forall_const, implies_true, Int.reduceNeg, eq_self, Prod.mk.injEq, List.self_eq_append_right, List.append_nil, exists_eq_left, exists_eq_left', exists_and_left, exists_eq_right, exists_and_right]
    simp [dvu, h1]
  · simp (config := {maxSteps := 4000000}) only [c120, dvd_pc, abin_rem _ _ _ hb, SS, bne_self_eq_false, wr_def, obOf, List.all_cons, List.all_nil, List.map_cons, List.map_nil, List.length_cons, List.length_nil, List.take_zero, List.take_succ_cons, List.take_nil, List.drop_zero, List.drop_succ_cons, List.drop_nil, Nat.reduceAdd, Nat.reduceMul, Nat.reduceSub, if_true, Nat.reduceLT, Nat.reduceLeDiff, ite_true, ite_false, Nat.reduceEqDiff, if_false, reduceCtorEq, ne_eq, List.getD, List.getElem?_cons_zero, List.getElem?_cons_succ, Option.getD_some, Option.bind_some, Option.map_some, Option.isSome_some, reduceIte, List.length_append, List.append_assoc, List.cons_append, List.nil_append, Option.some.injEq, forall_const, implies_true, Int.reduceNeg, eq_self, Prod.mk.injEq, List.self_eq_append_right, List.append_nil, exists_eq_left, exists_eq_left', exists_and_left, exists_eq_right, exists_and_right]
    unfold dvu
    repeat' first | (refine And.intro ?_ ?_) | (intro hc; simp only [hc, if_true, Bool.false_eq_true, if_false])
    all_goals simp_all
theorem dvu_pc (a b : Int) (H : List Ob) : pcall E 120 [.int .i64 a, .int .i64 b] H = some (.tup [.int .i64 (dvu a b), .int .i64 (dve a b)]) := pcall_some.2 (dvu_run a b H)

/-- within. -/
def wi (n lo hi : Int) : Int := w (lo + (w (n.tmod (w (w (hi - lo) + 1)) + w (w (hi - lo) + 1))).tmod (w (w (hi - lo) + 1)))
end Go.Proofs.Ytpehhlfbnkakpaa.Fl
