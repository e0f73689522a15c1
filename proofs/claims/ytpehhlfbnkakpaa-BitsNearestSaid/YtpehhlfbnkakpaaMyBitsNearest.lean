/- The law BitsNearest: the abstract machine answers true. No condition. -/
import Derived.Test.YtpehhlfbnkakpaaInBitsNearest
import Derived.Test.YtpehhlfbnkakpaaBtB
namespace Go.Proofs.Ytpehhlfbnkakpaa.MyBitsNearest
open Go Go.Proofs.Ytpehhlfbnkakpaa.Eva Go.Proofs.Ytpehhlfbnkakpaa.CodeAll Go.Proofs.Ytpehhlfbnkakpaa.InBitsNearest Go.Proofs.Ytpehhlfbnkakpaa.Fl
set_option linter.unusedVariables false
set_option linter.unusedSimpArgs false
set_option maxRecDepth 10000
set_option maxHeartbeats 4000000

theorem sh52 : abin .shr (.int .u64 13832806255468478464) (.int .u64 52) = some (.int .u64 3071) := shrk (kk := .u64) 13832806255468478464 52 52 rfl (by decide)
theorem an11 : abin .and (.int .u64 3071) (.int .u64 2047) = some (.int .u64 1023) := abin_and_u 3071 2047 (by decide) (by decide)
theorem finite_pc (H : List Ob) : pcall E 104 [.int .u64 13832806255468478464] H = some (.bool true) := by
  refine pcall_some.2 (call_plain e104 rfl (Nat.le_of_ble_eq_true rfl) rfl ?_)
  have n1 : ((1023 : Int) != 2047) = true := rfl
  simp (config := {maxSteps := 4000000}) only [c104, sh52, an11, n1, SS, bne_self_eq_false, wr_def, obOf, List.all_cons, List.all_nil, List.map_cons, List.map_nil, List.length_cons, List.length_nil, List.take_zero, List.take_succ_cons, List.take_nil, List.drop_zero, List.drop_succ_cons, List.drop_nil, Nat.reduceAdd, Nat.reduceMul, Nat.reduceSub, if_true, Nat.reduceLT, Nat.reduceLeDiff, ite_true, ite_false, Nat.reduceEqDiff, if_false, reduceCtorEq, ne_eq, List.getD, List.getElem?_cons_zero, List.getElem?_cons_succ, Option.getD_some, Option.bind_some, Option.map_some, Option.isSome_some, reduceIte, List.length_append, List.append_assoc, List.cons_append, List.nil_append, Option.some.injEq, forall_const, implies_true, Int.reduceNeg, eq_self, Prod.mk.injEq, List.self_eq_append_right, List.append_nil, exists_eq_left, exists_eq_left', exists_and_left, exists_eq_right, exists_and_right]
theorem parts_pc (H : List Ob) : pcall E 105 [.int .u64 13832806255468478464] H = some (.tup [.bool true, .int .i64 (-52), .int .u64 6755399441055744]) := by
  refine pcall_some.2 (call_plain e105 rfl (Nat.le_of_ble_eq_true rfl) rfl ?_)
  have k1 : abin .shr (.int .u64 13832806255468478464) (.int .u64 63) = some (.int .u64 1) := shrk (kk := .u64) 13832806255468478464 63 63 rfl (by decide)
  have k2 : abin .and (.int .u64 13832806255468478464) (.int .u64 4503599627370495) = some (.int .u64 2251799813685248) := abin_and_u 13832806255468478464 4503599627370495 (by decide) (by decide)
  have k3 : abin .or (.int .u64 2251799813685248) (.int .u64 4503599627370496) = some (.int .u64 6755399441055744) := abin_or_u 2251799813685248 4503599627370496 (by decide) (by decide)
  have w1 : IntKind.i64.wrap 1023 = 1023 := by decide
  have w2 : IntKind.i64.wrap (1023 - 1023) = 0 := by decide
  have w3 : IntKind.i64.wrap (0 - 52) = -52 := by decide
  have d1 : decide ((0 : Int) < 1023) = true := rfl
  simp (config := {maxSteps := 4000000}) only [c105, sh52, an11, k1, k2, k3, w1, w2, w3, d1, beq_self_eq_true, SS, bne_self_eq_false, wr_def, obOf, List.all_cons, List.all_nil, List.map_cons, List.map_nil, List.length_cons, List.length_nil, List.take_zero, List.take_succ_cons, List.take_nil, List.drop_zero, List.drop_succ_cons, List.drop_nil, Nat.reduceAdd, Nat.reduceMul, Nat.reduceSub, if_true, Nat.reduceLT, Nat.reduceLeDiff, ite_true, ite_false, Nat.reduceEqDiff, if_false, reduceCtorEq, ne_eq, List.getD, List.getElem?_cons_zero, List.getElem?_cons_succ, Option.getD_some, Option.bind_some, Option.map_some, Option.isSome_some, reduceIte, List.length_append, List.append_assoc, List.cons_append, List.nil_append, Option.some.injEq, forall_const, implies_true, Int.reduceNeg, eq_self, Prod.mk.injEq, List.self_eq_append_right, List.append_nil, exists_eq_left, exists_eq_left', exists_and_left, exists_eq_right, exists_and_right]
theorem tofixed_pc (H : List Ob) : pcall E 67 [.int .u64 13832806255468478464, .int .i64 0] H = some (.tup [.int .i64 (-2), .bool false, .int .i64 0]) := by
  refine pcall_some.2 (call_plain e67 rfl (Nat.le_of_ble_eq_true rfl) rfl ?_)
  have h1 := finite_pc
  have h2 := parts_pc
  have d1 : decide ((0 : Int) < 0) = false := rfl
  have d2 : decide ((60 : Int) < 0) = false := rfl
  have w1 : IntKind.i64.wrap (-52 + 0) = -52 := by decide
  have n1 : ((6755399441055744 : Int) == 0) = false := rfl
  have d3 : decide ((0 : Int) < -52) = false := rfl
  have d4 : decide ((-52 : Int) < -63) = false := rfl
  have w2 : IntKind.i64.wrap (0 - -52) = 52 := by decide
  have k1 : abin .shl (.int .u64 1) (.int .i64 52) = some (.int .u64 4503599627370496) := abin_shl_u (kk := .i64) 1 52
  have w3 : IntKind.u64.wrap (4503599627370496 - 1) = 4503599627370495 := by decide
  have k2 : abin .and (.int .u64 6755399441055744) (.int .u64 4503599627370495) = some (.int .u64 2251799813685248) := abin_and_u 6755399441055744 4503599627370495 (by decide) (by decide)
  have n2 : ((2251799813685248 : Int) != 0) = true := rfl
  have k3 : abin .shr (.int .u64 6755399441055744) (.int .i64 52) = some (.int .u64 1) := shrk (kk := .i64) 6755399441055744 52 52 rfl (by decide)
  have w4 : IntKind.u64.wrap (1 + 1) = 2 := by decide
  have d5 : decide ((9223372036854775808 : Int) < 2) = false := rfl
  have w5 : IntKind.i64.wrap (IntKind.u64.wrap (0 - 2)) = -2 := by decide
  simp (config := {maxSteps := 4000000}) only [c67, h1, h2, d1, d2, d3, d4, d5, w1, w2, w3, w4, k1, k2, k3, n1, n2, SS, bne_self_eq_false, wr_def, obOf, List.all_cons, List.all_nil, List.map_cons, List.map_nil, List.length_cons, List.length_nil, List.take_zero, List.take_succ_cons, List.take_nil, List.drop_zero, List.drop_succ_cons, List.drop_nil, Nat.reduceAdd, Nat.reduceMul, Nat.reduceSub, if_true, Nat.reduceLT, Nat.reduceLeDiff, ite_true, ite_false, Nat.reduceEqDiff, if_false, reduceCtorEq, ne_eq, List.getD, List.getElem?_cons_zero, List.getElem?_cons_succ, Option.getD_some, Option.bind_some, Option.map_some, Option.isSome_some, reduceIte, List.length_append, List.append_assoc, List.cons_append, List.nil_append, Option.some.injEq, forall_const, implies_true, Int.reduceNeg, eq_self, Prod.mk.injEq, List.self_eq_append_right, List.append_nil, exists_eq_left, exists_eq_left', exists_and_left, exists_eq_right, exists_and_right]
  simp only [w5]
theorem works_pc (H : List Ob) : pcall E 24 [] H = some (.bool true) := by
  refine pcall_some.2 (call_plain e24 rfl (Nat.le_of_ble_eq_true rfl) rfl ?_)
  have h1 : ∀ H, pcall E 25 [.int .i64 3, .int .i64 1] H = some (.tup [.int .u64 4609434218613702656, .int .i64 0]) := fun H => by
    have := ff_pc (n := 3) (by omega) (by omega) (d := 1) (by omega) H
    have e : dblW 3 1 = 4609434218613702656 := by decide +kernel
    rw [e] at this; exact this
  have h2 := tofixed_pc
  have n1 : ((-2 : Int) == -2) = true := rfl
  simp (config := {maxSteps := 4000000}) only [c24, h1, h2, n1, beq_self_eq_true, SS, bne_self_eq_false, wr_def, obOf, List.all_cons, List.all_nil, List.map_cons, List.map_nil, List.length_cons, List.length_nil, List.take_zero, List.take_succ_cons, List.take_nil, List.drop_zero, List.drop_succ_cons, List.drop_nil, Nat.reduceAdd, Nat.reduceMul, Nat.reduceSub, if_true, Nat.reduceLT, Nat.reduceLeDiff, ite_true, ite_false, Nat.reduceEqDiff, if_false, reduceCtorEq, ne_eq, List.getD, List.getElem?_cons_zero, List.getElem?_cons_succ, Option.getD_some, Option.bind_some, Option.map_some, Option.isSome_some, reduceIte, List.length_append, List.append_assoc, List.cons_append, List.nil_append, Option.some.injEq, forall_const, implies_true, Int.reduceNeg, eq_self, Prod.mk.injEq, List.self_eq_append_right, List.append_nil, exists_eq_left, exists_eq_left', exists_and_left, exists_eq_right, exists_and_right]

theorem law (n d : Int) (H : List Ob) (lo1 : -9223372036854775808 ≤ n) (hi1 : n ≤ 9223372036854775807) (lo2 : -9223372036854775808 ≤ d) (hi2 : d ≤ 9223372036854775807) : ∃ r, ecall E 6 [.int .i64 n, .int .i64 d] H = some (.bool true, r) := by
  refine call_true e6 rfl (Nat.le_of_ble_eq_true rfl) ?_
  have hw := works_pc
  by_cases hd : d < 0 ∨ 60 < d
  · have h1 := fun H => ff_bad_pc (n := n) hd H
    by_cases k1 : d < 0
    · have d1 : decide (d < 0) = true := decide_eq_true k1
      simp (config := {maxSteps := 4000000}) only [c6, hw, h1, d1, beq_self_eq_true, SS, bne_self_eq_false, wr_def, obOf, List.all_cons, List.all_nil, List.map_cons, List.map_nil, List.length_cons, List.length_nil, List.take_zero, List.take_succ_cons, List.take_nil, List.drop_zero, List.drop_succ_cons, List.drop_nil, Nat.reduceAdd, Nat.reduceMul, Nat.reduceSub, if_true, Nat.reduceLT, Nat.reduceLeDiff, ite_true, ite_false, Nat.reduceEqDiff, if_false, reduceCtorEq, ne_eq, List.getD, List.getElem?_cons_zero, List.getElem?_cons_succ, Option.getD_some, Option.bind_some, Option.map_some, Option.isSome_some, reduceIte, List.length_append, List.append_assoc, List.cons_append, List.nil_append, Option.some.injEq, forall_const, implies_true, Int.reduceNeg, eq_self, Prod.mk.injEq, List.self_eq_append_right, List.append_nil, exists_eq_left, exists_eq_left', exists_and_left, exists_eq_right, exists_and_right]
    · have d1 : decide (d < 0) = false := decide_eq_false k1
      have d2 : decide (60 < d) = true := decide_eq_true (by omega)
      simp (config := {maxSteps := 4000000}) only [c6, hw, h1, d1, d2, beq_self_eq_true, SS, bne_self_eq_false, wr_def, obOf, List.all_cons, List.all_nil, List.map_cons, List.map_nil, List.length_cons, List.length_nil, List.take_zero, List.take_succ_cons, List.take_nil, List.drop_zero, List.drop_succ_cons, List.drop_nil, Nat.reduceAdd, Nat.reduceMul, Nat.reduceSub, if_true, Nat.reduceLT, Nat.reduceLeDiff, ite_true, ite_false, Nat.reduceEqDiff, if_false, reduceCtorEq, ne_eq, List.getD, List.getElem?_cons_zero, List.getElem?_cons_succ, Option.getD_some, Option.bind_some, Option.map_some, Option.isSome_some, reduceIte, List.length_append, List.append_assoc, List.cons_append, List.nil_append, Option.some.injEq, forall_const, implies_true, Int.reduceNeg, eq_self, Prod.mk.injEq, List.self_eq_append_right, List.append_nil, exists_eq_left, exists_eq_left', exists_and_left, exists_eq_right, exists_and_right]
  · have d1 : decide (d < 0) = false := decide_eq_false (by omega)
    have d2 : decide (60 < d) = false := decide_eq_false (by omega)
    obtain ⟨k, rfl⟩ : ∃ k : Nat, d = k := ⟨d.toNat, by omega⟩
    have h1 := fun H => ff_pc (n := n) lo1 (by omega) (d := k) (by omega) H
    have h2 := fun H => double_pc (n := n) lo1 (by omega) (d := k) (by omega) H
    simp (config := {maxSteps := 4000000}) only [c6, hw, h1, h2, d1, d2, beq_self_eq_true, SS, bne_self_eq_false, wr_def, obOf, List.all_cons, List.all_nil, List.map_cons, List.map_nil, List.length_cons, List.length_nil, List.take_zero, List.take_succ_cons, List.take_nil, List.drop_zero, List.drop_succ_cons, List.drop_nil, Nat.reduceAdd, Nat.reduceMul, Nat.reduceSub, if_true, Nat.reduceLT, Nat.reduceLeDiff, ite_true, ite_false, Nat.reduceEqDiff, if_false, reduceCtorEq, ne_eq, List.getD, List.getElem?_cons_zero, List.getElem?_cons_succ, Option.getD_some, Option.bind_some, Option.map_some, Option.isSome_some, reduceIte, List.length_append, List.append_assoc, List.cons_append, List.nil_append, Option.some.injEq, forall_const, implies_true, Int.reduceNeg, eq_self, Prod.mk.injEq, List.self_eq_append_right, List.append_nil, exists_eq_left, exists_eq_left', exists_and_left, exists_eq_right, exists_and_right]


theorem proved : Pure := by
  intro xs hg
  obtain ⟨e0, s0, rfl, u0, v0⟩ := goodL_cons hg
  obtain ⟨n1, rfl, lo1, hi1⟩ := good_i64 u0
  obtain ⟨e1, s1, rfl, u1, v1⟩ := goodL_cons v0
  obtain ⟨n2, rfl, lo2, hi2⟩ := good_i64 u1
  obtain rfl := goodL_nil v1
  have := law n1 n2 [] lo1 hi1 lo2 hi2
  simpa only [layA, layD, layL, argA, shapes, List.nil_append, List.cons_append, List.append_nil, List.append_assoc, List.length_nil, List.length_append, Nat.add_zero, Nat.zero_add, List.headD_cons] using this

end Go.Proofs.Ytpehhlfbnkakpaa.MyBitsNearest
