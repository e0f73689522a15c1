/- What FromFixed answers. Conditions stand in each lemma. -/
import Derived.Test.YtaekgifbehoipaaBtA
namespace Go.Proofs.Ytaekgifbehoipaa.Fl
open Go Go.Proofs.Ytaekgifbehoipaa.Eva Go.Proofs.Ytaekgifbehoipaa.CodeAll
set_option linter.unusedVariables false
set_option linter.unusedSimpArgs false
set_option maxRecDepth 10000
set_option maxHeartbeats 4000000

/-- The word of a whole number over a power of two. -/
def dblW (n : Int) (d : Nat) : Nat := if n = 0 then 0 else (if n < 0 then 9223372036854775808 else 0) + ((n.natAbs.log2 + 1022 - d) * 4503599627370496 + Bt.kept n.natAbs)
theorem log_le {n : Int} (h1 : -9223372036854775808 ≤ n) (h2 : n < 9223372036854775808) (h0 : n ≠ 0) : n.natAbs.log2 ≤ 63 := by
  have hm : n.natAbs ≠ 0 := by omega
  have : n.natAbs.log2 < 64 := (Nat.log2_lt hm).2 (by omega)
  omega
theorem near_wd {n : Int} (h1 : -9223372036854775808 ≤ n) (h2 : n < 9223372036854775808) (h0 : n ≠ 0) {d : Nat} (hd : d ≤ 60) :
    ∃ e F, FloatKind.f64.nearest n = wd (decide (n < 0)) e F ∧ 1 ≤ e ∧ e ≤ 1200 ∧ F < 4503599627370496 ∧ 61 ≤ e - d ∧ wd (decide (n < 0)) (e - d) F = dblW n d := by
  have hm : n.natAbs ≠ 0 := by omega
  have hL := log_le h1 h2 h0
  obtain ⟨e, F, g1, g2, g3, g4, g5, g6⟩ := Bt.rung_split (L := n.natAbs.log2) hm (by omega) d hd
  have hk := Bt.kept_bd hm
  refine ⟨e, F, ?_, g2, ?_, g4, g5, ?_⟩
  · have e0 : FloatKind.f64.nearest n = Ieee.double.nearest (decide (n < 0)) n.natAbs 0 := rfl
    rw [e0, Bt.nearest_kept _ hm (by omega) (by omega)]
    have e1 : (0 + (n.natAbs.log2 : Int) + 1022).toNat = n.natAbs.log2 + 1022 := by omega
    rw [e1, g1, wd_word]
  · generalize Bt.kept n.natAbs = K at *
    generalize n.natAbs.log2 = L at *
    omega
  · have e9 : (e - d) * 4503599627370496 + F = (n.natAbs.log2 + 1022 - d) * 4503599627370496 + Bt.kept n.natAbs := g6.symm
    simp only [wd, dblW, if_neg h0, e9, decide_eq_true_eq]
theorem ldexp0_pc {d : Int} (H : List Ob) : pcall E 100 [.flt .f64 0, .int .i64 d] H = some (.flt .f64 0) := by
  have k4 : (FloatKind.f64.format.order 0 0 == some .eq) = true := by decide +kernel
  have k5 : ∀ H, pcall E 120 [.flt .f64 0, .int .i64 d] H = some (.flt .f64 0) := fun H => by
    refine pcall_some.2 (call_plain e120 rfl (Nat.le_of_ble_eq_true rfl) rfl ?_)
    simp (config := {maxSteps := 4000000}) only [c120, k4, SS, bne_self_eq_false, wr_def, obOf, List.all_cons, List.all_nil, List.map_cons, List.map_nil, List.length_cons, List.length_nil, List.take_zero, List.take_succ_cons, List.take_nil, List.drop_zero, List.drop_succ_cons, List.drop_nil, Nat.reduceAdd, Nat.reduceMul, Nat.reduceSub, if_true, Nat.reduceLT, Nat.reduceLeDiff, ite_true, ite_false, Nat.reduceEqDiff, if_false, reduceCtorEq, ne_eq, List.getD, List.getElem?_cons_zero, List.getElem?_cons_succ, Option.getD_some, Option.bind_some, Option.map_some, Option.isSome_some, reduceIte, List.length_append, List.append_assoc, List.cons_append, List.nil_append, Option.some.injEq, forall_const, implies_true, Int.reduceNeg, eq_self, Prod.mk.injEq, List.self_eq_append_right, List.append_nil, exists_eq_left, exists_eq_left', exists_and_left, exists_eq_right, exists_and_right]
  refine pcall_some.2 (call_plain e100 rfl (Nat.le_of_ble_eq_true rfl) rfl ?_)
  simp (config := {maxSteps := 4000000}) only [c100, k5, SS, bne_self_eq_false, wr_def, obOf, List.all_cons, List.all_nil, List.map_cons, List.map_nil, List.length_cons, List.length_nil, List.take_zero, List.take_succ_cons, List.take_nil, List.drop_zero, List.drop_succ_cons, List.drop_nil, Nat.reduceAdd, Nat.reduceMul, Nat.reduceSub, if_true, Nat.reduceLT, Nat.reduceLeDiff, ite_true, ite_false, Nat.reduceEqDiff, if_false, reduceCtorEq, ne_eq, List.getD, List.getElem?_cons_zero, List.getElem?_cons_succ, Option.getD_some, Option.bind_some, Option.map_some, Option.isSome_some, reduceIte, List.length_append, List.append_assoc, List.cons_append, List.nil_append, Option.some.injEq, forall_const, implies_true, Int.reduceNeg, eq_self, Prod.mk.injEq, List.self_eq_append_right, List.append_nil, exists_eq_left, exists_eq_left', exists_and_left, exists_eq_right, exists_and_right]
theorem ff_pc {n : Int} (h1 : -9223372036854775808 ≤ n) (h2 : n < 9223372036854775808) {d : Nat} (hd : d ≤ 60) (H : List Ob) : pcall E 61 [.int .i64 n, .int .i64 (d : Int)] H = some (.tup [.int .u64 (dblW n d : Int), .int .i64 0]) := by
  refine pcall_some.2 (call_plain e61 rfl (Nat.le_of_ble_eq_true rfl) rfl ?_)
  have d1 : decide ((d : Int) < 0) = false := decide_eq_false (by omega)
  have d2 : decide ((60 : Int) < (d : Int)) = false := decide_eq_false (by omega)
  have w1 : IntKind.i64.wrap (0 - (d : Int)) = -(d : Int) := by rw [wrap64 (by omega) (by omega)]; omega
  by_cases h0 : n = 0
  · subst h0
    have k1 : FloatKind.f64.nearest 0 = 0 := by decide +kernel
    have k2 := fun H => ldexp0_pc (d := -(d : Int)) H
    simp (config := {maxSteps := 4000000}) only [c61, d1, d2, w1, k1, k2, SS, bne_self_eq_false, wr_def, obOf, List.all_cons, List.all_nil, List.map_cons, List.map_nil, List.length_cons, List.length_nil, List.take_zero, List.take_succ_cons, List.take_nil, List.drop_zero, List.drop_succ_cons, List.drop_nil, Nat.reduceAdd, Nat.reduceMul, Nat.reduceSub, if_true, Nat.reduceLT, Nat.reduceLeDiff, ite_true, ite_false, Nat.reduceEqDiff, if_false, reduceCtorEq, ne_eq, List.getD, List.getElem?_cons_zero, List.getElem?_cons_succ, Option.getD_some, Option.bind_some, Option.map_some, Option.isSome_some, reduceIte, List.length_append, List.append_assoc, List.cons_append, List.nil_append, Option.some.injEq, forall_const, implies_true, Int.reduceNeg, eq_self, Prod.mk.injEq, List.self_eq_append_right, List.append_nil, exists_eq_left, exists_eq_left', exists_and_left, exists_eq_right, exists_and_right]
    rfl
  obtain ⟨e, F, g1, g2, g3, g4, g5, g6⟩ := near_wd h1 h2 h0 hd
  have k2 := fun H => ldexp2_pc g2 (by omega) g4 (decide (n < 0)) hd g5 g3 H
  rw [g6] at k2
  simp (config := {maxSteps := 4000000}) only [c61, d1, d2, w1, g1, k2, SS, bne_self_eq_false, wr_def, obOf, List.all_cons, List.all_nil, List.map_cons, List.map_nil, List.length_cons, List.length_nil, List.take_zero, List.take_succ_cons, List.take_nil, List.drop_zero, List.drop_succ_cons, List.drop_nil, Nat.reduceAdd, Nat.reduceMul, Nat.reduceSub, if_true, Nat.reduceLT, Nat.reduceLeDiff, ite_true, ite_false, Nat.reduceEqDiff, if_false, reduceCtorEq, ne_eq, List.getD, List.getElem?_cons_zero, List.getElem?_cons_succ, Option.getD_some, Option.bind_some, Option.map_some, Option.isSome_some, reduceIte, List.length_append, List.append_assoc, List.cons_append, List.nil_append, Option.some.injEq, forall_const, implies_true, Int.reduceNeg, eq_self, Prod.mk.injEq, List.self_eq_append_right, List.append_nil, exists_eq_left, exists_eq_left', exists_and_left, exists_eq_right, exists_and_right]
theorem ff_bad_pc {n d : Int} (hd : d < 0 ∨ 60 < d) (H : List Ob) : pcall E 61 [.int .i64 n, .int .i64 d] H = some (.tup [.int .u64 0, .int .i64 4]) := by
  refine pcall_some.2 (call_plain e61 rfl (Nat.le_of_ble_eq_true rfl) rfl ?_)
  by_cases h1 : d < 0
  · have d1 : decide (d < 0) = true := decide_eq_true h1
    simp (config := {maxSteps := 4000000}) only [c61, d1, SS, bne_self_eq_false, wr_def, obOf, List.all_cons, List.all_nil, List.map_cons, List.map_nil, List.length_cons, List.length_nil, List.take_zero, List.take_succ_cons, List.take_nil, List.drop_zero, List.drop_succ_cons, List.drop_nil, Nat.reduceAdd, Nat.reduceMul, Nat.reduceSub, if_true, Nat.reduceLT, Nat.reduceLeDiff, ite_true, ite_false, Nat.reduceEqDiff, if_false, reduceCtorEq, ne_eq, List.getD, List.getElem?_cons_zero, List.getElem?_cons_succ, Option.getD_some, Option.bind_some, Option.map_some, Option.isSome_some, reduceIte, List.length_append, List.append_assoc, List.cons_append, List.nil_append, Option.some.injEq, forall_const, implies_true, Int.reduceNeg, eq_self, Prod.mk.injEq, List.self_eq_append_right, List.append_nil, exists_eq_left, exists_eq_left', exists_and_left, exists_eq_right, exists_and_right]
  · have d1 : decide (d < 0) = false := decide_eq_false h1
    have d2 : decide (60 < d) = true := decide_eq_true (by omega)
    simp (config := {maxSteps := 4000000}) only [c61, d1, d2, SS, bne_self_eq_false, wr_def, obOf, List.all_cons, List.all_nil, List.map_cons, List.map_nil, List.length_cons, List.length_nil, List.take_zero, List.take_succ_cons, List.take_nil, List.drop_zero, List.drop_succ_cons, List.drop_nil, Nat.reduceAdd, Nat.reduceMul, Nat.reduceSub, if_true, Nat.reduceLT, Nat.reduceLeDiff, ite_true, ite_false, Nat.reduceEqDiff, if_false, reduceCtorEq, ne_eq, List.getD, List.getElem?_cons_zero, List.getElem?_cons_succ, Option.getD_some, Option.bind_some, Option.map_some, Option.isSome_some, reduceIte, List.length_append, List.append_assoc, List.cons_append, List.nil_append, Option.some.injEq, forall_const, implies_true, Int.reduceNeg, eq_self, Prod.mk.injEq, List.self_eq_append_right, List.append_nil, exists_eq_left, exists_eq_left', exists_and_left, exists_eq_right, exists_and_right]

end Go.Proofs.Ytaekgifbehoipaa.Fl
