/- checkPlot and Check of the package wire. Conditions stand in each lemma. -/
import Derived.Test.YtaekgifbehoipaaWrB
namespace Go.Proofs.Ytaekgifbehoipaa.Wr
open Go Go.Proofs.Ytaekgifbehoipaa.Eva Go.Proofs.Ytaekgifbehoipaa.CodeAll
set_option linter.unusedVariables false
set_option linter.unusedSimpArgs false
set_option maxRecDepth 10000
set_option maxHeartbeats 4000000

structure Pl where
  rd : Int
  tm : Int
  rg : Int
  az : Int
  ht : Int
  cd : Int
def Pl.c (p : Pl) : List AV := [.int .i64 p.rd, .int .i64 p.tm, .int .i64 p.rg, .int .i64 p.az, .int .i64 p.ht, .int .i64 p.cd]
def VP (R T : Int) (p : Pl) : Prop := p.rd = R ∧ p.tm = T ∧ 0 ≤ p.rg ∧ p.rg ≤ 2000000 ∧ 0 ≤ p.az ∧ p.az ≤ 4095 ∧ 0 ≤ p.ht ∧ p.ht ≤ 60000 ∧ -1 ≤ p.cd ∧ p.cd ≤ 4095
theorem cp_ex (R T : Int) (V : AV) (p : Pl) : ∃ e, (e = 0 ↔ VP R T p) ∧ ∀ H, pcall E 98 [.agg [.int .i64 R, .int .i64 T, V], .agg p.c] H = some (.int .i64 e) := by
  by_cases h0 : p.rd = R
  rotate_left
  · have b0 : (p.rd != R) = true := by rw [bne_iff_ne]; exact h0
    refine ⟨3, ⟨fun h => by omega, fun h => absurd (by unfold VP at h; simp only [h]) h0⟩, fun H => pcall_some.2 (call_plain e98 rfl (Nat.le_of_ble_eq_true rfl) rfl ?_)⟩
    simp (config := {maxSteps := 4000000}) only [c98, Pl.c, b0, SS, bne_self_eq_false, wr_def, obOf, List.all_cons, List.all_nil, List.map_cons, List.map_nil, List.length_cons, List.length_nil, List.take_zero, List.take_succ_cons, List.take_nil, List.drop_zero, List.drop_succ_cons, List.drop_nil, Nat.reduceAdd, Nat.reduceMul, Nat.reduceSub, if_true, Nat.reduceLT, Nat.reduceLeDiff, ite_true, ite_false, Nat.reduceEqDiff, if_false, reduceCtorEq, ne_eq, List.getD, List.getElem?_cons_zero, List.getElem?_cons_succ, Option.getD_some, Option.bind_some, Option.map_some, Option.isSome_some, reduceIte, List.length_append, List.append_assoc, List.cons_append, List.nil_append, Option.some.injEq, forall_const, implies_true, Int.reduceNeg, eq_self, Prod.mk.injEq, List.self_eq_append_right, List.append_nil, exists_eq_left, exists_eq_left', exists_and_left, exists_eq_right, exists_and_right]
  have b0 : (p.rd != R) = false := by rw [h0]; exact bne_self_eq_false _
  by_cases h1 : p.tm = T
  rotate_left
  · have b1 : (p.tm != T) = true := by rw [bne_iff_ne]; exact h1
    refine ⟨3, ⟨fun h => by omega, fun h => absurd (by unfold VP at h; simp only [h]) h1⟩, fun H => pcall_some.2 (call_plain e98 rfl (Nat.le_of_ble_eq_true rfl) rfl ?_)⟩
    simp (config := {maxSteps := 4000000}) only [c98, Pl.c, b0, b1, SS, bne_self_eq_false, wr_def, obOf, List.all_cons, List.all_nil, List.map_cons, List.map_nil, List.length_cons, List.length_nil, List.take_zero, List.take_succ_cons, List.take_nil, List.drop_zero, List.drop_succ_cons, List.drop_nil, Nat.reduceAdd, Nat.reduceMul, Nat.reduceSub, if_true, Nat.reduceLT, Nat.reduceLeDiff, ite_true, ite_false, Nat.reduceEqDiff, if_false, reduceCtorEq, ne_eq, List.getD, List.getElem?_cons_zero, List.getElem?_cons_succ, Option.getD_some, Option.bind_some, Option.map_some, Option.isSome_some, reduceIte, List.length_append, List.append_assoc, List.cons_append, List.nil_append, Option.some.injEq, forall_const, implies_true, Int.reduceNeg, eq_self, Prod.mk.injEq, List.self_eq_append_right, List.append_nil, exists_eq_left, exists_eq_left', exists_and_left, exists_eq_right, exists_and_right]
  have b1 : (p.tm != T) = false := by rw [h1]; exact bne_self_eq_false _
  by_cases h2 : 0 ≤ p.rg
  rotate_left
  · have b2 : decide (p.rg < 0) = true := decide_eq_true (by omega)
    refine ⟨4, ⟨fun h => by omega, fun h => absurd (by unfold VP at h; simp only [h]) h2⟩, fun H => pcall_some.2 (call_plain e98 rfl (Nat.le_of_ble_eq_true rfl) rfl ?_)⟩
    simp (config := {maxSteps := 4000000}) only [c98, Pl.c, b0, b1, b2, SS, bne_self_eq_false, wr_def, obOf, List.all_cons, List.all_nil, List.map_cons, List.map_nil, List.length_cons, List.length_nil, List.take_zero, List.take_succ_cons, List.take_nil, List.drop_zero, List.drop_succ_cons, List.drop_nil, Nat.reduceAdd, Nat.reduceMul, Nat.reduceSub, if_true, Nat.reduceLT, Nat.reduceLeDiff, ite_true, ite_false, Nat.reduceEqDiff, if_false, reduceCtorEq, ne_eq, List.getD, List.getElem?_cons_zero, List.getElem?_cons_succ, Option.getD_some, Option.bind_some, Option.map_some, Option.isSome_some, reduceIte, List.length_append, List.append_assoc, List.cons_append, List.nil_append, Option.some.injEq, forall_const, implies_true, Int.reduceNeg, eq_self, Prod.mk.injEq, List.self_eq_append_right, List.append_nil, exists_eq_left, exists_eq_left', exists_and_left, exists_eq_right, exists_and_right]
  have b2 : decide (p.rg < 0) = false := decide_eq_false (by omega)
  by_cases h3 : p.rg ≤ 2000000
  rotate_left
  · have b3 : decide (2000000 < p.rg) = true := decide_eq_true (by omega)
    refine ⟨4, ⟨fun h => by omega, fun h => absurd (by unfold VP at h; simp only [h]) h3⟩, fun H => pcall_some.2 (call_plain e98 rfl (Nat.le_of_ble_eq_true rfl) rfl ?_)⟩
    simp (config := {maxSteps := 4000000}) only [c98, Pl.c, b0, b1, b2, b3, SS, bne_self_eq_false, wr_def, obOf, List.all_cons, List.all_nil, List.map_cons, List.map_nil, List.length_cons, List.length_nil, List.take_zero, List.take_succ_cons, List.take_nil, List.drop_zero, List.drop_succ_cons, List.drop_nil, Nat.reduceAdd, Nat.reduceMul, Nat.reduceSub, if_true, Nat.reduceLT, Nat.reduceLeDiff, ite_true, ite_false, Nat.reduceEqDiff, if_false, reduceCtorEq, ne_eq, List.getD, List.getElem?_cons_zero, List.getElem?_cons_succ, Option.getD_some, Option.bind_some, Option.map_some, Option.isSome_some, reduceIte, List.length_append, List.append_assoc, List.cons_append, List.nil_append, Option.some.injEq, forall_const, implies_true, Int.reduceNeg, eq_self, Prod.mk.injEq, List.self_eq_append_right, List.append_nil, exists_eq_left, exists_eq_left', exists_and_left, exists_eq_right, exists_and_right]
  have b3 : decide (2000000 < p.rg) = false := decide_eq_false (by omega)
  by_cases h4 : 0 ≤ p.az
  rotate_left
  · have b4 : decide (p.az < 0) = true := decide_eq_true (by omega)
    refine ⟨4, ⟨fun h => by omega, fun h => absurd (by unfold VP at h; simp only [h]) h4⟩, fun H => pcall_some.2 (call_plain e98 rfl (Nat.le_of_ble_eq_true rfl) rfl ?_)⟩
    simp (config := {maxSteps := 4000000}) only [c98, Pl.c, b0, b1, b2, b3, b4, SS, bne_self_eq_false, wr_def, obOf, List.all_cons, List.all_nil, List.map_cons, List.map_nil, List.length_cons, List.length_nil, List.take_zero, List.take_succ_cons, List.take_nil, List.drop_zero, List.drop_succ_cons, List.drop_nil, Nat.reduceAdd, Nat.reduceMul, Nat.reduceSub, if_true, Nat.reduceLT, Nat.reduceLeDiff, ite_true, ite_false, Nat.reduceEqDiff, if_false, reduceCtorEq, ne_eq, List.getD, List.getElem?_cons_zero, List.getElem?_cons_succ, Option.getD_some, Option.bind_some, Option.map_some, Option.isSome_some, reduceIte, List.length_append, List.append_assoc, List.cons_append, List.nil_append, Option.some.injEq, forall_const, implies_true, Int.reduceNeg, eq_self, Prod.mk.injEq, List.self_eq_append_right, List.append_nil, exists_eq_left, exists_eq_left', exists_and_left, exists_eq_right, exists_and_right]
  have b4 : decide (p.az < 0) = false := decide_eq_false (by omega)
  by_cases h5 : p.az ≤ 4095
  rotate_left
  · have b5 : decide (4095 < p.az) = true := decide_eq_true (by omega)
    refine ⟨4, ⟨fun h => by omega, fun h => absurd (by unfold VP at h; simp only [h]) h5⟩, fun H => pcall_some.2 (call_plain e98 rfl (Nat.le_of_ble_eq_true rfl) rfl ?_)⟩
    simp (config := {maxSteps := 4000000}) only [c98, Pl.c, b0, b1, b2, b3, b4, b5, SS, bne_self_eq_false, wr_def, obOf, List.all_cons, List.all_nil, List.map_cons, List.map_nil, List.length_cons, List.length_nil, List.take_zero, List.take_succ_cons, List.take_nil, List.drop_zero, List.drop_succ_cons, List.drop_nil, Nat.reduceAdd, Nat.reduceMul, Nat.reduceSub, if_true, Nat.reduceLT, Nat.reduceLeDiff, ite_true, ite_false, Nat.reduceEqDiff, if_false, reduceCtorEq, ne_eq, List.getD, List.getElem?_cons_zero, List.getElem?_cons_succ, Option.getD_some, Option.bind_some, Option.map_some, Option.isSome_some, reduceIte, List.length_append, List.append_assoc, List.cons_append, List.nil_append, Option.some.injEq, forall_const, implies_true, Int.reduceNeg, eq_self, Prod.mk.injEq, List.self_eq_append_right, List.append_nil, exists_eq_left, exists_eq_left', exists_and_left, exists_eq_right, exists_and_right]
  have b5 : decide (4095 < p.az) = false := decide_eq_false (by omega)
  by_cases h6 : 0 ≤ p.ht
  rotate_left
  · have b6 : decide (p.ht < 0) = true := decide_eq_true (by omega)
    refine ⟨4, ⟨fun h => by omega, fun h => absurd (by unfold VP at h; simp only [h]) h6⟩, fun H => pcall_some.2 (call_plain e98 rfl (Nat.le_of_ble_eq_true rfl) rfl ?_)⟩
    simp (config := {maxSteps := 4000000}) only [c98, Pl.c, b0, b1, b2, b3, b4, b5, b6, SS, bne_self_eq_false, wr_def, obOf, List.all_cons, List.all_nil, List.map_cons, List.map_nil, List.length_cons, List.length_nil, List.take_zero, List.take_succ_cons, List.take_nil, List.drop_zero, List.drop_succ_cons, List.drop_nil, Nat.reduceAdd, Nat.reduceMul, Nat.reduceSub, if_true, Nat.reduceLT, Nat.reduceLeDiff, ite_true, ite_false, Nat.reduceEqDiff, if_false, reduceCtorEq, ne_eq, List.getD, List.getElem?_cons_zero, List.getElem?_cons_succ, Option.getD_some, Option.bind_some, Option.map_some, Option.isSome_some, reduceIte, List.length_append, List.append_assoc, List.cons_append, List.nil_append, Option.some.injEq, forall_const, implies_true, Int.reduceNeg, eq_self, Prod.mk.injEq, List.self_eq_append_right, List.append_nil, exists_eq_left, exists_eq_left', exists_and_left, exists_eq_right, exists_and_right]
  have b6 : decide (p.ht < 0) = false := decide_eq_false (by omega)
  by_cases h7 : p.ht ≤ 60000
  rotate_left
  · have b7 : decide (60000 < p.ht) = true := decide_eq_true (by omega)
    refine ⟨4, ⟨fun h => by omega, fun h => absurd (by unfold VP at h; simp only [h]) h7⟩, fun H => pcall_some.2 (call_plain e98 rfl (Nat.le_of_ble_eq_true rfl) rfl ?_)⟩
    simp (config := {maxSteps := 4000000}) only [c98, Pl.c, b0, b1, b2, b3, b4, b5, b6, b7, SS, bne_self_eq_false, wr_def, obOf, List.all_cons, List.all_nil, List.map_cons, List.map_nil, List.length_cons, List.length_nil, List.take_zero, List.take_succ_cons, List.take_nil, List.drop_zero, List.drop_succ_cons, List.drop_nil, Nat.reduceAdd, Nat.reduceMul, Nat.reduceSub, if_true, Nat.reduceLT, Nat.reduceLeDiff, ite_true, ite_false, Nat.reduceEqDiff, if_false, reduceCtorEq, ne_eq, List.getD, List.getElem?_cons_zero, List.getElem?_cons_succ, Option.getD_some, Option.bind_some, Option.map_some, Option.isSome_some, reduceIte, List.length_append, List.append_assoc, List.cons_append, List.nil_append, Option.some.injEq, forall_const, implies_true, Int.reduceNeg, eq_self, Prod.mk.injEq, List.self_eq_append_right, List.append_nil, exists_eq_left, exists_eq_left', exists_and_left, exists_eq_right, exists_and_right]
  have b7 : decide (60000 < p.ht) = false := decide_eq_false (by omega)
  by_cases h8 : -1 ≤ p.cd
  rotate_left
  · have b8 : decide (p.cd < -1) = true := decide_eq_true (by omega)
    refine ⟨4, ⟨fun h => by omega, fun h => absurd (by unfold VP at h; simp only [h]) h8⟩, fun H => pcall_some.2 (call_plain e98 rfl (Nat.le_of_ble_eq_true rfl) rfl ?_)⟩
    simp (config := {maxSteps := 4000000}) only [c98, Pl.c, b0, b1, b2, b3, b4, b5, b6, b7, b8, SS, bne_self_eq_false, wr_def, obOf, List.all_cons, List.all_nil, List.map_cons, List.map_nil, List.length_cons, List.length_nil, List.take_zero, List.take_succ_cons, List.take_nil, List.drop_zero, List.drop_succ_cons, List.drop_nil, Nat.reduceAdd, Nat.reduceMul, Nat.reduceSub, if_true, Nat.reduceLT, Nat.reduceLeDiff, ite_true, ite_false, Nat.reduceEqDiff, if_false, reduceCtorEq, ne_eq, List.getD, List.getElem?_cons_zero, List.getElem?_cons_succ, Option.getD_some, Option.bind_some, Option.map_some, Option.isSome_some, reduceIte, List.length_append, List.append_assoc, List.cons_append, List.nil_append, Option.some.injEq, forall_const, implies_true, Int.reduceNeg, eq_self, Prod.mk.injEq, List.self_eq_append_right, List.append_nil, exists_eq_left, exists_eq_left', exists_and_left, exists_eq_right, exists_and_right]
  have b8 : decide (p.cd < -1) = false := decide_eq_false (by omega)
  by_cases h9 : p.cd ≤ 4095
  rotate_left
  · have b9 : decide (4095 < p.cd) = true := decide_eq_true (by omega)
    refine ⟨4, ⟨fun h => by omega, fun h => absurd (by unfold VP at h; simp only [h]) h9⟩, fun H => pcall_some.2 (call_plain e98 rfl (Nat.le_of_ble_eq_true rfl) rfl ?_)⟩
    simp (config := {maxSteps := 4000000}) only [c98, Pl.c, b0, b1, b2, b3, b4, b5, b6, b7, b8, b9, SS, bne_self_eq_false, wr_def, obOf, List.all_cons, List.all_nil, List.map_cons, List.map_nil, List.length_cons, List.length_nil, List.take_zero, List.take_succ_cons, List.take_nil, List.drop_zero, List.drop_succ_cons, List.drop_nil, Nat.reduceAdd, Nat.reduceMul, Nat.reduceSub, if_true, Nat.reduceLT, Nat.reduceLeDiff, ite_true, ite_false, Nat.reduceEqDiff, if_false, reduceCtorEq, ne_eq, List.getD, List.getElem?_cons_zero, List.getElem?_cons_succ, Option.getD_some, Option.bind_some, Option.map_some, Option.isSome_some, reduceIte, List.length_append, List.append_assoc, List.cons_append, List.nil_append, Option.some.injEq, forall_const, implies_true, Int.reduceNeg, eq_self, Prod.mk.injEq, List.self_eq_append_right, List.append_nil, exists_eq_left, exists_eq_left', exists_and_left, exists_eq_right, exists_and_right]
  have b9 : decide (4095 < p.cd) = false := decide_eq_false (by omega)
  refine ⟨0, ⟨fun _ => ⟨h0, h1, h2, h3, h4, h5, h6, h7, h8, h9⟩, fun _ => rfl⟩, fun H => pcall_some.2 (call_plain e98 rfl (Nat.le_of_ble_eq_true rfl) rfl ?_)⟩
  simp (config := {maxSteps := 4000000}) only [c98, Pl.c, b0, b1, b2, b3, b4, b5, b6, b7, b8, b9, SS, bne_self_eq_false, wr_def, obOf, List.all_cons, List.all_nil, List.map_cons, List.map_nil, List.length_cons, List.length_nil, List.take_zero, List.take_succ_cons, List.take_nil, List.drop_zero, List.drop_succ_cons, List.drop_nil, Nat.reduceAdd, Nat.reduceMul, Nat.reduceSub, if_true, Nat.reduceLT, Nat.reduceLeDiff, ite_true, ite_false, Nat.reduceEqDiff, if_false, reduceCtorEq, ne_eq, List.getD, List.getElem?_cons_zero, List.getElem?_cons_succ, Option.getD_some, Option.bind_some, Option.map_some, Option.isSome_some, reduceIte, List.length_append, List.append_assoc, List.cons_append, List.nil_append, Option.some.injEq, forall_const, implies_true, Int.reduceNeg, eq_self, Prod.mk.injEq, List.self_eq_append_right, List.append_nil, exists_eq_left, exists_eq_left', exists_and_left, exists_eq_right, exists_and_right]

end Go.Proofs.Ytaekgifbehoipaa.Wr
