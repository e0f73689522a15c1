/- plot of the package wire. Conditions stand in each lemma. -/
import Derived.Test.YtaekgifbehoipaaWrE
namespace Go.Proofs.Ytaekgifbehoipaa.Wr
open Go Go.Proofs.Ytaekgifbehoipaa.Eva Go.Proofs.Ytaekgifbehoipaa.CodeAll
set_option linter.unusedVariables false
set_option linter.unusedSimpArgs false
set_option maxRecDepth 10000
set_option maxHeartbeats 4000000

theorem gB2 (l : List UInt8) (a : Nat) : gB l a 2 < 65536 := gB_lt l a 2
theorem gB4 (l : List UInt8) (a : Nat) : gB l a 4 < 4294967296 := gB_lt l a 4
theorem gB8 (l : List UInt8) (a : Nat) : gB l a 8 < M64 := gB_lt l a 8
theorem gB1 (l : List UInt8) (a : Nat) : gB l a 1 < 256 := gB_lt l a 1
/-- The plot that 16 bytes tell. -/
def plAt (l : List UInt8) (a : Nat) (R T r : Int) : Pl := ⟨R, T, r, (gB l (a + 8) 2 : Int), (gB l (a + 10) 4 : Int), (gB l (a + 14) 2 : Int) - 1⟩
theorem plot_ex {s : ByteArray} {a : Nat} (hs : s.size < 1125899906842624) (h : a + 16 ≤ s.size) (R T : Int) {V : AV} (hV : cellsOf V = [V]) :
    ∃ r x e ok, rng r ∧ (∀ H, pcall E 97 [.int .u64 (gB (bs s) a 8 : Int), .int .i64 0] H = some (.tup [.int .i64 r, .bool x, .int .i64 e])) ∧
      (ok = true ↔ e = 0 ∧ x = true ∧ Fl.dblW r 0 = gB (bs s) a 8 ∧ VP R T (plAt (bs s) a R T r)) ∧
      ∀ H, pcall E 58 [.str s, .int .i64 (a : Int), .agg [.int .i64 R, .int .i64 T, V]] H = some (.tup [.agg (plAt (bs s) a R T r).c, .bool ok]) := by
  obtain ⟨r, x, e, hr, htf⟩ := tofix_ex (gB8 (bs s) a)
  obtain ⟨ce, hce, hcp⟩ := cp_ex R T V (plAt (bs s) a R T r)
  have g0 : ∀ H, pcall E 56 [.str s, .int .i64 ((a : Nat) : Int), .int .i64 8] H = some (.int .u64 (gB (bs s) (a) 8 : Int)) := fun H => get_pc (k := 8) hs (by omega) (by decide) H
  have g1 : ∀ H, pcall E 56 [.str s, .int .i64 ((a + 8 : Nat) : Int), .int .i64 2] H = some (.int .u64 (gB (bs s) (a + 8) 2 : Int)) := fun H => get_pc (k := 2) hs (by omega) (by decide) H
  have g2 : ∀ H, pcall E 56 [.str s, .int .i64 ((a + 10 : Nat) : Int), .int .i64 4] H = some (.int .u64 (gB (bs s) (a + 10) 4 : Int)) := fun H => get_pc (k := 4) hs (by omega) (by decide) H
  have g3 : ∀ H, pcall E 56 [.str s, .int .i64 ((a + 14 : Nat) : Int), .int .i64 2] H = some (.int .u64 (gB (bs s) (a + 14) 2 : Int)) := fun H => get_pc (k := 2) hs (by omega) (by decide) H
  have w1 : IntKind.i64.wrap ((a : Int) + 8) = ((a + 8 : Nat) : Int) := by rw [wrap64 (by omega) (by omega)]; omega
  have w2 : IntKind.i64.wrap ((a : Int) + 10) = ((a + 10 : Nat) : Int) := by rw [wrap64 (by omega) (by omega)]; omega
  have w3 : IntKind.i64.wrap ((a : Int) + 14) = ((a + 14 : Nat) : Int) := by rw [wrap64 (by omega) (by omega)]; omega
  have l1 := gB2 (bs s) (a + 8)
  have l2 := gB4 (bs s) (a + 10)
  have l3 := gB2 (bs s) (a + 14)
  have hff := fun H => Fl.ff_pc (n := r) hr.1 hr.2 (d := 0) (by decide) H
  simp only [plAt, Pl.c] at hcp
  simp only [plAt] at hce
  simp only [plAt, Pl.c]
  generalize gB (bs s) (a + 8) 2 = G1 at *
  generalize gB (bs s) (a + 10) 4 = G2 at *
  generalize gB (bs s) (a + 14) 2 = G3 at *
  generalize gB (bs s) a 8 = G0 at *
  generalize hD : Fl.dblW r 0 = D at *
  have c1 : cviA .i64 (.int .u64 (G1 : Int)) = some (.int .i64 (G1 : Int)) := by rw [cviA_i, wrap64 (by omega) (by omega)]
  have c2 : cviA .i64 (.int .u64 (G2 : Int)) = some (.int .i64 (G2 : Int)) := by rw [cviA_i, wrap64 (by omega) (by omega)]
  have c3 : cviA .i64 (.int .u64 (G3 : Int)) = some (.int .i64 (G3 : Int)) := by rw [cviA_i, wrap64 (by omega) (by omega)]
  have w4 : IntKind.i64.wrap ((G3 : Int) - 1) = (G3 : Int) - 1 := wrap64 (by omega) (by omega)
  have z0 : ((0 : Nat) : Int) = 0 := rfl
  rw [z0] at hff
  have b0 : ((0 : Int) == 0) = true := rfl
  by_cases h1 : e = 0
  rotate_left
  · have b1 : (e == 0) = false := by rw [beq_eq_false_iff_ne]; exact h1
    refine ⟨r, x, e, false, hr, htf, ⟨fun h => (by cases h), fun h => absurd h.1 h1⟩, fun H => pcall_some.2 (call_plain e58 rfl (Nat.le_of_ble_eq_true rfl) rfl ?_)⟩
    simp (config := {maxSteps := 8000000}) only [c58, g0, g1, g2, g3, w1, w2, w3, w4, c1, c2, c3, htf, hff, hcp, b1, hV, SS, bne_self_eq_false, wr_def, obOf, List.all_cons, List.all_nil, List.map_cons, List.map_nil, List.length_cons, List.length_nil, List.take_zero, List.take_succ_cons, List.take_nil, List.drop_zero, List.drop_succ_cons, List.drop_nil, Nat.reduceAdd, Nat.reduceMul, Nat.reduceSub, if_true, Nat.reduceLT, Nat.reduceLeDiff, ite_true, ite_false, Nat.reduceEqDiff, if_false, reduceCtorEq, ne_eq, List.getD, List.getElem?_cons_zero, List.getElem?_cons_succ, Option.getD_some, Option.bind_some, Option.map_some, Option.isSome_some, reduceIte, List.length_append, List.append_assoc, List.cons_append, List.nil_append, Option.some.injEq, forall_const, implies_true, Int.reduceNeg, eq_self, Prod.mk.injEq, List.self_eq_append_right, List.append_nil, exists_eq_left, exists_eq_left', exists_and_left, exists_eq_right, exists_and_right]
  subst h1
  cases x
  · refine ⟨r, false, 0, false, hr, htf, ⟨fun h => (by cases h), fun h => (by have := h.2.1; cases this)⟩, fun H => pcall_some.2 (call_plain e58 rfl (Nat.le_of_ble_eq_true rfl) rfl ?_)⟩
    simp (config := {maxSteps := 8000000}) only [c58, g0, g1, g2, g3, w1, w2, w3, w4, c1, c2, c3, htf, hff, hcp, b0, hV, SS, bne_self_eq_false, wr_def, obOf, List.all_cons, List.all_nil, List.map_cons, List.map_nil, List.length_cons, List.length_nil, List.take_zero, List.take_succ_cons, List.take_nil, List.drop_zero, List.drop_succ_cons, List.drop_nil, Nat.reduceAdd, Nat.reduceMul, Nat.reduceSub, if_true, Nat.reduceLT, Nat.reduceLeDiff, ite_true, ite_false, Nat.reduceEqDiff, if_false, reduceCtorEq, ne_eq, List.getD, List.getElem?_cons_zero, List.getElem?_cons_succ, Option.getD_some, Option.bind_some, Option.map_some, Option.isSome_some, reduceIte, List.length_append, List.append_assoc, List.cons_append, List.nil_append, Option.some.injEq, forall_const, implies_true, Int.reduceNeg, eq_self, Prod.mk.injEq, List.self_eq_append_right, List.append_nil, exists_eq_left, exists_eq_left', exists_and_left, exists_eq_right, exists_and_right]
  by_cases h3 : D = G0
  rotate_left
  · have b3 : ((D : Int) == (G0 : Int)) = false := by rw [beq_eq_false_iff_ne]; omega
    refine ⟨r, true, 0, false, hr, htf, ⟨fun h => (by cases h), fun h => absurd (by rw [← hD]; exact h.2.2.1) h3⟩, fun H => pcall_some.2 (call_plain e58 rfl (Nat.le_of_ble_eq_true rfl) rfl ?_)⟩
    simp (config := {maxSteps := 8000000}) only [c58, g0, g1, g2, g3, w1, w2, w3, w4, c1, c2, c3, htf, hff, hcp, b0, b3, hV, SS, bne_self_eq_false, wr_def, obOf, List.all_cons, List.all_nil, List.map_cons, List.map_nil, List.length_cons, List.length_nil, List.take_zero, List.take_succ_cons, List.take_nil, List.drop_zero, List.drop_succ_cons, List.drop_nil, Nat.reduceAdd, Nat.reduceMul, Nat.reduceSub, if_true, Nat.reduceLT, Nat.reduceLeDiff, ite_true, ite_false, Nat.reduceEqDiff, if_false, reduceCtorEq, ne_eq, List.getD, List.getElem?_cons_zero, List.getElem?_cons_succ, Option.getD_some, Option.bind_some, Option.map_some, Option.isSome_some, reduceIte, List.length_append, List.append_assoc, List.cons_append, List.nil_append, Option.some.injEq, forall_const, implies_true, Int.reduceNeg, eq_self, Prod.mk.injEq, List.self_eq_append_right, List.append_nil, exists_eq_left, exists_eq_left', exists_and_left, exists_eq_right, exists_and_right]
  have b3 : ((D : Int) == (G0 : Int)) = true := by rw [h3]; simp
  refine ⟨r, true, 0, ce == 0, hr, htf, ⟨fun h => ⟨rfl, rfl, by rw [hD]; exact h3, hce.1 (by simpa using h)⟩, fun h => by simpa using hce.2 h.2.2.2⟩, fun H => pcall_some.2 (call_plain e58 rfl (Nat.le_of_ble_eq_true rfl) rfl ?_)⟩
  simp (config := {maxSteps := 8000000}) only [c58, g0, g1, g2, g3, w1, w2, w3, w4, c1, c2, c3, htf, hff, hcp, b0, b3, hV, SS, bne_self_eq_false, wr_def, obOf, List.all_cons, List.all_nil, List.map_cons, List.map_nil, List.length_cons, List.length_nil, List.take_zero, List.take_succ_cons, List.take_nil, List.drop_zero, List.drop_succ_cons, List.drop_nil, Nat.reduceAdd, Nat.reduceMul, Nat.reduceSub, if_true, Nat.reduceLT, Nat.reduceLeDiff, ite_true, ite_false, Nat.reduceEqDiff, if_false, reduceCtorEq, ne_eq, List.getD, List.getElem?_cons_zero, List.getElem?_cons_succ, Option.getD_some, Option.bind_some, Option.map_some, Option.isSome_some, reduceIte, List.length_append, List.append_assoc, List.cons_append, List.nil_append, Option.some.injEq, forall_const, implies_true, Int.reduceNeg, eq_self, Prod.mk.injEq, List.self_eq_append_right, List.append_nil, exists_eq_left, exists_eq_left', exists_and_left, exists_eq_right, exists_and_right]
end Go.Proofs.Ytaekgifbehoipaa.Wr
