/- The order of two products. Conditions stand in each lemma. -/
import Derived.Test.YtpehhlfbnkakpaaRtH
namespace Go.Proofs.Ytpehhlfbnkakpaa.Fl
open Go Go.Proofs.Ytpehhlfbnkakpaa.Eva Go.Proofs.Ytpehhlfbnkakpaa.CodeAll Go.Proofs.Ytpehhlfbnkakpaa.Dg
set_option linter.unusedVariables false
set_option linter.unusedSimpArgs false
set_option maxRecDepth 10000
set_option maxHeartbeats 4000000

theorem sgn_mul (a b : Int) : sgn a * sgn b = sgn (a * b) := by
  unfold sgn
  by_cases h1 : 0 < a
  · by_cases h2 : 0 < b
    · have := Int.mul_pos h1 h2
      simp [h1, h2, this]
    · by_cases h3 : b < 0
      · have := Int.mul_neg_of_pos_of_neg h1 h3
        have h4 : ¬ 0 < a * b := by omega
        simp [h1, h2, h3, h4, this]
      · have : b = 0 := by omega
        subst this; simp
  · by_cases h1' : a < 0
    · by_cases h2 : 0 < b
      · have := Int.mul_neg_of_neg_of_pos h1' h2
        have h4 : ¬ 0 < a * b := by omega
        simp [h1, h1', h2, h4, this]
      · by_cases h3 : b < 0
        · have := Int.mul_pos_of_neg_of_neg h1' h3
          simp [h1, h1', h2, h3, this]
        · have : b = 0 := by omega
          subst this; simp
    · have : a = 0 := by omega
      subst this; simp
theorem sgn_bd (a : Int) : -1 ≤ sgn a ∧ sgn a ≤ 1 := by unfold sgn; split <;> (try split) <;> omega
theorem sgn_val (a : Int) : (0 < a ∧ sgn a = 1) ∨ (a < 0 ∧ sgn a = -1) ∨ (a = 0 ∧ sgn a = 0) := by unfold sgn; split <;> (try split) <;> omega
/-- Two products with one sign stand as their magnitudes. -/
theorem sgn_diff (p q : Int) : (sgn p ≠ sgn q → sgn (sgn p - sgn q) = sgn (p - q)) ∧ (sgn p = sgn q → (q.natAbs < p.natAbs → sgn (p - q) = sgn p) ∧ (p.natAbs < q.natAbs → sgn (p - q) = -sgn p) ∧ (p.natAbs = q.natAbs → sgn (p - q) = 0)) := by
  have h1 := sgn_val p
  have h2 := sgn_val q
  have h3 := sgn_val (p - q)
  have h4 := sgn_val (sgn p - sgn q)
  refine ⟨fun h => by omega, fun h => ⟨fun _ => by omega, fun _ => by omega, fun _ => by omega⟩⟩

theorem cmp_pc {a b c d : Int} (ha : I64 a) (hb : I64 b) (hc : I64 c) (hd : I64 d) (H : List Ob) : pcall E 45 [.int .i64 a, .int .i64 b, .int .i64 c, .int .i64 d] H = some (.int .i64 (sgn (a * b - c * d))) := by
  refine pcall_some.2 (call_plain e45 rfl (Nat.le_of_ble_eq_true rfl) rfl ?_)
  have g1 := fun H => sign_pc a H
  have g2 := fun H => sign_pc b H
  have g3 := fun H => sign_pc c H
  have g4 := fun H => sign_pc d H
  have w1 : IntKind.i64.wrap (sgn a * sgn b) = sgn (a * b) := by
    rw [sgn_mul]; have := sgn_bd (a * b); exact wrap64 (by omega) (by omega)
  have w2 : IntKind.i64.wrap (sgn c * sgn d) = sgn (c * d) := by
    rw [sgn_mul]; have := sgn_bd (c * d); exact wrap64 (by omega) (by omega)
  have b1 := sgn_bd (a * b)
  have b2 := sgn_bd (c * d)
  obtain ⟨D1, D2⟩ := sgn_diff (a * b) (c * d)
  obtain ⟨cs1, ⟨x, rfl, xl, xb, xv⟩, p1⟩ := product_ex ha hb H
  obtain ⟨cs2, ⟨y, rfl, yl, yb, yv⟩, p2⟩ := product_ex hc hd (H ++ [⟨x.map gI, 0, 1, true, true⟩])
  rw [← Int.natCast_mul, ← Int.natAbs_mul] at xv yv
  generalize a * b = p at *
  generalize c * d = q at *
  by_cases hst : sgn p = sgn q
  · have hne : (sgn p != sgn q) = false := by simp [hst]
    obtain ⟨D3, D4, D5⟩ := D2 hst
    have q1 := ncall_some.2 p1
    have q2 := ncall_some.2 p2
    simp only [out9, outO9, List.length_append, List.length_cons, List.length_nil, Nat.zero_add] at q1 q2
    have hX : ∀ o, Arr H.length (H ++ (⟨x.map gI, 0, 1, true, true⟩ :: o)) (.sl false H.length 0 1 0 9) gI x := fun o => ⟨_, 0, by rw [xl], by simp [rdObj], Nat.le_refl _⟩
    have hY : ∀ A o, Arr H.length (H ++ (A :: ⟨y.map gI, 0, 1, true, true⟩ :: o)) (.sl false (H.length + 1) 0 1 0 9) gI y := fun A o => ⟨_, 0, by rw [yl], by simp [rdObj], by omega⟩
    have w9 : IntKind.i64.wrap ((9 : Nat) - 1 : Int) = 8 := by decide
    simp (config := {maxSteps := 4000000}) only [c45, g1, g2, g3, g4, w1, w2, hne, rg_calln, ncallV_fn, q1, q2, w9, SS, bne_self_eq_false, wr_def, obOf, List.all_cons, List.all_nil, List.map_cons, List.map_nil, List.length_cons, List.length_nil, List.take_zero, List.take_succ_cons, List.take_nil, List.drop_zero, List.drop_succ_cons, List.drop_nil, Nat.reduceAdd, Nat.reduceMul, Nat.reduceSub, if_true, Nat.reduceLT, Nat.reduceLeDiff, ite_true, ite_false, Nat.reduceEqDiff, if_false, reduceCtorEq, ne_eq, List.getD, List.getElem?_cons_zero, List.getElem?_cons_succ, Option.getD_some, Option.bind_some, Option.map_some, Option.isSome_some, reduceIte, List.length_append, List.append_assoc, List.cons_append, List.nil_append, Option.some.injEq, forall_const, implies_true, Int.reduceNeg, eq_self, Prod.mk.injEq, List.self_eq_append_right, List.append_nil, exists_eq_left, exists_eq_left', exists_and_left, exists_eq_right, exists_and_right]
    refine W_loop (fun k f1 h1 => k ≤ 9 ∧ f1 9 = .int .i64 (sgn p) ∧ f1 11 = .sl false H.length 0 1 0 9 ∧ f1 12 = .sl false (H.length + 1) 0 1 0 9 ∧ f1 13 = .int .i64 ((k : Int) - 1) ∧ Arr H.length h1 (.sl false H.length 0 1 0 9) gI x ∧ Arr H.length h1 (.sl false (H.length + 1) 0 1 0 9) gI y ∧ x.drop k = y.drop k) (by simp) 9 ⟨by omega, rfl, rfl, rfl, rfl, hX _, hY _ _, by rw [List.drop_of_length_le (by omega), List.drop_of_length_le (by omega)]⟩ ?_
    rintro k f1 h1 hn1 ht ⟨hk, e9, e11, e12, e13, aX, aY, hdr⟩
    by_cases hk0 : k = 0
    · subst hk0
      have hc0 : decide ((0 : Int) ≤ ((0 : Nat) : Int) - 1) = false := rfl
      simp only [List.drop_zero] at hdr
      subst hdr
      have hf := D5 (by omega)
      simp (config := {maxSteps := 4000000}) only [e9, e11, e12, e13, hc0, hf, SS, bne_self_eq_false, wr_def, obOf, List.all_cons, List.all_nil, List.map_cons, List.map_nil, List.length_cons, List.length_nil, List.take_zero, List.take_succ_cons, List.take_nil, List.drop_zero, List.drop_succ_cons, List.drop_nil, Nat.reduceAdd, Nat.reduceMul, Nat.reduceSub, if_true, Nat.reduceLT, Nat.reduceLeDiff, ite_true, ite_false, Nat.reduceEqDiff, if_false, reduceCtorEq, ne_eq, List.getD, List.getElem?_cons_zero, List.getElem?_cons_succ, Option.getD_some, Option.bind_some, Option.map_some, Option.isSome_some, reduceIte, List.length_append, List.append_assoc, List.cons_append, List.nil_append, Option.some.injEq, forall_const, implies_true, Int.reduceNeg, eq_self, Prod.mk.injEq, List.self_eq_append_right, List.append_nil, exists_eq_left, exists_eq_left', exists_and_left, exists_eq_right, exists_and_right]
    obtain ⟨j, rfl⟩ : ∃ j, k = j + 1 := ⟨k - 1, by omega⟩
    have ej : ((j + 1 : Nat) : Int) - 1 = (j : Int) := by omega
    rw [ej] at e13
    have hc0 : decide ((0 : Int) ≤ (j : Int)) = true := decide_eq_true (by omega)
    obtain ⟨u, hu⟩ : ∃ d, x[j]? = some d := ⟨_, List.getElem?_eq_getElem (by omega)⟩
    obtain ⟨v, hv⟩ : ∃ d, y[j]? = some d := ⟨_, List.getElem?_eq_getElem (by omega)⟩
    have o1 := aX.ok (kk := .i64) (i := (j : Int)) (by omega) (by omega)
    have o2 := aY.ok (kk := .i64) (i := (j : Int)) (by omega) (by omega)
    have d1 := aX.ld (kk := .i64) (i := (j : Int)) (by omega) hu
    have d2 := aY.ld (kk := .i64) (i := (j : Int)) (by omega) hv
    simp only [gI] at d1 d2
    have wj : IntKind.i64.wrap ((j : Int) - 1) = (j : Int) - 1 := wrap64 (by omega) (by omega)
    have wn : IntKind.i64.wrap (0 - sgn p) = -sgn p := by rw [wrap64 (by omega) (by omega)]; omega
    generalize AV.sl false H.length 0 1 0 9 = vx at *
    generalize AV.sl false (H.length + 1) 0 1 0 9 = vy at *
    by_cases huv : u = v
    · subst huv
      have hdr' : x.drop j = y.drop j := by
        rw [List.drop_eq_getElem_cons (by omega), List.drop_eq_getElem_cons (show j < y.length by omega), hdr]
        rw [List.getElem?_eq_getElem (by omega)] at hu hv
        simp only [Option.some.injEq] at hu hv
        rw [hu, hv]
      simp (config := {maxSteps := 4000000}) only [e9, e11, e12, e13, hc0, o1, o2, isPtr_idx o1, isPtr_idx o2, d1, d2, bne_self_eq_false, wj, SS, bne_self_eq_false, wr_def, obOf, List.all_cons, List.all_nil, List.map_cons, List.map_nil, List.length_cons, List.length_nil, List.take_zero, List.take_succ_cons, List.take_nil, List.drop_zero, List.drop_succ_cons, List.drop_nil, Nat.reduceAdd, Nat.reduceMul, Nat.reduceSub, if_true, Nat.reduceLT, Nat.reduceLeDiff, ite_true, ite_false, Nat.reduceEqDiff, if_false, reduceCtorEq, ne_eq, List.getD, List.getElem?_cons_zero, List.getElem?_cons_succ, Option.getD_some, Option.bind_some, Option.map_some, Option.isSome_some, reduceIte, List.length_append, List.append_assoc, List.cons_append, List.nil_append, Option.some.injEq, forall_const, implies_true, Int.reduceNeg, eq_self, Prod.mk.injEq, List.self_eq_append_right, List.append_nil, exists_eq_left, exists_eq_left', exists_and_left, exists_eq_right, exists_and_right]
      exact ⟨j, by omega, by omega, rfl, aX, aY, hdr'⟩
    · have hne2 : (u != v) = true := by simpa using huv
      by_cases hlt : v < u
      · have hlt' : decide (v < u) = true := decide_eq_true hlt
        have hf := D3 (by have := dval_gt xb yb hu hv hdr hlt; omega)
        simp (config := {maxSteps := 4000000}) only [e9, e11, e12, e13, hc0, o1, o2, isPtr_idx o1, isPtr_idx o2, d1, d2, hne2, hlt', hf, SS, bne_self_eq_false, wr_def, obOf, List.all_cons, List.all_nil, List.map_cons, List.map_nil, List.length_cons, List.length_nil, List.take_zero, List.take_succ_cons, List.take_nil, List.drop_zero, List.drop_succ_cons, List.drop_nil, Nat.reduceAdd, Nat.reduceMul, Nat.reduceSub, if_true, Nat.reduceLT, Nat.reduceLeDiff, ite_true, ite_false, Nat.reduceEqDiff, if_false, reduceCtorEq, ne_eq, List.getD, List.getElem?_cons_zero, List.getElem?_cons_succ, Option.getD_some, Option.bind_some, Option.map_some, Option.isSome_some, reduceIte, List.length_append, List.append_assoc, List.cons_append, List.nil_append, Option.some.injEq, forall_const, implies_true, Int.reduceNeg, eq_self, Prod.mk.injEq, List.self_eq_append_right, List.append_nil, exists_eq_left, exists_eq_left', exists_and_left, exists_eq_right, exists_and_right]
      · have hlt' : decide (v < u) = false := decide_eq_false hlt
        have hf := D4 (by have := dval_gt yb xb hv hu hdr.symm (by omega); omega)
        simp (config := {maxSteps := 4000000}) only [e9, e11, e12, e13, hc0, o1, o2, isPtr_idx o1, isPtr_idx o2, d1, d2, hne2, hlt', hf, wn, SS, bne_self_eq_false, wr_def, obOf, List.all_cons, List.all_nil, List.map_cons, List.map_nil, List.length_cons, List.length_nil, List.take_zero, List.take_succ_cons, List.take_nil, List.drop_zero, List.drop_succ_cons, List.drop_nil, Nat.reduceAdd, Nat.reduceMul, Nat.reduceSub, if_true, Nat.reduceLT, Nat.reduceLeDiff, ite_true, ite_false, Nat.reduceEqDiff, if_false, reduceCtorEq, ne_eq, List.getD, List.getElem?_cons_zero, List.getElem?_cons_succ, Option.getD_some, Option.bind_some, Option.map_some, Option.isSome_some, reduceIte, List.length_append, List.append_assoc, List.cons_append, List.nil_append, Option.some.injEq, forall_const, implies_true, Int.reduceNeg, eq_self, Prod.mk.injEq, List.self_eq_append_right, List.append_nil, exists_eq_left, exists_eq_left', exists_and_left, exists_eq_right, exists_and_right]
  · have hne : (sgn p != sgn q) = true := by simpa using hst
    have w3 : IntKind.i64.wrap (sgn p - sgn q) = sgn p - sgn q := wrap64 (by omega) (by omega)
    have g5 := fun H => sign_pc (sgn p - sgn q) H
    rw [D1 hst] at g5
    simp (config := {maxSteps := 4000000}) only [c45, g1, g2, g3, g4, w1, w2, hne, w3, g5, SS, bne_self_eq_false, wr_def, obOf, List.all_cons, List.all_nil, List.map_cons, List.map_nil, List.length_cons, List.length_nil, List.take_zero, List.take_succ_cons, List.take_nil, List.drop_zero, List.drop_succ_cons, List.drop_nil, Nat.reduceAdd, Nat.reduceMul, Nat.reduceSub, if_true, Nat.reduceLT, Nat.reduceLeDiff, ite_true, ite_false, Nat.reduceEqDiff, if_false, reduceCtorEq, ne_eq, List.getD, List.getElem?_cons_zero, List.getElem?_cons_succ, Option.getD_some, Option.bind_some, Option.map_some, Option.isSome_some, reduceIte, List.length_append, List.append_assoc, List.cons_append, List.nil_append, Option.some.injEq, forall_const, implies_true, Int.reduceNeg, eq_self, Prod.mk.injEq, List.self_eq_append_right, List.append_nil, exists_eq_left, exists_eq_left', exists_and_left, exists_eq_right, exists_and_right]
end Go.Proofs.Ytpehhlfbnkakpaa.Fl
