/- What the functions of the package plane, and Floor and Mix of the reference, answer. Conditions stand in each lemma. -/
import Derived.Test.YtpehhlfbnkakpaaRtB
import Derived.Test.YtpehhlfbnkakpaaFlB
namespace Go.Proofs.Ytpehhlfbnkakpaa.Pn
open Go Go.Proofs.Ytpehhlfbnkakpaa.Eva Go.Proofs.Ytpehhlfbnkakpaa.CodeAll Go.Proofs.Ytpehhlfbnkakpaa.Fl
set_option linter.unusedVariables false
set_option linter.unusedSimpArgs false
set_option maxRecDepth 10000
set_option maxHeartbeats 4000000

structure P2 where
  (x y : Int)
def P2.c (p : P2) : List AV := [.int .i64 p.x, .int .i64 p.y]
def pOff (p : P2) : Bool := decide (p.x < -1000000) || decide (1000000 < p.x) || decide (p.y < -1000000) || decide (1000000 < p.y)
theorem pchk_pc (p : P2) (H : List Ob) : pcall E 57 [.agg p.c] H = some (.int .i64 (if pOff p = true then 4 else 0)) := by
  refine pcall_some.2 (call_plain e57 rfl (Nat.le_of_ble_eq_true rfl) rfl ?_)
  simp (config := {maxSteps := 8000000}) only [c57, P2.c, SS, bne_self_eq_false, wr_def, obOf, List.all_cons, List.all_nil, List.map_cons, List.map_nil, List.length_cons, List.length_nil, List.take_zero, List.take_succ_cons, List.take_nil, List.drop_zero, List.drop_succ_cons, List.drop_nil, Nat.reduceAdd, Nat.reduceMul, Nat.reduceSub, if_true, Nat.reduceLT, Nat.reduceLeDiff, ite_true, ite_false, Nat.reduceEqDiff, if_false, reduceCtorEq, ne_eq, List.getD, List.getElem?_cons_zero, List.getElem?_cons_succ, Option.getD_some, Option.bind_some, Option.map_some, Option.isSome_some, reduceIte, List.length_append, List.append_assoc, List.cons_append, List.nil_append, Option.some.injEq, forall_const, implies_true, Int.reduceNeg, eq_self, Prod.mk.injEq, List.self_eq_append_right, List.append_nil, exists_eq_left, exists_eq_left', exists_and_left, exists_eq_right, exists_and_right]
  exact ⟨fun hb => by simp only [pOff, hb, ite_true], fun hb => by simp only [pOff, hb, Bool.false_eq_true, ite_false]⟩
theorem good_pc (p : P2) (H : List Ob) : pcall E 17 [.agg p.c] H = some (.bool (!pOff p)) := by
  refine pcall_some.2 (call_plain e17 rfl (Nat.le_of_ble_eq_true rfl) rfl ?_)
  have e : (decide (-1000000 ≤ p.x) && decide (p.x ≤ 1000000) && decide (-1000000 ≤ p.y) && decide (p.y ≤ 1000000)) = !pOff p := by
    unfold pOff; rw [Bool.eq_iff_iff]
    simp only [Bool.and_eq_true, decide_eq_true_eq, Bool.not_eq_true', Bool.or_eq_false_iff, decide_eq_false_iff_not]
    omega
  simp (config := {maxSteps := 8000000}) only [c17, P2.c, SS, bne_self_eq_false, wr_def, obOf, List.all_cons, List.all_nil, List.map_cons, List.map_nil, List.length_cons, List.length_nil, List.take_zero, List.take_succ_cons, List.take_nil, List.drop_zero, List.drop_succ_cons, List.drop_nil, Nat.reduceAdd, Nat.reduceMul, Nat.reduceSub, if_true, Nat.reduceLT, Nat.reduceLeDiff, ite_true, ite_false, Nat.reduceEqDiff, if_false, reduceCtorEq, ne_eq, List.getD, List.getElem?_cons_zero, List.getElem?_cons_succ, Option.getD_some, Option.bind_some, Option.map_some, Option.isSome_some, reduceIte, List.length_append, List.append_assoc, List.cons_append, List.nil_append, Option.some.injEq, forall_const, implies_true, Int.reduceNeg, eq_self, Prod.mk.injEq, List.self_eq_append_right, List.append_nil, exists_eq_left, exists_eq_left', exists_and_left, exists_eq_right, exists_and_right]
  rw [← e]
theorem sub_pc (px py qx qy : Int) (H : List Ob) : pcall E 95 [.agg [.int .i64 px, .int .i64 py], .agg [.int .i64 qx, .int .i64 qy]] H = some (.agg [.int .i64 (w (px - qx)), .int .i64 (w (py - qy))]) := by
  refine pcall_some.2 (call_plain e95 rfl (Nat.le_of_ble_eq_true rfl) rfl ?_)
  simp (config := {maxSteps := 8000000}) only [c95, SS, bne_self_eq_false, wr_def, obOf, List.all_cons, List.all_nil, List.map_cons, List.map_nil, List.length_cons, List.length_nil, List.take_zero, List.take_succ_cons, List.take_nil, List.drop_zero, List.drop_succ_cons, List.drop_nil, Nat.reduceAdd, Nat.reduceMul, Nat.reduceSub, if_true, Nat.reduceLT, Nat.reduceLeDiff, ite_true, ite_false, Nat.reduceEqDiff, if_false, reduceCtorEq, ne_eq, List.getD, List.getElem?_cons_zero, List.getElem?_cons_succ, Option.getD_some, Option.bind_some, Option.map_some, Option.isSome_some, reduceIte, List.length_append, List.append_assoc, List.cons_append, List.nil_append, Option.some.injEq, forall_const, implies_true, Int.reduceNeg, eq_self, Prod.mk.injEq, List.self_eq_append_right, List.append_nil, exists_eq_left, exists_eq_left', exists_and_left, exists_eq_right, exists_and_right]
def crs (a b c d : Int) : Int := w (w (a * d) - w (b * c))
theorem cross_pc (a b c d : Int) (H : List Ob) : pcall E 94 [.agg [.int .i64 a, .int .i64 b], .agg [.int .i64 c, .int .i64 d]] H = some (.int .i64 (crs a b c d)) := by
  refine pcall_some.2 (call_plain e94 rfl (Nat.le_of_ble_eq_true rfl) rfl ?_)
  simp (config := {maxSteps := 8000000}) only [c94, crs, SS, bne_self_eq_false, wr_def, obOf, List.all_cons, List.all_nil, List.map_cons, List.map_nil, List.length_cons, List.length_nil, List.take_zero, List.take_succ_cons, List.take_nil, List.drop_zero, List.drop_succ_cons, List.drop_nil, Nat.reduceAdd, Nat.reduceMul, Nat.reduceSub, if_true, Nat.reduceLT, Nat.reduceLeDiff, ite_true, ite_false, Nat.reduceEqDiff, if_false, reduceCtorEq, ne_eq, List.getD, List.getElem?_cons_zero, List.getElem?_cons_succ, Option.getD_some, Option.bind_some, Option.map_some, Option.isSome_some, reduceIte, List.length_append, List.append_assoc, List.cons_append, List.nil_append, Option.some.injEq, forall_const, implies_true, Int.reduceNeg, eq_self, Prod.mk.injEq, List.self_eq_append_right, List.append_nil, exists_eq_left, exists_eq_left', exists_and_left, exists_eq_right, exists_and_right]
def dot (a b c d : Int) : Int := w (w (a * c) + w (b * d))
theorem dot_pc (a b c d : Int) (H : List Ob) : pcall E 118 [.agg [.int .i64 a, .int .i64 b], .agg [.int .i64 c, .int .i64 d]] H = some (.int .i64 (dot a b c d)) := by
  refine pcall_some.2 (call_plain e118 rfl (Nat.le_of_ble_eq_true rfl) rfl ?_)
  simp (config := {maxSteps := 8000000}) only [c118, dot, SS, bne_self_eq_false, wr_def, obOf, List.all_cons, List.all_nil, List.map_cons, List.map_nil, List.length_cons, List.length_nil, List.take_zero, List.take_succ_cons, List.take_nil, List.drop_zero, List.drop_succ_cons, List.drop_nil, Nat.reduceAdd, Nat.reduceMul, Nat.reduceSub, if_true, Nat.reduceLT, Nat.reduceLeDiff, ite_true, ite_false, Nat.reduceEqDiff, if_false, reduceCtorEq, ne_eq, List.getD, List.getElem?_cons_zero, List.getElem?_cons_succ, Option.getD_some, Option.bind_some, Option.map_some, Option.isSome_some, reduceIte, List.length_append, List.append_assoc, List.cons_append, List.nil_append, Option.some.injEq, forall_const, implies_true, Int.reduceNeg, eq_self, Prod.mk.injEq, List.self_eq_append_right, List.append_nil, exists_eq_left, exists_eq_left', exists_and_left, exists_eq_right, exists_and_right]
def sqr (px py qx qy : Int) : Int := dot (w (px - qx)) (w (py - qy)) (w (px - qx)) (w (py - qy))
theorem square_pc (px py qx qy : Int) (H : List Ob) : pcall E 93 [.agg [.int .i64 px, .int .i64 py], .agg [.int .i64 qx, .int .i64 qy]] H = some (.int .i64 (sqr px py qx qy)) := by
  refine pcall_some.2 (call_plain e93 rfl (Nat.le_of_ble_eq_true rfl) rfl ?_)
  have h1 := fun H => sub_pc px py qx qy H
  unfold sqr
  generalize w (px - qx) = X at *
  generalize w (py - qy) = Y at *
  simp (config := {maxSteps := 8000000}) only [c93, h1, dot_pc, SS, bne_self_eq_false, wr_def, obOf, List.all_cons, List.all_nil, List.map_cons, List.map_nil, List.length_cons, List.length_nil, List.take_zero, List.take_succ_cons, List.take_nil, List.drop_zero, List.drop_succ_cons, List.drop_nil, Nat.reduceAdd, Nat.reduceMul, Nat.reduceSub, if_true, Nat.reduceLT, Nat.reduceLeDiff, ite_true, ite_false, Nat.reduceEqDiff, if_false, reduceCtorEq, ne_eq, List.getD, List.getElem?_cons_zero, List.getElem?_cons_succ, Option.getD_some, Option.bind_some, Option.map_some, Option.isSome_some, reduceIte, List.length_append, List.append_assoc, List.cons_append, List.nil_append, Option.some.injEq, forall_const, implies_true, Int.reduceNeg, eq_self, Prod.mk.injEq, List.self_eq_append_right, List.append_nil, exists_eq_left, exists_eq_left', exists_and_left, exists_eq_right, exists_and_right]
noncomputable def dist (s : Int) : Int × Int := if decide (w (rt s * rt s) < s) = true then (rt s, w (rt s + 1)) else (rt s, rt s)
theorem distance_pc {px py qx qy s : Int} (hs : sqr px py qx qy = s) (hb : s < 9223372036854775808) (H : List Ob) : pcall E 55 [.agg [.int .i64 px, .int .i64 py], .agg [.int .i64 qx, .int .i64 qy]] H = some (.tup [.int .i64 (dist s).1, .int .i64 (dist s).2]) := by
  refine pcall_some.2 (call_plain e55 rfl (Nat.le_of_ble_eq_true rfl) rfl ?_)
  have h1 := fun H => square_pc px py qx qy H
  rw [hs] at h1
  have h2 := fun H => root_pc hb H
  unfold dist
  generalize rt s = r at *
  cases hc : decide (w (r * r) < s) <;> simp (config := {maxSteps := 8000000}) only [c55, h1, h2, hc, SS, bne_self_eq_false, wr_def, obOf, List.all_cons, List.all_nil, List.map_cons, List.map_nil, List.length_cons, List.length_nil, List.take_zero, List.take_succ_cons, List.take_nil, List.drop_zero, List.drop_succ_cons, List.drop_nil, Nat.reduceAdd, Nat.reduceMul, Nat.reduceSub, if_true, Nat.reduceLT, Nat.reduceLeDiff, ite_true, ite_false, Nat.reduceEqDiff, if_false, reduceCtorEq, ne_eq, List.getD, List.getElem?_cons_zero, List.getElem?_cons_succ, Option.getD_some, Option.bind_some, Option.map_some, Option.isSome_some, reduceIte, List.length_append, List.append_assoc, List.cons_append, List.nil_append, Option.some.injEq, forall_const, implies_true, Int.reduceNeg, eq_self, Prod.mk.injEq, List.self_eq_append_right, List.append_nil, exists_eq_left, exists_eq_left', exists_and_left, exists_eq_right, exists_and_right]

theorem floor_fact {a b q r : Int} (hb : 0 < b) (h : a = q * b + r) (h0 : 0 ≤ r) (h1 : r < b) : a / b = q := by
  subst h
  rw [Int.add_comm, Int.add_mul_ediv_right _ _ (by omega), Int.ediv_eq_zero_of_lt h0 h1]; omega
theorem floor_pos_pc {a : Int} {b : Nat} (ha : 0 ≤ a) (ha2 : a < 9223372036854775808) (hb : 0 < b) (hb2 : b < 9223372036854775808) (H : List Ob) : pcall E 59 [.int .i64 a, .int .i64 (b : Int)] H = some (.int .i64 (a / (b : Int))) := by
  refine pcall_some.2 (call_plain e59 rfl (Nat.le_of_ble_eq_true rfl) rfl ?_)
  have c0 : decide (a < 0) = false := decide_eq_false (by omega)
  simp (config := {maxSteps := 8000000}) only [c59, c0, SS, bne_self_eq_false, wr_def, obOf, List.all_cons, List.all_nil, List.map_cons, List.map_nil, List.length_cons, List.length_nil, List.take_zero, List.take_succ_cons, List.take_nil, List.drop_zero, List.drop_succ_cons, List.drop_nil, Nat.reduceAdd, Nat.reduceMul, Nat.reduceSub, if_true, Nat.reduceLT, Nat.reduceLeDiff, ite_true, ite_false, Nat.reduceEqDiff, if_false, reduceCtorEq, ne_eq, List.getD, List.getElem?_cons_zero, List.getElem?_cons_succ, Option.getD_some, Option.bind_some, Option.map_some, Option.isSome_some, reduceIte, List.length_append, List.append_assoc, List.cons_append, List.nil_append, Option.some.injEq, forall_const, implies_true, Int.reduceNeg, eq_self, Prod.mk.injEq, List.self_eq_append_right, List.append_nil, exists_eq_left, exists_eq_left', exists_and_left, exists_eq_right, exists_and_right]
  refine W_loop (fun s f1 h1 => ∃ r q : Int, s ≤ 63 ∧ 0 ≤ r ∧ 0 ≤ q ∧ a = q * (b : Int) + r ∧ r < ((b * 2 ^ s : Nat) : Int) ∧ f1 0 = .int .i64 r ∧ f1 1 = .int .i64 (b : Int) ∧ f1 5 = .int .i64 q ∧ f1 6 = .int .i64 ((s : Int) - 1) ∧ h1 = H) (by simp) 63 ⟨a, 0, by omega, ha, by omega, by omega, by omega, rfl, rfl, rfl, rfl, rfl⟩ ?_
  rintro s f1 h1 hn1 ht ⟨r, q, hs, r0, q0, hq, hr, e0, e1, e5, e6, rfl⟩
  by_cases hs0 : s = 0
  · subst hs0
    have hc : decide ((0 : Int) ≤ ((0 : Nat) : Int) - 1) = false := rfl
    have hf := floor_fact (a := a) (b := b) (q := q) (r := r) (by omega) hq r0 (by simpa using hr)
    rw [hf]
    simp (config := {maxSteps := 8000000}) only [e0, e1, e5, e6, hc, SS, bne_self_eq_false, wr_def, obOf, List.all_cons, List.all_nil, List.map_cons, List.map_nil, List.length_cons, List.length_nil, List.take_zero, List.take_succ_cons, List.take_nil, List.drop_zero, List.drop_succ_cons, List.drop_nil, Nat.reduceAdd, Nat.reduceMul, Nat.reduceSub, if_true, Nat.reduceLT, Nat.reduceLeDiff, ite_true, ite_false, Nat.reduceEqDiff, if_false, reduceCtorEq, ne_eq, List.getD, List.getElem?_cons_zero, List.getElem?_cons_succ, Option.getD_some, Option.bind_some, Option.map_some, Option.isSome_some, reduceIte, List.length_append, List.append_assoc, List.cons_append, List.nil_append, Option.some.injEq, forall_const, implies_true, Int.reduceNeg, eq_self, Prod.mk.injEq, List.self_eq_append_right, List.append_nil, exists_eq_left, exists_eq_left', exists_and_left, exists_eq_right, exists_and_right]
  obtain ⟨k, rfl⟩ : ∃ k, s = k + 1 := ⟨s - 1, by omega⟩
  have ek : ((k + 1 : Nat) : Int) - 1 = (k : Int) := by omega
  rw [ek] at e6
  have hc : decide ((0 : Int) ≤ (k : Int)) = true := decide_eq_true (by omega)
  have wk : IntKind.i64.wrap ((k : Int) - 1) = (k : Int) - 1 := wrap64 (by omega) (by omega)
  have sr := shr_i (kk := .i64) r k (by omega)
  have hq1 : q ≤ a := by
    have : q * 1 ≤ q * (b : Int) := Int.mul_le_mul_of_nonneg_left (by omega) q0
    omega
  have hqb : 0 ≤ q * (b : Int) := Int.mul_nonneg q0 (by omega)
  obtain ⟨B, hB⟩ : ∃ B, b * 2 ^ k = B := ⟨_, rfl⟩
  obtain ⟨P, hP⟩ : ∃ P, 2 ^ k = P := ⟨_, rfl⟩
  have hpw : b * 2 ^ (k + 1) = 2 * B := by rw [Nat.pow_succ, ← Nat.mul_assoc, hB, Nat.mul_comm]
  rw [hpw] at hr
  have hBP : (B : Int) = (P : Int) * (b : Int) := by rw [← hB, ← hP, Int.natCast_mul, Int.mul_comm]
  have hPB : P ≤ B := by rw [← hB, ← hP]; exact Nat.le_mul_of_pos_left _ hb
  have hPI : (2 : Int) ^ k = (P : Int) := by rw [← hP]; simp
  have hP0 : 0 < P := by rw [← hP]; exact Nat.two_pow_pos k
  rw [hPI] at sr
  by_cases hle : (b : Int) ≤ r / (P : Int)
  · have hle' : decide ((b : Int) ≤ r / (P : Int)) = true := decide_eq_true hle
    have hbk : (B : Int) ≤ r := by
      have := (Int.le_ediv_iff_mul_le (c := (P : Int)) (by omega)).1 hle
      rw [Int.mul_comm] at this; omega
    have s1 := shl_i (kk := .i64) b k (by rw [hB]; omega) (by omega)
    have s2 : abin .shl (.int .i64 1) (.int .i64 (k : Int)) = some (.int .i64 (P : Int)) := by
      have := shl_i (kk := .i64) 1 k (by rw [hP]; omega) (by omega)
      rw [hP, Nat.one_mul] at this
      exact this
    rw [hB] at s1
    have hq2 : a = (q + (P : Int)) * (b : Int) + (r - (B : Int)) := by
      rw [Int.add_mul]; omega
    have hq3 : q + (P : Int) ≤ a := by
      have : (q + (P : Int)) * 1 ≤ (q + (P : Int)) * (b : Int) := Int.mul_le_mul_of_nonneg_left (by omega) (by omega)
      omega
    have w1 : IntKind.i64.wrap (r - (B : Int)) = r - B := wrap64 (by omega) (by omega)
    have w2 : IntKind.i64.wrap (q + (P : Int)) = q + P := wrap64 (by omega) (by omega)
    simp (config := {maxSteps := 8000000}) only [e0, e1, e5, e6, hc, wk, sr, hle', s1, s2, w1, w2, SS, bne_self_eq_false, wr_def, obOf, List.all_cons, List.all_nil, List.map_cons, List.map_nil, List.length_cons, List.length_nil, List.take_zero, List.take_succ_cons, List.take_nil, List.drop_zero, List.drop_succ_cons, List.drop_nil, Nat.reduceAdd, Nat.reduceMul, Nat.reduceSub, if_true, Nat.reduceLT, Nat.reduceLeDiff, ite_true, ite_false, Nat.reduceEqDiff, if_false, reduceCtorEq, ne_eq, List.getD, List.getElem?_cons_zero, List.getElem?_cons_succ, Option.getD_some, Option.bind_some, Option.map_some, Option.isSome_some, reduceIte, List.length_append, List.append_assoc, List.cons_append, List.nil_append, Option.some.injEq, forall_const, implies_true, Int.reduceNeg, eq_self, Prod.mk.injEq, List.self_eq_append_right, List.append_nil, exists_eq_left, exists_eq_left', exists_and_left, exists_eq_right, exists_and_right]
    exact ⟨k, by omega, by omega, r - B, by omega, q + P, by omega, hq2, by rw [hB]; omega, rfl, rfl, rfl⟩
  · have hle' : decide ((b : Int) ≤ r / (P : Int)) = false := decide_eq_false hle
    have hbk : r < (B : Int) := by
      have := (Int.ediv_lt_iff_lt_mul (c := (P : Int)) (by omega)).1 (Int.not_le.1 hle)
      rw [Int.mul_comm] at this; omega
    simp (config := {maxSteps := 8000000}) only [e0, e1, e5, e6, hc, wk, sr, hle', SS, bne_self_eq_false, wr_def, obOf, List.all_cons, List.all_nil, List.map_cons, List.map_nil, List.length_cons, List.length_nil, List.take_zero, List.take_succ_cons, List.take_nil, List.drop_zero, List.drop_succ_cons, List.drop_nil, Nat.reduceAdd, Nat.reduceMul, Nat.reduceSub, if_true, Nat.reduceLT, Nat.reduceLeDiff, ite_true, ite_false, Nat.reduceEqDiff, if_false, reduceCtorEq, ne_eq, List.getD, List.getElem?_cons_zero, List.getElem?_cons_succ, Option.getD_some, Option.bind_some, Option.map_some, Option.isSome_some, reduceIte, List.length_append, List.append_assoc, List.cons_append, List.nil_append, Option.some.injEq, forall_const, implies_true, Int.reduceNeg, eq_self, Prod.mk.injEq, List.self_eq_append_right, List.append_nil, exists_eq_left, exists_eq_left', exists_and_left, exists_eq_right, exists_and_right]
    exact ⟨k, by omega, by omega, r, by omega, q, by omega, hq, by rw [hB]; omega, rfl, rfl, rfl⟩
theorem floor_pc {a : Int} {b : Nat} (ha : -4000000000000000000 ≤ a) (ha2 : a ≤ 4000000000000000000) (hb : 0 < b) (hb2 : b ≤ 4000000000000000000) (H : List Ob) : pcall E 59 [.int .i64 a, .int .i64 (b : Int)] H = some (.int .i64 (a / (b : Int))) := by
  by_cases h0 : 0 ≤ a
  · exact floor_pos_pc h0 (by omega) hb (by omega) H
  refine pcall_some.2 (call_plain e59 rfl (Nat.le_of_ble_eq_true rfl) rfl ?_)
  have c0 : decide (a < 0) = true := decide_eq_true (by omega)
  have w1 : IntKind.i64.wrap (0 - a) = -a := by rw [wrap64 (by omega) (by omega)]; omega
  have w2 : IntKind.i64.wrap (-a + (b : Int)) = -a + b := wrap64 (by omega) (by omega)
  have w3 : IntKind.i64.wrap (-a + (b : Int) - 1) = -a + b - 1 := wrap64 (by omega) (by omega)
  have h1 := fun H => floor_pos_pc (a := -a + b - 1) (b := b) (by omega) (by omega) hb (by omega) H
  have hq0 : 0 ≤ (-a + b - 1) / (b : Int) := Int.ediv_nonneg (by omega) (by omega)
  have hq1 : (-a + b - 1) / (b : Int) ≤ -a + b - 1 := Int.ediv_le_self _ (by omega)
  have hD := Int.mul_ediv_add_emod (-a + b - 1) b
  have hm0 := Int.emod_nonneg (-a + b - 1) (show (b : Int) ≠ 0 by omega)
  have hm1 := Int.emod_lt_of_pos (-a + b - 1) (show 0 < (b : Int) by omega)
  have hf : a / (b : Int) = -((-a + b - 1) / (b : Int)) := by
    refine floor_fact (r := (b : Int) - 1 - (-a + b - 1) % (b : Int)) (by omega) ?_ (by omega) (by omega)
    generalize (-a + b - 1) / (b : Int) = Q at *
    rw [Int.neg_mul, Int.mul_comm Q]
    omega
  have w4 : IntKind.i64.wrap (0 - (-a + b - 1) / (b : Int)) = a / (b : Int) := by rw [wrap64 (by omega) (by omega), hf]; omega
  simp (config := {maxSteps := 8000000}) only [c59, c0, w1, w2, w3, h1, w4, SS, bne_self_eq_false, wr_def, obOf, List.all_cons, List.all_nil, List.map_cons, List.map_nil, List.length_cons, List.length_nil, List.take_zero, List.take_succ_cons, List.take_nil, List.drop_zero, List.drop_succ_cons, List.drop_nil, Nat.reduceAdd, Nat.reduceMul, Nat.reduceSub, if_true, Nat.reduceLT, Nat.reduceLeDiff, ite_true, ite_false, Nat.reduceEqDiff, if_false, reduceCtorEq, ne_eq, List.getD, List.getElem?_cons_zero, List.getElem?_cons_succ, Option.getD_some, Option.bind_some, Option.map_some, Option.isSome_some, reduceIte, List.length_append, List.append_assoc, List.cons_append, List.nil_append, Option.some.injEq, forall_const, implies_true, Int.reduceNeg, eq_self, Prod.mk.injEq, List.self_eq_append_right, List.append_nil, exists_eq_left, exists_eq_left', exists_and_left, exists_eq_right, exists_and_right]
end Go.Proofs.Ytpehhlfbnkakpaa.Pn
