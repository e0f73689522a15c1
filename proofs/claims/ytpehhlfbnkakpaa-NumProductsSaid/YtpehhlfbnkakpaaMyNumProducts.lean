/- The law NumProducts: the abstract machine answers true. No condition. -/
import Derived.Test.YtpehhlfbnkakpaaInNumProducts
import Derived.Test.YtpehhlfbnkakpaaRtI
namespace Go.Proofs.Ytpehhlfbnkakpaa.MyNumProducts
open Go Go.Proofs.Ytpehhlfbnkakpaa.Eva Go.Proofs.Ytpehhlfbnkakpaa.CodeAll Go.Proofs.Ytpehhlfbnkakpaa.InNumProducts Go.Proofs.Ytpehhlfbnkakpaa.Fl
set_option linter.unusedVariables false
set_option linter.unusedSimpArgs false
set_option maxRecDepth 10000
set_option maxHeartbeats 4000000

theorem sg_neg {x : Int} (h : x < 0) : sgn x = -1 := by unfold sgn; rw [if_neg (by omega), if_pos h]
theorem sg_pos {x : Int} (h : 0 < x) : sgn x = 1 := by unfold sgn; rw [if_pos h]
theorem sg_nn {x : Int} (h : 0 ≤ x) : decide (0 ≤ sgn x) = true := by
  have := sgn_val x; exact decide_eq_true (by omega)
theorem sg_np {x : Int} (h : x ≤ 0) : decide (sgn x ≤ 0) = true := by
  have := sgn_val x; exact decide_eq_true (by omega)

theorem law (a b c : Int) (H : List Ob) (la : -9223372036854775808 ≤ a) (ha : a ≤ 9223372036854775807) (lb : -9223372036854775808 ≤ b) (hb : b ≤ 9223372036854775807) (lc : -9223372036854775808 ≤ c) (hc : c ≤ 9223372036854775807) : ∃ r, ecall E 12 [.int .i64 a, .int .i64 b, .int .i64 c] H = some (.bool true, r) := by
  have Ia : I64 a := ⟨la, by omega⟩
  have Ib : I64 b := ⟨lb, by omega⟩
  have Ic : I64 c := ⟨lc, by omega⟩
  refine call_true e12 rfl (Nat.le_of_ble_eq_true rfl) ?_
  have h0 := numWorks_pc
  have h1 := fun H => muldiv_pc Ia Ib Ic H
  have h2 := fun q (hq : I64 q) H => cmp_pc Ia Ib Ic hq H
  have n1 : ((-1 : Int) < 0) = True := eq_true (by decide)
  by_cases c0 : c = 0
  · subst c0
    have hm : md a b 0 = (0, 10) := by simp [md]
    rw [hm] at h1
    simp (config := {maxSteps := 8000000}) only [c12, h0, h1, beq_self_eq_true, SS, bne_self_eq_false, wr_def, obOf, List.all_cons, List.all_nil, List.map_cons, List.map_nil, List.length_cons, List.length_nil, List.take_zero, List.take_succ_cons, List.take_nil, List.drop_zero, List.drop_succ_cons, List.drop_nil, Nat.reduceAdd, Nat.reduceMul, Nat.reduceSub, if_true, Nat.reduceLT, Nat.reduceLeDiff, ite_true, ite_false, Nat.reduceEqDiff, if_false, reduceCtorEq, ne_eq, List.getD, List.getElem?_cons_zero, List.getElem?_cons_succ, Option.getD_some, Option.bind_some, Option.map_some, Option.isSome_some, reduceIte, List.length_append, List.append_assoc, List.cons_append, List.nil_append, Option.some.injEq, forall_const, implies_true, Int.reduceNeg, eq_self, Prod.mk.injEq, List.self_eq_append_right, List.append_nil, exists_eq_left, exists_eq_left', exists_and_left, exists_eq_right, exists_and_right]
  have c0' : (c == 0) = false := by simpa using c0
  have hLow := h2 (-9223372036854775808) ⟨by decide, by decide⟩
  have hMid := h2 4611686018427387904 ⟨by decide, by decide⟩
  have hMax := h2 9223372036854775807 ⟨by decide, by decide⟩
  by_cases hr : -9223372036854775808 ≤ flr (a * b) c ∧ flr (a * b) c < 9223372036854775808
  · have hm : md a b c = (flr (a * b) c, 0) := by rw [md, if_neg c0, if_pos hr]
    rw [hm] at h1
    have hq := h2 _ hr
    have hq1 : flr (a * b) c ≠ 9223372036854775807 → IntKind.i64.wrap (flr (a * b) c + 1) = flr (a * b) c + 1 := fun h => wrap64 (by omega) (by omega)
    have hq2 := fun h : flr (a * b) c ≠ 9223372036854775807 => h2 (flr (a * b) c + 1) ⟨by omega, by omega⟩
    have e02 : ((0 : Int) == 2) = false := rfl
    have e00 : ((0 : Int) != 0) = false := rfl
    by_cases cp : 0 < c
    · obtain ⟨s1, s2⟩ := flr_pos_spec (a * b) cp
      generalize flr (a * b) c = q at *
      have cp' : decide (0 < c) = true := decide_eq_true cp
      have k1 := sg_nn (x := a * b - c * q) (by rw [Int.mul_comm c q]; omega)
      by_cases hmx : q = 9223372036854775807
      · have hmx' : (q == 9223372036854775807) = true := by simpa using hmx
        simp (config := {maxSteps := 8000000}) only [c12, h0, h1, c0', e02, e00, cp', hq, k1, hmx', SS, bne_self_eq_false, wr_def, obOf, List.all_cons, List.all_nil, List.map_cons, List.map_nil, List.length_cons, List.length_nil, List.take_zero, List.take_succ_cons, List.take_nil, List.drop_zero, List.drop_succ_cons, List.drop_nil, Nat.reduceAdd, Nat.reduceMul, Nat.reduceSub, if_true, Nat.reduceLT, Nat.reduceLeDiff, ite_true, ite_false, Nat.reduceEqDiff, if_false, reduceCtorEq, ne_eq, List.getD, List.getElem?_cons_zero, List.getElem?_cons_succ, Option.getD_some, Option.bind_some, Option.map_some, Option.isSome_some, reduceIte, List.length_append, List.append_assoc, List.cons_append, List.nil_append, Option.some.injEq, forall_const, implies_true, Int.reduceNeg, eq_self, Prod.mk.injEq, List.self_eq_append_right, List.append_nil, exists_eq_left, exists_eq_left', exists_and_left, exists_eq_right, exists_and_right]
      · have hmx' : (q == 9223372036854775807) = false := by simpa using hmx
        have k2 : decide (sgn (a * b - c * (q + 1)) < 0) = true := by
          rw [sg_neg (by rw [Int.mul_comm c (q + 1)]; omega)]; rfl
        simp (config := {maxSteps := 8000000}) only [c12, h0, h1, c0', e02, e00, cp', hq, k1, hmx', hq1 hmx, hq2 hmx, k2, SS, bne_self_eq_false, wr_def, obOf, List.all_cons, List.all_nil, List.map_cons, List.map_nil, List.length_cons, List.length_nil, List.take_zero, List.take_succ_cons, List.take_nil, List.drop_zero, List.drop_succ_cons, List.drop_nil, Nat.reduceAdd, Nat.reduceMul, Nat.reduceSub, if_true, Nat.reduceLT, Nat.reduceLeDiff, ite_true, ite_false, Nat.reduceEqDiff, if_false, reduceCtorEq, ne_eq, List.getD, List.getElem?_cons_zero, List.getElem?_cons_succ, Option.getD_some, Option.bind_some, Option.map_some, Option.isSome_some, reduceIte, List.length_append, List.append_assoc, List.cons_append, List.nil_append, Option.some.injEq, forall_const, implies_true, Int.reduceNeg, eq_self, Prod.mk.injEq, List.self_eq_append_right, List.append_nil, exists_eq_left, exists_eq_left', exists_and_left, exists_eq_right, exists_and_right]
    · obtain ⟨s1, s2⟩ := flr_neg_spec (a * b) (show c < 0 by omega)
      generalize flr (a * b) c = q at *
      have cp' : decide (0 < c) = false := decide_eq_false cp
      have k1 := sg_np (x := a * b - c * q) (by rw [Int.mul_comm c q]; omega)
      by_cases hmx : q = 9223372036854775807
      · have hmx' : (q == 9223372036854775807) = true := by simpa using hmx
        simp (config := {maxSteps := 8000000}) only [c12, h0, h1, c0', e02, e00, cp', hq, k1, hmx', SS, bne_self_eq_false, wr_def, obOf, List.all_cons, List.all_nil, List.map_cons, List.map_nil, List.length_cons, List.length_nil, List.take_zero, List.take_succ_cons, List.take_nil, List.drop_zero, List.drop_succ_cons, List.drop_nil, Nat.reduceAdd, Nat.reduceMul, Nat.reduceSub, if_true, Nat.reduceLT, Nat.reduceLeDiff, ite_true, ite_false, Nat.reduceEqDiff, if_false, reduceCtorEq, ne_eq, List.getD, List.getElem?_cons_zero, List.getElem?_cons_succ, Option.getD_some, Option.bind_some, Option.map_some, Option.isSome_some, reduceIte, List.length_append, List.append_assoc, List.cons_append, List.nil_append, Option.some.injEq, forall_const, implies_true, Int.reduceNeg, eq_self, Prod.mk.injEq, List.self_eq_append_right, List.append_nil, exists_eq_left, exists_eq_left', exists_and_left, exists_eq_right, exists_and_right]
      · have hmx' : (q == 9223372036854775807) = false := by simpa using hmx
        have k2 : decide (0 < sgn (a * b - c * (q + 1))) = true := by
          rw [sg_pos (by rw [Int.mul_comm c (q + 1)]; omega)]; rfl
        simp (config := {maxSteps := 8000000}) only [c12, h0, h1, c0', e02, e00, cp', hq, k1, hmx', hq1 hmx, hq2 hmx, k2, SS, bne_self_eq_false, wr_def, obOf, List.all_cons, List.all_nil, List.map_cons, List.map_nil, List.length_cons, List.length_nil, List.take_zero, List.take_succ_cons, List.take_nil, List.drop_zero, List.drop_succ_cons, List.drop_nil, Nat.reduceAdd, Nat.reduceMul, Nat.reduceSub, if_true, Nat.reduceLT, Nat.reduceLeDiff, ite_true, ite_false, Nat.reduceEqDiff, if_false, reduceCtorEq, ne_eq, List.getD, List.getElem?_cons_zero, List.getElem?_cons_succ, Option.getD_some, Option.bind_some, Option.map_some, Option.isSome_some, reduceIte, List.length_append, List.append_assoc, List.cons_append, List.nil_append, Option.some.injEq, forall_const, implies_true, Int.reduceNeg, eq_self, Prod.mk.injEq, List.self_eq_append_right, List.append_nil, exists_eq_left, exists_eq_left', exists_and_left, exists_eq_right, exists_and_right]
  · have hm : md a b c = (0, 2) := by rw [md, if_neg c0, if_neg hr]
    rw [hm] at h1
    have e22 : ((2 : Int) == 2) = true := rfl
    have f11 : decide ((-1 : Int) < 0) = true := rfl
    have f12 : decide ((0 : Int) < 1) = true := rfl
    by_cases cp : 0 < c
    · obtain ⟨s1, s2⟩ := flr_pos_spec (a * b) cp
      have cp' : decide (0 < c) = true := decide_eq_true cp
      by_cases hlo : flr (a * b) c < -9223372036854775808
      · have := Int.mul_le_mul_of_nonneg_right (show flr (a * b) c + 1 ≤ -9223372036854775808 by omega) (Int.le_of_lt cp)
        have k1 := sg_neg (x := a * b - c * -9223372036854775808) (by rw [Int.mul_comm c]; omega)
        rw [k1] at hLow
        simp (config := {maxSteps := 8000000}) only [c12, h0, h1, c0', e22, cp', hLow, f11, beq_self_eq_true, SS, bne_self_eq_false, wr_def, obOf, List.all_cons, List.all_nil, List.map_cons, List.map_nil, List.length_cons, List.length_nil, List.take_zero, List.take_succ_cons, List.take_nil, List.drop_zero, List.drop_succ_cons, List.drop_nil, Nat.reduceAdd, Nat.reduceMul, Nat.reduceSub, if_true, Nat.reduceLT, Nat.reduceLeDiff, ite_true, ite_false, Nat.reduceEqDiff, if_false, reduceCtorEq, ne_eq, List.getD, List.getElem?_cons_zero, List.getElem?_cons_succ, Option.getD_some, Option.bind_some, Option.map_some, Option.isSome_some, reduceIte, List.length_append, List.append_assoc, List.cons_append, List.nil_append, Option.some.injEq, forall_const, implies_true, Int.reduceNeg, eq_self, Prod.mk.injEq, List.self_eq_append_right, List.append_nil, exists_eq_left, exists_eq_left', exists_and_left, exists_eq_right, exists_and_right]
      · have t1 := Int.mul_le_mul_of_nonneg_right (show 9223372036854775808 ≤ flr (a * b) c by omega) (Int.le_of_lt cp)
        have k2 := sg_pos (x := a * b - c * 4611686018427387904) (by rw [Int.mul_comm c]; omega)
        have k3 := sg_pos (x := a * b - c * 9223372036854775807) (by rw [Int.mul_comm c]; omega)
        have k1 := sg_pos (x := a * b - c * -9223372036854775808) (by rw [Int.mul_comm c]; omega)
        have f13 : decide ((1 : Int) < 0) = false := rfl
        rw [k1] at hLow
        rw [k2] at hMid
        rw [k3] at hMax
        simp (config := {maxSteps := 8000000}) only [c12, h0, h1, c0', e22, cp', hLow, hMid, hMax, f13, f12, beq_self_eq_true, SS, bne_self_eq_false, wr_def, obOf, List.all_cons, List.all_nil, List.map_cons, List.map_nil, List.length_cons, List.length_nil, List.take_zero, List.take_succ_cons, List.take_nil, List.drop_zero, List.drop_succ_cons, List.drop_nil, Nat.reduceAdd, Nat.reduceMul, Nat.reduceSub, if_true, Nat.reduceLT, Nat.reduceLeDiff, ite_true, ite_false, Nat.reduceEqDiff, if_false, reduceCtorEq, ne_eq, List.getD, List.getElem?_cons_zero, List.getElem?_cons_succ, Option.getD_some, Option.bind_some, Option.map_some, Option.isSome_some, reduceIte, List.length_append, List.append_assoc, List.cons_append, List.nil_append, Option.some.injEq, forall_const, implies_true, Int.reduceNeg, eq_self, Prod.mk.injEq, List.self_eq_append_right, List.append_nil, exists_eq_left, exists_eq_left', exists_and_left, exists_eq_right, exists_and_right]
    · have cn : c < 0 := by omega
      obtain ⟨s1, s2⟩ := flr_neg_spec (a * b) cn
      have cp' : decide (0 < c) = false := decide_eq_false cp
      by_cases hlo : flr (a * b) c < -9223372036854775808
      · have := Int.mul_le_mul_of_nonpos_right (show flr (a * b) c + 1 ≤ -9223372036854775808 by omega) (Int.le_of_lt cn)
        have k1 := sg_pos (x := a * b - c * -9223372036854775808) (by rw [Int.mul_comm c]; omega)
        rw [k1] at hLow
        simp (config := {maxSteps := 8000000}) only [c12, h0, h1, c0', e22, cp', hLow, f12, beq_self_eq_true, SS, bne_self_eq_false, wr_def, obOf, List.all_cons, List.all_nil, List.map_cons, List.map_nil, List.length_cons, List.length_nil, List.take_zero, List.take_succ_cons, List.take_nil, List.drop_zero, List.drop_succ_cons, List.drop_nil, Nat.reduceAdd, Nat.reduceMul, Nat.reduceSub, if_true, Nat.reduceLT, Nat.reduceLeDiff, ite_true, ite_false, Nat.reduceEqDiff, if_false, reduceCtorEq, ne_eq, List.getD, List.getElem?_cons_zero, List.getElem?_cons_succ, Option.getD_some, Option.bind_some, Option.map_some, Option.isSome_some, reduceIte, List.length_append, List.append_assoc, List.cons_append, List.nil_append, Option.some.injEq, forall_const, implies_true, Int.reduceNeg, eq_self, Prod.mk.injEq, List.self_eq_append_right, List.append_nil, exists_eq_left, exists_eq_left', exists_and_left, exists_eq_right, exists_and_right]
      · have t1 := Int.mul_le_mul_of_nonpos_right (show 9223372036854775808 ≤ flr (a * b) c by omega) (Int.le_of_lt cn)
        have k3 := sg_neg (x := a * b - c * 9223372036854775807) (by rw [Int.mul_comm c]; omega)
        have k1 := sg_neg (x := a * b - c * -9223372036854775808) (by rw [Int.mul_comm c]; omega)
        have f13 : decide (0 < (-1 : Int)) = false := rfl
        rw [k1] at hLow
        rw [k3] at hMax
        simp (config := {maxSteps := 8000000}) only [c12, h0, h1, c0', e22, cp', hLow, hMax, f13, f11, beq_self_eq_true, SS, bne_self_eq_false, wr_def, obOf, List.all_cons, List.all_nil, List.map_cons, List.map_nil, List.length_cons, List.length_nil, List.take_zero, List.take_succ_cons, List.take_nil, List.drop_zero, List.drop_succ_cons, List.drop_nil, Nat.reduceAdd, Nat.reduceMul, Nat.reduceSub, if_true, Nat.reduceLT, Nat.reduceLeDiff, ite_true, ite_false, Nat.reduceEqDiff, if_false, reduceCtorEq, ne_eq, List.getD, List.getElem?_cons_zero, List.getElem?_cons_succ, Option.getD_some, Option.bind_some, Option.map_some, Option.isSome_some, reduceIte, List.length_append, List.append_assoc, List.cons_append, List.nil_append, Option.some.injEq, forall_const, implies_true, Int.reduceNeg, eq_self, Prod.mk.injEq, List.self_eq_append_right, List.append_nil, exists_eq_left, exists_eq_left', exists_and_left, exists_eq_right, exists_and_right]


theorem proved : Pure := by
  intro xs hg
  obtain ⟨e0, s0, rfl, u0, v0⟩ := goodL_cons hg
  obtain ⟨n1, rfl, lo1, hi1⟩ := good_i64 u0
  obtain ⟨e1, s1, rfl, u1, v1⟩ := goodL_cons v0
  obtain ⟨n2, rfl, lo2, hi2⟩ := good_i64 u1
  obtain ⟨e2, s2, rfl, u2, v2⟩ := goodL_cons v1
  obtain ⟨n3, rfl, lo3, hi3⟩ := good_i64 u2
  obtain rfl := goodL_nil v2
  have := law n1 n2 n3 [] lo1 hi1 lo2 hi2 lo3 hi3
  simpa only [layA, layD, layL, argA, shapes, List.nil_append, List.cons_append, List.append_nil, List.append_assoc, List.length_nil, List.length_append, Nat.add_zero, Nat.zero_add, List.headD_cons] using this

end Go.Proofs.Ytpehhlfbnkakpaa.MyNumProducts
