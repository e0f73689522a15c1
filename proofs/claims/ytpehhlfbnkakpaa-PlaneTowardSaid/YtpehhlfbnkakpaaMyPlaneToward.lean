/- The law PlaneToward: the abstract machine answers true. No condition. -/
import Derived.Test.YtpehhlfbnkakpaaInPlaneToward
import Derived.Test.YtpehhlfbnkakpaaPnA
namespace Go.Proofs.Ytpehhlfbnkakpaa.MyPlaneToward
open Go Go.Proofs.Ytpehhlfbnkakpaa.Eva Go.Proofs.Ytpehhlfbnkakpaa.CodeAll Go.Proofs.Ytpehhlfbnkakpaa.InPlaneToward Go.Proofs.Ytpehhlfbnkakpaa.Fl Go.Proofs.Ytpehhlfbnkakpaa.Pn
set_option linter.unusedVariables false
set_option linter.unusedSimpArgs false
set_option maxRecDepth 10000
set_option maxHeartbeats 4000000

def bad4 (a b : P2) (n d : Int) : Bool := decide (200000 < d) || decide (n < 0) || decide (d < n) || pOff a || pOff b
def mix (a b n d : Int) : Int := a + (b - a) * n / d
def tow (a b : P2) (n d : Int) : P2 × Int := if d ≤ 0 then (⟨0, 0⟩, 10) else if bad4 a b n d = true then (⟨0, 0⟩, 4) else (⟨mix a.x b.x n d, mix a.y b.y n d⟩, 0)

theorem pOff_bd {p : P2} (h : pOff p = false) : -1000000 ≤ p.x ∧ p.x ≤ 1000000 ∧ -1000000 ≤ p.y ∧ p.y ≤ 1000000 := by
  unfold pOff at h
  simp only [Bool.or_eq_false_iff, decide_eq_false_iff_not] at h
  omega
theorem mix_bd {a b n d : Int} (ha : -1000000 ≤ a ∧ a ≤ 1000000) (hb : -1000000 ≤ b ∧ b ≤ 1000000) (hn0 : 0 ≤ n) (hn : n ≤ d) (hd : d ≤ 200000) (hd0 : 0 < d) :
    w (b - a) = b - a ∧ w (w (b - a) * n) = (b - a) * n ∧ -400000000000 ≤ (b - a) * n ∧ (b - a) * n ≤ 400000000000 ∧ dvd ((b - a) * n) d = (b - a) * n / d ∧ w (a + (b - a) * n / d) = mix a b n d := by
  have m1 : (b - a) * n ≤ 2000000 * 200000 := by
    rcases Int.le_total 0 (b - a) with h | h
    · exact Int.mul_le_mul (by omega) (by omega) hn0 (by omega)
    · have := Int.mul_nonpos_of_nonpos_of_nonneg h hn0; omega
  have m2 : -(2000000 * 200000) ≤ (b - a) * n := by
    rcases Int.le_total 0 (b - a) with h | h
    · have := Int.mul_nonneg h hn0; omega
    · have : -(b - a) * n ≤ 2000000 * 200000 := Int.mul_le_mul (by omega) (by omega) hn0 (by omega)
      rw [Int.neg_mul] at this; omega
  have e1 : w (b - a) = b - a := w_id (by omega) (by omega)
  have e2 : w ((b - a) * n) = (b - a) * n := w_id (by omega) (by omega)
  have q1 : (b - a) * n / d ≤ 400000000000 := by
    have := Int.ediv_le_ediv hd0 m1
    have h2 : (2000000 * 200000 : Int) / d ≤ 2000000 * 200000 := Int.ediv_le_self _ (by decide)
    omega
  have q2 : -400000000000 ≤ (b - a) * n / d := by
    rw [Int.le_ediv_iff_mul_le hd0]
    have : -400000000000 * d ≤ -400000000000 * 1 := Int.mul_le_mul_of_nonpos_left (by decide) (by omega)
    omega
  refine ⟨e1, by rw [e1, e2], by omega, by omega, dvd_eq hd0 (by omega) (by omega), w_id (by omega) (by omega)⟩

theorem toward_pc (a b : P2) (n d : Int) (H : List Ob) : pcall E 16 [.agg a.c, .agg b.c, .int .i64 n, .int .i64 d] H = some (.tup [.agg (tow a b n d).1.c, .int .i64 (tow a b n d).2]) := by
  refine pcall_some.2 (call_plain e16 rfl (Nat.le_of_ble_eq_true rfl) rfl ?_)
  have ca := fun H => pchk_pc a H
  have cb := fun H => pchk_pc b H
  have n4 : ((4 : Int) != 0) = true := rfl
  have n0 : ((0 : Int) != 0) = false := rfl
  simp only [P2.c] at ca cb
  generalize hT : tow a b n d = T
  unfold tow at hT
  by_cases c1 : d ≤ 0
  · rw [if_pos c1] at hT
    subst hT
    have c1' : decide (d ≤ 0) = true := decide_eq_true c1
    simp (config := {maxSteps := 8000000}) only [c16, P2.c, c1', SS, bne_self_eq_false, wr_def, obOf, List.all_cons, List.all_nil, List.map_cons, List.map_nil, List.length_cons, List.length_nil, List.take_zero, List.take_succ_cons, List.take_nil, List.drop_zero, List.drop_succ_cons, List.drop_nil, Nat.reduceAdd, Nat.reduceMul, Nat.reduceSub, if_true, Nat.reduceLT, Nat.reduceLeDiff, ite_true, ite_false, Nat.reduceEqDiff, if_false, reduceCtorEq, ne_eq, List.getD, List.getElem?_cons_zero, List.getElem?_cons_succ, Option.getD_some, Option.bind_some, Option.map_some, Option.isSome_some, reduceIte, List.length_append, List.append_assoc, List.cons_append, List.nil_append, Option.some.injEq, forall_const, implies_true, Int.reduceNeg, eq_self, Prod.mk.injEq, List.self_eq_append_right, List.append_nil, exists_eq_left, exists_eq_left', exists_and_left, exists_eq_right, exists_and_right]
  rw [if_neg c1] at hT
  have c1' : decide (d ≤ 0) = false := decide_eq_false c1
  cases hb4 : bad4 a b n d
  · rw [hb4, if_neg (by decide)] at hT
    have hb5 := hb4
    unfold bad4 at hb4
    simp only [Bool.or_eq_false_iff] at hb4
    obtain ⟨⟨⟨⟨k1, k2⟩, k3⟩, k4⟩, k5⟩ := hb4
    rw [k4] at ca
    rw [k5] at cb
    have hd2 := decide_eq_false_iff_not.1 k1
    have hn0 := decide_eq_false_iff_not.1 k2
    have hnd := decide_eq_false_iff_not.1 k3
    have ba := pOff_bd k4
    have bb := pOff_bd k5
    obtain ⟨x1, x2, x3, x4, x5, x6⟩ := mix_bd (a := a.x) (b := b.x) (n := n) (d := d) ⟨ba.1, ba.2.1⟩ ⟨bb.1, bb.2.1⟩ (by omega) (by omega) (by omega) (by omega)
    obtain ⟨y1, y2, y3, y4, y5, y6⟩ := mix_bd (a := a.y) (b := b.y) (n := n) (d := d) ⟨ba.2.2.1, ba.2.2.2⟩ ⟨bb.2.2.1, bb.2.2.2⟩ (by omega) (by omega) (by omega) (by omega)
    have hx := fun H => dvd_pc ((b.x - a.x) * n) d H
    have hy := fun H => dvd_pc ((b.y - a.y) * n) d H
    rw [x5] at hx
    rw [y5] at hy
    rw [x1] at x2
    rw [y1] at y2
    subst hT
    simp (config := {maxSteps := 8000000}) only [c16, P2.c, c1', k1, k2, k3, ca, cb, n0, x1, x2, x6, y1, y2, y6, hx, hy, SS, bne_self_eq_false, wr_def, obOf, List.all_cons, List.all_nil, List.map_cons, List.map_nil, List.length_cons, List.length_nil, List.take_zero, List.take_succ_cons, List.take_nil, List.drop_zero, List.drop_succ_cons, List.drop_nil, Nat.reduceAdd, Nat.reduceMul, Nat.reduceSub, if_true, Nat.reduceLT, Nat.reduceLeDiff, ite_true, ite_false, Nat.reduceEqDiff, if_false, reduceCtorEq, ne_eq, List.getD, List.getElem?_cons_zero, List.getElem?_cons_succ, Option.getD_some, Option.bind_some, Option.map_some, Option.isSome_some, reduceIte, List.length_append, List.append_assoc, List.cons_append, List.nil_append, Option.some.injEq, forall_const, implies_true, Int.reduceNeg, eq_self, Prod.mk.injEq, List.self_eq_append_right, List.append_nil, exists_eq_left, exists_eq_left', exists_and_left, exists_eq_right, exists_and_right]
  · rw [hb4, if_pos rfl] at hT
    subst hT
    unfold bad4 at hb4
    cases k1 : decide (200000 < d)
    · cases k2 : decide (n < 0)
      · cases k3 : decide (d < n)
        · cases k4 : pOff a
          · cases k5 : pOff b
            · simp [k1, k2, k3, k4, k5] at hb4
            · rw [k4] at ca
              rw [k5] at cb
              simp (config := {maxSteps := 8000000}) only [c16, P2.c, c1', k1, k2, k3, ca, cb, n0, n4, SS, bne_self_eq_false, wr_def, obOf, List.all_cons, List.all_nil, List.map_cons, List.map_nil, List.length_cons, List.length_nil, List.take_zero, List.take_succ_cons, List.take_nil, List.drop_zero, List.drop_succ_cons, List.drop_nil, Nat.reduceAdd, Nat.reduceMul, Nat.reduceSub, if_true, Nat.reduceLT, Nat.reduceLeDiff, ite_true, ite_false, Nat.reduceEqDiff, if_false, reduceCtorEq, ne_eq, List.getD, List.getElem?_cons_zero, List.getElem?_cons_succ, Option.getD_some, Option.bind_some, Option.map_some, Option.isSome_some, reduceIte, List.length_append, List.append_assoc, List.cons_append, List.nil_append, Option.some.injEq, forall_const, implies_true, Int.reduceNeg, eq_self, Prod.mk.injEq, List.self_eq_append_right, List.append_nil, exists_eq_left, exists_eq_left', exists_and_left, exists_eq_right, exists_and_right]
          · rw [k4] at ca
            simp (config := {maxSteps := 8000000}) only [c16, P2.c, c1', k1, k2, k3, ca, n0, n4, SS, bne_self_eq_false, wr_def, obOf, List.all_cons, List.all_nil, List.map_cons, List.map_nil, List.length_cons, List.length_nil, List.take_zero, List.take_succ_cons, List.take_nil, List.drop_zero, List.drop_succ_cons, List.drop_nil, Nat.reduceAdd, Nat.reduceMul, Nat.reduceSub, if_true, Nat.reduceLT, Nat.reduceLeDiff, ite_true, ite_false, Nat.reduceEqDiff, if_false, reduceCtorEq, ne_eq, List.getD, List.getElem?_cons_zero, List.getElem?_cons_succ, Option.getD_some, Option.bind_some, Option.map_some, Option.isSome_some, reduceIte, List.length_append, List.append_assoc, List.cons_append, List.nil_append, Option.some.injEq, forall_const, implies_true, Int.reduceNeg, eq_self, Prod.mk.injEq, List.self_eq_append_right, List.append_nil, exists_eq_left, exists_eq_left', exists_and_left, exists_eq_right, exists_and_right]
        · simp (config := {maxSteps := 8000000}) only [c16, P2.c, c1', k1, k2, k3, n0, n4, SS, bne_self_eq_false, wr_def, obOf, List.all_cons, List.all_nil, List.map_cons, List.map_nil, List.length_cons, List.length_nil, List.take_zero, List.take_succ_cons, List.take_nil, List.drop_zero, List.drop_succ_cons, List.drop_nil, Nat.reduceAdd, Nat.reduceMul, Nat.reduceSub, if_true, Nat.reduceLT, Nat.reduceLeDiff, ite_true, ite_false, Nat.reduceEqDiff, if_false, reduceCtorEq, ne_eq, List.getD, List.getElem?_cons_zero, List.getElem?_cons_succ, Option.getD_some, Option.bind_some, Option.map_some, Option.isSome_some, reduceIte, List.length_append, List.append_assoc, List.cons_append, List.nil_append, Option.some.injEq, forall_const, implies_true, Int.reduceNeg, eq_self, Prod.mk.injEq, List.self_eq_append_right, List.append_nil, exists_eq_left, exists_eq_left', exists_and_left, exists_eq_right, exists_and_right]
      · simp (config := {maxSteps := 8000000}) only [c16, P2.c, c1', k1, k2, n0, n4, SS, bne_self_eq_false, wr_def, obOf, List.all_cons, List.all_nil, List.map_cons, List.map_nil, List.length_cons, List.length_nil, List.take_zero, List.take_succ_cons, List.take_nil, List.drop_zero, List.drop_succ_cons, List.drop_nil, Nat.reduceAdd, Nat.reduceMul, Nat.reduceSub, if_true, Nat.reduceLT, Nat.reduceLeDiff, ite_true, ite_false, Nat.reduceEqDiff, if_false, reduceCtorEq, ne_eq, List.getD, List.getElem?_cons_zero, List.getElem?_cons_succ, Option.getD_some, Option.bind_some, Option.map_some, Option.isSome_some, reduceIte, List.length_append, List.append_assoc, List.cons_append, List.nil_append, Option.some.injEq, forall_const, implies_true, Int.reduceNeg, eq_self, Prod.mk.injEq, List.self_eq_append_right, List.append_nil, exists_eq_left, exists_eq_left', exists_and_left, exists_eq_right, exists_and_right]
    · simp (config := {maxSteps := 8000000}) only [c16, P2.c, c1', k1, n0, n4, SS, bne_self_eq_false, wr_def, obOf, List.all_cons, List.all_nil, List.map_cons, List.map_nil, List.length_cons, List.length_nil, List.take_zero, List.take_succ_cons, List.take_nil, List.drop_zero, List.drop_succ_cons, List.drop_nil, Nat.reduceAdd, Nat.reduceMul, Nat.reduceSub, if_true, Nat.reduceLT, Nat.reduceLeDiff, ite_true, ite_false, Nat.reduceEqDiff, if_false, reduceCtorEq, ne_eq, List.getD, List.getElem?_cons_zero, List.getElem?_cons_succ, Option.getD_some, Option.bind_some, Option.map_some, Option.isSome_some, reduceIte, List.length_append, List.append_assoc, List.cons_append, List.nil_append, Option.some.injEq, forall_const, implies_true, Int.reduceNeg, eq_self, Prod.mk.injEq, List.self_eq_append_right, List.append_nil, exists_eq_left, exists_eq_left', exists_and_left, exists_eq_right, exists_and_right]

def sg (c : Int) : Int := if decide (0 < c) = true then 1 else if decide (c < 0) = true then -1 else 0
theorem works_pc (H : List Ob) : pcall E 15 [] H = some (.bool true) := by
  refine pcall_some.2 (call_plain e15 rfl (Nat.le_of_ble_eq_true rfl) rfl ?_)
  have h1 := fun H => toward_pc ⟨0, 0⟩ ⟨-3, 3⟩ 1 2 H
  have e1 : tow ⟨0, 0⟩ ⟨-3, 3⟩ 1 2 = (⟨-2, 1⟩, 0) := by
    unfold tow; rw [if_neg (by decide), if_neg (by decide +kernel)]; rfl
  have h2 := fun H => distance_pc (px := 0) (py := 0) (qx := 1) (qy := 1) (s := 2) (by decide +kernel) (by omega) H
  have e2 : rt 2 = 1 := rt_eq (.inr ⟨by omega, by omega, by omega, by omega⟩)
  have e3 : dist 2 = (1, 2) := by unfold dist; rw [e2]; decide +kernel
  rw [e1] at h1
  rw [e3] at h2
  simp only [P2.c] at h1
  have t1 : ∀ H, pcall E 56 [.agg [.int .i64 0, .int .i64 0], .agg [.int .i64 1, .int .i64 0], .agg [.int .i64 1, .int .i64 1]] H = some (.int .i64 1) := fun H => by
    refine pcall_some.2 (call_plain e56 rfl (Nat.le_of_ble_eq_true rfl) rfl ?_)
    have s1 := fun H => sub_pc 1 0 0 0 H
    have s2 := fun H => sub_pc 1 1 0 0 H
    have s3 := fun H => cross_pc 1 0 1 1 H
    have v1 : w (1 - 0) = 1 := by decide
    have v2 : w (0 - 0) = 0 := by decide
    have v3 : crs 1 0 1 1 = 1 := by decide
    have v4 : decide ((0 : Int) < 1) = true := rfl
    rw [v1, v2] at s1
    rw [v1] at s2
    rw [v3] at s3
    simp (config := {maxSteps := 8000000}) only [c56, s1, s2, s3, v4, SS, bne_self_eq_false, wr_def, obOf, List.all_cons, List.all_nil, List.map_cons, List.map_nil, List.length_cons, List.length_nil, List.take_zero, List.take_succ_cons, List.take_nil, List.drop_zero, List.drop_succ_cons, List.drop_nil, Nat.reduceAdd, Nat.reduceMul, Nat.reduceSub, if_true, Nat.reduceLT, Nat.reduceLeDiff, ite_true, ite_false, Nat.reduceEqDiff, if_false, reduceCtorEq, ne_eq, List.getD, List.getElem?_cons_zero, List.getElem?_cons_succ, Option.getD_some, Option.bind_some, Option.map_some, Option.isSome_some, reduceIte, List.length_append, List.append_assoc, List.cons_append, List.nil_append, Option.some.injEq, forall_const, implies_true, Int.reduceNeg, eq_self, Prod.mk.injEq, List.self_eq_append_right, List.append_nil, exists_eq_left, exists_eq_left', exists_and_left, exists_eq_right, exists_and_right]
  have z1 : ((-2 : Int) == -2) = true := rfl
  simp (config := {maxSteps := 8000000}) only [c15, h1, h2, t1, beq_self_eq_true, Bool.false_xor, SS, bne_self_eq_false, wr_def, obOf, List.all_cons, List.all_nil, List.map_cons, List.map_nil, List.length_cons, List.length_nil, List.take_zero, List.take_succ_cons, List.take_nil, List.drop_zero, List.drop_succ_cons, List.drop_nil, Nat.reduceAdd, Nat.reduceMul, Nat.reduceSub, if_true, Nat.reduceLT, Nat.reduceLeDiff, ite_true, ite_false, Nat.reduceEqDiff, if_false, reduceCtorEq, ne_eq, List.getD, List.getElem?_cons_zero, List.getElem?_cons_succ, Option.getD_some, Option.bind_some, Option.map_some, Option.isSome_some, reduceIte, List.length_append, List.append_assoc, List.cons_append, List.nil_append, Option.some.injEq, forall_const, implies_true, Int.reduceNeg, eq_self, Prod.mk.injEq, List.self_eq_append_right, List.append_nil, exists_eq_left, exists_eq_left', exists_and_left, exists_eq_right, exists_and_right]

theorem mixr_pc {a b n d : Int} (ha : -1000000 ≤ a ∧ a ≤ 1000000) (hb : -1000000 ≤ b ∧ b ≤ 1000000) (hn0 : 0 ≤ n) (hn : n ≤ d) (hd : d ≤ 200000) (hd0 : 0 < d) (H : List Ob) : pcall E 18 [.int .i64 a, .int .i64 b, .int .i64 n, .int .i64 d] H = some (.int .i64 (mix a b n d)) := by
  refine pcall_some.2 (call_plain e18 rfl (Nat.le_of_ble_eq_true rfl) rfl ?_)
  obtain ⟨x1, x2, x3, x4, x5, x6⟩ := mix_bd ha hb hn0 hn hd hd0
  rw [x1] at x2
  obtain ⟨k, rfl⟩ : ∃ k : Nat, d = k := ⟨d.toNat, by omega⟩
  have hf := fun H => floor_pc (a := (b - a) * n) (b := k) (by omega) (by omega) (by omega) (by omega) H
  simp (config := {maxSteps := 8000000}) only [c18, x1, x2, hf, x6, SS, bne_self_eq_false, wr_def, obOf, List.all_cons, List.all_nil, List.map_cons, List.map_nil, List.length_cons, List.length_nil, List.take_zero, List.take_succ_cons, List.take_nil, List.drop_zero, List.drop_succ_cons, List.drop_nil, Nat.reduceAdd, Nat.reduceMul, Nat.reduceSub, if_true, Nat.reduceLT, Nat.reduceLeDiff, ite_true, ite_false, Nat.reduceEqDiff, if_false, reduceCtorEq, ne_eq, List.getD, List.getElem?_cons_zero, List.getElem?_cons_succ, Option.getD_some, Option.bind_some, Option.map_some, Option.isSome_some, reduceIte, List.length_append, List.append_assoc, List.cons_append, List.nil_append, Option.some.injEq, forall_const, implies_true, Int.reduceNeg, eq_self, Prod.mk.injEq, List.self_eq_append_right, List.append_nil, exists_eq_left, exists_eq_left', exists_and_left, exists_eq_right, exists_and_right]

theorem law (a b : P2) (n d : Int) (H : List Ob) : ∃ r, ecall E 3 [.agg a.c, .agg b.c, .int .i64 n, .int .i64 d] H = some (.bool true, r) := by
  refine call_true e3 rfl (Nat.le_of_ble_eq_true rfl) ?_
  have hw := works_pc
  have ht := fun H => toward_pc a b n d H
  have ga := fun H => good_pc a H
  have gb := fun H => good_pc b H
  simp only [P2.c] at ht ga gb
  have e10 : ((10 : Int) == 10) = true := rfl
  by_cases c1 : d ≤ 0
  · have c1' : decide (d ≤ 0) = true := decide_eq_true c1
    have hT : tow a b n d = (⟨0, 0⟩, 10) := by unfold tow; rw [if_pos c1]
    rw [hT] at ht
    simp (config := {maxSteps := 8000000}) only [c3, P2.c, hw, ht, c1', beq_self_eq_true, Bool.false_xor, SS, bne_self_eq_false, wr_def, obOf, List.all_cons, List.all_nil, List.map_cons, List.map_nil, List.length_cons, List.length_nil, List.take_zero, List.take_succ_cons, List.take_nil, List.drop_zero, List.drop_succ_cons, List.drop_nil, Nat.reduceAdd, Nat.reduceMul, Nat.reduceSub, if_true, Nat.reduceLT, Nat.reduceLeDiff, ite_true, ite_false, Nat.reduceEqDiff, if_false, reduceCtorEq, ne_eq, List.getD, List.getElem?_cons_zero, List.getElem?_cons_succ, Option.getD_some, Option.bind_some, Option.map_some, Option.isSome_some, reduceIte, List.length_append, List.append_assoc, List.cons_append, List.nil_append, Option.some.injEq, forall_const, implies_true, Int.reduceNeg, eq_self, Prod.mk.injEq, List.self_eq_append_right, List.append_nil, exists_eq_left, exists_eq_left', exists_and_left, exists_eq_right, exists_and_right]
  have c1' : decide (d ≤ 0) = false := decide_eq_false c1
  cases hb4 : bad4 a b n d
  · have hT : tow a b n d = (⟨mix a.x b.x n d, mix a.y b.y n d⟩, 0) := by unfold tow; rw [if_neg c1, hb4, if_neg (by decide)]
    rw [hT] at ht
    unfold bad4 at hb4
    simp only [Bool.or_eq_false_iff] at hb4
    obtain ⟨⟨⟨⟨k1, k2⟩, k3⟩, k4⟩, k5⟩ := hb4
    rw [k4] at ga
    rw [k5] at gb
    have hd2 := decide_eq_false_iff_not.1 k1
    have hn0 := decide_eq_false_iff_not.1 k2
    have hnd := decide_eq_false_iff_not.1 k3
    have ba := pOff_bd k4
    have bb := pOff_bd k5
    have mx := fun H => mixr_pc (a := a.x) (b := b.x) (n := n) (d := d) ⟨ba.1, ba.2.1⟩ ⟨bb.1, bb.2.1⟩ (by omega) (by omega) (by omega) (by omega) H
    have my := fun H => mixr_pc (a := a.y) (b := b.y) (n := n) (d := d) ⟨ba.2.2.1, ba.2.2.2⟩ ⟨bb.2.2.1, bb.2.2.2⟩ (by omega) (by omega) (by omega) (by omega) H
    generalize mix a.x b.x n d = X at *
    generalize mix a.y b.y n d = Y at *
    simp (config := {maxSteps := 8000000}) only [c3, P2.c, hw, ht, c1', k1, k2, k3, ga, gb, mx, my, beq_self_eq_true, Bool.false_xor, SS, bne_self_eq_false, wr_def, obOf, List.all_cons, List.all_nil, List.map_cons, List.map_nil, List.length_cons, List.length_nil, List.take_zero, List.take_succ_cons, List.take_nil, List.drop_zero, List.drop_succ_cons, List.drop_nil, Nat.reduceAdd, Nat.reduceMul, Nat.reduceSub, if_true, Nat.reduceLT, Nat.reduceLeDiff, ite_true, ite_false, Nat.reduceEqDiff, if_false, reduceCtorEq, ne_eq, List.getD, List.getElem?_cons_zero, List.getElem?_cons_succ, Option.getD_some, Option.bind_some, Option.map_some, Option.isSome_some, reduceIte, List.length_append, List.append_assoc, List.cons_append, List.nil_append, Option.some.injEq, forall_const, implies_true, Int.reduceNeg, eq_self, Prod.mk.injEq, List.self_eq_append_right, List.append_nil, exists_eq_left, exists_eq_left', exists_and_left, exists_eq_right, exists_and_right]
  · have hT : tow a b n d = (⟨0, 0⟩, 4) := by unfold tow; rw [if_neg c1, hb4, if_pos rfl]
    rw [hT] at ht
    unfold bad4 at hb4
    cases k1 : decide (200000 < d)
    · cases k2 : decide (n < 0)
      · cases k3 : decide (d < n)
        · cases k4 : pOff a
          · cases k5 : pOff b
            · simp [k1, k2, k3, k4, k5] at hb4
            · rw [k4] at ga
              rw [k5] at gb
              simp (config := {maxSteps := 8000000}) only [c3, P2.c, hw, ht, c1', k1, k2, k3, ga, gb, beq_self_eq_true, Bool.false_xor, SS, bne_self_eq_false, wr_def, obOf, List.all_cons, List.all_nil, List.map_cons, List.map_nil, List.length_cons, List.length_nil, List.take_zero, List.take_succ_cons, List.take_nil, List.drop_zero, List.drop_succ_cons, List.drop_nil, Nat.reduceAdd, Nat.reduceMul, Nat.reduceSub, if_true, Nat.reduceLT, Nat.reduceLeDiff, ite_true, ite_false, Nat.reduceEqDiff, if_false, reduceCtorEq, ne_eq, List.getD, List.getElem?_cons_zero, List.getElem?_cons_succ, Option.getD_some, Option.bind_some, Option.map_some, Option.isSome_some, reduceIte, List.length_append, List.append_assoc, List.cons_append, List.nil_append, Option.some.injEq, forall_const, implies_true, Int.reduceNeg, eq_self, Prod.mk.injEq, List.self_eq_append_right, List.append_nil, exists_eq_left, exists_eq_left', exists_and_left, exists_eq_right, exists_and_right]
          · rw [k4] at ga
            simp (config := {maxSteps := 8000000}) only [c3, P2.c, hw, ht, c1', k1, k2, k3, ga, beq_self_eq_true, Bool.false_xor, SS, bne_self_eq_false, wr_def, obOf, List.all_cons, List.all_nil, List.map_cons, List.map_nil, List.length_cons, List.length_nil, List.take_zero, List.take_succ_cons, List.take_nil, List.drop_zero, List.drop_succ_cons, List.drop_nil, Nat.reduceAdd, Nat.reduceMul, Nat.reduceSub, if_true, Nat.reduceLT, Nat.reduceLeDiff, ite_true, ite_false, Nat.reduceEqDiff, if_false, reduceCtorEq, ne_eq, List.getD, List.getElem?_cons_zero, List.getElem?_cons_succ, Option.getD_some, Option.bind_some, Option.map_some, Option.isSome_some, reduceIte, List.length_append, List.append_assoc, List.cons_append, List.nil_append, Option.some.injEq, forall_const, implies_true, Int.reduceNeg, eq_self, Prod.mk.injEq, List.self_eq_append_right, List.append_nil, exists_eq_left, exists_eq_left', exists_and_left, exists_eq_right, exists_and_right]
        · simp (config := {maxSteps := 8000000}) only [c3, P2.c, hw, ht, c1', k1, k2, k3, beq_self_eq_true, Bool.false_xor, SS, bne_self_eq_false, wr_def, obOf, List.all_cons, List.all_nil, List.map_cons, List.map_nil, List.length_cons, List.length_nil, List.take_zero, List.take_succ_cons, List.take_nil, List.drop_zero, List.drop_succ_cons, List.drop_nil, Nat.reduceAdd, Nat.reduceMul, Nat.reduceSub, if_true, Nat.reduceLT, Nat.reduceLeDiff, ite_true, ite_false, Nat.reduceEqDiff, if_false, reduceCtorEq, ne_eq, List.getD, List.getElem?_cons_zero, List.getElem?_cons_succ, Option.getD_some, Option.bind_some, Option.map_some, Option.isSome_some, reduceIte, List.length_append, List.append_assoc, List.cons_append, List.nil_append, Option.some.injEq, forall_const, implies_true, Int.reduceNeg, eq_self, Prod.mk.injEq, List.self_eq_append_right, List.append_nil, exists_eq_left, exists_eq_left', exists_and_left, exists_eq_right, exists_and_right]
      · simp (config := {maxSteps := 8000000}) only [c3, P2.c, hw, ht, c1', k1, k2, beq_self_eq_true, Bool.false_xor, SS, bne_self_eq_false, wr_def, obOf, List.all_cons, List.all_nil, List.map_cons, List.map_nil, List.length_cons, List.length_nil, List.take_zero, List.take_succ_cons, List.take_nil, List.drop_zero, List.drop_succ_cons, List.drop_nil, Nat.reduceAdd, Nat.reduceMul, Nat.reduceSub, if_true, Nat.reduceLT, Nat.reduceLeDiff, ite_true, ite_false, Nat.reduceEqDiff, if_false, reduceCtorEq, ne_eq, List.getD, List.getElem?_cons_zero, List.getElem?_cons_succ, Option.getD_some, Option.bind_some, Option.map_some, Option.isSome_some, reduceIte, List.length_append, List.append_assoc, List.cons_append, List.nil_append, Option.some.injEq, forall_const, implies_true, Int.reduceNeg, eq_self, Prod.mk.injEq, List.self_eq_append_right, List.append_nil, exists_eq_left, exists_eq_left', exists_and_left, exists_eq_right, exists_and_right]
    · simp (config := {maxSteps := 8000000}) only [c3, P2.c, hw, ht, c1', k1, beq_self_eq_true, Bool.false_xor, SS, bne_self_eq_false, wr_def, obOf, List.all_cons, List.all_nil, List.map_cons, List.map_nil, List.length_cons, List.length_nil, List.take_zero, List.take_succ_cons, List.take_nil, List.drop_zero, List.drop_succ_cons, List.drop_nil, Nat.reduceAdd, Nat.reduceMul, Nat.reduceSub, if_true, Nat.reduceLT, Nat.reduceLeDiff, ite_true, ite_false, Nat.reduceEqDiff, if_false, reduceCtorEq, ne_eq, List.getD, List.getElem?_cons_zero, List.getElem?_cons_succ, Option.getD_some, Option.bind_some, Option.map_some, Option.isSome_some, reduceIte, List.length_append, List.append_assoc, List.cons_append, List.nil_append, Option.some.injEq, forall_const, implies_true, Int.reduceNeg, eq_self, Prod.mk.injEq, List.self_eq_append_right, List.append_nil, exists_eq_left, exists_eq_left', exists_and_left, exists_eq_right, exists_and_right]


theorem proved : Pure := by
  intro xs hg
  obtain ⟨e0, s0, rfl, u0, v0⟩ := goodL_cons hg
  obtain ⟨l1, rfl, q1⟩ := good_st u0
  obtain ⟨d1_0, r1_0, rfl, h1_0, g1_0⟩ := goodL_cons q1
  obtain ⟨n2, rfl, lo2, hi2⟩ := good_i64 h1_0
  obtain ⟨d1_1, r1_1, rfl, h1_1, g1_1⟩ := goodL_cons g1_0
  obtain ⟨n3, rfl, lo3, hi3⟩ := good_i64 h1_1
  obtain rfl := goodL_nil g1_1
  obtain ⟨e1, s1, rfl, u1, v1⟩ := goodL_cons v0
  obtain ⟨l4, rfl, q4⟩ := good_st u1
  obtain ⟨d4_0, r4_0, rfl, h4_0, g4_0⟩ := goodL_cons q4
  obtain ⟨n5, rfl, lo5, hi5⟩ := good_i64 h4_0
  obtain ⟨d4_1, r4_1, rfl, h4_1, g4_1⟩ := goodL_cons g4_0
  obtain ⟨n6, rfl, lo6, hi6⟩ := good_i64 h4_1
  obtain rfl := goodL_nil g4_1
  obtain ⟨e2, s2, rfl, u2, v2⟩ := goodL_cons v1
  obtain ⟨n7, rfl, lo7, hi7⟩ := good_i64 u2
  obtain ⟨e3, s3, rfl, u3, v3⟩ := goodL_cons v2
  obtain ⟨n8, rfl, lo8, hi8⟩ := good_i64 u3
  obtain rfl := goodL_nil v3
  have := law ⟨n2, n3⟩ ⟨n5, n6⟩ n7 n8 [] 
  simpa only [P2.c, layA, layD, layL, argA, shapes, List.nil_append, List.cons_append, List.append_nil, List.append_assoc, List.length_nil, List.length_append, Nat.add_zero, Nat.zero_add, List.headD_cons] using this

end Go.Proofs.Ytpehhlfbnkakpaa.MyPlaneToward
