/- What Root of the package num answers: the whole part of the square root. Conditions stand in each lemma. -/
import Derived.Test.YtpehhlfbnkakpaaEvaW
import Derived.Test.YtpehhlfbnkakpaaSqP
import Derived.Test.YtpehhlfbnkakpaaNmA
namespace Go.Proofs.Ytpehhlfbnkakpaa.Fl
open Go Go.Proofs.Ytpehhlfbnkakpaa.Eva Go.Proofs.Ytpehhlfbnkakpaa.CodeAll
set_option linter.unusedVariables false
set_option linter.unusedSimpArgs false
set_option maxRecDepth 10000
set_option maxHeartbeats 4000000

/-- The whole part of the square root; 0 where there is none. -/
def IsRt (n r : Int) : Prop := (n ≤ 0 ∧ r = 0) ∨ (0 < n ∧ 0 ≤ r ∧ r * r ≤ n ∧ n < (r + 1) * (r + 1))
theorem rt_ex (n : Int) : ∃ r, IsRt n r := by
  by_cases h : n ≤ 0
  · exact ⟨0, .inl ⟨h, rfl⟩⟩
  · have key : ∀ k : Nat, ∃ r : Int, 0 ≤ r ∧ r * r ≤ k ∧ (k : Int) < (r + 1) * (r + 1) := by
      intro k
      induction k with
      | zero => exact ⟨0, by omega, by simp, by simp⟩
      | succ k ih =>
        obtain ⟨r, h0, h1, h2⟩ := ih
        by_cases hc : (r + 1) * (r + 1) ≤ ((k + 1 : Nat) : Int)
        · refine ⟨r + 1, by omega, hc, ?_⟩
          have : (r + 1 + 1) * (r + 1 + 1) = (r + 1) * (r + 1) + 2 * r + 3 := by grind
          omega
        · exact ⟨r, h0, by omega, by omega⟩
    obtain ⟨r, h0, h1, h2⟩ := key n.toNat
    exact ⟨r, .inr ⟨by omega, h0, by omega, by omega⟩⟩
noncomputable def rt (n : Int) : Int := Classical.choose (rt_ex n)
theorem rt_spec (n : Int) : IsRt n (rt n) := Classical.choose_spec (rt_ex n)
theorem sq_mono {a b : Int} (h0 : 0 ≤ a) (h : a ≤ b) : a * a ≤ b * b := Int.mul_le_mul h h h0 (by omega)
theorem rt_uniq {n r s : Int} (h : IsRt n r) (h' : IsRt n s) : r = s := by
  rcases h with ⟨h, rfl⟩ | ⟨h, a0, a1, a2⟩ <;> rcases h' with ⟨h', rfl⟩ | ⟨h', b0, b1, b2⟩ <;> (try omega)
  refine Classical.byContradiction fun hne => ?_
  rcases Int.lt_or_gt_of_ne hne with hc | hc
  · have := sq_mono (a := r + 1) (b := s) (by omega) (by omega)
    omega
  · have := sq_mono (a := s + 1) (b := r) (by omega) (by omega)
    omega
theorem rt_eq {n r : Int} (h : IsRt n r) : rt n = r := rt_uniq (rt_spec n) h

theorem msqrt_pc {x y : Nat} (e : FloatKind.f64.format.sqrt x = some y) (H : List Ob) : pcall E 80 [.flt .f64 x] H = some (.flt .f64 y) := by
  refine pcall_some.2 (call_plain e80 rfl (Nat.le_of_ble_eq_true rfl) rfl ?_)
  simp only [c80, axf_sqrt e, SS, bne_self_eq_false, wr_def, obOf, List.all_cons, List.all_nil, List.map_cons, List.map_nil, List.length_cons, List.length_nil, List.take_zero, List.take_succ_cons, List.take_nil, List.drop_zero, List.drop_succ_cons, List.drop_nil, Nat.reduceAdd, Nat.reduceMul, Nat.reduceSub, if_true, Nat.reduceLT, Nat.reduceLeDiff, ite_true, ite_false, Nat.reduceEqDiff, if_false, reduceCtorEq, ne_eq, List.getD, List.getElem?_cons_zero, List.getElem?_cons_succ, Option.getD_some, Option.bind_some, Option.map_some, Option.isSome_some, reduceIte, List.length_append, List.append_assoc, List.cons_append, List.nil_append, Option.some.injEq, forall_const, implies_true, Int.reduceNeg, eq_self, Prod.mk.injEq, List.self_eq_append_right, List.append_nil, exists_eq_left, exists_eq_left', exists_and_left, exists_eq_right, exists_and_right]

theorem root_pc {n : Int} (hn : n < 9223372036854775808) (H : List Ob) : pcall E 42 [.int .i64 n] H = some (.int .i64 (rt n)) := by
  refine pcall_some.2 (call_plain e42 rfl (Nat.le_of_ble_eq_true rfl) rfl ?_)
  by_cases h0 : n ≤ 0
  · have h0' : decide (n ≤ 0) = true := decide_eq_true h0
    rw [rt_eq (.inl ⟨h0, rfl⟩)]
    simp (config := {maxSteps := 4000000}) only [c42, h0', SS, bne_self_eq_false, wr_def, obOf, List.all_cons, List.all_nil, List.map_cons, List.map_nil, List.length_cons, List.length_nil, List.take_zero, List.take_succ_cons, List.take_nil, List.drop_zero, List.drop_succ_cons, List.drop_nil, Nat.reduceAdd, Nat.reduceMul, Nat.reduceSub, if_true, Nat.reduceLT, Nat.reduceLeDiff, ite_true, ite_false, Nat.reduceEqDiff, if_false, reduceCtorEq, ne_eq, List.getD, List.getElem?_cons_zero, List.getElem?_cons_succ, Option.getD_some, Option.bind_some, Option.map_some, Option.isSome_some, reduceIte, List.length_append, List.append_assoc, List.cons_append, List.nil_append, Option.some.injEq, forall_const, implies_true, Int.reduceNeg, eq_self, Prod.mk.injEq, List.self_eq_append_right, List.append_nil, exists_eq_left, exists_eq_left', exists_and_left, exists_eq_right, exists_and_right]
  have h0' : decide (n ≤ 0) = false := decide_eq_false h0
  obtain ⟨y, r0, s1, s2, s3, s4⟩ := Sq.sqrt_ok (n := n) (by omega) (by omega)
  have hm := fun H => msqrt_pc s1 H
  simp (config := {maxSteps := 4000000}) only [c42, h0', hm, s2, SS, bne_self_eq_false, wr_def, obOf, List.all_cons, List.all_nil, List.map_cons, List.map_nil, List.length_cons, List.length_nil, List.take_zero, List.take_succ_cons, List.take_nil, List.drop_zero, List.drop_succ_cons, List.drop_nil, Nat.reduceAdd, Nat.reduceMul, Nat.reduceSub, if_true, Nat.reduceLT, Nat.reduceLeDiff, ite_true, ite_false, Nat.reduceEqDiff, if_false, reduceCtorEq, ne_eq, List.getD, List.getElem?_cons_zero, List.getElem?_cons_succ, Option.getD_some, Option.bind_some, Option.map_some, Option.isSome_some, reduceIte, List.length_append, List.append_assoc, List.cons_append, List.nil_append, Option.some.injEq, forall_const, implies_true, Int.reduceNeg, eq_self, Prod.mk.injEq, List.self_eq_append_right, List.append_nil, exists_eq_left, exists_eq_left', exists_and_left, exists_eq_right, exists_and_right]
  refine W_loop (fun q f1 h1 => ∃ r : Int, q = r.toNat ∧ 1 ≤ r ∧ r < 9007199254740992 ∧ f1 0 = .int .i64 n ∧ f1 3 = .int .i64 r ∧ h1 = H) (by simp) r0.toNat ⟨r0, rfl, s3, by omega, rfl, rfl, rfl⟩ ?_
  rintro q f1 h1 hn1 ht ⟨r, rfl, r1, r2, e0, e3, rfl⟩
  have hr0 : r ≠ 0 := by omega
  have hq : n.tdiv r = n / r := Int.tdiv_eq_ediv_of_nonneg (by omega)
  have hq0 : 0 ≤ n / r := Int.ediv_nonneg (by omega) (by omega)
  have hq1 : n / r ≤ n := Int.ediv_le_self _ (by omega)
  have hqw : IntKind.i64.wrap (n.tdiv r) = n / r := by rw [hq, wrap64 (by omega) (by omega)]
  have hrw : IntKind.i64.wrap (r - 1) = r - 1 := wrap64 (by omega) (by omega)
  by_cases hc : n / r < r
  · have hc' : decide (n / r < r) = true := decide_eq_true hc
    have hr2 : 1 ≤ r - 1 := by
      refine Classical.byContradiction fun h => ?_
      have : r = 1 := by omega
      subst this
      simp at hc; omega
    simp (config := {maxSteps := 4000000}) only [e0, e3, abin_quo _ _ _ hr0, hqw, hc', hrw, SS, bne_self_eq_false, wr_def, obOf, List.all_cons, List.all_nil, List.map_cons, List.map_nil, List.length_cons, List.length_nil, List.take_zero, List.take_succ_cons, List.take_nil, List.drop_zero, List.drop_succ_cons, List.drop_nil, Nat.reduceAdd, Nat.reduceMul, Nat.reduceSub, if_true, Nat.reduceLT, Nat.reduceLeDiff, ite_true, ite_false, Nat.reduceEqDiff, if_false, reduceCtorEq, ne_eq, List.getD, List.getElem?_cons_zero, List.getElem?_cons_succ, Option.getD_some, Option.bind_some, Option.map_some, Option.isSome_some, reduceIte, List.length_append, List.append_assoc, List.cons_append, List.nil_append, Option.some.injEq, forall_const, implies_true, Int.reduceNeg, eq_self, Prod.mk.injEq, List.self_eq_append_right, List.append_nil, exists_eq_left, exists_eq_left', exists_and_left, exists_eq_right, exists_and_right]
    exact ⟨(r - 1).toNat, by omega, r - 1, rfl, hr2, by omega, rfl⟩
  have hc' : decide (n / r < r) = false := decide_eq_false hc
  have hrr : r * r ≤ n := by
    have := (Int.le_ediv_iff_mul_le (show 0 < r by omega)).1 (Int.not_lt.1 hc)
    exact this
  simp (config := {maxSteps := 4000000}) only [e0, e3, abin_quo _ _ _ hr0, hqw, hc', SS, bne_self_eq_false, wr_def, obOf, List.all_cons, List.all_nil, List.map_cons, List.map_nil, List.length_cons, List.length_nil, List.take_zero, List.take_succ_cons, List.take_nil, List.drop_zero, List.drop_succ_cons, List.drop_nil, Nat.reduceAdd, Nat.reduceMul, Nat.reduceSub, if_true, Nat.reduceLT, Nat.reduceLeDiff, ite_true, ite_false, Nat.reduceEqDiff, if_false, reduceCtorEq, ne_eq, List.getD, List.getElem?_cons_zero, List.getElem?_cons_succ, Option.getD_some, Option.bind_some, Option.map_some, Option.isSome_some, reduceIte, List.length_append, List.append_assoc, List.cons_append, List.nil_append, Option.some.injEq, forall_const, implies_true, Int.reduceNeg, eq_self, Prod.mk.injEq, List.self_eq_append_right, List.append_nil, exists_eq_left, exists_eq_left', exists_and_left, exists_eq_right, exists_and_right]
  clear hc hc' hrw hqw hq1 hq0 hq hr0
  refine W_loop (fun q f1 h2 => ∃ r : Int, q = (n - r).toNat ∧ 1 ≤ r ∧ r * r ≤ n ∧ f1 0 = .int .i64 n ∧ f1 3 = .int .i64 r ∧ h2 = h1) (by simp) (n - r).toNat ⟨r, rfl, r1, hrr, by simp only [SS, bne_self_eq_false, wr_def, obOf, List.all_cons, List.all_nil, List.map_cons, List.map_nil, List.length_cons, List.length_nil, List.take_zero, List.take_succ_cons, List.take_nil, List.drop_zero, List.drop_succ_cons, List.drop_nil, Nat.reduceAdd, Nat.reduceMul, Nat.reduceSub, if_true, Nat.reduceLT, Nat.reduceLeDiff, ite_true, ite_false, Nat.reduceEqDiff, if_false, reduceCtorEq, ne_eq, List.getD, List.getElem?_cons_zero, List.getElem?_cons_succ, Option.getD_some, Option.bind_some, Option.map_some, Option.isSome_some, reduceIte, List.length_append, List.append_assoc, List.cons_append, List.nil_append, Option.some.injEq, forall_const, implies_true, Int.reduceNeg, eq_self, Prod.mk.injEq, List.self_eq_append_right, List.append_nil, exists_eq_left, exists_eq_left', exists_and_left, exists_eq_right, exists_and_right, e0], by simp only [SS, bne_self_eq_false, wr_def, obOf, List.all_cons, List.all_nil, List.map_cons, List.map_nil, List.length_cons, List.length_nil, List.take_zero, List.take_succ_cons, List.take_nil, List.drop_zero, List.drop_succ_cons, List.drop_nil, Nat.reduceAdd, Nat.reduceMul, Nat.reduceSub, if_true, Nat.reduceLT, Nat.reduceLeDiff, ite_true, ite_false, Nat.reduceEqDiff, if_false, reduceCtorEq, ne_eq, List.getD, List.getElem?_cons_zero, List.getElem?_cons_succ, Option.getD_some, Option.bind_some, Option.map_some, Option.isSome_some, reduceIte, List.length_append, List.append_assoc, List.cons_append, List.nil_append, Option.some.injEq, forall_const, implies_true, Int.reduceNeg, eq_self, Prod.mk.injEq, List.self_eq_append_right, List.append_nil, exists_eq_left, exists_eq_left', exists_and_left, exists_eq_right, exists_and_right, e3], rfl⟩ ?_
  clear e0 e3 hrr r1 r2 ht hn1
  rintro q f2 h2 hn2 ht2 ⟨r, rfl, r1, r2, e0, e3, rfl⟩
  have hrb : r ≤ 3037000499 := by
    refine Classical.byContradiction fun h => ?_
    have := sq_mono (a := 3037000500) (b := r) (by omega) (by omega)
    omega
  have hr0 : r + 1 ≠ 0 := by omega
  have hq : n.tdiv (r + 1) = n / (r + 1) := Int.tdiv_eq_ediv_of_nonneg (by omega)
  have hq0 : 0 ≤ n / (r + 1) := Int.ediv_nonneg (by omega) (by omega)
  have hq1 : n / (r + 1) ≤ n := Int.ediv_le_self _ (by omega)
  have hqw : IntKind.i64.wrap (n.tdiv (r + 1)) = n / (r + 1) := by rw [hq, wrap64 (by omega) (by omega)]
  have hrw : IntKind.i64.wrap (r + 1) = r + 1 := wrap64 (by omega) (by omega)
  by_cases hc : r + 1 ≤ n / (r + 1)
  · have hc' : decide (r + 1 ≤ n / (r + 1)) = true := decide_eq_true hc
    have hrr : (r + 1) * (r + 1) ≤ n := (Int.le_ediv_iff_mul_le (show 0 < r + 1 by omega)).1 hc
    have hrn : r + 1 ≤ n := by
      have : (r + 1) * 1 ≤ (r + 1) * (r + 1) := Int.mul_le_mul_of_nonneg_left (by omega) (by omega)
      omega
    simp (config := {maxSteps := 4000000}) only [e0, e3, hrw, abin_quo _ _ _ hr0, hqw, hc', SS, bne_self_eq_false, wr_def, obOf, List.all_cons, List.all_nil, List.map_cons, List.map_nil, List.length_cons, List.length_nil, List.take_zero, List.take_succ_cons, List.take_nil, List.drop_zero, List.drop_succ_cons, List.drop_nil, Nat.reduceAdd, Nat.reduceMul, Nat.reduceSub, if_true, Nat.reduceLT, Nat.reduceLeDiff, ite_true, ite_false, Nat.reduceEqDiff, if_false, reduceCtorEq, ne_eq, List.getD, List.getElem?_cons_zero, List.getElem?_cons_succ, Option.getD_some, Option.bind_some, Option.map_some, Option.isSome_some, reduceIte, List.length_append, List.append_assoc, List.cons_append, List.nil_append, Option.some.injEq, forall_const, implies_true, Int.reduceNeg, eq_self, Prod.mk.injEq, List.self_eq_append_right, List.append_nil, exists_eq_left, exists_eq_left', exists_and_left, exists_eq_right, exists_and_right]
    exact ⟨(n - (r + 1)).toNat, by omega, r + 1, rfl, by omega, hrr, rfl⟩
  · have hc' : decide (r + 1 ≤ n / (r + 1)) = false := decide_eq_false hc
    have hrr : n < (r + 1) * (r + 1) := by
      refine Classical.byContradiction fun h => hc ?_
      exact (Int.le_ediv_iff_mul_le (show 0 < r + 1 by omega)).2 (Int.not_lt.1 h)
    have hre : rt n = r := rt_eq (.inr ⟨by omega, by omega, r2, hrr⟩)
    simp (config := {maxSteps := 4000000}) only [e0, e3, hrw, abin_quo _ _ _ hr0, hqw, hc', hre, SS, bne_self_eq_false, wr_def, obOf, List.all_cons, List.all_nil, List.map_cons, List.map_nil, List.length_cons, List.length_nil, List.take_zero, List.take_succ_cons, List.take_nil, List.drop_zero, List.drop_succ_cons, List.drop_nil, Nat.reduceAdd, Nat.reduceMul, Nat.reduceSub, if_true, Nat.reduceLT, Nat.reduceLeDiff, ite_true, ite_false, Nat.reduceEqDiff, if_false, reduceCtorEq, ne_eq, List.getD, List.getElem?_cons_zero, List.getElem?_cons_succ, Option.getD_some, Option.bind_some, Option.map_some, Option.isSome_some, reduceIte, List.length_append, List.append_assoc, List.cons_append, List.nil_append, Option.some.injEq, forall_const, implies_true, Int.reduceNeg, eq_self, Prod.mk.injEq, List.self_eq_append_right, List.append_nil, exists_eq_left, exists_eq_left', exists_and_left, exists_eq_right, exists_and_right]
end Go.Proofs.Ytpehhlfbnkakpaa.Fl
