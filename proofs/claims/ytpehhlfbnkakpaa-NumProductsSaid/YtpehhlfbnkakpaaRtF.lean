/- The exact quotient of a product, rounded down. Conditions stand in each lemma. -/
import Derived.Test.YtpehhlfbnkakpaaRtE
namespace Go.Proofs.Ytpehhlfbnkakpaa.Fl
open Go Go.Proofs.Ytpehhlfbnkakpaa.Eva Go.Proofs.Ytpehhlfbnkakpaa.CodeAll
set_option linter.unusedVariables false
set_option linter.unusedSimpArgs false
set_option maxRecDepth 10000
set_option maxHeartbeats 4000000

def flr (n c : Int) : Int := if 0 < c then n / c else (-n) / (-c)
theorem flr_pos {n c v : Int} (hc : 0 < c) (h1 : v * c ≤ n) (h2 : n < (v + 1) * c) : flr n c = v := by
  rw [flr, if_pos hc]
  have a := (Int.le_ediv_iff_mul_le hc).2 h1
  have b := (Int.ediv_lt_iff_lt_mul hc).2 h2
  omega
theorem flr_neg {n c v : Int} (hc : c < 0) (h1 : n ≤ v * c) (h2 : (v + 1) * c < n) : flr n c = v := by
  rw [flr, if_neg (by omega)]
  have h1' : v * (-c) ≤ -n := by rw [Int.mul_neg]; omega
  have h2' : -n < (v + 1) * (-c) := by rw [Int.mul_neg]; omega
  have a := (Int.le_ediv_iff_mul_le (show 0 < -c by omega)).2 h1'
  have b := (Int.ediv_lt_iff_lt_mul (show 0 < -c by omega)).2 h2'
  omega
theorem flr_pos_spec (n : Int) {c : Int} (hc : 0 < c) : flr n c * c ≤ n ∧ n < (flr n c + 1) * c := by
  rw [flr, if_pos hc]
  exact ⟨(Int.le_ediv_iff_mul_le hc).1 (Int.le_refl _), (Int.ediv_lt_iff_lt_mul hc).1 (by omega)⟩
theorem flr_neg_spec (n : Int) {c : Int} (hc : c < 0) : n ≤ flr n c * c ∧ (flr n c + 1) * c < n := by
  rw [flr, if_neg (by omega)]
  have a := (Int.le_ediv_iff_mul_le (show 0 < -c by omega)).1 (Int.le_refl (-n / -c))
  have b := (Int.ediv_lt_iff_lt_mul (show 0 < -c by omega)).1 (show -n / -c < -n / -c + 1 by omega)
  rw [Int.mul_neg] at a b
  omega
def ngb (a b c : Int) : Bool := xor true (xor true (decide (a < 0) == decide (b < 0)) == decide (c < 0))
theorem ngb_sign {a b c : Int} (hc : c ≠ 0) : (ngb a b c = false → (0 ≤ a * b ∧ 0 < c) ∨ (a * b ≤ 0 ∧ c < 0)) ∧ (ngb a b c = true → (a * b ≤ 0 ∧ 0 < c) ∨ (0 ≤ a * b ∧ c < 0)) := by
  unfold ngb
  by_cases ha : a < 0 <;> by_cases hb : b < 0 <;> by_cases hcc : c < 0 <;> simp [ha, hb, hcc]
  all_goals first
    | (have := Int.mul_nonneg_of_nonpos_of_nonpos (show a ≤ 0 by omega) (show b ≤ 0 by omega); omega)
    | (have := Int.mul_nonpos_of_nonpos_of_nonneg (show a ≤ 0 by omega) (show 0 ≤ b by omega); omega)
    | (have := Int.mul_nonpos_of_nonneg_of_nonpos (show 0 ≤ a by omega) (show b ≤ 0 by omega); omega)
    | (have := Int.mul_nonneg (show 0 ≤ a by omega) (show 0 ≤ b by omega); omega)
def md (a b c : Int) : Int × Int := if c = 0 then (0, 10) else if -9223372036854775808 ≤ flr (a * b) c ∧ flr (a * b) c < 9223372036854775808 then (flr (a * b) c, 0) else (0, 2)
theorem flr_val {a b c : Int} {q r : Nat} (hc : c ≠ 0) (h : (a * b).natAbs = q * c.natAbs + r) (hr : r < c.natAbs) :
    flr (a * b) c = if ngb a b c = true then (if 0 < r then -((q : Int) + 1) else -(q : Int)) else (q : Int) := by
  obtain ⟨s1, s2⟩ := ngb_sign (a := a) (b := b) hc
  generalize a * b = n at *
  have hq : ((q * c.natAbs : Nat) : Int) = (q : Int) * c ∨ ((q * c.natAbs : Nat) : Int) = -((q : Int) * c) := by
    rcases Int.natAbs_eq c with h9 | h9
    · left; rw [Int.natCast_mul, ← h9]
    · right; rw [Int.natCast_mul]
      conv => rhs; rw [h9]
      rw [Int.mul_neg, Int.neg_neg]
  have hq' : 0 < c → ((q * c.natAbs : Nat) : Int) = (q : Int) * c := fun h9 => by
    have : (c.natAbs : Int) = c := by omega
    rw [Int.natCast_mul, this]
  have hq'' : c < 0 → ((q * c.natAbs : Nat) : Int) = -((q : Int) * c) := fun h9 => by
    have : (c.natAbs : Int) = -c := by omega
    rw [Int.natCast_mul, this, Int.mul_neg]
  generalize q * c.natAbs = Z at *
  split
  · rename_i hng
    split
    · rename_i hr0
      rcases s2 hng with ⟨k1, k2⟩ | ⟨k1, k2⟩
      · have := hq' k2
        have e1 : -((q : Int) + 1) * c = -((q : Int) * c) - c := by grind
        have e2 : (-((q : Int) + 1) + 1) * c = -((q : Int) * c) := by grind
        exact flr_pos k2 (by rw [e1]; omega) (by rw [e2]; omega)
      · have := hq'' k2
        have e1 : -((q : Int) + 1) * c = -((q : Int) * c) - c := by grind
        have e2 : (-((q : Int) + 1) + 1) * c = -((q : Int) * c) := by grind
        exact flr_neg k2 (by rw [e1]; omega) (by rw [e2]; omega)
    · rename_i hr0
      rcases s2 hng with ⟨k1, k2⟩ | ⟨k1, k2⟩
      · have := hq' k2
        have e1 : -(q : Int) * c = -((q : Int) * c) := by grind
        have e2 : (-(q : Int) + 1) * c = -((q : Int) * c) + c := by grind
        exact flr_pos k2 (by rw [e1]; omega) (by rw [e2]; omega)
      · have := hq'' k2
        have e1 : -(q : Int) * c = -((q : Int) * c) := by grind
        have e2 : (-(q : Int) + 1) * c = -((q : Int) * c) + c := by grind
        exact flr_neg k2 (by rw [e1]; omega) (by rw [e2]; omega)
  · rename_i hng
    have hng' : ngb a b c = false := by simpa using hng
    rcases s1 hng' with ⟨k1, k2⟩ | ⟨k1, k2⟩
    · have := hq' k2
      have e2 : ((q : Int) + 1) * c = (q : Int) * c + c := by grind
      exact flr_pos k2 (by omega) (by rw [e2]; omega)
    · have := hq'' k2
      have e2 : ((q : Int) + 1) * c = (q : Int) * c + c := by grind
      exact flr_neg k2 (by omega) (by rw [e2]; omega)

theorem wi_neg {q : Nat} (h : q ≤ 9223372036854775808) : IntKind.i64.wrap (IntKind.u64.wrap (0 - (q : Int))) = -(q : Int) := by
  by_cases h0 : q = 0
  · subst h0; decide
  have e1 : IntKind.u64.wrap (0 - (q : Int)) = 18446744073709551616 - (q : Int) := by rw [wu64_mod]; omega
  have e2 : (18446744073709551616 - (q : Int)) % (2 ^ 64 : Int) = 18446744073709551616 - (q : Int) := Int.emod_eq_of_lt (by omega) (by omega)
  rw [e1]
  simp only [IntKind.wrap, IntKind.bits, IntKind.signed]
  simp only [e2]
  simp
  omega

def I64 (n : Int) : Prop := -9223372036854775808 ≤ n ∧ n < 9223372036854775808
theorem mul64_pc' {x y hi lo : Nat} (hx : x < 18446744073709551616) (hy : y < 18446744073709551616) (h1 : x * y / 18446744073709551616 = hi) (h2 : x * y % 18446744073709551616 = lo) (H : List Ob) : pcall E 81 [.int .u64 (x : Int), .int .u64 (y : Int)] H = some (.tup [.int .u64 (hi : Int), .int .u64 (lo : Int)]) := by
  subst h1; subst h2; exact mul64_pc hx hy H

theorem muldiv_pc {a b c : Int} (ha : I64 a) (hb : I64 b) (hc : I64 c) (H : List Ob) : pcall E 44 [.int .i64 a, .int .i64 b, .int .i64 c] H = some (.tup [.int .i64 (md a b c).1, .int .i64 (md a b c).2]) := by
  refine pcall_some.2 (call_plain e44 rfl (Nat.le_of_ble_eq_true rfl) rfl ?_)
  by_cases h0 : c = 0
  · subst h0
    simp (config := {maxSteps := 4000000}) only [c44, md, bne_self_eq_false, beq_self_eq_true, SS, bne_self_eq_false, wr_def, obOf, List.all_cons, List.all_nil, List.map_cons, List.map_nil, List.length_cons, List.length_nil, List.take_zero, List.take_succ_cons, List.take_nil, List.drop_zero, List.drop_succ_cons, List.drop_nil, Nat.reduceAdd, Nat.reduceMul, Nat.reduceSub, if_true, Nat.reduceLT, Nat.reduceLeDiff, ite_true, ite_false, Nat.reduceEqDiff, if_false, reduceCtorEq, ne_eq, List.getD, List.getElem?_cons_zero, List.getElem?_cons_succ, Option.getD_some, Option.bind_some, Option.map_some, Option.isSome_some, reduceIte, List.length_append, List.append_assoc, List.cons_append, List.nil_append, Option.some.injEq, forall_const, implies_true, Int.reduceNeg, eq_self, Prod.mk.injEq, List.self_eq_append_right, List.append_nil, exists_eq_left, exists_eq_left', exists_and_left, exists_eq_right, exists_and_right]
  have c0 : (c == 0) = false := by simpa using h0
  have m1 := fun H => mag_pc ha.1 ha.2 H
  have m2 := fun H => mag_pc hb.1 hb.2 H
  have m3 := fun H => mag_pc hc.1 hc.2 H
  obtain ⟨hi, hhi⟩ : ∃ q, a.natAbs * b.natAbs / 18446744073709551616 = q := ⟨_, rfl⟩
  obtain ⟨lo, hlo⟩ : ∃ q, a.natAbs * b.natAbs % 18446744073709551616 = q := ⟨_, rfl⟩
  have bA : a.natAbs ≤ 9223372036854775808 := by unfold I64 at ha; omega
  have bB : b.natAbs ≤ 9223372036854775808 := by unfold I64 at hb; omega
  have bC : c.natAbs ≤ 9223372036854775808 := by unfold I64 at hc; omega
  have m4 := fun H => mul64_pc' (x := a.natAbs) (y := b.natAbs) (by omega) (by omega) hhi hlo H
  have hP : (a * b).natAbs = hi * 18446744073709551616 + lo := by rw [Int.natAbs_mul, ← hhi, ← hlo]; exact (Nat.div_add_mod' _ _).symm
  have hlo' : lo < 18446744073709551616 := by omega
  have hCp : 0 < c.natAbs := by omega
  obtain ⟨q, hq⟩ : ∃ q, (a * b).natAbs / c.natAbs = q := ⟨_, rfl⟩
  obtain ⟨r, hr⟩ : ∃ q, (a * b).natAbs % c.natAbs = q := ⟨_, rfl⟩
  have hD : (a * b).natAbs = q * c.natAbs + r := by rw [← hq, ← hr]; exact (Nat.div_add_mod' _ _).symm
  have hrC : r < c.natAbs := by rw [← hr]; exact Nat.mod_lt _ hCp
  have hV := flr_val h0 hD hrC
  have hng : (xor true (xor true (decide (a < 0) == decide (b < 0)) == decide (c < 0))) = ngb a b c := rfl
  by_cases h1 : c.natAbs ≤ hi
  · have h1' : decide ((c.natAbs : Int) ≤ (hi : Int)) = true := decide_eq_true (by omega)
    have hqb : 18446744073709551616 ≤ q := by
      rw [← hq, Nat.le_div_iff_mul_le hCp, hP]
      exact Nat.le_trans (Nat.mul_le_mul_left 18446744073709551616 h1) (by rw [Nat.mul_comm]; exact Nat.le_add_right _ _)
    have hmd : md a b c = (0, 2) := by
      rw [md, if_neg h0, if_neg]
      rw [hV]
      split
      · split <;> omega
      · omega
    rw [hmd]
    simp (config := {maxSteps := 4000000}) only [c44, c0, m1, m2, m3, m4, h1', SS, bne_self_eq_false, wr_def, obOf, List.all_cons, List.all_nil, List.map_cons, List.map_nil, List.length_cons, List.length_nil, List.take_zero, List.take_succ_cons, List.take_nil, List.drop_zero, List.drop_succ_cons, List.drop_nil, Nat.reduceAdd, Nat.reduceMul, Nat.reduceSub, if_true, Nat.reduceLT, Nat.reduceLeDiff, ite_true, ite_false, Nat.reduceEqDiff, if_false, reduceCtorEq, ne_eq, List.getD, List.getElem?_cons_zero, List.getElem?_cons_succ, Option.getD_some, Option.bind_some, Option.map_some, Option.isSome_some, reduceIte, List.length_append, List.append_assoc, List.cons_append, List.nil_append, Option.some.injEq, forall_const, implies_true, Int.reduceNeg, eq_self, Prod.mk.injEq, List.self_eq_append_right, List.append_nil, exists_eq_left, exists_eq_left', exists_and_left, exists_eq_right, exists_and_right]
  have h1' : decide ((c.natAbs : Int) ≤ (hi : Int)) = false := decide_eq_false (by omega)
  rw [hP] at hq hr
  have m5 := fun H => div64_pc (hi := hi) (lo := lo) (y := c.natAbs) (by omega) (by omega) hlo' hq hr H
  have hqb : q < 18446744073709551616 := by
    rw [← hq, Nat.div_lt_iff_lt_mul hCp]
    have : (hi + 1) * 18446744073709551616 ≤ c.natAbs * 18446744073709551616 := Nat.mul_le_mul_right _ (by omega)
    rw [Nat.mul_comm 18446744073709551616]; omega
  clear hP hD hq hr hhi hlo hCp
  cases hg : ngb a b c with
  | false =>
    rw [hg] at hV hng
    simp only [Bool.false_eq_true, if_false] at hV
    by_cases k : 9223372036854775808 ≤ q
    · have k' : decide ((9223372036854775808 : Int) ≤ (q : Int)) = true := decide_eq_true (by omega)
      have hmd : md a b c = (0, 2) := by rw [md, if_neg h0, if_neg (by rw [hV]; omega)]
      rw [hmd]
      simp (config := {maxSteps := 4000000}) only [c44, c0, m1, m2, m3, m4, m5, h1', hng, k', SS, bne_self_eq_false, wr_def, obOf, List.all_cons, List.all_nil, List.map_cons, List.map_nil, List.length_cons, List.length_nil, List.take_zero, List.take_succ_cons, List.take_nil, List.drop_zero, List.drop_succ_cons, List.drop_nil, Nat.reduceAdd, Nat.reduceMul, Nat.reduceSub, if_true, Nat.reduceLT, Nat.reduceLeDiff, ite_true, ite_false, Nat.reduceEqDiff, if_false, reduceCtorEq, ne_eq, List.getD, List.getElem?_cons_zero, List.getElem?_cons_succ, Option.getD_some, Option.bind_some, Option.map_some, Option.isSome_some, reduceIte, List.length_append, List.append_assoc, List.cons_append, List.nil_append, Option.some.injEq, forall_const, implies_true, Int.reduceNeg, eq_self, Prod.mk.injEq, List.self_eq_append_right, List.append_nil, exists_eq_left, exists_eq_left', exists_and_left, exists_eq_right, exists_and_right]
    · have k' : decide ((9223372036854775808 : Int) ≤ (q : Int)) = false := decide_eq_false (by omega)
      have hmd : md a b c = ((q : Int), 0) := by rw [md, if_neg h0, if_pos (by rw [hV]; omega), hV]
      have w1 : IntKind.i64.wrap (q : Int) = (q : Int) := wrap64 (by omega) (by omega)
      rw [hmd]
      simp (config := {maxSteps := 4000000}) only [c44, c0, m1, m2, m3, m4, m5, h1', hng, k', w1, SS, bne_self_eq_false, wr_def, obOf, List.all_cons, List.all_nil, List.map_cons, List.map_nil, List.length_cons, List.length_nil, List.take_zero, List.take_succ_cons, List.take_nil, List.drop_zero, List.drop_succ_cons, List.drop_nil, Nat.reduceAdd, Nat.reduceMul, Nat.reduceSub, if_true, Nat.reduceLT, Nat.reduceLeDiff, ite_true, ite_false, Nat.reduceEqDiff, if_false, reduceCtorEq, ne_eq, List.getD, List.getElem?_cons_zero, List.getElem?_cons_succ, Option.getD_some, Option.bind_some, Option.map_some, Option.isSome_some, reduceIte, List.length_append, List.append_assoc, List.cons_append, List.nil_append, Option.some.injEq, forall_const, implies_true, Int.reduceNeg, eq_self, Prod.mk.injEq, List.self_eq_append_right, List.append_nil, exists_eq_left, exists_eq_left', exists_and_left, exists_eq_right, exists_and_right]
  | true =>
    rw [hg] at hV hng
    simp only [if_true] at hV
    by_cases hr0 : 0 < r
    · rw [if_pos hr0] at hV
      have r' : decide ((0 : Int) < (r : Int)) = true := decide_eq_true (by omega)
      by_cases k0 : q = 18446744073709551615
      · subst k0
        have k0' : ((18446744073709551615 : Nat) : Int) == 18446744073709551615 := rfl
        have hmd : md a b c = (0, 2) := by rw [md, if_neg h0, if_neg (by rw [hV]; omega)]
        rw [hmd]
        simp (config := {maxSteps := 4000000}) only [c44, c0, m1, m2, m3, m4, m5, h1', hng, r', k0', SS, bne_self_eq_false, wr_def, obOf, List.all_cons, List.all_nil, List.map_cons, List.map_nil, List.length_cons, List.length_nil, List.take_zero, List.take_succ_cons, List.take_nil, List.drop_zero, List.drop_succ_cons, List.drop_nil, Nat.reduceAdd, Nat.reduceMul, Nat.reduceSub, if_true, Nat.reduceLT, Nat.reduceLeDiff, ite_true, ite_false, Nat.reduceEqDiff, if_false, reduceCtorEq, ne_eq, List.getD, List.getElem?_cons_zero, List.getElem?_cons_succ, Option.getD_some, Option.bind_some, Option.map_some, Option.isSome_some, reduceIte, List.length_append, List.append_assoc, List.cons_append, List.nil_append, Option.some.injEq, forall_const, implies_true, Int.reduceNeg, eq_self, Prod.mk.injEq, List.self_eq_append_right, List.append_nil, exists_eq_left, exists_eq_left', exists_and_left, exists_eq_right, exists_and_right]
      have k0' : ((q : Int) == 18446744073709551615) = false := by simp; omega
      have w0 : IntKind.u64.wrap ((q : Int) + 1) = ((q + 1 : Nat) : Int) := by rw [wu64 (by omega) (by omega)]; omega
      by_cases k : 9223372036854775808 < q + 1
      · have k' : decide ((9223372036854775808 : Int) < ((q + 1 : Nat) : Int)) = true := decide_eq_true (by omega)
        have hmd : md a b c = (0, 2) := by rw [md, if_neg h0, if_neg (by rw [hV]; omega)]
        rw [hmd]
        simp (config := {maxSteps := 4000000}) only [c44, c0, m1, m2, m3, m4, m5, h1', hng, r', k0', w0, k', SS, bne_self_eq_false, wr_def, obOf, List.all_cons, List.all_nil, List.map_cons, List.map_nil, List.length_cons, List.length_nil, List.take_zero, List.take_succ_cons, List.take_nil, List.drop_zero, List.drop_succ_cons, List.drop_nil, Nat.reduceAdd, Nat.reduceMul, Nat.reduceSub, if_true, Nat.reduceLT, Nat.reduceLeDiff, ite_true, ite_false, Nat.reduceEqDiff, if_false, reduceCtorEq, ne_eq, List.getD, List.getElem?_cons_zero, List.getElem?_cons_succ, Option.getD_some, Option.bind_some, Option.map_some, Option.isSome_some, reduceIte, List.length_append, List.append_assoc, List.cons_append, List.nil_append, Option.some.injEq, forall_const, implies_true, Int.reduceNeg, eq_self, Prod.mk.injEq, List.self_eq_append_right, List.append_nil, exists_eq_left, exists_eq_left', exists_and_left, exists_eq_right, exists_and_right]
      · have k' : decide ((9223372036854775808 : Int) < ((q + 1 : Nat) : Int)) = false := decide_eq_false (by omega)
        have hmd : md a b c = (-((q : Int) + 1), 0) := by rw [md, if_neg h0, if_pos (by rw [hV]; omega), hV]
        have w1 : IntKind.i64.wrap (IntKind.u64.wrap (0 - ((q + 1 : Nat) : Int))) = -((q : Int) + 1) := by
          rw [wi_neg (by omega)]; omega
        rw [hmd]
        simp (config := {maxSteps := 4000000}) only [c44, c0, m1, m2, m3, m4, m5, h1', hng, r', k0', w0, k', SS, bne_self_eq_false, wr_def, obOf, List.all_cons, List.all_nil, List.map_cons, List.map_nil, List.length_cons, List.length_nil, List.take_zero, List.take_succ_cons, List.take_nil, List.drop_zero, List.drop_succ_cons, List.drop_nil, Nat.reduceAdd, Nat.reduceMul, Nat.reduceSub, if_true, Nat.reduceLT, Nat.reduceLeDiff, ite_true, ite_false, Nat.reduceEqDiff, if_false, reduceCtorEq, ne_eq, List.getD, List.getElem?_cons_zero, List.getElem?_cons_succ, Option.getD_some, Option.bind_some, Option.map_some, Option.isSome_some, reduceIte, List.length_append, List.append_assoc, List.cons_append, List.nil_append, Option.some.injEq, forall_const, implies_true, Int.reduceNeg, eq_self, Prod.mk.injEq, List.self_eq_append_right, List.append_nil, exists_eq_left, exists_eq_left', exists_and_left, exists_eq_right, exists_and_right]
        simp only [w1]
    · rw [if_neg hr0] at hV
      have r' : decide ((0 : Int) < (r : Int)) = false := decide_eq_false (by omega)
      by_cases k : 9223372036854775808 < q
      · have k' : decide ((9223372036854775808 : Int) < (q : Int)) = true := decide_eq_true (by omega)
        have hmd : md a b c = (0, 2) := by rw [md, if_neg h0, if_neg (by rw [hV]; omega)]
        rw [hmd]
        simp (config := {maxSteps := 4000000}) only [c44, c0, m1, m2, m3, m4, m5, h1', hng, r', k', SS, bne_self_eq_false, wr_def, obOf, List.all_cons, List.all_nil, List.map_cons, List.map_nil, List.length_cons, List.length_nil, List.take_zero, List.take_succ_cons, List.take_nil, List.drop_zero, List.drop_succ_cons, List.drop_nil, Nat.reduceAdd, Nat.reduceMul, Nat.reduceSub, if_true, Nat.reduceLT, Nat.reduceLeDiff, ite_true, ite_false, Nat.reduceEqDiff, if_false, reduceCtorEq, ne_eq, List.getD, List.getElem?_cons_zero, List.getElem?_cons_succ, Option.getD_some, Option.bind_some, Option.map_some, Option.isSome_some, reduceIte, List.length_append, List.append_assoc, List.cons_append, List.nil_append, Option.some.injEq, forall_const, implies_true, Int.reduceNeg, eq_self, Prod.mk.injEq, List.self_eq_append_right, List.append_nil, exists_eq_left, exists_eq_left', exists_and_left, exists_eq_right, exists_and_right]
      · have k' : decide ((9223372036854775808 : Int) < (q : Int)) = false := decide_eq_false (by omega)
        have hmd : md a b c = (-(q : Int), 0) := by rw [md, if_neg h0, if_pos (by rw [hV]; omega), hV]
        have w1 : IntKind.i64.wrap (IntKind.u64.wrap (0 - (q : Int))) = -(q : Int) := wi_neg (by omega)
        rw [hmd]
        simp (config := {maxSteps := 4000000}) only [c44, c0, m1, m2, m3, m4, m5, h1', hng, r', k', SS, bne_self_eq_false, wr_def, obOf, List.all_cons, List.all_nil, List.map_cons, List.map_nil, List.length_cons, List.length_nil, List.take_zero, List.take_succ_cons, List.take_nil, List.drop_zero, List.drop_succ_cons, List.drop_nil, Nat.reduceAdd, Nat.reduceMul, Nat.reduceSub, if_true, Nat.reduceLT, Nat.reduceLeDiff, ite_true, ite_false, Nat.reduceEqDiff, if_false, reduceCtorEq, ne_eq, List.getD, List.getElem?_cons_zero, List.getElem?_cons_succ, Option.getD_some, Option.bind_some, Option.map_some, Option.isSome_some, reduceIte, List.length_append, List.append_assoc, List.cons_append, List.nil_append, Option.some.injEq, forall_const, implies_true, Int.reduceNeg, eq_self, Prod.mk.injEq, List.self_eq_append_right, List.append_nil, exists_eq_left, exists_eq_left', exists_and_left, exists_eq_right, exists_and_right]
        simp only [w1]

theorem numWorks_pc (H : List Ob) : pcall E 41 [] H = some (.bool true) := by
  refine pcall_some.2 (call_plain e41 rfl (Nat.le_of_ble_eq_true rfl) rfl ?_)
  have h1 := fun H => muldiv_pc (a := 1000000000000) (b := 1000000000000) (c := 999999999999) (by unfold I64; omega) (by unfold I64; omega) (by unfold I64; omega) H
  have e1 : md 1000000000000 1000000000000 999999999999 = (1000000000001, 0) := by decide +kernel
  have h2 := fun H => dvd_pc 1 0 H
  have e2 : dvd 1 0 = 0 := rfl
  have e3 : dve 1 0 = 10 := rfl
  have h3 := fun H => root_pc (n := 24) (by omega) H
  have e4 : rt 24 = 4 := rt_eq (.inr ⟨by omega, by omega, by omega, by omega⟩)
  rw [e1] at h1
  rw [e2, e3] at h2
  rw [e4] at h3
  simp (config := {maxSteps := 4000000}) only [c41, h1, h2, h3, beq_self_eq_true, SS, bne_self_eq_false, wr_def, obOf, List.all_cons, List.all_nil, List.map_cons, List.map_nil, List.length_cons, List.length_nil, List.take_zero, List.take_succ_cons, List.take_nil, List.drop_zero, List.drop_succ_cons, List.drop_nil, Nat.reduceAdd, Nat.reduceMul, Nat.reduceSub, if_true, Nat.reduceLT, Nat.reduceLeDiff, ite_true, ite_false, Nat.reduceEqDiff, if_false, reduceCtorEq, ne_eq, List.getD, List.getElem?_cons_zero, List.getElem?_cons_succ, Option.getD_some, Option.bind_some, Option.map_some, Option.isSome_some, reduceIte, List.length_append, List.append_assoc, List.cons_append, List.nil_append, Option.some.injEq, forall_const, implies_true, Int.reduceNeg, eq_self, Prod.mk.injEq, List.self_eq_append_right, List.append_nil, exists_eq_left, exists_eq_left', exists_and_left, exists_eq_right, exists_and_right]
end Go.Proofs.Ytpehhlfbnkakpaa.Fl
