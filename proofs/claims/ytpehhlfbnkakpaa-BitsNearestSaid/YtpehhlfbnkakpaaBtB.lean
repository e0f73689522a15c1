/- What FromFixed and the reference's Double answer. Conditions stand in each lemma. -/
import Derived.Test.YtpehhlfbnkakpaaBtA
namespace Go.Proofs.Ytpehhlfbnkakpaa.Fl
open Go Go.Proofs.Ytpehhlfbnkakpaa.Eva Go.Proofs.Ytpehhlfbnkakpaa.CodeAll
set_option linter.unusedVariables false
set_option linter.unusedSimpArgs false
set_option maxRecDepth 10000
set_option maxHeartbeats 4000000

/-- The word of a whole number over a power of two. -/
def dblW (n : Int) (d : Nat) : Nat := if n = 0 then 0 else (if n < 0 then 9223372036854775808 else 0) + ((n.natAbs.log2 + 1022 - d) * 4503599627370496 + Bt.kept n.natAbs)
theorem log_le {n : Int} (h1 : -9223372036854775808 ≤ n) (h2 : n < 9223372036854775808) (h0 : n ≠ 0) : n.natAbs.log2 ≤ 63 := by
  have hm : n.natAbs ≠ 0 := by omega
  have : n.natAbs.log2 < 64 := (Nat.log2_lt hm).2 (by omega)
  omega
theorem near_wd {n : Int} (h1 : -9223372036854775808 ≤ n) (h2 : n < 9223372036854775808) (h0 : n ≠ 0) {d : Nat} (hd : d ≤ 60) :
    ∃ e F, FloatKind.f64.nearest n = wd (decide (n < 0)) e F ∧ 1 ≤ e ∧ e ≤ 1200 ∧ F < 4503599627370496 ∧ 61 ≤ e - d ∧ wd (decide (n < 0)) (e - d) F = dblW n d := by
  have hm : n.natAbs ≠ 0 := by omega
  have hL := log_le h1 h2 h0
  obtain ⟨e, F, g1, g2, g3, g4, g5, g6⟩ := Bt.rung_split (L := n.natAbs.log2) hm (by omega) d hd
  have hk := Bt.kept_bd hm
  refine ⟨e, F, ?_, g2, ?_, g4, g5, ?_⟩
  · have e0 : FloatKind.f64.nearest n = Ieee.double.nearest (decide (n < 0)) n.natAbs 0 := rfl
    rw [e0, Bt.nearest_kept _ hm (by omega) (by omega)]
    have e1 : (0 + (n.natAbs.log2 : Int) + 1022).toNat = n.natAbs.log2 + 1022 := by omega
    rw [e1, g1, wd_word]
  · generalize Bt.kept n.natAbs = K at *
    generalize n.natAbs.log2 = L at *
    omega
  · have e9 : (e - d) * 4503599627370496 + F = (n.natAbs.log2 + 1022 - d) * 4503599627370496 + Bt.kept n.natAbs := g6.symm
    simp only [wd, dblW, if_neg h0, e9, decide_eq_true_eq]
theorem ldexp0_pc {d : Int} (H : List Ob) : pcall E 69 [.flt .f64 0, .int .i64 d] H = some (.flt .f64 0) := by
  have k4 : (FloatKind.f64.format.order 0 0 == some .eq) = true := by decide +kernel
  have k5 : ∀ H, pcall E 108 [.flt .f64 0, .int .i64 d] H = some (.flt .f64 0) := fun H => by
    refine pcall_some.2 (call_plain e108 rfl (Nat.le_of_ble_eq_true rfl) rfl ?_)
    simp (config := {maxSteps := 4000000}) only [c108, k4, SS, bne_self_eq_false, wr_def, obOf, List.all_cons, List.all_nil, List.map_cons, List.map_nil, List.length_cons, List.length_nil, List.take_zero, List.take_succ_cons, List.take_nil, List.drop_zero, List.drop_succ_cons, List.drop_nil, Nat.reduceAdd, Nat.reduceMul, Nat.reduceSub, if_true, Nat.reduceLT, Nat.reduceLeDiff, ite_true, ite_false, Nat.reduceEqDiff, if_false, reduceCtorEq, ne_eq, List.getD, List.getElem?_cons_zero, List.getElem?_cons_succ, Option.getD_some, Option.bind_some, Option.map_some, Option.isSome_some, reduceIte, List.length_append, List.append_assoc, List.cons_append, List.nil_append, Option.some.injEq, forall_const, implies_true, Int.reduceNeg, eq_self, Prod.mk.injEq, List.self_eq_append_right, List.append_nil, exists_eq_left, exists_eq_left', exists_and_left, exists_eq_right, exists_and_right]
  refine pcall_some.2 (call_plain e69 rfl (Nat.le_of_ble_eq_true rfl) rfl ?_)
  simp (config := {maxSteps := 4000000}) only [c69, k5, SS, bne_self_eq_false, wr_def, obOf, List.all_cons, List.all_nil, List.map_cons, List.map_nil, List.length_cons, List.length_nil, List.take_zero, List.take_succ_cons, List.take_nil, List.drop_zero, List.drop_succ_cons, List.drop_nil, Nat.reduceAdd, Nat.reduceMul, Nat.reduceSub, if_true, Nat.reduceLT, Nat.reduceLeDiff, ite_true, ite_false, Nat.reduceEqDiff, if_false, reduceCtorEq, ne_eq, List.getD, List.getElem?_cons_zero, List.getElem?_cons_succ, Option.getD_some, Option.bind_some, Option.map_some, Option.isSome_some, reduceIte, List.length_append, List.append_assoc, List.cons_append, List.nil_append, Option.some.injEq, forall_const, implies_true, Int.reduceNeg, eq_self, Prod.mk.injEq, List.self_eq_append_right, List.append_nil, exists_eq_left, exists_eq_left', exists_and_left, exists_eq_right, exists_and_right]
theorem ff_pc {n : Int} (h1 : -9223372036854775808 ≤ n) (h2 : n < 9223372036854775808) {d : Nat} (hd : d ≤ 60) (H : List Ob) : pcall E 25 [.int .i64 n, .int .i64 (d : Int)] H = some (.tup [.int .u64 (dblW n d : Int), .int .i64 0]) := by
  refine pcall_some.2 (call_plain e25 rfl (Nat.le_of_ble_eq_true rfl) rfl ?_)
  have d1 : decide ((d : Int) < 0) = false := decide_eq_false (by omega)
  have d2 : decide ((60 : Int) < (d : Int)) = false := decide_eq_false (by omega)
  have w1 : IntKind.i64.wrap (0 - (d : Int)) = -(d : Int) := by rw [wrap64 (by omega) (by omega)]; omega
  by_cases h0 : n = 0
  · subst h0
    have k1 : FloatKind.f64.nearest 0 = 0 := by decide +kernel
    have k2 := fun H => ldexp0_pc (d := -(d : Int)) H
    simp (config := {maxSteps := 4000000}) only [c25, d1, d2, w1, k1, k2, SS, bne_self_eq_false, wr_def, obOf, List.all_cons, List.all_nil, List.map_cons, List.map_nil, List.length_cons, List.length_nil, List.take_zero, List.take_succ_cons, List.take_nil, List.drop_zero, List.drop_succ_cons, List.drop_nil, Nat.reduceAdd, Nat.reduceMul, Nat.reduceSub, if_true, Nat.reduceLT, Nat.reduceLeDiff, ite_true, ite_false, Nat.reduceEqDiff, if_false, reduceCtorEq, ne_eq, List.getD, List.getElem?_cons_zero, List.getElem?_cons_succ, Option.getD_some, Option.bind_some, Option.map_some, Option.isSome_some, reduceIte, List.length_append, List.append_assoc, List.cons_append, List.nil_append, Option.some.injEq, forall_const, implies_true, Int.reduceNeg, eq_self, Prod.mk.injEq, List.self_eq_append_right, List.append_nil, exists_eq_left, exists_eq_left', exists_and_left, exists_eq_right, exists_and_right]
    rfl
  obtain ⟨e, F, g1, g2, g3, g4, g5, g6⟩ := near_wd h1 h2 h0 hd
  have k2 := fun H => ldexp2_pc g2 (by omega) g4 (decide (n < 0)) hd g5 g3 H
  rw [g6] at k2
  simp (config := {maxSteps := 4000000}) only [c25, d1, d2, w1, g1, k2, SS, bne_self_eq_false, wr_def, obOf, List.all_cons, List.all_nil, List.map_cons, List.map_nil, List.length_cons, List.length_nil, List.take_zero, List.take_succ_cons, List.take_nil, List.drop_zero, List.drop_succ_cons, List.drop_nil, Nat.reduceAdd, Nat.reduceMul, Nat.reduceSub, if_true, Nat.reduceLT, Nat.reduceLeDiff, ite_true, ite_false, Nat.reduceEqDiff, if_false, reduceCtorEq, ne_eq, List.getD, List.getElem?_cons_zero, List.getElem?_cons_succ, Option.getD_some, Option.bind_some, Option.map_some, Option.isSome_some, reduceIte, List.length_append, List.append_assoc, List.cons_append, List.nil_append, Option.some.injEq, forall_const, implies_true, Int.reduceNeg, eq_self, Prod.mk.injEq, List.self_eq_append_right, List.append_nil, exists_eq_left, exists_eq_left', exists_and_left, exists_eq_right, exists_and_right]
theorem ff_bad_pc {n d : Int} (hd : d < 0 ∨ 60 < d) (H : List Ob) : pcall E 25 [.int .i64 n, .int .i64 d] H = some (.tup [.int .u64 0, .int .i64 4]) := by
  refine pcall_some.2 (call_plain e25 rfl (Nat.le_of_ble_eq_true rfl) rfl ?_)
  by_cases h1 : d < 0
  · have d1 : decide (d < 0) = true := decide_eq_true h1
    simp (config := {maxSteps := 4000000}) only [c25, d1, SS, bne_self_eq_false, wr_def, obOf, List.all_cons, List.all_nil, List.map_cons, List.map_nil, List.length_cons, List.length_nil, List.take_zero, List.take_succ_cons, List.take_nil, List.drop_zero, List.drop_succ_cons, List.drop_nil, Nat.reduceAdd, Nat.reduceMul, Nat.reduceSub, if_true, Nat.reduceLT, Nat.reduceLeDiff, ite_true, ite_false, Nat.reduceEqDiff, if_false, reduceCtorEq, ne_eq, List.getD, List.getElem?_cons_zero, List.getElem?_cons_succ, Option.getD_some, Option.bind_some, Option.map_some, Option.isSome_some, reduceIte, List.length_append, List.append_assoc, List.cons_append, List.nil_append, Option.some.injEq, forall_const, implies_true, Int.reduceNeg, eq_self, Prod.mk.injEq, List.self_eq_append_right, List.append_nil, exists_eq_left, exists_eq_left', exists_and_left, exists_eq_right, exists_and_right]
  · have d1 : decide (d < 0) = false := decide_eq_false h1
    have d2 : decide (60 < d) = true := decide_eq_true (by omega)
    simp (config := {maxSteps := 4000000}) only [c25, d1, d2, SS, bne_self_eq_false, wr_def, obOf, List.all_cons, List.all_nil, List.map_cons, List.map_nil, List.length_cons, List.length_nil, List.take_zero, List.take_succ_cons, List.take_nil, List.drop_zero, List.drop_succ_cons, List.drop_nil, Nat.reduceAdd, Nat.reduceMul, Nat.reduceSub, if_true, Nat.reduceLT, Nat.reduceLeDiff, ite_true, ite_false, Nat.reduceEqDiff, if_false, reduceCtorEq, ne_eq, List.getD, List.getElem?_cons_zero, List.getElem?_cons_succ, Option.getD_some, Option.bind_some, Option.map_some, Option.isSome_some, reduceIte, List.length_append, List.append_assoc, List.cons_append, List.nil_append, Option.some.injEq, forall_const, implies_true, Int.reduceNeg, eq_self, Prod.mk.injEq, List.self_eq_append_right, List.append_nil, exists_eq_left, exists_eq_left', exists_and_left, exists_eq_right, exists_and_right]

/-- Sign, exponent field and fraction field side by side. -/
theorem or_fields (s : Bool) {E F : Nat} (hE : E ≤ 2046) (hF : F < 4503599627370496) : ((if s then 9223372036854775808 else 0) ||| E * 4503599627370496) ||| F = wd s E F := by
  have h := exp_or (e := E) (F := F) s hE hF
  have h1 : (if s then 9223372036854775808 else 0) + F = (if s then 9223372036854775808 else 0) ||| F := by
    cases s
    · simp
    · have := Nat.two_pow_add_eq_or_of_lt (i := 63) (b := F) (by omega) 1
      simp only [Nat.mul_one] at this
      exact this
  rw [h1] at h
  rw [← h, Nat.or_assoc, Nat.or_assoc, Nat.or_comm F]
theorem double_pc {n : Int} (h1 : -9223372036854775808 ≤ n) (h2 : n < 9223372036854775808) {d : Nat} (hd : d ≤ 60) (H : List Ob) : pcall E 26 [.int .i64 n, .int .i64 (d : Int)] H = some (.int .u64 (dblW n d : Int)) := by
  refine pcall_some.2 (call_plain e26 rfl (Nat.le_of_ble_eq_true rfl) rfl ?_)
  by_cases h0 : n = 0
  · subst h0
    simp (config := {maxSteps := 4000000}) only [c26, beq_self_eq_true, SS, bne_self_eq_false, wr_def, obOf, List.all_cons, List.all_nil, List.map_cons, List.map_nil, List.length_cons, List.length_nil, List.take_zero, List.take_succ_cons, List.take_nil, List.drop_zero, List.drop_succ_cons, List.drop_nil, Nat.reduceAdd, Nat.reduceMul, Nat.reduceSub, if_true, Nat.reduceLT, Nat.reduceLeDiff, ite_true, ite_false, Nat.reduceEqDiff, if_false, reduceCtorEq, ne_eq, List.getD, List.getElem?_cons_zero, List.getElem?_cons_succ, Option.getD_some, Option.bind_some, Option.map_some, Option.isSome_some, reduceIte, List.length_append, List.append_assoc, List.cons_append, List.nil_append, Option.some.injEq, forall_const, implies_true, Int.reduceNeg, eq_self, Prod.mk.injEq, List.self_eq_append_right, List.append_nil, exists_eq_left, exists_eq_left', exists_and_left, exists_eq_right, exists_and_right]
    rfl
  have c0 : (n == 0) = false := by simpa using h0
  have hm : n.natAbs ≠ 0 := by omega
  have hL := log_le h1 h2 h0
  have hml : n.natAbs ≤ 9223372036854775808 := by omega
  -- the sign and the magnitude
  have w0 : n < 0 → IntKind.u64.wrap (0 - IntKind.u64.wrap n) = (n.natAbs : Int) := fun h => by rw [wu64_mod, wu64_mod]; omega
  have w1 : ¬ n < 0 → IntKind.u64.wrap n = (n.natAbs : Int) := fun h => by rw [wu64_mod]; omega
  have hdb : dblW n d = (if n < 0 then 9223372036854775808 else 0) + ((n.natAbs.log2 + 1022 - d) * 4503599627370496 + Bt.kept n.natAbs) := by simp only [dblW, if_neg h0]
  obtain ⟨b1, b2⟩ := Sq.log2_bd hm
  have hk := Bt.kept_bd hm
  have hkd : Bt.kept n.natAbs = if n.natAbs.log2 ≤ 52 then n.natAbs * 2 ^ (52 - n.natAbs.log2) else n.natAbs / 2 ^ (n.natAbs.log2 - 52) + (if 2 ^ (n.natAbs.log2 - 52) < 2 * (n.natAbs % 2 ^ (n.natAbs.log2 - 52)) ∨ (2 ^ (n.natAbs.log2 - 52) = 2 * (n.natAbs % 2 ^ (n.natAbs.log2 - 52)) ∧ n.natAbs / 2 ^ (n.natAbs.log2 - 52) % 2 = 1) then 1 else 0) := rfl
  generalize Bt.kept n.natAbs = K at *
  generalize hLd : n.natAbs.log2 = L at *
  -- exponent and fraction
  have fin : ∀ (s : Bool) (S : Int) (E F : Nat), S = (((if s then 9223372036854775808 else 0) : Nat) : Int) → E ≤ 2046 → F < 4503599627370496 → IntKind.u64.wrap (E : Int) = (E : Int) ∧ abin .shl (.int .u64 (E : Int)) (.int .u64 52) = some (.int .u64 ((E * 4503599627370496 : Nat) : Int)) ∧ abin .or (.int .u64 S) (.int .u64 ((E * 4503599627370496 : Nat) : Int)) = some (.int .u64 (((if s then 9223372036854775808 else 0) ||| E * 4503599627370496 : Nat) : Int)) ∧
      abin .or (.int .u64 (((if s then 9223372036854775808 else 0) ||| E * 4503599627370496 : Nat) : Int)) (.int .u64 (F : Int)) = some (.int .u64 (wd s E F : Int)) := by
    intro s S E F hS hE hF
    subst hS
    have hs : (if s then 9223372036854775808 else 0) < M64 := by cases s <;> decide
    have hEl : E * 4503599627370496 < M64 := by show _ < 18446744073709551616; omega
    refine ⟨wu64 (by omega) (by omega), ?_, abin_or_u _ _ hs hEl, ?_⟩
    · have := abin_shl_u (kk := .u64) E 52
      have e5 : E * 2 ^ (min 52 64) % M64 = E * 4503599627370496 := Nat.mod_eq_of_lt hEl
      rw [e5] at this; exact this
    · have := abin_or_u ((if s then 9223372036854775808 else 0) ||| E * 4503599627370496) F (Nat.or_lt_two_pow (n := 64) hs hEl) (Nat.lt_trans hF (by decide))
      rw [or_fields s hE hF] at this
      exact this
  have frac : ∀ X : Nat, X < M64 → abin .and (.int .u64 (X : Int)) (.int .u64 4503599627370495) = some (.int .u64 ((X % 4503599627370496 : Nat) : Int)) := by
    intro X hX
    have := abin_and_u X 4503599627370495 hX (by decide)
    rw [show (4503599627370495 : Nat) = 2 ^ 52 - 1 from rfl, Nat.and_two_pow_sub_one_eq_mod] at this
    exact this
  by_cases hn : n < 0
  · have hn' : decide (n < 0) = true := decide_eq_true hn
    have w0 := w0 hn
    simp (config := {maxSteps := 4000000}) only [c26, c0, hn', w0, SS, bne_self_eq_false, wr_def, obOf, List.all_cons, List.all_nil, List.map_cons, List.map_nil, List.length_cons, List.length_nil, List.take_zero, List.take_succ_cons, List.take_nil, List.drop_zero, List.drop_succ_cons, List.drop_nil, Nat.reduceAdd, Nat.reduceMul, Nat.reduceSub, if_true, Nat.reduceLT, Nat.reduceLeDiff, ite_true, ite_false, Nat.reduceEqDiff, if_false, reduceCtorEq, ne_eq, List.getD, List.getElem?_cons_zero, List.getElem?_cons_succ, Option.getD_some, Option.bind_some, Option.map_some, Option.isSome_some, reduceIte, List.length_append, List.append_assoc, List.cons_append, List.nil_append, Option.some.injEq, forall_const, implies_true, Int.reduceNeg, eq_self, Prod.mk.injEq, List.self_eq_append_right, List.append_nil, exists_eq_left, exists_eq_left', exists_and_left, exists_eq_right, exists_and_right]
    refine W_loop (fun q f1 h1 => L ≤ q ∧ q ≤ 63 ∧ f1 1 = .int .i64 (d : Int) ∧ f1 5 = .int .u64 9223372036854775808 ∧ f1 6 = .int .u64 (n.natAbs : Int) ∧ f1 7 = .int .i64 (q : Int) ∧ h1 = H) (by simp) 63 ⟨hL, by omega, rfl, rfl, rfl, rfl, rfl⟩ ?_
    rintro q f1 h1 hn1 ht ⟨q1, q2, e1, e5, e6, e7, rfl⟩
    have s1 := shrk (kk := .i64) n.natAbs q q rfl (by omega)
    by_cases hq : L < q
    · have hz : n.natAbs / 2 ^ q = 0 := Nat.div_eq_of_lt (Nat.lt_of_lt_of_le b2 (Nat.pow_le_pow_right (by decide) hq))
      rw [hz] at s1
      have z1 : (((0 : Nat) : Int) == 0) = true := rfl
      have wq : IntKind.i64.wrap ((q : Int) - 1) = ((q - 1 : Nat) : Int) := by rw [wrap64 (by omega) (by omega)]; omega
      simp (config := {maxSteps := 4000000}) only [e1, e5, e6, e7, s1, z1, wq, SS, bne_self_eq_false, wr_def, obOf, List.all_cons, List.all_nil, List.map_cons, List.map_nil, List.length_cons, List.length_nil, List.take_zero, List.take_succ_cons, List.take_nil, List.drop_zero, List.drop_succ_cons, List.drop_nil, Nat.reduceAdd, Nat.reduceMul, Nat.reduceSub, if_true, Nat.reduceLT, Nat.reduceLeDiff, ite_true, ite_false, Nat.reduceEqDiff, if_false, reduceCtorEq, ne_eq, List.getD, List.getElem?_cons_zero, List.getElem?_cons_succ, Option.getD_some, Option.bind_some, Option.map_some, Option.isSome_some, reduceIte, List.length_append, List.append_assoc, List.cons_append, List.nil_append, Option.some.injEq, forall_const, implies_true, Int.reduceNeg, eq_self, Prod.mk.injEq, List.self_eq_append_right, List.append_nil, exists_eq_left, exists_eq_left', exists_and_left, exists_eq_right, exists_and_right]
      exact ⟨q - 1, by omega, by omega, by omega, rfl⟩
    have hqL : q = L := by omega
    subst hqL
    have hz : 0 < n.natAbs / 2 ^ q := (Nat.le_div_iff_mul_le (Nat.two_pow_pos q)).2 (by omega)
    have z1 : (((n.natAbs / 2 ^ q : Nat) : Int) == 0) = false := by
      generalize n.natAbs / 2 ^ q = X at *
      simp; omega
    have wE : IntKind.i64.wrap ((q : Int) - (d : Int)) = (q : Int) - d := wrap64 (by omega) (by omega)
    by_cases hc : q ≤ 52
    · have hc' : decide ((q : Int) ≤ 52) = true := decide_eq_true (by omega)
      rw [if_pos hc] at hkd
      have w5 : IntKind.i64.wrap (52 - (q : Int)) = ((52 - q : Nat) : Int) := by rw [wrap64 (by omega) (by omega)]; omega
      have hKl : n.natAbs * 2 ^ (52 - q) < 2 ^ 53 := by
        calc n.natAbs * 2 ^ (52 - q) < 2 ^ (q + 1) * 2 ^ (52 - q) := Nat.mul_lt_mul_of_pos_right b2 (Nat.two_pow_pos _)
          _ = 2 ^ 53 := by rw [← Nat.pow_add]; congr 1; omega
      have s2 := abin_shl_u (kk := .i64) n.natAbs (52 - q)
      rw [Nat.min_eq_left (by omega), ← hkd] at s2
      rw [← hkd] at hKl
      rw [Nat.mod_eq_of_lt (Nat.lt_trans hKl (by decide))] at s2
      have f5 := frac K (Nat.lt_trans hKl (by decide))
      obtain ⟨f1', f2, f3, f4⟩ := fin true 9223372036854775808 (q + 1023 - d) (K % 4503599627370496) (by decide) (by omega) (Nat.mod_lt _ (by decide))
      have wE2 : IntKind.i64.wrap ((q : Int) - (d : Int) + 1023) = ((q + 1023 - d : Nat) : Int) := by rw [wrap64 (by omega) (by omega)]; omega
      have hfin : wd true (q + 1023 - d) (K % 4503599627370496) = dblW n d := by
        rw [hdb, if_pos hn]; unfold wd; simp only [if_true]; omega
      rw [hfin] at f4
      simp only [if_true] at f3 f4
      simp (config := {maxSteps := 4000000}) only [e1, e5, e6, e7, s1, z1, hc', w5, s2, wE, wE2, f1', f2, f3, f4, f5, SS, bne_self_eq_false, wr_def, obOf, List.all_cons, List.all_nil, List.map_cons, List.map_nil, List.length_cons, List.length_nil, List.take_zero, List.take_succ_cons, List.take_nil, List.drop_zero, List.drop_succ_cons, List.drop_nil, Nat.reduceAdd, Nat.reduceMul, Nat.reduceSub, if_true, Nat.reduceLT, Nat.reduceLeDiff, ite_true, ite_false, Nat.reduceEqDiff, if_false, reduceCtorEq, ne_eq, List.getD, List.getElem?_cons_zero, List.getElem?_cons_succ, Option.getD_some, Option.bind_some, Option.map_some, Option.isSome_some, reduceIte, List.length_append, List.append_assoc, List.cons_append, List.nil_append, Option.some.injEq, forall_const, implies_true, Int.reduceNeg, eq_self, Prod.mk.injEq, List.self_eq_append_right, List.append_nil, exists_eq_left, exists_eq_left', exists_and_left, exists_eq_right, exists_and_right]
    · have hc' : decide ((q : Int) ≤ 52) = false := decide_eq_false (by omega)
      rw [if_neg hc] at hkd
      have w5 : IntKind.i64.wrap ((q : Int) - 52) = ((q - 52 : Nat) : Int) := by rw [wrap64 (by omega) (by omega)]; omega
      have w6 : IntKind.i64.wrap (((q - 52 : Nat) : Int) - 1) = ((q - 52 - 1 : Nat) : Int) := by rw [wrap64 (by omega) (by omega)]; omega
      have s2 := shrk (kk := .i64) n.natAbs (q - 52) ((q - 52 : Nat) : Int) rfl (by omega)
      have s3 := abin_shl_u (kk := .i64) 1 (q - 52)
      have s4 := abin_shl_u (kk := .i64) 1 (q - 52 - 1)
      have hg : 2 ^ (q - 52) = 2 * 2 ^ (q - 52 - 1) := by
        have : q - 52 = q - 52 - 1 + 1 := by omega
        conv => lhs; rw [this, Nat.pow_succ]
        omega
      have hgb : 2 ^ (q - 52 - 1) ≤ 2 ^ 11 := Nat.pow_le_pow_right (by decide) (by omega)
      have hgp : 0 < 2 ^ (q - 52 - 1) := Nat.two_pow_pos _
      rw [Nat.one_mul, Nat.min_eq_left (by omega)] at s3 s4
      rw [Nat.mod_eq_of_lt (Nat.lt_of_le_of_lt (show 2 ^ (q - 52) ≤ 2 ^ 12 by omega) (by decide))] at s3
      rw [Nat.mod_eq_of_lt (Nat.lt_of_le_of_lt hgb (by decide))] at s4
      have a1 := abin_and_u n.natAbs (2 ^ (q - 52) - 1) (by show _ < 18446744073709551616; omega) (Nat.lt_of_le_of_lt (show 2 ^ (q - 52) - 1 ≤ 2 ^ 12 by omega) (by decide))
      rw [Nat.and_two_pow_sub_one_eq_mod] at a1
      have w7 : IntKind.u64.wrap (((2 ^ (q - 52) : Nat) : Int) - 1) = ((2 ^ (q - 52) - 1 : Nat) : Int) := by
        generalize 2 ^ (q - 52) = g at *
        generalize 2 ^ (q - 52 - 1) = g2 at *
        rw [wu64 (by omega) (by omega)]; omega
      have hql : n.natAbs / 2 ^ (q - 52) < 2 ^ 53 := by
        rw [Nat.div_lt_iff_lt_mul (Nat.two_pow_pos _), ← Nat.pow_add]
        have : 53 + (q - 52) = q + 1 := by omega
        rw [this]; exact b2
      have hrl : n.natAbs % 2 ^ (q - 52) < 2 ^ (q - 52) := Nat.mod_lt _ (Nat.two_pow_pos _)
      have rm := abin_rem_u (n.natAbs / 2 ^ (q - 52)) 2 (by decide)
      generalize hgg : 2 ^ (q - 52) = g at *
      generalize hgg2 : 2 ^ (q - 52 - 1) = g2 at *
      generalize n.natAbs / g = qq at *
      generalize n.natAbs % g = rr at *
      have wE2 : IntKind.i64.wrap ((q : Int) - (d : Int) + 1023) = ((q + 1023 - d : Nat) : Int) := by rw [wrap64 (by omega) (by omega)]; omega
      have wE3 : IntKind.i64.wrap ((q : Int) - (d : Int) + 1) = (q : Int) - d + 1 := wrap64 (by omega) (by omega)
      have wE4 : IntKind.i64.wrap ((q : Int) - (d : Int) + 1 + 1023) = ((q + 1024 - d : Nat) : Int) := by rw [wrap64 (by omega) (by omega)]; omega
      have s3' : abin .shl (.int .u64 1) (.int .i64 ((q - 52 : Nat) : Int)) = some (.int .u64 (g : Int)) := s3
      have s4' : abin .shl (.int .u64 1) (.int .i64 ((q - 52 - 1 : Nat) : Int)) = some (.int .u64 (g2 : Int)) := s4
      have rm' : abin .rem (.int .u64 (qq : Int)) (.int .u64 2) = some (.int .u64 ((qq % 2 : Nat) : Int)) := rm
      have w8 : IntKind.u64.wrap ((qq : Int) + 1) = ((qq + 1 : Nat) : Int) := by rw [wu64 (by omega) (by omega)]; omega
      cases hB : (decide ((g2 : Int) < (rr : Int)) || ((rr : Int) == (g2 : Int) && ((qq % 2 : Nat) : Int) == 1))
      · have hno : ¬ (g < 2 * rr ∨ (g = 2 * rr ∧ qq % 2 = 1)) := by
          simp only [Bool.or_eq_false_iff, decide_eq_false_iff_not, Bool.and_eq_false_iff, beq_eq_false_iff_ne, ne_eq] at hB
          omega
        rw [if_neg hno, Nat.add_zero] at hkd
        subst hkd
        have hne : ((K : Int) == 9007199254740992) = false := by simp; omega
        have f5 := frac K (Nat.lt_trans hql (by decide))
        obtain ⟨f1', f2, f3, f4⟩ := fin true 9223372036854775808 (q + 1023 - d) (K % 4503599627370496) (by decide) (by omega) (Nat.mod_lt _ (by decide))
        have hfin : wd true (q + 1023 - d) (K % 4503599627370496) = dblW n d := by
          rw [hdb, if_pos hn]; unfold wd; simp only [if_true]; omega
        rw [hfin] at f4
        simp only [if_true] at f3 f4
        simp (config := {maxSteps := 4000000}) only [e1, e5, e6, e7, s1, z1, hc', w5, w6, s2, s3', s4', a1, w7, rm', hB, hne, wE, wE2, f1', f2, f3, f4, f5, SS, bne_self_eq_false, wr_def, obOf, List.all_cons, List.all_nil, List.map_cons, List.map_nil, List.length_cons, List.length_nil, List.take_zero, List.take_succ_cons, List.take_nil, List.drop_zero, List.drop_succ_cons, List.drop_nil, Nat.reduceAdd, Nat.reduceMul, Nat.reduceSub, if_true, Nat.reduceLT, Nat.reduceLeDiff, ite_true, ite_false, Nat.reduceEqDiff, if_false, reduceCtorEq, ne_eq, List.getD, List.getElem?_cons_zero, List.getElem?_cons_succ, Option.getD_some, Option.bind_some, Option.map_some, Option.isSome_some, reduceIte, List.length_append, List.append_assoc, List.cons_append, List.nil_append, Option.some.injEq, forall_const, implies_true, Int.reduceNeg, eq_self, Prod.mk.injEq, List.self_eq_append_right, List.append_nil, exists_eq_left, exists_eq_left', exists_and_left, exists_eq_right, exists_and_right]
      · have hyes : g < 2 * rr ∨ (g = 2 * rr ∧ qq % 2 = 1) := by
          simp only [Bool.or_eq_true, decide_eq_true_eq, Bool.and_eq_true, beq_iff_eq] at hB
          omega
        rw [if_pos hyes] at hkd
        by_cases hK : K = 9007199254740992
        · have hne : (((qq + 1 : Nat) : Int) == 9007199254740992) = true := by simp; omega
          have f5 := frac 4503599627370496 (by decide)
          have hq2 : abin .quo (.int .u64 ((qq + 1 : Nat) : Int)) (.int .u64 2) = some (.int .u64 ((4503599627370496 : Nat) : Int)) := by
            have := abin_quo_u (qq + 1) 2 (by decide) (by show _ < 18446744073709551616; omega)
            rw [show (qq + 1) / 2 = 4503599627370496 by omega] at this
            exact this
          obtain ⟨f1', f2, f3, f4⟩ := fin true 9223372036854775808 (q + 1024 - d) 0 (by decide) (by omega) (by decide)
          have f5' : abin .and (.int .u64 ((4503599627370496 : Nat) : Int)) (.int .u64 4503599627370495) = some (.int .u64 ((0 : Nat) : Int)) := f5
          have hfin : wd true (q + 1024 - d) 0 = dblW n d := by
            rw [hdb, if_pos hn]; unfold wd; simp only [if_true]; omega
          rw [hfin] at f4
          simp only [if_true] at f3 f4
          simp (config := {maxSteps := 4000000}) only [e1, e5, e6, e7, s1, z1, hc', w5, w6, w8, s2, s3', s4', a1, w7, rm', hB, hne, hq2, wE, wE3, wE4, f1', f2, f3, f4, f5', SS, bne_self_eq_false, wr_def, obOf, List.all_cons, List.all_nil, List.map_cons, List.map_nil, List.length_cons, List.length_nil, List.take_zero, List.take_succ_cons, List.take_nil, List.drop_zero, List.drop_succ_cons, List.drop_nil, Nat.reduceAdd, Nat.reduceMul, Nat.reduceSub, if_true, Nat.reduceLT, Nat.reduceLeDiff, ite_true, ite_false, Nat.reduceEqDiff, if_false, reduceCtorEq, ne_eq, List.getD, List.getElem?_cons_zero, List.getElem?_cons_succ, Option.getD_some, Option.bind_some, Option.map_some, Option.isSome_some, reduceIte, List.length_append, List.append_assoc, List.cons_append, List.nil_append, Option.some.injEq, forall_const, implies_true, Int.reduceNeg, eq_self, Prod.mk.injEq, List.self_eq_append_right, List.append_nil, exists_eq_left, exists_eq_left', exists_and_left, exists_eq_right, exists_and_right]
        · rw [← hkd] at w8
          have hne : ((K : Int) == 9007199254740992) = false := by simp; omega
          have f5 := frac K (by show _ < 18446744073709551616; omega)
          obtain ⟨f1', f2, f3, f4⟩ := fin true 9223372036854775808 (q + 1023 - d) (K % 4503599627370496) (by decide) (by omega) (Nat.mod_lt _ (by decide))
          have hfin : wd true (q + 1023 - d) (K % 4503599627370496) = dblW n d := by
            rw [hdb, if_pos hn]; unfold wd; simp only [if_true]; omega
          rw [hfin] at f4
          simp only [if_true] at f3 f4
          simp (config := {maxSteps := 4000000}) only [e1, e5, e6, e7, s1, z1, hc', w5, w6, w8, s2, s3', s4', a1, w7, rm', hB, hne, wE, wE2, f1', f2, f3, f4, f5, SS, bne_self_eq_false, wr_def, obOf, List.all_cons, List.all_nil, List.map_cons, List.map_nil, List.length_cons, List.length_nil, List.take_zero, List.take_succ_cons, List.take_nil, List.drop_zero, List.drop_succ_cons, List.drop_nil, Nat.reduceAdd, Nat.reduceMul, Nat.reduceSub, if_true, Nat.reduceLT, Nat.reduceLeDiff, ite_true, ite_false, Nat.reduceEqDiff, if_false, reduceCtorEq, ne_eq, List.getD, List.getElem?_cons_zero, List.getElem?_cons_succ, Option.getD_some, Option.bind_some, Option.map_some, Option.isSome_some, reduceIte, List.length_append, List.append_assoc, List.cons_append, List.nil_append, Option.some.injEq, forall_const, implies_true, Int.reduceNeg, eq_self, Prod.mk.injEq, List.self_eq_append_right, List.append_nil, exists_eq_left, exists_eq_left', exists_and_left, exists_eq_right, exists_and_right]
  · have hn' : decide (n < 0) = false := decide_eq_false hn
    have w1 := w1 hn
    simp (config := {maxSteps := 4000000}) only [c26, c0, hn', w1, SS, bne_self_eq_false, wr_def, obOf, List.all_cons, List.all_nil, List.map_cons, List.map_nil, List.length_cons, List.length_nil, List.take_zero, List.take_succ_cons, List.take_nil, List.drop_zero, List.drop_succ_cons, List.drop_nil, Nat.reduceAdd, Nat.reduceMul, Nat.reduceSub, if_true, Nat.reduceLT, Nat.reduceLeDiff, ite_true, ite_false, Nat.reduceEqDiff, if_false, reduceCtorEq, ne_eq, List.getD, List.getElem?_cons_zero, List.getElem?_cons_succ, Option.getD_some, Option.bind_some, Option.map_some, Option.isSome_some, reduceIte, List.length_append, List.append_assoc, List.cons_append, List.nil_append, Option.some.injEq, forall_const, implies_true, Int.reduceNeg, eq_self, Prod.mk.injEq, List.self_eq_append_right, List.append_nil, exists_eq_left, exists_eq_left', exists_and_left, exists_eq_right, exists_and_right]
    refine W_loop (fun q f1 h1 => L ≤ q ∧ q ≤ 63 ∧ f1 1 = .int .i64 (d : Int) ∧ f1 5 = .int .u64 0 ∧ f1 6 = .int .u64 (n.natAbs : Int) ∧ f1 7 = .int .i64 (q : Int) ∧ h1 = H) (by simp) 63 ⟨hL, by omega, rfl, rfl, rfl, rfl, rfl⟩ ?_
    rintro q f1 h1 hn1 ht ⟨q1, q2, e1, e5, e6, e7, rfl⟩
    have s1 := shrk (kk := .i64) n.natAbs q q rfl (by omega)
    by_cases hq : L < q
    · have hz : n.natAbs / 2 ^ q = 0 := Nat.div_eq_of_lt (Nat.lt_of_lt_of_le b2 (Nat.pow_le_pow_right (by decide) hq))
      rw [hz] at s1
      have z1 : (((0 : Nat) : Int) == 0) = true := rfl
      have wq : IntKind.i64.wrap ((q : Int) - 1) = ((q - 1 : Nat) : Int) := by rw [wrap64 (by omega) (by omega)]; omega
      simp (config := {maxSteps := 4000000}) only [e1, e5, e6, e7, s1, z1, wq, SS, bne_self_eq_false, wr_def, obOf, List.all_cons, List.all_nil, List.map_cons, List.map_nil, List.length_cons, List.length_nil, List.take_zero, List.take_succ_cons, List.take_nil, List.drop_zero, List.drop_succ_cons, List.drop_nil, Nat.reduceAdd, Nat.reduceMul, Nat.reduceSub, if_true, Nat.reduceLT, Nat.reduceLeDiff, ite_true, ite_false, Nat.reduceEqDiff, if_false, reduceCtorEq, ne_eq, List.getD, List.getElem?_cons_zero, List.getElem?_cons_succ, Option.getD_some, Option.bind_some, Option.map_some, Option.isSome_some, reduceIte, List.length_append, List.append_assoc, List.cons_append, List.nil_append, Option.some.injEq, forall_const, implies_true, Int.reduceNeg, eq_self, Prod.mk.injEq, List.self_eq_append_right, List.append_nil, exists_eq_left, exists_eq_left', exists_and_left, exists_eq_right, exists_and_right]
      exact ⟨q - 1, by omega, by omega, by omega, rfl⟩
    have hqL : q = L := by omega
    subst hqL
    have hz : 0 < n.natAbs / 2 ^ q := (Nat.le_div_iff_mul_le (Nat.two_pow_pos q)).2 (by omega)
    have z1 : (((n.natAbs / 2 ^ q : Nat) : Int) == 0) = false := by
      generalize n.natAbs / 2 ^ q = X at *
      simp; omega
    have wE : IntKind.i64.wrap ((q : Int) - (d : Int)) = (q : Int) - d := wrap64 (by omega) (by omega)
    by_cases hc : q ≤ 52
    · have hc' : decide ((q : Int) ≤ 52) = true := decide_eq_true (by omega)
      rw [if_pos hc] at hkd
      have w5 : IntKind.i64.wrap (52 - (q : Int)) = ((52 - q : Nat) : Int) := by rw [wrap64 (by omega) (by omega)]; omega
      have hKl : n.natAbs * 2 ^ (52 - q) < 2 ^ 53 := by
        calc n.natAbs * 2 ^ (52 - q) < 2 ^ (q + 1) * 2 ^ (52 - q) := Nat.mul_lt_mul_of_pos_right b2 (Nat.two_pow_pos _)
          _ = 2 ^ 53 := by rw [← Nat.pow_add]; congr 1; omega
      have s2 := abin_shl_u (kk := .i64) n.natAbs (52 - q)
      rw [Nat.min_eq_left (by omega), ← hkd] at s2
      rw [← hkd] at hKl
      rw [Nat.mod_eq_of_lt (Nat.lt_trans hKl (by decide))] at s2
      have f5 := frac K (Nat.lt_trans hKl (by decide))
      obtain ⟨f1', f2, f3, f4⟩ := fin false 0 (q + 1023 - d) (K % 4503599627370496) (by decide) (by omega) (Nat.mod_lt _ (by decide))
      have wE2 : IntKind.i64.wrap ((q : Int) - (d : Int) + 1023) = ((q + 1023 - d : Nat) : Int) := by rw [wrap64 (by omega) (by omega)]; omega
      have hfin : wd false (q + 1023 - d) (K % 4503599627370496) = dblW n d := by
        rw [hdb, if_neg hn]; unfold wd; simp only [Bool.false_eq_true, if_false]; omega
      rw [hfin] at f4
      simp only [Bool.false_eq_true, if_false] at f3 f4
      simp (config := {maxSteps := 4000000}) only [e1, e5, e6, e7, s1, z1, hc', w5, s2, wE, wE2, f1', f2, f3, f4, f5, SS, bne_self_eq_false, wr_def, obOf, List.all_cons, List.all_nil, List.map_cons, List.map_nil, List.length_cons, List.length_nil, List.take_zero, List.take_succ_cons, List.take_nil, List.drop_zero, List.drop_succ_cons, List.drop_nil, Nat.reduceAdd, Nat.reduceMul, Nat.reduceSub, if_true, Nat.reduceLT, Nat.reduceLeDiff, ite_true, ite_false, Nat.reduceEqDiff, if_false, reduceCtorEq, ne_eq, List.getD, List.getElem?_cons_zero, List.getElem?_cons_succ, Option.getD_some, Option.bind_some, Option.map_some, Option.isSome_some, reduceIte, List.length_append, List.append_assoc, List.cons_append, List.nil_append, Option.some.injEq, forall_const, implies_true, Int.reduceNeg, eq_self, Prod.mk.injEq, List.self_eq_append_right, List.append_nil, exists_eq_left, exists_eq_left', exists_and_left, exists_eq_right, exists_and_right]
    · have hc' : decide ((q : Int) ≤ 52) = false := decide_eq_false (by omega)
      rw [if_neg hc] at hkd
      have w5 : IntKind.i64.wrap ((q : Int) - 52) = ((q - 52 : Nat) : Int) := by rw [wrap64 (by omega) (by omega)]; omega
      have w6 : IntKind.i64.wrap (((q - 52 : Nat) : Int) - 1) = ((q - 52 - 1 : Nat) : Int) := by rw [wrap64 (by omega) (by omega)]; omega
      have s2 := shrk (kk := .i64) n.natAbs (q - 52) ((q - 52 : Nat) : Int) rfl (by omega)
      have s3 := abin_shl_u (kk := .i64) 1 (q - 52)
      have s4 := abin_shl_u (kk := .i64) 1 (q - 52 - 1)
      have hg : 2 ^ (q - 52) = 2 * 2 ^ (q - 52 - 1) := by
        have : q - 52 = q - 52 - 1 + 1 := by omega
        conv => lhs; rw [this, Nat.pow_succ]
        omega
      have hgb : 2 ^ (q - 52 - 1) ≤ 2 ^ 11 := Nat.pow_le_pow_right (by decide) (by omega)
      have hgp : 0 < 2 ^ (q - 52 - 1) := Nat.two_pow_pos _
      rw [Nat.one_mul, Nat.min_eq_left (by omega)] at s3 s4
      rw [Nat.mod_eq_of_lt (Nat.lt_of_le_of_lt (show 2 ^ (q - 52) ≤ 2 ^ 12 by omega) (by decide))] at s3
      rw [Nat.mod_eq_of_lt (Nat.lt_of_le_of_lt hgb (by decide))] at s4
      have a1 := abin_and_u n.natAbs (2 ^ (q - 52) - 1) (by show _ < 18446744073709551616; omega) (Nat.lt_of_le_of_lt (show 2 ^ (q - 52) - 1 ≤ 2 ^ 12 by omega) (by decide))
      rw [Nat.and_two_pow_sub_one_eq_mod] at a1
      have w7 : IntKind.u64.wrap (((2 ^ (q - 52) : Nat) : Int) - 1) = ((2 ^ (q - 52) - 1 : Nat) : Int) := by
        generalize 2 ^ (q - 52) = g at *
        generalize 2 ^ (q - 52 - 1) = g2 at *
        rw [wu64 (by omega) (by omega)]; omega
      have hql : n.natAbs / 2 ^ (q - 52) < 2 ^ 53 := by
        rw [Nat.div_lt_iff_lt_mul (Nat.two_pow_pos _), ← Nat.pow_add]
        have : 53 + (q - 52) = q + 1 := by omega
        rw [this]; exact b2
      have hrl : n.natAbs % 2 ^ (q - 52) < 2 ^ (q - 52) := Nat.mod_lt _ (Nat.two_pow_pos _)
      have rm := abin_rem_u (n.natAbs / 2 ^ (q - 52)) 2 (by decide)
      generalize hgg : 2 ^ (q - 52) = g at *
      generalize hgg2 : 2 ^ (q - 52 - 1) = g2 at *
      generalize n.natAbs / g = qq at *
      generalize n.natAbs % g = rr at *
      have wE2 : IntKind.i64.wrap ((q : Int) - (d : Int) + 1023) = ((q + 1023 - d : Nat) : Int) := by rw [wrap64 (by omega) (by omega)]; omega
      have wE3 : IntKind.i64.wrap ((q : Int) - (d : Int) + 1) = (q : Int) - d + 1 := wrap64 (by omega) (by omega)
      have wE4 : IntKind.i64.wrap ((q : Int) - (d : Int) + 1 + 1023) = ((q + 1024 - d : Nat) : Int) := by rw [wrap64 (by omega) (by omega)]; omega
      have s3' : abin .shl (.int .u64 1) (.int .i64 ((q - 52 : Nat) : Int)) = some (.int .u64 (g : Int)) := s3
      have s4' : abin .shl (.int .u64 1) (.int .i64 ((q - 52 - 1 : Nat) : Int)) = some (.int .u64 (g2 : Int)) := s4
      have rm' : abin .rem (.int .u64 (qq : Int)) (.int .u64 2) = some (.int .u64 ((qq % 2 : Nat) : Int)) := rm
      have w8 : IntKind.u64.wrap ((qq : Int) + 1) = ((qq + 1 : Nat) : Int) := by rw [wu64 (by omega) (by omega)]; omega
      cases hB : (decide ((g2 : Int) < (rr : Int)) || ((rr : Int) == (g2 : Int) && ((qq % 2 : Nat) : Int) == 1))
      · have hno : ¬ (g < 2 * rr ∨ (g = 2 * rr ∧ qq % 2 = 1)) := by
          simp only [Bool.or_eq_false_iff, decide_eq_false_iff_not, Bool.and_eq_false_iff, beq_eq_false_iff_ne, ne_eq] at hB
          omega
        rw [if_neg hno, Nat.add_zero] at hkd
        subst hkd
        have hne : ((K : Int) == 9007199254740992) = false := by simp; omega
        have f5 := frac K (Nat.lt_trans hql (by decide))
        obtain ⟨f1', f2, f3, f4⟩ := fin false 0 (q + 1023 - d) (K % 4503599627370496) (by decide) (by omega) (Nat.mod_lt _ (by decide))
        have hfin : wd false (q + 1023 - d) (K % 4503599627370496) = dblW n d := by
          rw [hdb, if_neg hn]; unfold wd; simp only [Bool.false_eq_true, if_false]; omega
        rw [hfin] at f4
        simp only [Bool.false_eq_true, if_false] at f3 f4
        simp (config := {maxSteps := 4000000}) only [e1, e5, e6, e7, s1, z1, hc', w5, w6, s2, s3', s4', a1, w7, rm', hB, hne, wE, wE2, f1', f2, f3, f4, f5, SS, bne_self_eq_false, wr_def, obOf, List.all_cons, List.all_nil, List.map_cons, List.map_nil, List.length_cons, List.length_nil, List.take_zero, List.take_succ_cons, List.take_nil, List.drop_zero, List.drop_succ_cons, List.drop_nil, Nat.reduceAdd, Nat.reduceMul, Nat.reduceSub, if_true, Nat.reduceLT, Nat.reduceLeDiff, ite_true, ite_false, Nat.reduceEqDiff, if_false, reduceCtorEq, ne_eq, List.getD, List.getElem?_cons_zero, List.getElem?_cons_succ, Option.getD_some, Option.bind_some, Option.map_some, Option.isSome_some, reduceIte, List.length_append, List.append_assoc, List.cons_append, List.nil_append, Option.some.injEq, forall_const, implies_true, Int.reduceNeg, eq_self, Prod.mk.injEq, List.self_eq_append_right, List.append_nil, exists_eq_left, exists_eq_left', exists_and_left, exists_eq_right, exists_and_right]
      · have hyes : g < 2 * rr ∨ (g = 2 * rr ∧ qq % 2 = 1) := by
          simp only [Bool.or_eq_true, decide_eq_true_eq, Bool.and_eq_true, beq_iff_eq] at hB
          omega
        rw [if_pos hyes] at hkd
        by_cases hK : K = 9007199254740992
        · have hne : (((qq + 1 : Nat) : Int) == 9007199254740992) = true := by simp; omega
          have f5 := frac 4503599627370496 (by decide)
          have hq2 : abin .quo (.int .u64 ((qq + 1 : Nat) : Int)) (.int .u64 2) = some (.int .u64 ((4503599627370496 : Nat) : Int)) := by
            have := abin_quo_u (qq + 1) 2 (by decide) (by show _ < 18446744073709551616; omega)
            rw [show (qq + 1) / 2 = 4503599627370496 by omega] at this
            exact this
          obtain ⟨f1', f2, f3, f4⟩ := fin false 0 (q + 1024 - d) 0 (by decide) (by omega) (by decide)
          have f5' : abin .and (.int .u64 ((4503599627370496 : Nat) : Int)) (.int .u64 4503599627370495) = some (.int .u64 ((0 : Nat) : Int)) := f5
          have hfin : wd false (q + 1024 - d) 0 = dblW n d := by
            rw [hdb, if_neg hn]; unfold wd; simp only [Bool.false_eq_true, if_false]; omega
          rw [hfin] at f4
          simp only [Bool.false_eq_true, if_false] at f3 f4
          simp (config := {maxSteps := 4000000}) only [e1, e5, e6, e7, s1, z1, hc', w5, w6, w8, s2, s3', s4', a1, w7, rm', hB, hne, hq2, wE, wE3, wE4, f1', f2, f3, f4, f5', SS, bne_self_eq_false, wr_def, obOf, List.all_cons, List.all_nil, List.map_cons, List.map_nil, List.length_cons, List.length_nil, List.take_zero, List.take_succ_cons, List.take_nil, List.drop_zero, List.drop_succ_cons, List.drop_nil, Nat.reduceAdd, Nat.reduceMul, Nat.reduceSub, if_true, Nat.reduceLT, Nat.reduceLeDiff, ite_true, ite_false, Nat.reduceEqDiff, if_false, reduceCtorEq, ne_eq, List.getD, List.getElem?_cons_zero, List.getElem?_cons_succ, Option.getD_some, Option.bind_some, Option.map_some, Option.isSome_some, reduceIte, List.length_append, List.append_assoc, List.cons_append, List.nil_append, Option.some.injEq, forall_const, implies_true, Int.reduceNeg, eq_self, Prod.mk.injEq, List.self_eq_append_right, List.append_nil, exists_eq_left, exists_eq_left', exists_and_left, exists_eq_right, exists_and_right]
        · rw [← hkd] at w8
          have hne : ((K : Int) == 9007199254740992) = false := by simp; omega
          have f5 := frac K (by show _ < 18446744073709551616; omega)
          obtain ⟨f1', f2, f3, f4⟩ := fin false 0 (q + 1023 - d) (K % 4503599627370496) (by decide) (by omega) (Nat.mod_lt _ (by decide))
          have hfin : wd false (q + 1023 - d) (K % 4503599627370496) = dblW n d := by
            rw [hdb, if_neg hn]; unfold wd; simp only [Bool.false_eq_true, if_false]; omega
          rw [hfin] at f4
          simp only [Bool.false_eq_true, if_false] at f3 f4
          simp (config := {maxSteps := 4000000}) only [e1, e5, e6, e7, s1, z1, hc', w5, w6, w8, s2, s3', s4', a1, w7, rm', hB, hne, wE, wE2, f1', f2, f3, f4, f5, SS, bne_self_eq_false, wr_def, obOf, List.all_cons, List.all_nil, List.map_cons, List.map_nil, List.length_cons, List.length_nil, List.take_zero, List.take_succ_cons, List.take_nil, List.drop_zero, List.drop_succ_cons, List.drop_nil, Nat.reduceAdd, Nat.reduceMul, Nat.reduceSub, if_true, Nat.reduceLT, Nat.reduceLeDiff, ite_true, ite_false, Nat.reduceEqDiff, if_false, reduceCtorEq, ne_eq, List.getD, List.getElem?_cons_zero, List.getElem?_cons_succ, Option.getD_some, Option.bind_some, Option.map_some, Option.isSome_some, reduceIte, List.length_append, List.append_assoc, List.cons_append, List.nil_append, Option.some.injEq, forall_const, implies_true, Int.reduceNeg, eq_self, Prod.mk.injEq, List.self_eq_append_right, List.append_nil, exists_eq_left, exists_eq_left', exists_and_left, exists_eq_right, exists_and_right]
end Go.Proofs.Ytpehhlfbnkakpaa.Fl
