/- Floats that stand for a whole number times a power of two: their words, comparisons, product with one. Conditions stand in each lemma. -/
import Derived.Test.YtaekgifbehoipaaSqP
namespace Go.Proofs.Ytaekgifbehoipaa.Bt
open Go Go.Proofs.Ytaekgifbehoipaa.Eva Go.Proofs.Ytaekgifbehoipaa.Sq Ieee
set_option maxRecDepth 10000

/-- What is kept of a magnitude: 53 binary digits, to the nearest, between two to the even one. -/
def kept (m : Nat) : Nat :=
  if m.log2 ≤ 52 then m * 2 ^ (52 - m.log2)
  else m / 2 ^ (m.log2 - 52) + (if 2 ^ (m.log2 - 52) < 2 * (m % 2 ^ (m.log2 - 52)) ∨ (2 ^ (m.log2 - 52) = 2 * (m % 2 ^ (m.log2 - 52)) ∧ m / 2 ^ (m.log2 - 52) % 2 = 1) then 1 else 0)
theorem kept_bd {m : Nat} (hm : m ≠ 0) : 2 ^ 52 ≤ kept m ∧ kept m ≤ 2 ^ 53 := by
  obtain ⟨b1, b2⟩ := log2_bd hm
  unfold kept
  generalize hL : m.log2 = L at *
  by_cases hc : L ≤ 52
  · rw [if_pos hc]
    constructor
    · calc 2 ^ 52 = 2 ^ L * 2 ^ (52 - L) := by rw [← Nat.pow_add]; congr 1; omega
        _ ≤ m * 2 ^ (52 - L) := Nat.mul_le_mul_right _ b1
    · calc m * 2 ^ (52 - L) ≤ 2 ^ (L + 1) * 2 ^ (52 - L) := Nat.mul_le_mul_right _ (Nat.le_of_lt b2)
        _ = 2 ^ 53 := by rw [← Nat.pow_add]; congr 1; omega
  · rw [if_neg hc]
    have h1 : 2 ^ 52 ≤ m / 2 ^ (L - 52) := by
      rw [Nat.le_div_iff_mul_le (Nat.two_pow_pos _), ← Nat.pow_add]
      have : 52 + (L - 52) = L := by omega
      rw [this]; exact b1
    have h2 : m / 2 ^ (L - 52) < 2 ^ 53 := by
      rw [Nat.div_lt_iff_lt_mul (Nat.two_pow_pos _), ← Nat.pow_add]
      have : 53 + (L - 52) = L + 1 := by omega
      rw [this]; exact b2
    split <;> omega
theorem cut_zero_drop' (neg : Bool) (n : Nat) : Toward.even.cut neg n 0 = n := by
  simp [Toward.cut, Nat.mod_one]
theorem nearest_kept (neg : Bool) {m : Nat} {p : Int} (hm : m ≠ 0) (h1 : -1022 ≤ p + m.log2) (h2 : p + m.log2 ≤ 1022) :
    double.nearest neg m p = double.word neg ((p + m.log2 + 1022).toNat * 2 ^ 52 + kept m) := by
  have hk := kept_bd hm
  unfold kept at hk ⊢
  generalize hL : m.log2 = L at *
  have hlast : max (p + (L : Int) - 52) (-1074) = p + L - 52 := by omega
  have key : Toward.even.cut neg (m <<< (p - (p + (L : Int) - 52)).toNat) ((p + (L : Int) - 52) - p).toNat = (if L ≤ 52 then m * 2 ^ (52 - L)
      else m / 2 ^ (L - 52) + (if 2 ^ (L - 52) < 2 * (m % 2 ^ (L - 52)) ∨ (2 ^ (L - 52) = 2 * (m % 2 ^ (L - 52)) ∧ m / 2 ^ (L - 52) % 2 = 1) then 1 else 0)) := by
    by_cases hc : L ≤ 52
    · have e1 : (p - (p + (L : Int) - 52)).toNat = 52 - L := by omega
      have e2 : ((p + (L : Int) - 52) - p).toNat = 0 := by omega
      rw [e1, e2, cut_zero_drop', Nat.shiftLeft_eq, if_pos hc]
    · have e1 : (p - (p + (L : Int) - 52)).toNat = 0 := by omega
      have e2 : ((p + (L : Int) - 52) - p).toNat = L - 52 := by omega
      rw [e1, e2, Nat.shiftLeft_zero, if_neg hc]
      have e : (1 : Nat) <<< min (L - 52) (m.log2 + 2) = 2 ^ (L - 52) := by rw [hL, Nat.min_eq_left (by omega), Nat.one_shiftLeft]
      simp only [Toward.cut, e]
      congr 1
      generalize 2 ^ (L - 52) = g
      generalize m % g = r
      generalize m / g = q
      by_cases hA : g < 2 * r ∨ (g = 2 * r ∧ q % 2 = 1)
      · rw [if_pos hA]
        rcases hA with hA | ⟨hA, hB⟩
        · simp [hA]
        · subst hA; simp [hB]
      · rw [if_neg hA]
        have : (decide (g < 2 * r) || (g == 2 * r && q % 2 == 1)) = false := by
          simp only [Bool.or_eq_false_iff, decide_eq_false_iff_not, Bool.and_eq_false_iff, beq_eq_false_iff_ne]
          refine ⟨fun h => hA (Or.inl h), ?_⟩
          by_cases hg : g = 2 * r
          · exact Or.inr fun h => hA (Or.inr ⟨hg, h⟩)
          · exact Or.inl hg
        rw [this]; rfl
  generalize (if L ≤ 52 then m * 2 ^ (52 - L) else m / 2 ^ (L - 52) + (if 2 ^ (L - 52) < 2 * (m % 2 ^ (L - 52)) ∨ (2 ^ (L - 52) = 2 * (m % 2 ^ (L - 52)) ∧ m / 2 ^ (L - 52) % 2 = 1) then 1 else 0)) = K at *
  unfold Format.nearest
  rw [if_neg hm]
  simp only [lp, bn, ir, hL]
  have hf : (double.fractionBits : Int) = 52 := rfl
  rw [hf, hlast]
  have e3 : (p + (L : Int) - 52 - -1074).toNat = (p + L + 1022).toNat := by congr 1; omega
  rw [e3]
  have hle : (p + (L : Int) + 1022).toNat * 2 ^ 52 + K ≤ 2047 * 2 ^ 52 := by omega
  rw [key, Nat.min_eq_left hle]

/-- A word taken apart. -/
theorem read_word (neg : Bool) {e F : Nat} (h1 : 1 ≤ e) (h2 : e ≤ 2046) (hF : F < 2 ^ 52) : double.read (double.word neg (e * 2 ^ 52 + F)) = .number neg (2 ^ 52 + F) (-1074 + ((e - 1 : Nat) : Int)) := by
  have hsw : double.signWeight = 2 ^ 63 := rfl
  have hlt : e * 2 ^ 52 + F < 2 ^ 63 := by omega
  have e0 : double.word neg (e * 2 ^ 52 + F) = (if neg then 2 ^ 63 else 0) + (e * 2 ^ 52 + F) := by cases neg <;> simp [Format.word, hsw]
  have e1 : ((if neg then 2 ^ 63 else 0) + (e * 2 ^ 52 + F)) / 2 ^ 63 = if neg then 1 else 0 := by cases neg <;> simp <;> omega
  have e2 : ((if neg then 2 ^ 63 else 0) + (e * 2 ^ 52 + F)) % 2 ^ 63 = e * 2 ^ 52 + F := by cases neg <;> simp <;> omega
  rw [e0]
  unfold Format.read
  simp only [hsw, e1, e2, bn, ir, lp]
  rw [if_neg (by omega), if_pos (by omega)]
  have d1 : (e * 2 ^ 52 + F) % 2 ^ 52 = F := by omega
  have d2 : (e * 2 ^ 52 + F) / 2 ^ 52 = e := by omega
  rw [d1, d2]
  cases neg <;> rfl
theorem cmp_int (a b : Int) : compare a b = if a < b then .lt else if a = b then .eq else .gt := rfl
theorem signed_eq (neg : Bool) (m k : Nat) : signed neg m k = if neg then -((m * 2 ^ k : Nat) : Int) else ((m * 2 ^ k : Nat) : Int) := by
  cases neg <;> simp [signed, Nat.shiftLeft_eq]
theorem big_mant {F : Nat} (hF : F < 2 ^ 52) : ∃ M, 4503599627370496 * (2 ^ 52 + F) = M ∧ M.log2 = 104 ∧ M / 2 ^ 52 = 2 ^ 52 + F ∧ M % 2 ^ 52 = 0 := by
  refine ⟨_, rfl, log2_of ?_ ?_, Nat.mul_div_cancel_left _ (by decide), Nat.mul_mod_right _ _⟩
  · show 2 ^ 104 ≤ _
    calc 2 ^ 104 = 4503599627370496 * 2 ^ 52 := by decide
      _ ≤ 4503599627370496 * (2 ^ 52 + F) := Nat.mul_le_mul_left _ (Nat.le_add_right _ _)
  · show _ < 2 ^ 105
    calc 4503599627370496 * (2 ^ 52 + F) < 4503599627370496 * 2 ^ 53 := Nat.mul_lt_mul_of_pos_left (by omega) (by decide)
      _ = 2 ^ 105 := by decide
theorem cmp_le {a b : Nat} (h : a ≤ b) : (some (compare (a : Int) (b : Int)) == some .gt) = false := by
  rw [cmp_int]
  by_cases hlt : (a : Int) < (b : Int)
  · rw [if_pos hlt]; rfl
  · rw [if_neg hlt, if_pos (by omega)]; rfl
theorem cmp_ge {a b : Nat} (h : b ≤ a) : (some (compare (a : Int) (b : Int)) == some .lt) = false := by
  rw [cmp_int, if_neg (by omega)]
  split <;> rfl
theorem cmp_z (neg : Bool) {a : Nat} {z : Int} (h : 0 < a) (hz : z = 0) : (some (compare (if neg then -(a : Int) else (a : Int)) z) == some .eq) = false := by
  subst hz
  rw [cmp_int]
  cases neg
  · simp only [Bool.false_eq_true, if_false]
    rw [if_neg (by omega), if_neg (by omega)]; rfl
  · simp only [if_true]
    rw [if_pos (by omega)]; rfl
section
variable {neg : Bool} {e F : Nat} (h1 : 1 ≤ e) (h2 : e ≤ 2045) (hF : F < 2 ^ 52)
include h1 h2 hF
theorem ord_zero : (double.order (double.word neg (e * 2 ^ 52 + F)) 0 == some .eq) = false := by
  have hz : double.read 0 = .number false 0 (-1074) := by decide +kernel
  have hp : ∀ k : Nat, 0 < (2 ^ 52 + F) * 2 ^ k := fun k => Nat.mul_pos (by omega) (Nat.two_pow_pos _)
  have hr := read_word neg h1 (by omega) hF
  obtain ⟨W, hW⟩ : ∃ W, double.word neg (e * 2 ^ 52 + F) = W := ⟨_, rfl⟩
  rw [hW] at hr ⊢
  unfold Format.order
  rw [hr, hz]
  simp only [Datum.order, signed_eq]
  have h9 := hp (-1074 + ((e - 1 : Nat) : Int) - min (-1074 + ((e - 1 : Nat) : Int)) (-1074)).toNat
  exact cmp_z neg h9 (by simp)
theorem ord_self : (double.order (double.word neg (e * 2 ^ 52 + F)) (double.word neg (e * 2 ^ 52 + F)) != some .eq) = false := by
  simp only [Format.order, read_word neg h1 (by omega) hF, Datum.order, cmp_int]
  simp
theorem ord_max : (double.order (double.word false (e * 2 ^ 52 + F)) 9218868437227405311 == some .gt) = false := by
  have hz : double.read 9218868437227405311 = .number false 9007199254740991 971 := by decide +kernel
  have hr := read_word false h1 (by omega) hF
  obtain ⟨W, hW⟩ : ∃ W, double.word false (e * 2 ^ 52 + F) = W := ⟨_, rfl⟩
  rw [hW] at hr ⊢
  unfold Format.order
  rw [hr, hz]
  simp only [Datum.order, signed_eq, Bool.false_eq_true, if_false]
  have hk : (-1074 + ((e - 1 : Nat) : Int) - min (-1074 + ((e - 1 : Nat) : Int)) 971).toNat = 0 := by omega
  refine cmp_le ?_
  rw [hk, Nat.pow_zero, Nat.mul_one]
  exact Nat.le_trans (show 2 ^ 52 + F ≤ 9007199254740991 by omega) (Nat.le_mul_of_pos_right _ (Nat.two_pow_pos _))
theorem ord_min : (double.order (double.word false (e * 2 ^ 52 + F)) 4503599627370496 == some .lt) = false := by
  have hz : double.read 4503599627370496 = .number false 4503599627370496 (-1074) := by decide +kernel
  have hr := read_word false h1 (by omega) hF
  obtain ⟨W, hW⟩ : ∃ W, double.word false (e * 2 ^ 52 + F) = W := ⟨_, rfl⟩
  rw [hW] at hr ⊢
  unfold Format.order
  rw [hr, hz]
  simp only [Datum.order, signed_eq, Bool.false_eq_true, if_false]
  have hk : ((-1074 : Int) - min (-1074 + ((e - 1 : Nat) : Int)) (-1074)).toNat = 0 := by omega
  refine cmp_ge ?_
  rw [hk, Nat.pow_zero, Nat.mul_one]
  exact Nat.le_trans (show 4503599627370496 ≤ 2 ^ 52 + F by omega) (Nat.le_mul_of_pos_right _ (Nat.two_pow_pos _))
theorem mul_one' : double.mul 4607182418800017408 (double.word neg (e * 2 ^ 52 + F)) = some (double.word neg (e * 2 ^ 52 + F)) := by
  have hz : double.read 4607182418800017408 = .number false 4503599627370496 (-52) := by decide +kernel
  have hr := read_word neg h1 (by omega) hF
  obtain ⟨W, hW⟩ : ∃ W, double.word neg (e * 2 ^ 52 + F) = W := ⟨_, rfl⟩
  rw [hW] at hr ⊢
  unfold Format.mul
  rw [hr, hz]
  simp only [Datum.product, Option.map_some, Format.write, Bool.false_xor, Option.some.injEq]
  obtain ⟨M, hM, hl, d1, d2⟩ := big_mant hF
  rw [hM]
  have hm : M ≠ 0 := by intro h; subst h; revert hl; decide
  have hnr := nearest_kept neg hm (p := -52 + (-1074 + ((e - 1 : Nat) : Int))) (by rw [hl]; omega) (by rw [hl]; omega)
  rw [hnr, ← hW]
  have hk : kept M = 2 ^ 52 + F := by
    unfold kept
    rw [hl, if_neg (by omega)]
    show M / 2 ^ 52 + (if 2 ^ 52 < 2 * (M % 2 ^ 52) ∨ (2 ^ 52 = 2 * (M % 2 ^ 52) ∧ M / 2 ^ 52 % 2 = 1) then 1 else 0) = _
    rw [d1, d2, if_neg (by omega), Nat.add_zero]
  rw [hk, hl]
  have hE : (-52 + (-1074 + ((e - 1 : Nat) : Int)) + ((104 : Nat) : Int) + 1022).toNat = e - 1 := by omega
  rw [hE]
  obtain ⟨g, rfl⟩ : ∃ g, e = g + 1 := ⟨e - 1, by omega⟩
  rw [Nat.add_sub_cancel, Nat.add_mul, Nat.one_mul, Nat.add_assoc]
end
/-- The number of a word: its sign, exponent field and fraction field. -/
theorem rung_split {L m : Nat} (hm : m ≠ 0) (hL : L ≤ 200) (d : Nat) (hd : d ≤ 60) : ∃ e F, (L + 1022) * 2 ^ 52 + kept m = e * 2 ^ 52 + F ∧ 1 ≤ e ∧ e ≤ 2045 ∧ F < 2 ^ 52 ∧ 61 ≤ e - d ∧ (L + 1022 - d) * 2 ^ 52 + kept m = (e - d) * 2 ^ 52 + F := by
  obtain ⟨k1, k2⟩ := kept_bd hm
  generalize kept m = k at *
  refine ⟨L + 1022 + k / 2 ^ 52, k % 2 ^ 52, ?_, ?_, ?_, Nat.mod_lt _ (by decide), ?_, ?_⟩
  · rw [Nat.add_mul (L + 1022), Nat.add_assoc, Nat.div_add_mod']
  · omega
  · omega
  · omega
  · have e1 : L + 1022 + k / 2 ^ 52 - d = (L + 1022 - d) + k / 2 ^ 52 := by omega
    rw [e1, Nat.add_mul (L + 1022 - d), Nat.add_assoc, Nat.div_add_mod']
theorem word_eq (neg : Bool) (r : Nat) : double.word neg r = (if neg then 9223372036854775808 else 0) + r := by cases neg <;> simp [Format.word] <;> rfl
end Go.Proofs.Ytaekgifbehoipaa.Bt
