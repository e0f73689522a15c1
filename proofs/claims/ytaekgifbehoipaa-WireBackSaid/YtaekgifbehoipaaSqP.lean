/- The square root of a float that stands for a positive whole number, made whole: between 1 and 2^53. Conditions stand in each lemma. -/
import Derived.Test.YtaekgifbehoipaaEvaY
namespace Go.Proofs.Ytaekgifbehoipaa.Sq
open Go Go.Proofs.Ytaekgifbehoipaa.Eva Ieee

theorem log2_bd {m : Nat} (hm : m ≠ 0) : 2 ^ m.log2 ≤ m ∧ m < 2 ^ (m.log2 + 1) := ⟨Nat.log2_self_le hm, Nat.lt_log2_self⟩

theorem cut_zero_drop (n : Nat) : Toward.even.cut false n 0 = n := by
  simp [Toward.cut, Nat.mod_one]
theorem cut_bd {n d : Nat} (hd : d ≤ n.log2 + 2) : n / 2 ^ d ≤ Toward.even.cut false n d ∧ Toward.even.cut false n d ≤ n / 2 ^ d + 1 := by
  have e : (1 : Nat) <<< min d (n.log2 + 2) = 2 ^ d := by rw [Nat.min_eq_left hd, Nat.one_shiftLeft]
  simp only [Toward.cut, e]
  refine ⟨Nat.le_add_right _ _, Nat.add_le_add_left ?_ _⟩
  exact Bool.toNat_le _

theorem lp : double.leastPlace = -1074 := by decide
theorem bn : double.binade = 2 ^ 52 := rfl
theorem ir : double.infRung = 2047 * 2 ^ 52 := rfl

theorem nearest_pos {m : Nat} {p : Int} (hm : m ≠ 0) (h1 : -1022 ≤ p + m.log2) (h2 : p + m.log2 ≤ 1022) :
    ∃ kept, 2 ^ 52 ≤ kept ∧ kept ≤ 2 ^ 53 ∧ double.nearest false m p = (p + m.log2 + 1022).toNat * 2 ^ 52 + kept := by
  obtain ⟨b1, b2⟩ := log2_bd hm
  generalize hL : m.log2 = L at *
  have hlast : max (p + (L : Int) - 52) (-1074) = p + L - 52 := by omega
  have key : ∃ kept, 2 ^ 52 ≤ kept ∧ kept ≤ 2 ^ 53 ∧ Toward.even.cut false (m <<< (p - (p + (L : Int) - 52)).toNat) ((p + (L : Int) - 52) - p).toNat = kept := by
    refine ⟨_, ?_, ?_, rfl⟩ <;> by_cases hc : L ≤ 52
    · have e1 : (p - (p + (L : Int) - 52)).toNat = 52 - L := by omega
      have e2 : ((p + (L : Int) - 52) - p).toNat = 0 := by omega
      rw [e1, e2, cut_zero_drop, Nat.shiftLeft_eq]
      calc 2 ^ 52 = 2 ^ L * 2 ^ (52 - L) := by rw [← Nat.pow_add]; congr 1; omega
        _ ≤ m * 2 ^ (52 - L) := Nat.mul_le_mul_right _ b1
    · have e1 : (p - (p + (L : Int) - 52)).toNat = 0 := by omega
      have e2 : ((p + (L : Int) - 52) - p).toNat = L - 52 := by omega
      rw [e1, e2, Nat.shiftLeft_zero]
      refine Nat.le_trans ?_ (cut_bd (by rw [hL]; omega)).1
      rw [Nat.le_div_iff_mul_le (Nat.two_pow_pos _), ← Nat.pow_add]
      have : 52 + (L - 52) = L := by omega
      rw [this]; exact b1
    · have e1 : (p - (p + (L : Int) - 52)).toNat = 52 - L := by omega
      have e2 : ((p + (L : Int) - 52) - p).toNat = 0 := by omega
      rw [e1, e2, cut_zero_drop, Nat.shiftLeft_eq]
      calc m * 2 ^ (52 - L) ≤ 2 ^ (L + 1) * 2 ^ (52 - L) := Nat.mul_le_mul_right _ (Nat.le_of_lt b2)
        _ = 2 ^ 53 := by rw [← Nat.pow_add]; congr 1; omega
    · have e1 : (p - (p + (L : Int) - 52)).toNat = 0 := by omega
      have e2 : ((p + (L : Int) - 52) - p).toNat = L - 52 := by omega
      rw [e1, e2, Nat.shiftLeft_zero]
      refine Nat.le_trans (cut_bd (by rw [hL]; omega)).2 ?_
      have : m / 2 ^ (L - 52) < 2 ^ 53 := by
        rw [Nat.div_lt_iff_lt_mul (Nat.two_pow_pos _), ← Nat.pow_add]
        have : 53 + (L - 52) = L + 1 := by omega
        rw [this]; exact b2
      omega
  obtain ⟨kept, k1, k2, k3⟩ := key
  refine ⟨kept, k1, k2, ?_⟩
  unfold Format.nearest
  rw [if_neg hm]
  simp only [lp, bn, ir, hL]
  have hf : (double.fractionBits : Int) = 52 := rfl
  rw [hf, hlast, k3]
  have e3 : (p + (L : Int) - 52 - -1074).toNat = (p + L + 1022).toNat := by congr 1; omega
  rw [e3]
  have hle : (p + (L : Int) + 1022).toNat * 2 ^ 52 + kept ≤ 2047 * 2 ^ 52 := by omega
  rw [Nat.min_eq_left hle]
  simp [Format.word]

theorem read_pos {e kept : Nat} (h1 : 2 ^ 52 ≤ kept) (h2 : kept ≤ 2 ^ 53) (he : e ≤ 2044) :
    ∃ M P, double.read (e * 2 ^ 52 + kept) = .number false M P ∧ 2 ^ 52 ≤ M ∧ M < 2 ^ 53 ∧ (P = -1074 + e ∨ P = -1074 + e + 1) := by
  have hsw : double.signWeight = 2 ^ 63 := rfl
  have hlt : e * 2 ^ 52 + kept < 2 ^ 63 := by omega
  have e1 : (e * 2 ^ 52 + kept) / 2 ^ 63 = 0 := Nat.div_eq_of_lt hlt
  have e2 : (e * 2 ^ 52 + kept) % 2 ^ 63 = e * 2 ^ 52 + kept := Nat.mod_eq_of_lt hlt
  unfold Format.read
  simp only [hsw, e1, e2, bn, ir, lp]
  rw [if_neg (by omega), if_pos (by omega)]
  refine ⟨_, _, rfl, by omega, by have := Nat.mod_lt (e * 2 ^ 52 + kept) (show 2 ^ 52 > 0 by decide); omega, ?_⟩
  omega

theorem rootFrom_ge (n : Nat) : ∀ (t r : Nat), r ≤ Datum.rootFrom n t r
  | 0, r => Nat.le_refl _
  | t + 1, r => by
    simp only [Datum.rootFrom]
    split
    · exact Nat.le_trans (Nat.le_add_right _ _) (rootFrom_ge n t _)
    · exact rootFrom_ge n t r
theorem rootFrom_sq (n : Nat) : ∀ (t r : Nat), r * r ≤ n → Datum.rootFrom n t r * Datum.rootFrom n t r ≤ n
  | 0, r, h => h
  | t + 1, r, h => by
    simp only [Datum.rootFrom]
    split
    · rename_i h2
      exact rootFrom_sq n t _ h2
    · exact rootFrom_sq n t r h
theorem rootFrom_low (n k : Nat) (hk : 2 ^ k * 2 ^ k ≤ n) : ∀ (t : Nat), k < t → 2 ^ k ≤ Datum.rootFrom n t 0
  | 0, h => by omega
  | t + 1, h => by
    simp only [Datum.rootFrom, Nat.zero_add, Nat.one_shiftLeft]
    by_cases hkt : k = t
    · subst hkt
      rw [if_pos hk]
      exact rootFrom_ge n k _
    · split
      · exact Nat.le_trans (Nat.pow_le_pow_right (by decide) (by omega)) (rootFrom_ge n t _)
      · exact rootFrom_low n k hk t (by omega)

theorem log2_of {m k : Nat} (h1 : 2 ^ k ≤ m) (h2 : m < 2 ^ (k + 1)) : m.log2 = k := by
  have hm : m ≠ 0 := by have := Nat.two_pow_pos k; omega
  exact (Nat.log2_eq_iff hm).2 ⟨h1, h2⟩

theorem root_pos {M : Nat} {i : Int} (h1 : 2 ^ 52 ≤ M) (h2 : M < 2 ^ 53) :
    ∃ R, (Datum.number false M i).root 54 = some (.number false R ((i - (56 + (i % 2).toNat : Nat)) / 2 - 1)) ∧ 2 ^ 55 ≤ R ∧ R < 2 ^ 56 := by
  have hM : M ≠ 0 := by omega
  have hl : M.log2 = 52 := log2_of h1 h2
  have hb : (i - 56) % 2 = i % 2 := by omega
  simp only [Datum.root, if_neg hM, hl, Bool.false_eq_true, if_false]
  have e56 : ((2 * 54 - 52 : Nat) : Int) = 56 := rfl
  have e56' : (2 * 54 - 52 : Nat) = 56 := rfl
  rw [e56, hb, e56']
  generalize hn : M <<< (56 + (i % 2).toNat) = n
  have hn1 : 2 ^ 108 ≤ n := by
    rw [← hn, Nat.shiftLeft_eq, Nat.pow_add]
    have h9 : 1 ≤ 2 ^ (i % 2).toNat := Nat.one_le_two_pow
    calc 2 ^ 108 = 2 ^ 52 * (2 ^ 56 * 1) := by decide
      _ ≤ M * (2 ^ 56 * 2 ^ (i % 2).toNat) := Nat.mul_le_mul h1 (Nat.mul_le_mul_left _ h9)
  have hn2 : n < 2 ^ 110 := by
    rw [← hn, Nat.shiftLeft_eq]
    have h9 : 56 + (i % 2).toNat ≤ 57 := by omega
    calc M * 2 ^ (56 + (i % 2).toNat) < 2 ^ 53 * 2 ^ (56 + (i % 2).toNat) := Nat.mul_lt_mul_of_pos_right h2 (Nat.two_pow_pos _)
      _ ≤ 2 ^ 53 * 2 ^ 57 := Nat.mul_le_mul_left _ (Nat.pow_le_pow_right (by decide) h9)
      _ = 2 ^ 110 := by decide
  have hn0 : n ≠ 0 := by omega
  have hlg : 108 ≤ n.log2 := by
    rw [Nat.le_log2 hn0]; exact hn1
  generalize hw : Datum.rootFrom n (n.log2 / 2 + 1) 0 = whole
  have w1 : 2 ^ 54 ≤ whole := by rw [← hw]; exact rootFrom_low n 54 (by omega) _ (by omega)
  have w2 : whole * whole ≤ n := by rw [← hw]; exact rootFrom_sq n _ 0 (by omega)
  have w3 : whole < 2 ^ 55 := Nat.lt_of_not_le fun h => by
    have := Nat.mul_le_mul h h
    omega
  refine ⟨_, rfl, by omega, ?_⟩
  have hb2 := Bool.toNat_le (whole * whole != n)
  omega

/-- The conversion of a positive number, its root, and that made whole. -/
theorem sqrt_ok {n : Int} (h1 : 1 ≤ n) (h2 : n < 2 ^ 63) : ∃ y r, FloatKind.f64.format.sqrt (FloatKind.f64.nearest n) = some y ∧ acfi .i64 (.flt .f64 y) = some (.int .i64 r) ∧ 1 ≤ r ∧ r < 2 ^ 53 := by
  have hm : n.natAbs ≠ 0 := by omega
  have hlg : n.natAbs.log2 ≤ 62 := by
    have : n.natAbs.log2 < 63 := (Nat.log2_lt hm).2 (by omega)
    omega
  obtain ⟨k, k1, k2, k3⟩ := nearest_pos (p := 0) hm (by omega) (by omega)
  have e0 : FloatKind.f64.nearest n = double.nearest false n.natAbs 0 := by
    have : decide (n < 0) = false := by simp; omega
    simp only [FloatKind.nearest, FloatKind.encode, FloatKind.format, Format.write, this]
  have ef : FloatKind.f64.format = double := rfl
  obtain ⟨M, P, r1, r2, r3, r4⟩ := read_pos (e := (0 + (n.natAbs.log2 : Int) + 1022).toNat) k1 k2 (by omega)
  obtain ⟨R, t1, t2, t3⟩ := root_pos (i := P) r2 r3
  have hR : R ≠ 0 := by omega
  have hRl : R.log2 = 55 := log2_of t2 t3
  generalize hq : (P - (56 + (P % 2).toNat : Nat)) / 2 - 1 = q at t1
  have hq1 : -55 ≤ q := by omega
  have hq2 : q ≤ -24 := by omega
  obtain ⟨k', k1', k2', k3'⟩ := nearest_pos (p := q) hR (by omega) (by omega)
  obtain ⟨M', P', r1', r2', r3', r4'⟩ := read_pos (e := (q + (R.log2 : Int) + 1022).toNat) k1' k2' (by omega)
  refine ⟨double.nearest false R q, ?_⟩
  have s1 : FloatKind.f64.format.sqrt (FloatKind.f64.nearest n) = some (double.nearest false R q) := by
    have e2 : double.fractionBits + 2 = 54 := rfl
    rw [ef, e0, k3]
    unfold Format.sqrt
    rw [r1, e2, t1]
    rfl
  have hd : FloatKind.f64.decode (double.nearest false R q) = .number false M' P' := by
    rw [k3']; exact r1'
  have hP1 : (-P').toNat ≤ 52 := by omega
  have hP2 : P'.toNat = 0 := by omega
  have hl' : M'.log2 = 52 := log2_of r2' r3'
  have hc : Toward.zero.cut false (M' <<< P'.toNat) (-P').toNat = M' / 2 ^ (-P').toNat := by
    rw [hP2, Nat.shiftLeft_zero]
    have e : (1 : Nat) <<< min (-P').toNat (M'.log2 + 2) = 2 ^ (-P').toNat := by rw [Nat.min_eq_left (by omega), Nat.one_shiftLeft]
    simp only [Toward.cut, e, Bool.toNat_false, Nat.add_zero]
  have hi : (FloatKind.f64.decode (double.nearest false R q)).toInt .zero = some ((M' / 2 ^ (-P').toNat : Nat) : Int) := by
    rw [hd]
    simp only [Datum.toInt, Datum.integral, hc, signed, Bool.false_eq_true, if_false, Nat.shiftLeft_zero]
  have v1 : 1 ≤ M' / 2 ^ (-P').toNat := by
    rw [Nat.le_div_iff_mul_le (Nat.two_pow_pos _), Nat.one_mul]
    exact Nat.le_trans (Nat.pow_le_pow_right (by decide) hP1) r2'
  have v2 : M' / 2 ^ (-P').toNat < 2 ^ 53 := Nat.lt_of_le_of_lt (Nat.div_le_self _ _) r3'
  refine ⟨((M' / 2 ^ (-P').toNat : Nat) : Int), s1, ?_, by omega, by omega⟩
  have b1 : IntKind.i64.min = -9223372036854775808 := rfl
  have b2 : IntKind.i64.max = 9223372036854775807 := rfl
  simp only [acfi, hi, b1, b2]
  rw [if_pos (by omega)]
end Go.Proofs.Ytaekgifbehoipaa.Sq
