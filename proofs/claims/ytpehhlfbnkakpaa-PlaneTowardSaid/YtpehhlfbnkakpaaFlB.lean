/- Arithmetic: wraps and divisions that round. -/
import Derived.Test.YtpehhlfbnkakpaaNmA
namespace Go.Proofs.Ytpehhlfbnkakpaa.Fl
open Go Go.Proofs.Ytpehhlfbnkakpaa.Eva Go.Proofs.Ytpehhlfbnkakpaa.CodeAll
set_option linter.unusedVariables false
set_option linter.unusedSimpArgs false
set_option maxRecDepth 10000
set_option maxHeartbeats 4000000

theorem w_lo (x : Int) : -9223372036854775808 ≤ w x := by
  simp only [w, IntKind.wrap, IntKind.signed, IntKind.bits, Bool.true_and]
  split <;> rename_i hc <;> simp only [decide_eq_true_eq, ge_iff_le] at hc <;> omega
theorem w_hi (x : Int) : w x ≤ 9223372036854775807 := by
  simp only [w, IntKind.wrap, IntKind.signed, IntKind.bits, Bool.true_and]
  split <;> rename_i hc <;> simp only [decide_eq_true_eq, ge_iff_le] at hc <;> omega
theorem w_id {x : Int} (h1 : -9223372036854775808 ≤ x) (h2 : x ≤ 9223372036854775807) : w x = x := wrap64 h1 h2

/-- Division that rounds down is Lean's. -/
theorem dvd_eq {a b : Int} (hb : 0 < b) (h1 : -9223372036854775808 < a) (h2 : a ≤ 9223372036854775807) : dvd a b = a / b := by
  unfold dvd
  rw [if_neg (by omega), if_neg (by simp; omega)]
  have hd := Int.mul_tdiv_add_tmod a b
  have hm1 := Int.tmod_lt_of_pos a hb
  have hm0 := Int.lt_tmod_of_pos a hb
  have hq : -9223372036854775808 < a.tdiv b ∧ a.tdiv b ≤ 9223372036854775807 := by
    constructor
    · rcases Int.le_total 0 a with h | h
      · have := Int.tdiv_nonneg h (Int.le_of_lt hb); omega
      · have : (-a).tdiv b ≤ -a := Int.tdiv_le_self b (by omega)
        rw [Int.neg_tdiv] at this; omega
    · rcases Int.le_total 0 a with h | h
      · have := Int.tdiv_le_self (a := a) b h; omega
      · have : 0 ≤ (-a).tdiv b := Int.tdiv_nonneg (by omega) (Int.le_of_lt hb)
        rw [Int.neg_tdiv] at this; omega
  have key : ∀ q r : Int, b * q + r = a → 0 ≤ r → r < b → a / b = q := by
    intro q r e h1 h2
    rw [← e, Int.add_comm, Int.add_mul_ediv_left _ _ (by omega), Int.ediv_eq_zero_of_lt h1 h2]; omega
  split
  · rename_i hc
    simp only [bne_iff_ne, ne_eq, Bool.and_eq_true, decide_eq_decide] at hc
    have hneg : a.tmod b < 0 := by
      have := Int.tmod_nonneg (a := a) b
      by_cases ha : 0 ≤ a
      · exact absurd ⟨fun h => by omega, fun h => by omega⟩ hc.2
      · have h3 : 0 ≤ (-a).tmod b := Int.tmod_nonneg b (by omega)
        rw [Int.neg_tmod] at h3; omega
    have e1 := w_id (x := a.tdiv b) (by omega) (by omega)
    rw [e1, w_id (by omega) (by omega)]
    exact (key _ (a.tmod b + b) (by rw [Int.mul_sub]; omega) (by omega) (by omega)).symm
  · rename_i hc
    simp only [bne_iff_ne, ne_eq, Bool.and_eq_true, decide_eq_decide, not_and, Classical.not_not] at hc
    rw [w_id (by omega) (by omega)]
    refine (key _ (a.tmod b) hd ?_ hm1).symm
    by_cases hz : a.tmod b = 0
    · omega
    · have := hc hz
      exact Int.tmod_nonneg b (by omega)
theorem dve_pos {a b : Int} (hb : 0 < b) : dve a b = 0 := by
  unfold dve
  rw [if_neg (by omega), if_neg (by simp; omega)]
/-- Division that rounds up. -/
theorem dvu_eq {a b : Int} (hb : 0 < b) (h1 : -9223372036854775808 < a) (h2 : a ≤ 9223372036854775807) : dvu a b = -(-a / b) := by
  unfold dvu
  rw [dve_pos hb, dvd_eq hb h1 h2]
  have hd := Int.mul_tdiv_add_tmod a b
  have he := Int.mul_ediv_add_emod a b
  have he0 := Int.emod_nonneg a (b := b) (by omega)
  have he1 := Int.emod_lt_of_pos a hb
  have hz : a.tmod b = 0 ↔ a % b = 0 := by
    constructor
    · intro h; exact Int.emod_eq_zero_of_dvd (Int.dvd_of_tmod_eq_zero h)
    · intro h; exact Int.tmod_eq_zero_of_dvd (Int.dvd_of_emod_eq_zero h)
  have key : ∀ q r : Int, b * q + r = -a → 0 ≤ r → r < b → -a / b = q := by
    intro q r e h1 h2
    rw [← e, Int.add_comm, Int.add_mul_ediv_left _ _ (by omega), Int.ediv_eq_zero_of_lt h1 h2]; omega
  have hlo : -9223372036854775808 ≤ a / b ∧ (a % b ≠ 0 → a / b < 9223372036854775807) := by
    constructor
    · rcases Int.le_total 0 a with h | h
      · have := Int.ediv_nonneg h (Int.le_of_lt hb); omega
      · have : a ≤ a / b := by
          apply Int.le_ediv_of_mul_le hb
          have : a * b ≤ a * 1 := Int.mul_le_mul_of_nonpos_left h (by omega)
          omega
        omega
    · intro hne
      rcases Int.le_total 0 a with h | h
      · by_cases hb1 : b = 1
        · subst hb1; omega
        · have : a / b < a ∨ a = 0 := by
            by_cases ha : a = 0
            · exact Or.inr ha
            · exact Or.inl (Int.ediv_lt_self_of_pos_of_ne_one (by omega) hb1)
          rcases this with h | h
          · omega
          · subst h; simp at hne
      · have : a / b ≤ 0 := by
          have h9 := Int.ediv_le_ediv hb h
          rwa [Int.zero_ediv] at h9
        omega
  by_cases hr : a % b = 0
  · have h3 : a.tmod b = 0 := hz.2 hr
    simp only [h3, bne_self_eq_false, Bool.and_false, Bool.false_eq_true, if_false]
    rw [key (-(a / b)) 0 (by rw [Int.mul_neg]; omega) (by omega) hb]; omega
  · have h3 : ¬ a.tmod b = 0 := fun h => hr (hz.1 h)
    have h4 : ((0 : Int) == 0 && a.tmod b != 0) = true := by simp [h3]
    rw [if_pos h4]
    have := hlo.2 hr
    rw [w_id (by omega) (by omega), key (-(a / b) - 1) (b - a % b) (by rw [Int.mul_sub, Int.mul_neg]; omega) (by omega) (by omega)]; omega
theorem wi_bd {n lo hi : Int} (h0 : lo ≤ hi) (h1 : -1000000000000 ≤ lo) (h2 : hi ≤ 1000000000000) : lo ≤ wi n lo hi ∧ wi n lo hi ≤ hi := by
  unfold wi
  have e1 : w (w (hi - lo) + 1) = hi - lo + 1 := by
    have := w_id (x := hi - lo) (by omega) (by omega)
    rw [this]; exact w_id (by omega) (by omega)
  rw [e1]
  have a1 := Int.lt_tmod_of_pos n (show 0 < hi - lo + 1 by omega)
  have a2 := Int.tmod_lt_of_pos n (show 0 < hi - lo + 1 by omega)
  rw [w_id (x := n.tmod (hi - lo + 1) + (hi - lo + 1)) (by omega) (by omega)]
  have a3 := Int.tmod_nonneg (a := n.tmod (hi - lo + 1) + (hi - lo + 1)) (hi - lo + 1) (by omega)
  have a4 := Int.tmod_lt_of_pos (n.tmod (hi - lo + 1) + (hi - lo + 1)) (show 0 < hi - lo + 1 by omega)
  rw [w_id (by omega) (by omega)]
  omega
theorem wi_nz {lo hi : Int} (h0 : lo ≤ hi) (h1 : -1000000000000 ≤ lo) (h2 : hi ≤ 1000000000000) : w (w (hi - lo) + 1) ≠ 0 := by
  have := w_id (x := hi - lo) (by omega) (by omega)
  rw [this, w_id (by omega) (by omega)]; omega
end Go.Proofs.Ytpehhlfbnkakpaa.Fl
