/- Numbers of 64 bits: wraps that do nothing, floor division, masks. No program. -/
import Derived.Test.YtehgapcmngdcnaaWWords
import Derived.Laws.BitsLemmas
import Derived.Test.YtehgapcmngdcnaaOpens
namespace Go.Proofs.Ytehgapcmngdcnaa.Base
open Go.RowKit Go.Proofs.Ytehgapcmngdcnaa.Opens Go.Proofs.YtehgapcmngdcnaaW.PrintWords

theorem w64 {n : Int} (h0 : -9223372036854775808 ≤ n) (h1 : n ≤ 9223372036854775807) : wrap64 n = n := by unfold wrap64; omega
theorem i64_mask (j : Nat) (hj : j < 63) (n : Int) : Go.bits .and .i64 n ((2 ^ j - 1 : Nat) : Int) = n % ((2 ^ j : Nat) : Int) := by
  have hp : 2 ^ j ≤ 2 ^ 62 := Nat.pow_le_pow_right (by omega) (by omega)
  have hp0 : 0 < 2 ^ j := Nat.pow_pos (by omega)
  have hm : (BitVec.ofInt 64 ((2 ^ j - 1 : Nat) : Int)).toNat = 2 ^ j - 1 := by
    rw [BitVec.toNat_ofInt]
    have : ((2 ^ j - 1 : Nat) : Int) % ((2 ^ 64 : Nat) : Int) = ((2 ^ j - 1 : Nat) : Int) := by
      apply Int.emod_eq_of_lt (by omega)
      have : (2 : Nat) ^ 62 < 2 ^ 64 := by decide
      omega
    rw [this]; simp
  have key : (BitVec.ofInt 64 n &&& BitVec.ofInt 64 ((2 ^ j - 1 : Nat) : Int)).toNat = (n % ((2 ^ 64 : Nat) : Int)).toNat % 2 ^ j := by
    rw [BitVec.toNat_and, BitVec.toNat_ofInt, hm, Nat.and_two_pow_sub_one_eq_mod]
  show IntKind.i64.wrap ((BitVec.ofInt 64 n &&& BitVec.ofInt 64 ((2 ^ j - 1 : Nat) : Int)).toNat : Nat) = n % ((2 ^ j : Nat) : Int)
  rw [key, IntKind.wrap_i64]
  have hd : ((2 ^ j : Nat) : Int) ∣ ((2 ^ 64 : Nat) : Int) := by
    refine Int.natCast_dvd_natCast.2 (Nat.pow_dvd_pow 2 (by omega))
  have e1 : (((n % ((2 ^ 64 : Nat) : Int)).toNat % 2 ^ j : Nat) : Int) = n % ((2 ^ j : Nat) : Int) := by
    rw [Int.natCast_emod, Int.toNat_of_nonneg (Int.emod_nonneg _ (by decide)), Int.emod_emod_of_dvd _ hd]
  rw [e1]
  have h0 : 0 ≤ n % ((2 ^ j : Nat) : Int) := Int.emod_nonneg _ (by omega)
  have h1 : n % ((2 ^ j : Nat) : Int) < ((2 ^ j : Nat) : Int) := Int.emod_lt_of_pos _ (by omega)
  have h2 : ((2 ^ j : Nat) : Int) ≤ 4611686018427387904 := by
    have : ((2 ^ j : Nat) : Int) ≤ ((2 ^ 62 : Nat) : Int) := by omega
    simpa using this
  generalize n % ((2 ^ j : Nat) : Int) = m at *
  omega
theorem and4095 (n : Int) : Go.bits .and .i64 n 4095 = n % 4096 := i64_mask 12 (by decide) n
theorem and65535 (n : Int) : Go.bits .and .i64 n 65535 = n % 65536 := i64_mask 16 (by decide) n

/-- Go's quotient, put right: the floor. -/
theorem floor_of {a b : Int} (hb : 0 < b) : (if Int.tmod a b = 0 then Int.tdiv a b else if a < 0 then Int.tdiv a b - 1 else Int.tdiv a b) = a / b := by
  have hd := Int.mul_ediv_add_emod a b
  have hm0 := Int.emod_nonneg a (by omega : b ≠ 0)
  have hm1 := Int.emod_lt_of_pos a hb
  have ht := Int.tdiv_eq_ediv (a := a) (b := b)
  have hs : Int.sign b = 1 := Int.sign_eq_one_of_pos hb
  have hmod := Int.mul_tdiv_add_tmod a b
  by_cases ha : 0 ≤ a
  · have h1 : Int.tdiv a b = a / b := by rw [ht, if_pos (Or.inl ha)]; omega
    split
    · exact h1
    · rw [if_neg (by omega)]; exact h1
  · by_cases hz : b ∣ a
    · have h1 : Int.tdiv a b = a / b := by rw [ht, if_pos (Or.inr hz)]; omega
      have h2 : Int.tmod a b = 0 := Int.tmod_eq_zero_of_dvd hz
      rw [if_pos h2, h1]
    · have h1 : Int.tdiv a b = a / b + 1 := by rw [ht, if_neg (by simp [ha, hz]), hs]
      have h2 : ¬ Int.tmod a b = 0 := fun h => hz (Int.dvd_of_tmod_eq_zero h)
      rw [if_neg h2, if_pos (by omega), h1]
      omega
theorem tdiv_bd {a b : Int} (ha0 : -9223372036854775808 ≤ a) (ha : a ≤ 9223372036854775807) (hb : 0 < b) : -9223372036854775808 ≤ Int.tdiv a b ∧ Int.tdiv a b ≤ 9223372036854775807 := by
  have h1 : (Int.tdiv a b).natAbs ≤ a.natAbs := by rw [Int.natAbs_tdiv]; exact Nat.div_le_self _ _
  have ha' : a.natAbs ≤ 9223372036854775808 := by omega
  have hx := Int.natAbs_tdiv a b
  by_cases h0 : 0 ≤ a
  · have := Int.tdiv_nonneg h0 (by omega : 0 ≤ b); omega
  · have ht := Int.tdiv_eq_ediv (a := a) (b := b)
    have hs : Int.sign b = 1 := Int.sign_eq_one_of_pos hb
    have hn : a / b < 0 := Int.ediv_neg_of_neg_of_pos (by omega) hb
    rw [hs] at ht
    split at ht <;> omega
/-- The ceiling. -/
def cdiv (a b : Int) : Int := -((-a) / b)
theorem ceil_of {a b : Int} (hb : 0 < b) : (if Int.tmod a b = 0 then a / b else a / b + 1) = cdiv a b := by
  unfold cdiv
  have hd := Int.mul_ediv_add_emod a b
  have hm0 := Int.emod_nonneg a (by omega : b ≠ 0)
  have hm1 := Int.emod_lt_of_pos a hb
  split
  · rename_i h
    have hz := Int.dvd_of_tmod_eq_zero h
    obtain ⟨c, rfl⟩ := hz
    rw [Int.mul_ediv_cancel_left _ (by omega), ← Int.mul_neg, Int.mul_ediv_cancel_left _ (by omega)]
    omega
  · rename_i h
    have hz : a % b ≠ 0 := fun h2 => h (Int.tmod_eq_zero_of_dvd (Int.dvd_of_emod_eq_zero h2))
    have : (-a) / b = -(a / b) - 1 := by
      have e : -a = b * (-(a / b) - 1) + (b - a % b) := by
        have : b * (-(a / b) - 1) = -(b * (a / b)) - b := by rw [Int.mul_sub, Int.mul_neg, Int.mul_one]
        rw [this]; omega
      rw [e, Int.add_comm, Int.add_mul_ediv_left _ _ (by omega : b ≠ 0), Int.ediv_eq_zero_of_lt (by omega) (by omega)]
      omega
    omega
/-- The ceiling, by what it is. -/
theorem le_cdiv {a b : Int} (hb : 0 < b) : a ≤ b * cdiv a b ∧ b * cdiv a b < a + b := by
  unfold cdiv
  have hd := Int.mul_ediv_add_emod (-a) b
  have hm0 := Int.emod_nonneg (-a) (by omega : b ≠ 0)
  have hm1 := Int.emod_lt_of_pos (-a) hb
  rw [Int.mul_neg]
  omega
theorem fdiv_le {a b : Int} (hb : 0 < b) : b * (a / b) ≤ a ∧ a < b * (a / b) + b := by
  have hd := Int.mul_ediv_add_emod a b
  have hm0 := Int.emod_nonneg a (by omega : b ≠ 0)
  have hm1 := Int.emod_lt_of_pos a hb
  omega
theorem fdiv_mono {a a' b : Int} (hb : 0 < b) (h : a ≤ a') : a / b ≤ a' / b := Int.ediv_le_ediv hb h
theorem cdiv_mono {a a' b : Int} (hb : 0 < b) (h : a ≤ a') : cdiv a b ≤ cdiv a' b := by
  unfold cdiv
  have := Int.ediv_le_ediv hb (by omega : -a' ≤ -a)
  omega
theorem ite_same {α : Type} {c : Prop} [Decidable c] {x y z : α} (h : c → x = z) (k : ¬ c → y = z) : (if c then x else y) = z := by
  by_cases hc : c
  · rw [if_pos hc]; exact h hc
  · rw [if_neg hc]; exact k hc
/-- Some function of rounds comes to r, and then stays. -/
theorem ev_of_forall {α : Type} {g : Nat → Option α} {r : α} (K : Nat) (h : ∀ k, K ≤ k → g k = some r) : Ev g r := ⟨K, h⟩
theorem ev_bind {α β : Type} {g : Nat → Option α} {f : Nat → α → Option β} {a : α} {r : β} (h : Ev g a) (k : Ev (fun n => f n a) r) : Ev (fun n => (g n).bind (f n)) r := Ev.bind h k
theorem ev_some {α β : Type} {g : Option α} {f : Nat → α → Option β} {a : α} {r : β} (h : g = some a) (k : Ev (fun n => f n a) r) : Ev (fun n => g.bind (f n)) r := by
  subst h; exact k
theorem ev_pos {α : Type} {c : Prop} [Decidable c] {g f : Nat → Option α} {r : α} (h : c) (k : Ev g r) : Ev (fun n => if c then g n else f n) r := by
  simp only [if_pos h]; exact k
theorem ev_neg {α : Type} {c : Prop} [Decidable c] {g f : Nat → Option α} {r : α} (h : ¬ c) (k : Ev f r) : Ev (fun n => if c then g n else f n) r := by
  simp only [if_neg h]; exact k
theorem ev_bad {α : Type} {c : Prop} [Decidable c] {g f : Nat → Option α} {r : α} (h : Ev g r) (k : ¬ c → Ev f r) : Ev (fun n => if c then g n else f n) r := by
  by_cases hc : c
  · simp only [if_pos hc]; exact h
  · simp only [if_neg hc]; exact k hc
theorem ev_ite {α : Type} {c : Prop} [Decidable c] {g f : Nat → Option α} {r r' : α} (h : c → Ev g r) (k : ¬ c → Ev f r') : Ev (fun n => if c then g n else f n) (if c then r else r') := by
  by_cases hc : c
  · simp only [if_pos hc]; exact h hc
  · simp only [if_neg hc]; exact k hc
theorem ev_dt {α : Type} {c : Prop} [Decidable c] {r : α} (g : Nat → Bool → Option α) (h : c) (k : Ev (fun n => g n true) r) : Ev (fun n => g n (decide c)) r := by rw [decide_eq_true h]; exact k
theorem ev_df {α : Type} {c : Prop} [Decidable c] {r : α} (g : Nat → Bool → Option α) (h : ¬ c) (k : Ev (fun n => g n false) r) : Ev (fun n => g n (decide c)) r := by rw [decide_eq_false h]; exact k
theorem ev_eq {α : Type} {g : Nat → Option α} {r r' : α} (h : Ev g r) (e : r = r') : Ev g r' := e ▸ h
end Go.Proofs.Ytehgapcmngdcnaa.Base
