/- Plain facts of long multiplication and division with digits of 32 bits. Conditions stand in each lemma. -/
import Derived.Test.YtpehhlfbnkakpaaEvaZ
namespace Go.Proofs.Ytpehhlfbnkakpaa.Dv
set_option linter.unusedVariables false
set_option maxRecDepth 10000

theorem mul_hi {x y : Nat} (hx : x < 18446744073709551616) (hy : y < 18446744073709551616) :
    x / 4294967296 * (y / 4294967296) + (x / 4294967296 * (y % 4294967296) + x % 4294967296 * (y % 4294967296) / 4294967296) / 4294967296 +
      ((x / 4294967296 * (y % 4294967296) + x % 4294967296 * (y % 4294967296) / 4294967296) % 4294967296 + x % 4294967296 * (y / 4294967296)) / 4294967296 = x * y / 18446744073709551616 := by
  have e : x * y = (x / 4294967296 * 4294967296 + x % 4294967296) * (y / 4294967296 * 4294967296 + y % 4294967296) := by rw [Nat.div_add_mod', Nat.div_add_mod']
  have e2 : x * y = x / 4294967296 * (y / 4294967296) * 18446744073709551616 + (x / 4294967296 * (y % 4294967296) + x % 4294967296 * (y / 4294967296)) * 4294967296 + x % 4294967296 * (y % 4294967296) := by
    rw [e]; grind
  rw [e2]
  generalize x / 4294967296 * (y / 4294967296) = A
  generalize x / 4294967296 * (y % 4294967296) = B
  generalize x % 4294967296 * (y / 4294967296) = C
  generalize x % 4294967296 * (y % 4294967296) = D
  omega

structure St (y1 y0 U d q rh : Nat) : Prop where
  u : U = q * y1 + rh
  up : (U * 4294967296 + d) / (y1 * 4294967296 + y0) ≤ q
structure Nm (y1 y0 U d : Nat) : Prop where
  h1 : 2147483648 ≤ y1
  h2 : y1 < 4294967296
  h3 : y0 < 4294967296
  h4 : U < y1 * 4294967296 + y0
  h5 : d < 4294967296
section
variable {y1 y0 U d q rh : Nat}
theorem st_init (N : Nm y1 y0 U d) : St y1 y0 U d (U / y1) (U % y1) ∧ U / y1 ≤ 4294967297 := by
  obtain ⟨h1, h2, h3, h4, h5⟩ := N
  have hd : U / y1 * y1 + U % y1 = U := Nat.div_add_mod' U y1
  have hm : U % y1 < y1 := Nat.mod_lt _ (by omega)
  refine ⟨⟨by omega, ?_⟩, ?_⟩
  · apply Nat.le_of_lt_succ
    rw [Nat.div_lt_iff_lt_mul (by omega)]
    generalize U / y1 = q at *
    have e : (q + 1) * (y1 * 4294967296 + y0) = (q * y1 + y1) * 4294967296 + (q * y0 + y0) := by grind
    rw [Nat.succ_eq_add_one, e]
    omega
  · generalize U / y1 = q at *
    apply Nat.le_of_lt_succ
    refine Nat.lt_of_not_le fun h => ?_
    have := Nat.mul_le_mul_right y1 h
    omega
theorem qlt (N : Nm y1 y0 U d) : (U * 4294967296 + d) / (y1 * 4294967296 + y0) < 4294967296 := by
  obtain ⟨h1, h2, h3, h4, h5⟩ := N
  rw [Nat.div_lt_iff_lt_mul (by omega)]
  omega
theorem st_big (N : Nm y1 y0 U d) (S : St y1 y0 U d q rh) (h : 4294967296 ≤ q) : St y1 y0 U d (q - 1) (rh + y1) := by
  have := qlt N
  refine ⟨?_, by omega⟩
  have e : q * y1 = (q - 1) * y1 + y1 := by
    conv => lhs; rw [show q = (q - 1) + 1 by omega, Nat.add_mul, Nat.one_mul]
  rw [S.u, e]; omega
theorem st_step (N : Nm y1 y0 U d) (S : St y1 y0 U d q rh) (h : 4294967296 * rh + d < q * y0) : 1 ≤ q ∧ St y1 y0 U d (q - 1) (rh + y1) := by
  have hq : 1 ≤ q := by
    rcases Nat.eq_zero_or_pos q with h0 | h0
    · subst h0; omega
    · exact h0
  have hlt : (U * 4294967296 + d) / (y1 * 4294967296 + y0) < q := by
    rw [Nat.div_lt_iff_lt_mul (by have := N.h1; omega)]
    have e : q * (y1 * 4294967296 + y0) = q * y1 * 4294967296 + q * y0 := by grind
    rw [e]
    have := S.u
    omega
  refine ⟨hq, ?_, by omega⟩
  have e : q * y1 = (q - 1) * y1 + y1 := by
    conv => lhs; rw [show q = (q - 1) + 1 by omega, Nat.add_mul, Nat.one_mul]
  rw [S.u, e]; omega
theorem st_end (N : Nm y1 y0 U d) (S : St y1 y0 U d q rh) (h : q * y0 ≤ 4294967296 * rh + d) : q = (U * 4294967296 + d) / (y1 * 4294967296 + y0) := by
  refine Nat.le_antisymm ?_ S.up
  rw [Nat.le_div_iff_mul_le (by have := N.h1; omega)]
  have e : q * (y1 * 4294967296 + y0) = q * y1 * 4294967296 + q * y0 := by grind
  rw [e]
  have := S.u
  omega
theorem st_break (N : Nm y1 y0 U d) (S : St y1 y0 U d q rh) (h : 4294967296 ≤ rh) : q = (U * 4294967296 + d) / (y1 * 4294967296 + y0) := by
  obtain ⟨h1, h2, h3, h4, h5⟩ := N
  refine st_end ⟨h1, h2, h3, h4, h5⟩ S ?_
  have hq : q < 4294967296 := Nat.lt_of_not_le fun hc => by
    have := Nat.mul_le_mul_right y1 hc
    have := S.u
    omega
  have : q * y0 ≤ 4294967296 * 4294967296 := Nat.mul_le_mul (by omega) (by omega)
  omega
end

theorem div_two {Y A d0 : Nat} (hY : 0 < Y) :
    (A * 4294967296 + d0) / Y = A / Y * 4294967296 + (A % Y * 4294967296 + d0) / Y ∧ (A * 4294967296 + d0) % Y = (A % Y * 4294967296 + d0) % Y := by
  have e : A * 4294967296 + d0 = (A % Y * 4294967296 + d0) + A / Y * 4294967296 * Y := by
    have := Nat.div_add_mod' A Y
    generalize A / Y = q at *
    generalize A % Y = r at *
    rw [← this]
    grind
  rw [e]
  constructor
  · rw [Nat.add_mul_div_right _ _ hY]; omega
  · rw [Nat.add_mul_mod_self_right]

theorem two_limbs {U d1 d0 un : Nat} (h : d1 * 4294967296 + d0 = un) : (U * 4294967296 + d1) * 4294967296 + d0 = U * 18446744073709551616 + un := by
  rw [Nat.add_mul, Nat.mul_assoc, Nat.add_assoc, h]

theorem shift_in {hi lo y s : Nat} (hs : s < 64) (hy : y * 2 ^ s < 18446744073709551616) (hh : hi < y) (hlo : lo < 18446744073709551616) :
    hi * 2 ^ s < 18446744073709551616 ∧ lo / 2 ^ (64 - s) < 2 ^ s ∧ (hi * 2 ^ s ||| lo / 2 ^ (64 - s)) = hi * 2 ^ s + lo / 2 ^ (64 - s) ∧ hi * 2 ^ s + lo / 2 ^ (64 - s) < y * 2 ^ s ∧
    (hi * 2 ^ s + lo / 2 ^ (64 - s)) * 18446744073709551616 + lo * 2 ^ s % 18446744073709551616 = (hi * 18446744073709551616 + lo) * 2 ^ s := by
  have hp : 0 < 2 ^ s := Nat.two_pow_pos s
  have e64 : 2 ^ (64 - s) * 2 ^ s = 18446744073709551616 := by
    rw [← Nat.pow_add]
    have : 64 - s + s = 64 := by omega
    rw [this]
  have hl : lo / 2 ^ (64 - s) < 2 ^ s := by
    rw [Nat.div_lt_iff_lt_mul (Nat.two_pow_pos _), Nat.mul_comm, e64]; exact hlo
  have h1 : hi * 2 ^ s + 2 ^ s ≤ y * 2 ^ s := by
    have : (hi + 1) * 2 ^ s ≤ y * 2 ^ s := Nat.mul_le_mul_right _ hh
    rw [Nat.add_mul, Nat.one_mul] at this; exact this
  refine ⟨by omega, hl, ?_, by omega, ?_⟩
  · have := Nat.shiftLeft_add_eq_or_of_lt hl hi
    rw [Nat.shiftLeft_eq] at this
    exact this.symm
  · have e : lo * 2 ^ s / 18446744073709551616 = lo / 2 ^ (64 - s) := by
      conv => lhs; rw [← e64]
      exact Nat.mul_div_mul_right _ _ hp
    have := Nat.div_add_mod' (lo * 2 ^ s) 18446744073709551616
    rw [e] at this
    rw [Nat.add_mul, Nat.add_mul, Nat.add_assoc, this]
    grind
end Go.Proofs.Ytpehhlfbnkakpaa.Dv
