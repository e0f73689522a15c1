/- Plain facts about histories of hits: as numbers and as lists. Conditions stand in each lemma. -/
import Derived.Test.YtehgapcmngdcnaaNmA
namespace Go.Proofs.Ytehgapcmngdcnaa.Fl
open Go Go.Proofs.Ytehgapcmngdcnaa.Eva
set_option linter.unusedVariables false
set_option linter.unusedSimpArgs false
set_option maxRecDepth 10000
set_option maxHeartbeats 4000000

def bit (h : Bool) : Nat := if h then 1 else 0
/-- A history as a number: the last scan is bit 0. -/
def val : List Bool → Nat
  | [] => 0
  | h :: r => bit h + 2 * val r
def cnt : List Bool → Nat
  | [] => 0
  | h :: r => bit h + cnt r
theorem bit_lt (h : Bool) : bit h < 2 := by cases h <;> decide
theorem val_lt : ∀ (l : List Bool) (n : Nat), l.length ≤ n → val l < 2 ^ n
  | [], n, _ => Nat.two_pow_pos n
  | h :: r, 0, hl => by simp at hl
  | h :: r, n + 1, hl => by
    have := val_lt r n (by simpa using hl)
    have := bit_lt h
    rw [val, Nat.pow_succ]; omega
theorem mod2 {h v m : Nat} (hh : h < 2) (hm : 0 < m) : (h + 2 * v) % (2 * m) = h + 2 * (v % m) := by
  have e : h + 2 * v = (h + 2 * (v % m)) + (2 * m) * (v / m) := by
    have := Nat.mod_add_div v m
    grind
  have hlt := Nat.mod_lt v hm
  rw [e, Nat.add_mul_mod_self_left]
  exact Nat.mod_eq_of_lt (by omega)
theorem val_mod : ∀ (l : List Bool) (n : Nat), val l % 2 ^ n = val (l.take n)
  | [], n => by simp [val]
  | h :: r, 0 => by simp [val, Nat.mod_one]
  | h :: r, n + 1 => by
    rw [List.take_succ_cons, val, val, Nat.pow_succ, Nat.mul_comm (2 ^ n) 2, mod2 (bit_lt h) (Nat.two_pow_pos n), val_mod r n]
def pcF : Nat → Nat → Nat
  | 0, _ => 0
  | k + 1, x => x % 2 + pcF k (x / 2)
theorem pc_val : ∀ (l : List Bool) (k : Nat), l.length ≤ k → pcF k (val l) = cnt l
  | [], k, _ => by
    have : ∀ k, pcF k 0 = 0 := by
      intro k
      induction k with
      | zero => rfl
      | succ k ih => simp [pcF, ih]
    simp [val, cnt, this]
  | h :: r, 0, hl => by simp at hl
  | h :: r, k + 1, hl => by
    have hb := bit_lt h
    rw [val, pcF, cnt, show (bit h + 2 * val r) % 2 = bit h by omega, show (bit h + 2 * val r) / 2 = val r by omega, pc_val r k (by simpa using hl)]

/-- The count of ones, as math/bits computes it. -/
def ocN (x : Nat) : Nat :=
  let x1 := ((x >>> 1) &&& 6148914691236517205) + (x &&& 6148914691236517205)
  let x2 := ((x1 >>> 2) &&& 3689348814741910323) + (x1 &&& 3689348814741910323)
  let x3 := ((x2 >>> 4) + x2) &&& 1085102592571150095
  let x4 := x3 + (x3 >>> 8)
  let x5 := x4 + (x4 >>> 16)
  let x6 := x5 + (x5 >>> 32)
  x6 &&& 127
def allN (f : Nat → Bool) : Nat → Nat → Bool
  | 0, x => f x
  | k + 1, x => allN f k (2 * x) && allN f k (2 * x + 1)
theorem allN_spec {f : Nat → Bool} : ∀ (k x : Nat), allN f k x = true → ∀ y, y / 2 ^ k = x → f y = true
  | 0, x, h, y, hy => by simp at hy; subst hy; exact h
  | k + 1, x, h, y, hy => by
    simp only [allN, Bool.and_eq_true] at h
    have e : y / 2 ^ k / 2 = x := by rw [Nat.div_div_eq_div_mul, ← Nat.pow_succ]; exact hy
    rcases (show y / 2 ^ k = 2 * x ∨ y / 2 ^ k = 2 * x + 1 by omega) with e2 | e2
    · exact allN_spec k _ h.1 y e2
    · exact allN_spec k _ h.2 y e2
theorem oc_all : allN (fun x => ocN x == pcF 16 x) 16 0 = true := by decide +kernel
theorem oc_pc {x : Nat} (h : x < 65536) : ocN x = pcF 16 x := by
  have := allN_spec 16 0 oc_all x (by rw [Nat.div_eq_of_lt (by simpa using h)])
  simpa using this
theorem oc_val {l : List Bool} (h : l.length ≤ 16) : ocN (val l) = cnt l := by
  rw [oc_pc (val_lt l 16 h), pc_val l 16 h]
end Go.Proofs.Ytehgapcmngdcnaa.Fl
