/- The least sum of the square matrix is the least cost of an assignment in which rows may miss. Conditions stand in each lemma. -/
import Derived.Test.YtpehhlfbnkakpaaHgG
namespace Go.Proofs.Ytpehhlfbnkakpaa.Hg
open Go Go.Proofs.Ytpehhlfbnkakpaa.Eva Go.Proofs.Ytpehhlfbnkakpaa.Fl
set_option linter.unusedVariables false
set_option linter.unusedSimpArgs false

def costAt (rows : List (List Int)) (miss : Int) (i : Nat) (t : Int) : Int := if t < 0 then miss else mF rows i t.toNat
/-- A column for each row, or -1. -/
structure Val (rows : List (List Int)) (n : Nat) (τ : Nat → Int) : Prop where
  rng : ∀ i, i < rows.length → τ i = -1 ∨ (0 ≤ τ i ∧ τ i < n ∧ 0 ≤ mF rows i (τ i).toNat)
  inj : ∀ i j, i < rows.length → j < rows.length → τ i = τ j → 0 ≤ τ i → i = j
def costOf (rows : List (List Int)) (miss : Int) (τ : Nat → Int) : Int := sumN rows.length fun i => costAt rows miss i (τ i)
def LeastP (rows : List (List Int)) (n : Nat) (miss T : Int) : Prop := (∃ τ, Val rows n τ ∧ T = costOf rows miss τ) ∧ ∀ τ, Val rows n τ → T ≤ costOf rows miss τ

theorem sqTo_len {rows : List (List Int)} {miss : Int} {i : Nat} : (sqTo rows miss i).length = i := by simp [sqTo]
theorem sqTo_get {rows : List (List Int)} {miss : Int} {i j : Nat} (h : i < j) : (sqTo rows miss j)[i]? = some (sqRow rows.length miss i (gRow rows i)) := by simp [sqTo, h]
theorem gRow_len {rows : List (List Int)} {n i : Nat} (hC : ∀ r ∈ rows, r.length = n) (hi : i < rows.length) : (gRow rows i).length = n := by
  rw [gRow_eq (List.getElem?_eq_getElem hi)]; exact hC _ (List.getElem_mem hi)
theorem sq_pub {rows : List (List Int)} {n i k : Nat} {miss : Int} (hC : ∀ r ∈ rows, r.length = n) (hi : i < rows.length) (hk : k < n) : mF (sqTo rows miss rows.length) i k = fixC (mF rows i k) := by
  have hl := gRow_len hC hi
  rw [mF, gRow_eq (sqTo_get hi), mF, sqRow, List.getElem?_append_left (by simp; omega), List.getElem?_map]
  have : (gRow rows i)[k]? = some (gRow rows i)[k] := List.getElem?_eq_getElem (by omega)
  rw [this]; rfl
theorem sq_priv {rows : List (List Int)} {n i j : Nat} {miss : Int} (hC : ∀ r ∈ rows, r.length = n) (hi : i < rows.length) (hj : j < rows.length) : mF (sqTo rows miss rows.length) i (n + j) = priv miss i j := by
  have hl := gRow_len hC hi
  rw [mF, gRow_eq (sqTo_get hi), sqRow, List.getElem?_append_right (by simp; omega)]
  have : n + j - ((gRow rows i).map fixC).length = j := by simp; omega
  rw [this]
  simp [hj]
theorem sumN_ge {f : Nat → Int} : ∀ {n : Nat}, (∀ i, i < n → 0 ≤ f i) → ∀ i, i < n → f i ≤ sumN n f ∧ 0 ≤ sumN n f
  | 0, _, i, hi => by omega
  | n + 1, h, i, hi => by
    simp only [sumN]
    have hn := h n (by omega)
    by_cases hin : i < n
    · have := sumN_ge (n := n) (fun j hj => h j (by omega)) i hin; omega
    · have : i = n := by omega
      subst this
      by_cases h0 : i = 0
      · subst h0; simp [sumN]; omega
      · have := sumN_ge (n := i) (fun j hj => h j (by omega)) 0 (by omega); omega
theorem fix_nn (c : Int) : 0 ≤ fixC c := by unfold fixC; split <;> omega
section
variable {rows : List (List Int)} {n : Nat} {miss : Int} (hC : ∀ r ∈ rows, r.length = n) (hm0 : 0 ≤ miss) (hm1 : miss ≤ 1099511627776) (hR : rows.length ≤ 32)
/-- The columns that an assignment takes in the square matrix. -/
def colOf (n : Nat) (τ : Nat → Int) (i : Nat) : Nat := if τ i < 0 then n + i else (τ i).toNat
include hC in
theorem col_cost {τ : Nat → Int} (V : Val rows n τ) : Inj rows.length (n + rows.length) (colOf n τ) ∧ sumN rows.length (fun i => mF (sqTo rows miss rows.length) i (colOf n τ i)) = costOf rows miss τ := by
  refine ⟨⟨fun i hi => ?_, fun i j hi hj e => ?_⟩, sumN_congr fun i hi => ?_⟩
  · unfold colOf
    rcases V.rng i hi with h | h <;> split <;> omega
  · unfold colOf at e
    rcases V.rng i hi with h1 | h1 <;> rcases V.rng j hj with h2 | h2
    · rw [if_pos (by omega), if_pos (by omega)] at e; omega
    · rw [if_pos (by omega), if_neg (by omega)] at e; omega
    · rw [if_neg (by omega), if_pos (by omega)] at e; omega
    · rw [if_neg (by omega), if_neg (by omega)] at e
      exact V.inj i j hi hj (by omega) h1.1
  · unfold colOf costAt
    rcases V.rng i hi with h1 | ⟨h1, h2, h3⟩
    · rw [if_pos (by omega), if_pos (by omega), sq_priv hC hi hi]; simp [priv]
    · rw [if_neg (by omega), if_neg (by omega), sq_pub hC hi (by omega)]
      unfold fixC; rw [if_neg (by omega)]
include hm1 hR in
theorem cost_miss : costOf rows miss (fun _ => -1) ≤ 35184372088832 := by
  have h1 : costOf rows miss (fun _ => -1) = rows.length * miss := by
    unfold costOf costAt
    rw [sumN_congr (g := fun _ => miss) (fun i _ => if_pos (show (-1 : Int) < 0 by decide)), sumN_const]
  rw [h1]
  have h2 : (rows.length : Int) * miss ≤ rows.length * 1099511627776 := Int.mul_le_mul_of_nonneg_left hm1 (by omega)
  omega
theorem val_miss : Val rows n (fun _ => -1) := ⟨fun i _ => Or.inl rfl, fun i j _ _ _ h => by omega⟩
include hC hm0 in
theorem sq_nn (i k : Nat) (hi : i < rows.length) (hk : k < n + rows.length) : 0 ≤ mF (sqTo rows miss rows.length) i k := by
  by_cases h : k < n
  · rw [sq_pub hC hi h]; exact fix_nn _
  · have : k = n + (k - n) := by omega
    rw [this, sq_priv hC hi (by omega)]; unfold priv; split <;> omega
include hC in
/-- Columns that cost less than what is not permitted make an assignment. -/
theorem val_of {σ : Nat → Nat} (hI : Inj rows.length (n + rows.length) σ) (hs : ∀ i, i < rows.length → mF (sqTo rows miss rows.length) i (σ i) < 1125899906842624) :
    Val rows n (fun i => if σ i < n then (σ i : Int) else -1) ∧ costOf rows miss (fun i => if σ i < n then (σ i : Int) else -1) = sumN rows.length (fun i => mF (sqTo rows miss rows.length) i (σ i)) := by
  have hp : ∀ i, i < rows.length → σ i < n → 0 ≤ mF rows i (σ i) ∧ mF (sqTo rows miss rows.length) i (σ i) = mF rows i (σ i) := by
    intro i hi h
    have h1 := hs i hi
    rw [sq_pub hC hi h] at h1 ⊢
    unfold fixC at h1 ⊢
    split at h1
    · omega
    · rename_i h2; rw [if_neg h2]; omega
  have hq : ∀ i, i < rows.length → ¬ σ i < n → mF (sqTo rows miss rows.length) i (σ i) = miss := by
    intro i hi h
    have h1 := hs i hi
    have h2 := hI.lt i hi
    have h3 : σ i = n + (σ i - n) := by omega
    rw [h3, sq_priv hC hi (by omega)] at h1 ⊢
    unfold priv at h1 ⊢
    split at h1
    · rename_i h4; rw [if_pos h4]
    · omega
  refine ⟨⟨fun i hi => ?_, fun i j hi hj e h0 => ?_⟩, sumN_congr fun i hi => ?_⟩
  · by_cases h : σ i < n
    · rw [if_pos h]; exact Or.inr ⟨by omega, by omega, by simpa using (hp i hi h).1⟩
    · rw [if_neg h]; exact Or.inl rfl
  · by_cases h : σ i < n
    · rw [if_pos h] at e
      by_cases h2 : σ j < n
      · rw [if_pos h2] at e; exact hI.inj i j hi hj (by omega)
      · rw [if_neg h2] at e; omega
    · rw [if_neg h] at h0; omega
  · show (if (if σ i < n then (σ i : Int) else -1) < 0 then miss else mF rows i (if σ i < n then (σ i : Int) else -1).toNat) = _
    by_cases h : σ i < n
    · rw [if_pos h, if_neg (by omega), (hp i hi h).2]; simp
    · rw [if_neg h, if_pos (by decide), hq i hi h]
include hC hm0 hm1 hR in
theorem least_sq {T : Int} (L : Least (mF (sqTo rows miss rows.length)) rows.length (n + rows.length) T) : LeastP rows n miss T ∧ T ≤ 35184372088832 := by
  obtain ⟨⟨σ, hI, hT⟩, hmin⟩ := L
  have hle : ∀ τ, Val rows n τ → T ≤ costOf rows miss τ := fun τ V => by
    obtain ⟨h1, h2⟩ := col_cost (miss := miss) hC V
    rw [← h2]; exact hmin _ h1
  have hb : T ≤ 35184372088832 := Int.le_trans (hle _ val_miss) (cost_miss hm1 hR)
  have hs : ∀ i, i < rows.length → mF (sqTo rows miss rows.length) i (σ i) < 1125899906842624 := fun i hi => by
    have := (sumN_ge (f := fun i => mF (sqTo rows miss rows.length) i (σ i)) (fun j hj => sq_nn hC hm0 j _ hj (hI.lt j hj)) i hi).1
    rw [← hT] at this
    omega
  obtain ⟨h1, h2⟩ := val_of hC hI hs
  exact ⟨⟨⟨_, h1, by rw [h2]; exact hT⟩, hle⟩, hb⟩
end
end Go.Proofs.Ytpehhlfbnkakpaa.Hg
