/- Plain facts about First and Certain. Conditions stand in each lemma. -/
import Derived.Test.YtpehhlfbnkakpaaAlB
namespace Go.Proofs.Ytpehhlfbnkakpaa.Fl
open Go Go.Proofs.Ytpehhlfbnkakpaa.Eva Go.Proofs.Ytpehhlfbnkakpaa.CodeAll
set_option linter.unusedVariables false
set_option linter.unusedSimpArgs false
set_option maxRecDepth 10000
set_option maxHeartbeats 4000000

theorem acheck_ok {a b : T} {lat ver secs accel climb : Int} (h : acheck a b lat ver secs accel climb = 0) : a.Ok ∧ b.Ok ∧ 0 ≤ lat ∧ lat ≤ 1000000 ∧ 0 ≤ ver ∧ ver ≤ 60000 ∧ 0 ≤ secs ∧ secs ≤ 300 ∧ 0 ≤ accel ∧ accel ≤ 20 ∧ 0 ≤ climb ∧ climb ≤ 200 := by
  unfold acheck at h
  split at h
  · rename_i c; rw [h] at c; simp at c
  · rename_i c1
    split at h
    · rename_i c; rw [h] at c; simp at c
    · rename_i c2
      split at h
      · omega
      · rename_i c
        simp only [Bool.or_eq_true, decide_eq_true_eq, not_or, Int.not_lt] at c
        exact ⟨chk_ok (by simpa using c1), chk_ok (by simpa using c2), by omega⟩

/-- What a pair that has not failed is. -/
theorem at_ok {a b : T} {t accel climb : Int} (c0 : 0 ≤ climb) (c1 : climb ≤ 200) (h : (atT a b t accel climb).f = 0) :
    ∃ A B, a.pred t accel = (A, 0) ∧ b.pred t accel = (B, 0) ∧ A.Ok ∧ B.Ok ∧ (atT a b t accel climb) = ⟨A, B, 100 + climb * (t - a.ti), 100 + climb * (t - b.ti), 0⟩ ∧ 100 ≤ 100 + climb * (t - a.ti) ∧ 100 ≤ 100 + climb * (t - b.ti) ∧ 100 + climb * (t - a.ti) ≤ 200000 ∧ 100 + climb * (t - b.ti) ≤ 200000 := by
  unfold atT at h ⊢
  split at h
  · simp at h
  · rename_i c
    rw [if_neg c]
    simp only [Bool.or_eq_true, bne_iff_ne, ne_eq, not_or, Classical.not_not] at c
    have hA : a.pred t accel = ((a.pred t accel).1, 0) := by rw [← c.1]
    have hB : b.pred t accel = ((b.pred t accel).1, 0) := by rw [← c.2]
    obtain ⟨ao, Ao, _, _, _, _, k1, k2, _⟩ := pred_ok hA
    obtain ⟨bo, Bo, _, _, _, _, k3, k4, _⟩ := pred_ok hB
    have at0 := ao.ti0; have at1 := ao.ti1; have bt0 := bo.ti0; have bt1 := bo.ti1
    have m1 := mul_le (a := climb) (b := t - a.ti) (A := 200) (B := 600) (by omega) (by omega) (by omega) (by omega)
    have m2 := mul_le (a := climb) (b := t - b.ti) (A := 200) (B := 600) (by omega) (by omega) (by omega) (by omega)
    have p1 := Int.mul_nonneg c0 (show 0 ≤ t - a.ti by omega)
    have p2 := Int.mul_nonneg c0 (show 0 ≤ t - b.ti by omega)
    refine ⟨_, _, hA, hB, Ao, Bo, ?_, by omega, by omega, by omega, by omega⟩
    rw [w_id (x := t - a.ti) (by omega) (by omega), w_id (x := t - b.ti) (by omega) (by omega), w_id (x := climb * (t - a.ti)) (by omega) (by omega), w_id (x := climb * (t - b.ti)) (by omega) (by omega), w_id (by omega) (by omega), w_id (by omega) (by omega)]

theorem alGo_spec (P : Pr → Bool) (a b : T) (t0 accel climb : Int) : ∀ n k : Nat,
    (∃ m : Nat, k ≤ m ∧ m < k + n ∧ alGo P a b t0 accel climb n k = ((m : Int), 0) ∧ (∀ j : Nat, k ≤ j → j ≤ m → (atT a b (w (t0 + j)) accel climb).f = 0) ∧ P (atT a b (w (t0 + m)) accel climb) = true ∧ ∀ j : Nat, k ≤ j → j < m → P (atT a b (w (t0 + j)) accel climb) = false) ∨
    (alGo P a b t0 accel climb n k = (0, 12) ∧ ∃ m : Nat, k ≤ m ∧ m < k + n ∧ (atT a b (w (t0 + m)) accel climb).f ≠ 0 ∧ ∀ j : Nat, k ≤ j → j < m → (atT a b (w (t0 + j)) accel climb).f = 0 ∧ P (atT a b (w (t0 + j)) accel climb) = false) ∨
    (alGo P a b t0 accel climb n k = (0, 8) ∧ ∀ j : Nat, k ≤ j → j < k + n → (atT a b (w (t0 + j)) accel climb).f = 0 ∧ P (atT a b (w (t0 + j)) accel climb) = false)
  | 0, k => Or.inr (Or.inr ⟨rfl, fun j h1 h2 => by omega⟩)
  | n + 1, k => by
    simp only [alGo]
    by_cases c1 : ((atT a b (w (t0 + k)) accel climb).f != 0) = true
    · rw [if_pos c1]
      exact Or.inr (Or.inl ⟨rfl, k, by omega, by omega, by simpa using c1, fun j h1 h2 => by omega⟩)
    rw [if_neg c1]
    have c1' : (atT a b (w (t0 + k)) accel climb).f = 0 := by simpa using c1
    by_cases c2 : P (atT a b (w (t0 + k)) accel climb) = true
    · rw [if_pos c2]
      exact Or.inl ⟨k, by omega, by omega, rfl, fun j h1 h2 => by have : j = k := by omega
                                                                  subst this; exact c1', c2, fun j h1 h2 => by omega⟩
    rw [if_neg c2]
    have c2' : P (atT a b (w (t0 + k)) accel climb) = false := by simpa using c2
    rcases alGo_spec P a b t0 accel climb n (k + 1) with ⟨m, h1, h2, h3, h4, h5, h6⟩ | ⟨h3, m, h1, h2, h4, h5⟩ | ⟨h3, h4⟩
    · refine Or.inl ⟨m, by omega, by omega, h3, fun j hj1 hj2 => ?_, h5, fun j hj1 hj2 => ?_⟩
      · by_cases hjk : j = k
        · subst hjk; exact c1'
        · exact h4 j (by omega) hj2
      · by_cases hjk : j = k
        · subst hjk; exact c2'
        · exact h6 j (by omega) hj2
    · refine Or.inr (Or.inl ⟨h3, m, by omega, by omega, h4, fun j hj1 hj2 => ?_⟩)
      by_cases hjk : j = k
      · subst hjk; exact ⟨c1', c2'⟩
      · exact h5 j (by omega) hj2
    · refine Or.inr (Or.inr ⟨h3, fun j hj1 hj2 => ?_⟩)
      by_cases hjk : j = k
      · subst hjk; exact ⟨c1', c2'⟩
      · exact h4 j (by omega) (by omega)
/-- What follows for two questions, if the first implies the second. -/
theorem alGo_imp {P Q : Pr → Bool} {a b : T} {t0 accel climb : Int} {n : Nat} (h : ∀ j : Nat, (atT a b (w (t0 + j)) accel climb).f = 0 → P (atT a b (w (t0 + j)) accel climb) = true → Q (atT a b (w (t0 + j)) accel climb) = true) {m : Int}
    (hP : alGo P a b t0 accel climb n 0 = (m, 0)) : ∃ k, alGo Q a b t0 accel climb n 0 = (k, 0) ∧ k ≤ m := by
  rcases alGo_spec P a b t0 accel climb n 0 with ⟨m', h1, h2, h3, h4, h5, h6⟩ | ⟨h3, m', h1, h2, h4, h5⟩ | ⟨h3, h4⟩
  · rw [h3] at hP
    simp only [Prod.mk.injEq, and_true] at hP
    subst hP
    have hq := h m' (h4 m' (by omega) (by omega)) h5
    rcases alGo_spec Q a b t0 accel climb n 0 with ⟨k, g1, g2, g3, g4, g5, g6⟩ | ⟨g3, k, g1, g2, g4, g5⟩ | ⟨g3, g4⟩
    · refine ⟨k, g3, ?_⟩
      by_cases hle : k ≤ m'
      · omega
      · have := g6 m' (by omega) (by omega)
        rw [hq] at this; cases this
    · exfalso
      by_cases hle : k ≤ m'
      · exact g4 (h4 k (by omega) hle)
      · have := (g5 m' (by omega) (by omega)).2
        rw [hq] at this; cases this
    · exfalso
      have := (g4 m' (by omega) (by omega)).2
      rw [hq] at this; cases this
  · rw [h3] at hP; simp only [Prod.mk.injEq] at hP; omega
  · rw [h3] at hP; simp only [Prod.mk.injEq] at hP; omega
theorem alGo_congr {P Q : Pr → Bool} {a b c d : T} {t0 accel climb : Int} (h1 : ∀ j : Nat, (atT a b (w (t0 + j)) accel climb).f = (atT c d (w (t0 + j)) accel climb).f) (h2 : ∀ j : Nat, (atT a b (w (t0 + j)) accel climb).f = 0 → P (atT a b (w (t0 + j)) accel climb) = Q (atT c d (w (t0 + j)) accel climb)) : ∀ n k, alGo P a b t0 accel climb n k = alGo Q c d t0 accel climb n k
  | 0, k => rfl
  | n + 1, k => by
    simp only [alGo]
    rw [← h1 k]
    by_cases c1 : ((atT a b (w (t0 + k)) accel climb).f != 0) = true
    · rw [if_pos c1, if_pos c1]
    · rw [if_neg c1, if_neg c1, h2 k (by simpa using c1), alGo_congr h1 h2 n (k + 1)]

theorem apt_eq {a b : Int} (h1 : 0 ≤ a) (h2 : a ≤ 60000) (h3 : 0 ≤ b) (h4 : b ≤ 60000) : apt a b = max (a - b) (b - a) := by
  unfold apt
  rw [w_id (x := a - b) (by omega) (by omega), w_id (x := b - a) (by omega) (by omega)]
/-- The questions without wraps. -/
theorem poss_eq {A B : T} (ha : A.Ok) (hb : B.Ok) {lat ver p q f : Int} (l0 : 0 ≤ lat) (l1 : lat ≤ 2000000) (v0 : 0 ≤ ver) (v1 : ver ≤ 60000) (p0 : 100 ≤ p) (p1 : p ≤ 200000) (q0 : 100 ≤ q) (q1 : q ≤ 200000) :
    possT lat ver ⟨A, B, p, q, f⟩ = (decide ((A.x - B.x) * (A.x - B.x) + (A.y - B.y) * (A.y - B.y) < (lat + A.rad + B.rad) * (lat + A.rad + B.rad)) && decide (max (A.hgt - B.hgt) (B.hgt - A.hgt) < ver + p + q)) := by
  have := ha.x0; have := ha.x1; have := ha.y0; have := ha.y1; have := ha.h0; have := ha.h1; have := ha.rad0; have := ha.rad1
  have := hb.x0; have := hb.x1; have := hb.y0; have := hb.y1; have := hb.h0; have := hb.h1; have := hb.rad0; have := hb.rad1
  unfold possT
  simp only
  rw [dst_eq (by omega) (by omega) (by omega) (by omega) (by omega) (by omega) (by omega) (by omega), apt_eq (by omega) (by omega) (by omega) (by omega),
    w_id (x := lat + A.rad) (by omega) (by omega), w_id (x := lat + A.rad + B.rad) (by omega) (by omega), sq_eq (by omega) (by omega), w_id (x := ver + p) (by omega) (by omega), w_id (x := ver + p + q) (by omega) (by omega)]
theorem cert_eq {A B : T} (ha : A.Ok) (hb : B.Ok) {lat ver p q f : Int} (l0 : 0 ≤ lat) (l1 : lat ≤ 2000000) (v0 : 0 ≤ ver) (v1 : ver ≤ 60000) (p0 : 100 ≤ p) (p1 : p ≤ 200000) (q0 : 100 ≤ q) (q1 : q ≤ 200000) :
    certT lat ver ⟨A, B, p, q, f⟩ = (decide (0 < lat - A.rad - B.rad) && decide ((A.x - B.x) * (A.x - B.x) + (A.y - B.y) * (A.y - B.y) < (lat - A.rad - B.rad) * (lat - A.rad - B.rad)) && decide (max (A.hgt - B.hgt) (B.hgt - A.hgt) < ver - p - q)) := by
  have := ha.x0; have := ha.x1; have := ha.y0; have := ha.y1; have := ha.h0; have := ha.h1; have := ha.rad0; have := ha.rad1
  have := hb.x0; have := hb.x1; have := hb.y0; have := hb.y1; have := hb.h0; have := hb.h1; have := hb.rad0; have := hb.rad1
  unfold certT
  simp only
  rw [dst_eq (by omega) (by omega) (by omega) (by omega) (by omega) (by omega) (by omega) (by omega), apt_eq (by omega) (by omega) (by omega) (by omega),
    w_id (x := lat - A.rad) (by omega) (by omega), w_id (x := lat - A.rad - B.rad) (by omega) (by omega), sq_eq (by omega) (by omega), w_id (x := ver - p) (by omega) (by omega), w_id (x := ver - p - q) (by omega) (by omega)]
end Go.Proofs.Ytpehhlfbnkakpaa.Fl
