/- Plain facts about predictions: radii grow. Conditions stand in each lemma. -/
import Derived.Test.YtehgapcmngdcnaaFlP
import Derived.Test.YtehgapcmngdcnaaFlF
namespace Go.Proofs.Ytehgapcmngdcnaa.Fl
open Go Go.Proofs.Ytehgapcmngdcnaa.Eva Go.Proofs.Ytehgapcmngdcnaa.CodeAll
set_option linter.unusedVariables false
set_option linter.unusedSimpArgs false
set_option maxRecDepth 10000
set_option maxHeartbeats 4000000

/-- What a prediction that succeeds has done. -/
theorem pred_ok {f g : T} {t a : Int} (h : f.pred t a = (g, 0)) :
    f.Ok ∧ g.Ok ∧ 0 ≤ t ∧ t ≤ 200000 ∧ 0 ≤ a ∧ a ≤ 20 ∧ f.ti ≤ t ∧ t - f.ti ≤ 600 ∧ ((t = f.ti ∧ g = f) ∨ (f.ti < t ∧ g = f.pred1 t a (t - f.ti))) := by
  have hc := pred_chk h
  have hf := chk_ok hc.2
  have hg := chk_ok hc.1
  unfold T.pred at h
  by_cases c1 : (f.chk != 0) = true
  · rw [hc.2] at c1; simp at c1
  rw [if_neg c1] at h
  by_cases c2 : (decide (t < 0) || decide (200000 < t) || decide (a < 0) || decide (20 < a)) = true
  · rw [if_pos c2] at h; simp only [Prod.mk.injEq] at h; omega
  rw [if_neg c2] at h
  simp only [Bool.or_eq_true, decide_eq_true_eq, not_or, Int.not_lt] at c2
  have := hf.ti0; have := hf.ti1
  have e1 : w (t - f.ti) = t - f.ti := w_id (by omega) (by omega)
  rw [e1] at h
  by_cases c3 : (decide (t - f.ti < 0) || decide (600 < t - f.ti)) = true
  · rw [if_pos c3] at h; simp only [Prod.mk.injEq] at h; omega
  rw [if_neg c3] at h
  simp only [Bool.or_eq_true, decide_eq_true_eq, not_or, Int.not_lt] at c3
  refine ⟨hf, hg, c2.1.1.1, c2.1.1.2, c2.1.2, c2.2, by omega, by omega, ?_⟩
  by_cases c4 : (t - f.ti == 0) = true
  · rw [if_pos c4] at h; simp only [Prod.mk.injEq] at h
    have : t - f.ti = 0 := by simpa using c4
    exact Or.inl ⟨by omega, h.1.symm⟩
  rw [if_neg c4] at h
  have c4' : ¬ t - f.ti = 0 := by simpa using c4
  by_cases c5 : ((f.pred1 t a (t - f.ti)).chk != 0) = true
  · rw [if_pos c5] at h; simp only [Prod.mk.injEq] at h; omega
  rw [if_neg c5] at h
  simp only [Prod.mk.injEq, and_true] at h
  exact Or.inr ⟨by omega, h.symm⟩

theorem up_w {a b : Int} (hb : 0 < b) (h1 : -9223372036854775808 < a) (h2 : a ≤ 9223372036854775807) : dvu (w a) b = -(-a / b) := by
  rw [w_id (by omega) h2, dvu_eq hb h1 h2]

/-- The radius of a prediction. -/
theorem pred1_rad {f : T} (hf : f.Ok) {t a d : Int} (ha0 : 0 ≤ a) (ha1 : a ≤ 20) (hd0 : 0 ≤ d) (hd1 : d ≤ 600) : (f.pred1 t a d).rad = f.rad + (-(-(f.slack * d) / 16) + -(-(a * d * d) / 2) + 2) := by
  have s0 := hf.slack0; have s1 := hf.slack1; have r0 := hf.rad0; have r1 := hf.rad1
  have m1 := mul_le (a := f.slack) (b := d) (A := 409600) (B := 600) (by omega) (by omega) (by omega) (by omega)
  have m2 := mul_le (a := a) (b := d) (A := 20) (B := 600) (by omega) (by omega) (by omega) (by omega)
  have m3 := mul_le (a := a * d) (b := d) (A := 20 * 600) (B := 600) (by omega) (by omega) (by omega) (by omega)
  show w (f.rad + w (w (dvu (w (f.slack * d)) 16 + dvu (w (w (a * d) * d)) 2) + 2)) = _
  rw [w_id (x := a * d) (by omega) (by omega), up_w (by omega) (by omega) (by omega), up_w (by omega) (by omega) (by omega)]
  generalize f.slack * d = p at m1
  generalize a * d * d = q at m3
  rw [w_id (x := -(-p / 16) + -(-q / 2)) (by omega) (by omega), w_id (x := -(-p / 16) + -(-q / 2) + 2) (by omega) (by omega), w_id (by omega) (by omega)]
theorem rad_mono {f : T} (hf : f.Ok) {a d e : Int} (ha0 : 0 ≤ a) (hd0 : 0 ≤ d) (hde : d ≤ e) : -(-(f.slack * d) / 16) + -(-(a * d * d) / 2) ≤ -(-(f.slack * e) / 16) + -(-(a * e * e) / 2) := by
  have s0 := hf.slack0
  have m1 : f.slack * d ≤ f.slack * e := Int.mul_le_mul_of_nonneg_left hde s0
  have m2 : a * d ≤ a * e := Int.mul_le_mul_of_nonneg_left hde ha0
  have m3 : a * d * d ≤ a * e * e := Int.mul_le_mul m2 hde hd0 (Int.mul_nonneg ha0 (by omega))
  generalize f.slack * d = p at m1; generalize f.slack * e = p' at m1; generalize a * d * d = q at m3; generalize a * e * e = q' at m3
  omega
theorem rad_nn {f : T} (hf : f.Ok) {a d : Int} (ha0 : 0 ≤ a) (hd0 : 0 ≤ d) : 0 ≤ -(-(f.slack * d) / 16) + -(-(a * d * d) / 2) := by
  have := rad_mono hf (a := a) ha0 (Int.le_refl 0) hd0
  simpa using this
/-- A later prediction has no smaller radius. -/
theorem pred_grow {f g h : T} {t u a : Int} (hg : f.pred t a = (g, 0)) (hh : f.pred u a = (h, 0)) (htu : t ≤ u) : g.rad ≤ h.rad := by
  obtain ⟨hf, _, _, _, a0, a1, t0, t1, hg'⟩ := pred_ok hg
  obtain ⟨_, _, _, _, _, _, u0, u1, hh'⟩ := pred_ok hh
  rcases hg' with ⟨_, rfl⟩ | ⟨k1, rfl⟩ <;> rcases hh' with ⟨k2, rfl⟩ | ⟨k2, rfl⟩
  · omega
  · rw [pred1_rad hf a0 a1 (by omega) (by omega)]
    have := rad_nn hf (a := a) a0 (d := u - g.ti) (by omega)
    omega
  · omega
  · rw [pred1_rad hf a0 a1 (by omega) (by omega), pred1_rad hf a0 a1 (by omega) (by omega)]
    have := rad_mono hf (a := a) a0 (d := t - f.ti) (e := u - f.ti) (by omega) (by omega)
    omega

theorem aheadGo_err {f : T} {a : Int} : ∀ n k m e, aheadGo f a n k = (m, e) → e ≠ 0 → m = 0
  | 0, k, m, e, h, he => by simp only [aheadGo, Prod.mk.injEq] at h; omega
  | n + 1, k, m, e, h, he => by
    simp only [aheadGo] at h
    split at h
    · simp only [Prod.mk.injEq] at h; omega
    · split at h
      · simp only [Prod.mk.injEq] at h; exact h.1.symm
      · exact aheadGo_err n (k + 1) m e h he
theorem aheadGo_ok {f : T} {a : Int} : ∀ n k m, aheadGo f a n k = (m, 0) → k ≤ m ∧ m ≤ k + n ∧ ∀ j : Nat, k ≤ j → j < m → (f.pred (w (f.ti + (j + 1))) a).2 = 0
  | 0, k, m, h => by simp only [aheadGo, Prod.mk.injEq] at h; exact ⟨by omega, by omega, fun j h1 h2 => by omega⟩
  | n + 1, k, m, h => by
    simp only [aheadGo] at h
    split at h
    · simp only [Prod.mk.injEq] at h; exact ⟨by omega, by omega, fun j h1 h2 => by omega⟩
    · split at h
      · rename_i hh; simp only [Prod.mk.injEq] at h; rw [h.2] at hh; simp at hh
      · rename_i hh
        obtain ⟨h1, h2, h3⟩ := aheadGo_ok n (k + 1) m h
        refine ⟨by omega, by omega, fun j hj1 hj2 => ?_⟩
        by_cases hjk : j = k
        · subst hjk; simpa using hh
        · exact h3 j (by omega) hj2
theorem ahead_err {f : T} {s a e : Int} {m : Nat} (h : f.ahead s a = (m, e)) (he : e ≠ 0) : m = 0 := by
  unfold T.ahead at h
  split at h
  · simp only [Prod.mk.injEq] at h; exact h.1.symm
  · split at h
    · simp only [Prod.mk.injEq] at h; exact h.1.symm
    · exact aheadGo_err _ _ _ _ h he
theorem ahead_ok {f : T} {s a : Int} {m : Nat} (h : f.ahead s a = (m, 0)) : f.Ok ∧ 0 ≤ s ∧ (m : Int) ≤ s ∧ s ≤ 256 ∧ ∀ j : Nat, j < m → (f.pred (w (f.ti + (j + 1))) a).2 = 0 := by
  unfold T.ahead at h
  split at h
  · rename_i hh; simp only [Prod.mk.injEq] at h; rw [h.2] at hh; simp at hh
  · rename_i h0
    split at h
    · simp only [Prod.mk.injEq] at h; omega
    · rename_i hh
      simp only [Bool.or_eq_true, Bool.and_eq_true, decide_eq_true_eq, not_or, Int.not_lt] at hh
      obtain ⟨h1, h2, h3⟩ := aheadGo_ok _ _ _ h
      exact ⟨chk_ok (by simpa using h0), by omega, by omega, by omega, fun j hj => h3 j (by omega) hj⟩
theorem lostGo_ok {f : T} {r a : Int} : ∀ n k v, lostGo f r a n k = (v, 0) → ∃ m : Nat, v = m ∧ k ≤ m ∧ m < k + n ∧ (f.pred (w (f.ti + m)) a).2 = 0 ∧ r < (f.pred (w (f.ti + m)) a).1.rad ∧ ∀ j : Nat, k ≤ j → j < m → (f.pred (w (f.ti + j)) a).2 = 0 ∧ (f.pred (w (f.ti + j)) a).1.rad ≤ r
  | 0, k, v, h => by simp only [lostGo, Prod.mk.injEq] at h; omega
  | n + 1, k, v, h => by
    simp only [lostGo] at h
    split at h
    · simp only [Prod.mk.injEq] at h; omega
    · split at h
      · rename_i hh; simp only [Prod.mk.injEq] at h; rw [h.2] at hh; simp at hh
      · rename_i hh
        split at h
        · rename_i h3
          simp only [Prod.mk.injEq] at h
          exact ⟨k, h.1.symm, Nat.le_refl _, by omega, by simpa using hh, by simpa using h3, fun j h1 h2 => by omega⟩
        · rename_i h3
          obtain ⟨m, h4, h5, h6, h7, h8, h9⟩ := lostGo_ok n (k + 1) v h
          refine ⟨m, h4, by omega, by omega, h7, h8, fun j hj1 hj2 => ?_⟩
          by_cases hjk : j = k
          · subst hjk; exact ⟨by simpa using hh, by simpa using h3⟩
          · exact h9 j (by omega) hj2
theorem lost_ok {f : T} {r a v : Int} (h : f.lost r a = (v, 0)) : f.Ok ∧ ∃ m : Nat, v = m ∧ m ≤ 600 ∧ (f.pred (w (f.ti + m)) a).2 = 0 ∧ r < (f.pred (w (f.ti + m)) a).1.rad ∧ ∀ j : Nat, j < m → (f.pred (w (f.ti + j)) a).2 = 0 ∧ (f.pred (w (f.ti + j)) a).1.rad ≤ r := by
  unfold T.lost at h
  split at h
  · rename_i hh; simp only [Prod.mk.injEq] at h; rw [h.2] at hh; simp at hh
  · rename_i h0
    split at h
    · simp only [Prod.mk.injEq] at h; omega
    · obtain ⟨m, h4, h5, h6, h7, h8, h9⟩ := lostGo_ok _ _ _ h
      exact ⟨chk_ok (by simpa using h0), m, h4, by omega, h7, h8, fun j hj => h9 j (by omega) hj⟩
end Go.Proofs.Ytehgapcmngdcnaa.Fl
