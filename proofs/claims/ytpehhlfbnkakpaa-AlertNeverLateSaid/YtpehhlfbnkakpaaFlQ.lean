/- Plain facts about predictions: radii grow. Conditions stand in each lemma. -/
import Derived.Test.YtpehhlfbnkakpaaFlP
namespace Go.Proofs.Ytpehhlfbnkakpaa.Fl
open Go Go.Proofs.Ytpehhlfbnkakpaa.Eva Go.Proofs.Ytpehhlfbnkakpaa.CodeAll
set_option linter.unusedVariables false
set_option linter.unusedSimpArgs false
set_option maxRecDepth 10000
set_option maxHeartbeats 4000000

/-- What a prediction that succeeds has done. -/
theorem pred_ok {f g : T} {t a : Int} (h : f.pred t a = (g, 0)) :
    f.Ok ∧ g.Ok ∧ 0 ≤ t ∧ t ≤ 200000 ∧ 0 ≤ a ∧ a ≤ 20 ∧ f.ti ≤ t ∧ t - f.ti ≤ 600 ∧ ((t = f.ti ∧ g = f) ∨ (f.ti < t ∧ g = f.pred1 t a (t - f.ti))) := by
  have hc := pred_chk h
  have hf := chk_ok hc.2
  have hg := chk_ok hc.1
  unfold T.pred at h
  by_cases c1 : (f.chk != 0) = true
  · rw [hc.2] at c1; simp at c1
  rw [if_neg c1] at h
  by_cases c2 : (decide (t < 0) || decide (200000 < t) || decide (a < 0) || decide (20 < a)) = true
  · rw [if_pos c2] at h; simp only [Prod.mk.injEq] at h; omega
  rw [if_neg c2] at h
  simp only [Bool.or_eq_true, decide_eq_true_eq, not_or, Int.not_lt] at c2
  have := hf.ti0; have := hf.ti1
  have e1 : w (t - f.ti) = t - f.ti := w_id (by omega) (by omega)
  rw [e1] at h
  by_cases c3 : (decide (t - f.ti < 0) || decide (600 < t - f.ti)) = true
  · rw [if_pos c3] at h; simp only [Prod.mk.injEq] at h; omega
  rw [if_neg c3] at h
  simp only [Bool.or_eq_true, decide_eq_true_eq, not_or, Int.not_lt] at c3
  refine ⟨hf, hg, c2.1.1.1, c2.1.1.2, c2.1.2, c2.2, by omega, by omega, ?_⟩
  by_cases c4 : (t - f.ti == 0) = true
  · rw [if_pos c4] at h; simp only [Prod.mk.injEq] at h
    have : t - f.ti = 0 := by simpa using c4
    exact Or.inl ⟨by omega, h.1.symm⟩
  rw [if_neg c4] at h
  have c4' : ¬ t - f.ti = 0 := by simpa using c4
  by_cases c5 : ((f.pred1 t a (t - f.ti)).chk != 0) = true
  · rw [if_pos c5] at h; simp only [Prod.mk.injEq] at h; omega
  rw [if_neg c5] at h
  simp only [Prod.mk.injEq, and_true] at h
  exact Or.inr ⟨by omega, h.symm⟩

theorem up_w {a b : Int} (hb : 0 < b) (h1 : -9223372036854775808 < a) (h2 : a ≤ 9223372036854775807) : dvu (w a) b = -(-a / b) := by
  rw [w_id (by omega) h2, dvu_eq hb h1 h2]

/-- The radius of a prediction. -/
theorem pred1_rad {f : T} (hf : f.Ok) {t a d : Int} (ha0 : 0 ≤ a) (ha1 : a ≤ 20) (hd0 : 0 ≤ d) (hd1 : d ≤ 600) : (f.pred1 t a d).rad = f.rad + (-(-(f.slack * d) / 16) + -(-(a * d * d) / 2) + 2) := by
  have s0 := hf.slack0; have s1 := hf.slack1; have r0 := hf.rad0; have r1 := hf.rad1
  have m1 := mul_le (a := f.slack) (b := d) (A := 409600) (B := 600) (by omega) (by omega) (by omega) (by omega)
  have m2 := mul_le (a := a) (b := d) (A := 20) (B := 600) (by omega) (by omega) (by omega) (by omega)
  have m3 := mul_le (a := a * d) (b := d) (A := 20 * 600) (B := 600) (by omega) (by omega) (by omega) (by omega)
  show w (f.rad + w (w (dvu (w (f.slack * d)) 16 + dvu (w (w (a * d) * d)) 2) + 2)) = _
  rw [w_id (x := a * d) (by omega) (by omega), up_w (by omega) (by omega) (by omega), up_w (by omega) (by omega) (by omega)]
  generalize f.slack * d = p at m1
  generalize a * d * d = q at m3
  rw [w_id (x := -(-p / 16) + -(-q / 2)) (by omega) (by omega), w_id (x := -(-p / 16) + -(-q / 2) + 2) (by omega) (by omega), w_id (by omega) (by omega)]
theorem rad_mono {f : T} (hf : f.Ok) {a d e : Int} (ha0 : 0 ≤ a) (hd0 : 0 ≤ d) (hde : d ≤ e) : -(-(f.slack * d) / 16) + -(-(a * d * d) / 2) ≤ -(-(f.slack * e) / 16) + -(-(a * e * e) / 2) := by
  have s0 := hf.slack0
  have m1 : f.slack * d ≤ f.slack * e := Int.mul_le_mul_of_nonneg_left hde s0
  have m2 : a * d ≤ a * e := Int.mul_le_mul_of_nonneg_left hde ha0
  have m3 : a * d * d ≤ a * e * e := Int.mul_le_mul m2 hde hd0 (Int.mul_nonneg ha0 (by omega))
  generalize f.slack * d = p at m1; generalize f.slack * e = p' at m1; generalize a * d * d = q at m3; generalize a * e * e = q' at m3
  omega
theorem rad_nn {f : T} (hf : f.Ok) {a d : Int} (ha0 : 0 ≤ a) (hd0 : 0 ≤ d) : 0 ≤ -(-(f.slack * d) / 16) + -(-(a * d * d) / 2) := by
  have := rad_mono hf (a := a) ha0 (Int.le_refl 0) hd0
  simpa using this
/-- A later prediction has no smaller radius. -/
theorem pred_grow {f g h : T} {t u a : Int} (hg : f.pred t a = (g, 0)) (hh : f.pred u a = (h, 0)) (htu : t ≤ u) : g.rad ≤ h.rad := by
  obtain ⟨hf, _, _, _, a0, a1, t0, t1, hg'⟩ := pred_ok hg
  obtain ⟨_, _, _, _, _, _, u0, u1, hh'⟩ := pred_ok hh
  rcases hg' with ⟨_, rfl⟩ | ⟨k1, rfl⟩ <;> rcases hh' with ⟨k2, rfl⟩ | ⟨k2, rfl⟩
  · omega
  · rw [pred1_rad hf a0 a1 (by omega) (by omega)]
    have := rad_nn hf (a := a) a0 (d := u - g.ti) (by omega)
    omega
  · omega
  · rw [pred1_rad hf a0 a1 (by omega) (by omega), pred1_rad hf a0 a1 (by omega) (by omega)]
    have := rad_mono hf (a := a) a0 (d := t - f.ti) (e := u - f.ti) (by omega) (by omega)
    omega

end Go.Proofs.Ytpehhlfbnkakpaa.Fl
