/- The law AlertBand over numbers: the band of seconds and rate grows by the rate each second and is at least 100. No condition beyond what the types give. -/
import Derived.Test.YtpcmmbbkidojoaaInAlertBand
import Derived.Test.YtpcmmbbkidojoaaLAlertBand
namespace Go.Proofs.Ytpcmmbbkidojoaa.MyAlertBand
open Go.RowKit Go.Proofs.Ytpcmmbbkidojoaa.Opens Go.Proofs.Ytpcmmbbkidojoaa.MAlertBand Go.Proofs.YtpcmmbbkidojoaaW.PrintWords Go.Proofs.YtpcmmbbkidojoaaW.PrintLast Go.Proofs.YtpcmmbbkidojoaaW.PrintMore Go.Proofs.Ytpcmmbbkidojoaa.InAlertBand Go.Proofs.Ytpcmmbbkidojoaa.Base Go.Proofs.Ytpcmmbbkidojoaa.LAlertBand
theorem band_ok {s r : Int} (h : 0 ≤ s ∧ s ≤ 600 ∧ 0 ≤ r ∧ r ≤ 200) : alert_Band.f s r = some (100 + r * s, 0) := by
  obtain ⟨h1, h2, h3, h4⟩ := h
  have h5 : 0 ≤ r * s := Int.mul_nonneg h3 h1
  have h6 : r * s ≤ 200 * 600 := Int.mul_le_mul h4 h2 h1 (by omega)
  unfold alert_Band.f
  rw [if_neg (by omega), if_neg (by omega), if_neg (by omega), if_neg (by omega), w64 (n := r * s) (by omega) (by omega), w64 (by omega) (by omega)]
theorem band_bad {s r : Int} (h : ¬ (0 ≤ s ∧ s ≤ 600 ∧ 0 ≤ r ∧ r ≤ 200)) : alert_Band.f s r = some (0, 4) := by
  unfold alert_Band.f
  repeat (refine ite_same (fun _ => rfl) (fun _ => ?_))
  exfalso; omega
theorem proved : Pure := by
  intro s r hs hr
  unfold I64 at hs hr
  refine Ev.rounds (r := true) ?_
  refine Ev.congr (fun k => by rw [skywaykeep2_AlertBand.f]) ?_
  refine ev_some (band_ok (s := 0) (r := 5) (by omega)) (ev_pos rfl ?_)
  refine Ev.step (fun k => by rw [skywaykeep2_AlertBand.j0]) (ev_neg (by decide) ?_)
  by_cases h : 0 ≤ s ∧ s ≤ 600 ∧ 0 ≤ r ∧ r ≤ 200
  · by_cases h' : s ≤ 599
    · refine ev_some (band_ok h) (ev_some (a := (100 + r * (s + 1), 0)) (by rw [w64 (by omega) (by omega)]; exact band_ok (by omega)) ?_)
      refine Ev.bind (fine_ev _ (by simp)) (ev_pos (by rfl) ?_)
      have h5 : 0 ≤ r * s := Int.mul_nonneg h.2.2.1 h.1
      have h6 : r * s ≤ 200 * 600 := Int.mul_le_mul h.2.2.2 h.2.1 h.1 (by omega)
      have e : r * (s + 1) = r * s + r := by rw [Int.mul_add, Int.mul_one]
      refine ev_pos (by show wrap64 (100 + r * (s + 1) - (100 + r * s)) = r; rw [e, w64 (by omega) (by omega)]; omega) ?_
      exact ev_eq (Ev.now _) (by simp; omega)
    · refine ev_some (band_ok h) (ev_some (a := (0, 4)) (by rw [w64 (by omega) (by omega)]; exact band_bad (by omega)) ?_)
      exact Ev.bind (fine_ev _ (by simp)) (ev_neg (by simp) (Ev.now _))
  · refine ev_some (band_bad h) ?_
    cases hb : alert_Band.f (wrap64 (s + 1)) r with
    | none => exfalso; by_cases h2 : 0 ≤ wrap64 (s + 1) ∧ wrap64 (s + 1) ≤ 600 ∧ 0 ≤ r ∧ r ≤ 200
              · rw [band_ok h2] at hb; cases hb
              · rw [band_bad h2] at hb; cases hb
    | some p => exact ev_some rfl (Ev.bind (fine_ev _ (by simp)) (ev_neg (by simp) (Ev.now _)))
end Go.Proofs.Ytpcmmbbkidojoaa.MyAlertBand
