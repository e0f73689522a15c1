/- The law RadarGrows over numbers: the bound of a radar's error grows with the range. No condition beyond what the types give. -/
import Derived.Test.YtpcmmbbkidojoaaInRadarGrows
import Derived.Test.YtpcmmbbkidojoaaLRadarGrows
namespace Go.Proofs.Ytpcmmbbkidojoaa.MyRadarGrows
open Go.RowKit Go.Proofs.Ytpcmmbbkidojoaa.Opens Go.Proofs.Ytpcmmbbkidojoaa.MRadarGrows Go.Proofs.YtpcmmbbkidojoaaW.PrintWords Go.Proofs.YtpcmmbbkidojoaaW.PrintLast Go.Proofs.YtpcmmbbkidojoaaW.PrintMore Go.Proofs.Ytpcmmbbkidojoaa.InRadarGrows Go.Proofs.Ytpcmmbbkidojoaa.Base Go.Proofs.Ytpcmmbbkidojoaa.LRadarGrows
theorem proved : Pure := by
  intro id x y reach re ae a b _ _ _ _ _ _ _ _
  refine Ev.rounds (r := true) ?_
  refine Ev.congr (fun k => by rw [skywaykeep2_RadarGrows.f]) ?_
  refine ev_some (a := (1, 0, 0, 100000, 1, 1)) rfl ?_
  refine Ev.bind (error_ok (id := 1) (x := 0) (y := 0) (reach := 100000) (re := 1) (ae := 1) (far := 0) (by unfold OkSite OkAt; omega) (by omega) (by omega)) (ev_pos rfl ?_)
  refine Ev.step (fun k => by rw [skywaykeep2_RadarGrows.j0]) (ev_neg (by decide) ?_)
  by_cases ha : OkSite id x y reach re ae ∧ 0 ≤ a ∧ a ≤ 2000000
  · by_cases hb : OkSite id x y reach re ae ∧ 0 ≤ b ∧ b ≤ 2000000
    · refine Ev.bind (error_ok ha.1 ha.2.1 ha.2.2) (Ev.bind (error_ok hb.1 hb.2.1 hb.2.2) (Ev.bind (fine_ev _ (by simp)) (ev_pos rfl ?_)))
      have hae : 1 ≤ ae := by have := ha.1; unfold OkSite at this; omega
      show Ev (fun k => if ((decide (errOf re ae a ≤ errOf re ae b)) == (decide (a ≤ b))) = true then some true else some (errOf re ae a == errOf re ae b)) true
      by_cases h : a ≤ b
      · have h1 := err_mono (re := re) hae h
        exact ev_pos (by rw [decide_eq_true h, decide_eq_true h1]; rfl) (Ev.now _)
      · have h1 := err_mono (re := re) hae (by omega : b ≤ a)
        by_cases h2 : errOf re ae a ≤ errOf re ae b
        · exact ev_neg (by rw [decide_eq_false h, decide_eq_true h2]; decide) (ev_eq (Ev.now _) (by simp; omega))
        · exact ev_pos (by rw [decide_eq_false h, decide_eq_false h2]; rfl) (Ev.now _)
    · exact Ev.bind (error_ok ha.1 ha.2.1 ha.2.2) (Ev.bind (error_bad hb) (Ev.bind (fine_ev _ (by simp)) (ev_neg (by simp) (Ev.now _))))
  · obtain ⟨p, hp⟩ : ∃ p, Ev (fun k => radar_Error.f k id x y reach re ae b) p := by
      by_cases hb : OkSite id x y reach re ae ∧ 0 ≤ b ∧ b ≤ 2000000
      · exact ⟨_, error_ok hb.1 hb.2.1 hb.2.2⟩
      · exact ⟨_, error_bad hb⟩
    exact Ev.bind (error_bad ha) (Ev.bind hp (Ev.bind (fine_ev _ (by simp)) (ev_neg (by simp) (Ev.now _))))
end Go.Proofs.Ytpcmmbbkidojoaa.MyRadarGrows
