/- The law ClimbNarrows over numbers and lists: a further report never widens the bounds of the rate. No condition beyond what the types give. -/
import Derived.Test.YtpcmmbbkidojoaaInClimbNarrows
import Derived.Test.YtpcmmbbkidojoaaLClimbNarrows
namespace Go.Proofs.Ytpcmmbbkidojoaa.MyClimbNarrows
open Go.RowKit Go.Proofs.Ytpcmmbbkidojoaa.Opens Go.Proofs.Ytpcmmbbkidojoaa.PClimbNarrows Go.Proofs.YtpcmmbbkidojoaaW.PrintWords Go.Proofs.YtpcmmbbkidojoaaW.PrintLast Go.Proofs.YtpcmmbbkidojoaaW.PrintMore Go.Proofs.Ytpcmmbbkidojoaa.InClimbNarrows Go.Proofs.Ytpcmmbbkidojoaa.Base Go.Proofs.Ytpcmmbbkidojoaa.LClimbNarrows
theorem valid_nil : Valid [] := ⟨by decide, fun j hj => by simp at hj⟩
theorem fin_ok {p : Int × Int} (h : p.1 ≤ p.2) : fin p = (p.1, p.2, 0) := by unfold fin; rw [if_neg (by omega)]
theorem proved : Pure := by
  intro l hl _
  refine Ev.rounds (r := true) ?_
  refine Ev.congr (fun k => by rw [skywaykeep2_ClimbNarrows.f]) (Ev.bind (rates_ok valid_nil) (ev_pos rfl (ev_pos rfl ?_)))
  refine Ev.step (fun k => by rw [skywaykeep2_ClimbNarrows.j0]) (ev_neg (by decide) ?_)
  by_cases h0 : (l.length : Int) = 0
  · exact ev_pos h0 (Ev.now _)
  · refine ev_neg h0 ?_
    have hw : wrap64 ((l.length : Int) - 1) = ((l.length - 1 : Nat) : Int) := by rw [w64 (by omega) (by omega)]; omega
    rw [hw]
    refine ev_pos (by omega) (ev_pos (by omega) ?_)
    rw [Int.toNat_natCast]
    generalize hm : l.length - 1 = m
    have hlen : l.length = m + 1 := by omega
    by_cases hv : Valid l
    · have hv' := valid_take hv m (by omega)
      have hlt : (l.take m).length = m := by rw [List.length_take]; omega
      have e1 := rates_ok hv'
      rw [hlt, rate_take l m m (Nat.le_refl _)] at e1
      have e2 := rates_ok hv
      rw [hlen] at e2
      have hin := inner_in l (at_ l m) (rate l m) m
      have hr : rate l (m + 1) = inner l (at_ l m) m (rate l m) := rfl
      rw [← hr] at hin
      refine Ev.bind e1 (Ev.bind e2 ?_)
      by_cases hc : (rate l (m + 1)).1 ≤ (rate l (m + 1)).2
      · rw [fin_ok hc, fin_ok (p := rate l m) (by omega)]
        exact ev_pos rfl (ev_pos rfl (ev_pos hin.1 (ev_pos hin.2 (ev_eq (Ev.now _) (decide_eq_true hc)))))
      · have : fin (rate l (m + 1)) = (0, 0, 8) := by unfold fin; rw [if_pos (by omega)]
        rw [this]
        exact ev_neg (by decide) (ev_pos rfl (Ev.now _))
    · obtain ⟨r, hr0, hr⟩ := rates_bad hv
      obtain ⟨p, hp⟩ : ∃ p, Ev (fun k => climb_Rates.f k (l.take m)) p := by
        by_cases hv' : Valid (l.take m)
        · exact ⟨_, rates_ok hv'⟩
        · obtain ⟨_, _, h⟩ := rates_bad hv'
          exact ⟨_, h⟩
      exact Ev.bind hp (Ev.bind hr (ev_neg hr0 (ev_pos rfl (Ev.now _))))
end Go.Proofs.Ytpcmmbbkidojoaa.MyClimbNarrows
