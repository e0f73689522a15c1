/- The law TubeNodes over numbers and lists: At interpolates as the reference does. No condition beyond what the types give. -/
import Derived.Test.YtpcmmbbkidojoaaInTubeNodes
import Derived.Test.YtpcmmbbkidojoaaLTubeNodes
namespace Go.Proofs.Ytpcmmbbkidojoaa.MyTubeNodes
open Go.RowKit Go.Proofs.Ytpcmmbbkidojoaa.Opens Go.Proofs.Ytpcmmbbkidojoaa.MTubeNodes Go.Proofs.YtpcmmbbkidojoaaW.PrintWords Go.Proofs.YtpcmmbbkidojoaaW.PrintLast Go.Proofs.YtpcmmbbkidojoaaW.PrintMore Go.Proofs.Ytpcmmbbkidojoaa.InTubeNodes Go.Proofs.Ytpcmmbbkidojoaa.Base Go.Proofs.Ytpcmmbbkidojoaa.LTubeNodes
set_option linter.unusedVariables false
theorem works : Ev (fun k => skywaylaw1_tubeWorks.f k) true := Ev.of (fun k => skywaylaw1_tubeWorks.mono k) (by decide +kernel : skywaylaw1_tubeWorks.f 16 = some true)
theorem proved : Pure := by
  intro l t _ _ ht
  refine Ev.rounds (r := true) ?_
  refine Ev.congr (fun k => by rw [skywaylaw1_TubeNodes.f]) ?_
  refine Ev.bind works (ev_pos rfl ?_)
  obtain ⟨c, hc, hok⟩ := tube_any l
  by_cases e : c = 0
  · have h : OkTube l := hok.mp e
    have hlen := h.len1; have hlen0 := h.len0
    have hw : wrap64 ((l.length : Int) - 1) = ((l.length - 1 : Nat) : Int) := by rw [w64 (by omega) (by omega)]; omega
    by_cases o : t < (nd l 0).f0.f0 ∨ (nd l (l.length - 1)).f0.f0 < t
    · refine Ev.bind (At_ev hc fun _ => at_out h o) (Ev.bind hc ?_)
      rw [if_pos e, hw]
      simp only [rd_nd]
      refine ev_pos e (ev_pos (by omega) ?_)
      by_cases o1 : t < (nd l 0).f0.f0
      · refine ev_pos o1 (ev_pos (by first | rfl | trivial) ?_)
        exact Ev.now _
      · refine ev_neg o1 (ev_pos (by omega) (ev_pos (by omega) (ev_pos (by omega) (ev_pos (by first | rfl | trivial) ?_))))
        exact Ev.now _
    · obtain ⟨p, hp⟩ := at_exists h (t := t) (by omega)
      have hle : t ≤ (nd l (l.length - 1)).f0.f0 := by omega
      refine Ev.bind (At_ev hc fun _ => at_ok h hp hle) (Ev.bind hc ?_)
      rw [if_pos e, hw]
      simp only [rd_nd]
      refine ev_pos e (ev_pos (by omega) ?_)
      refine ev_neg (show ¬ t < (nd l 0).f0.f0 by omega) ?_
      refine ev_pos (by omega) (ev_pos (by omega) ?_)
      refine ev_neg (show ¬ t > (nd l (l.length - 1)).f0.f0 by omega) ?_
      refine ev_pos rfl (Ev.bind (rnode_ok h hp hle) (ev_eq (Ev.now _) ?_))
      generalize (if (nd l p).f0.f0 = t then flat (nd l p) else mix (nd l p) (nd l (p + 1)) t) = z
      unfold out
      simp
  · refine Ev.bind (At_ev (x := (0, 0, 0, 0, 0, 0, 0)) hc fun h => absurd h e) (Ev.bind hc ?_)
    rw [if_neg e]
    refine ev_neg e (ev_pos rfl ?_)
    exact Ev.now _
end Go.Proofs.Ytpcmmbbkidojoaa.MyTubeNodes
