/- What functions that AlertBand reaches compute, over numbers and lists. Their conditions stand in each lemma. -/
import Derived.Test.YtpcmmbbkidojoaaMAlertBandx0
import Derived.Test.YtpcmmbbkidojoaaMAlertBandx1
import Derived.Test.YtpcmmbbkidojoaaBase
namespace Go.Proofs.Ytpcmmbbkidojoaa.LAlertBand
open Go.RowKit Go.Proofs.Ytpcmmbbkidojoaa.Opens Go.Proofs.Ytpcmmbbkidojoaa.MAlertBand Go.Proofs.YtpcmmbbkidojoaaW.PrintWords Go.Proofs.YtpcmmbbkidojoaaW.PrintLast Go.Proofs.YtpcmmbbkidojoaaW.PrintMore Go.Proofs.Ytpcmmbbkidojoaa.Base
set_option linter.unusedVariables false
set_option linter.unusedSimpArgs false

theorem idx_ev (l : List Int) (hl : l.length ≤ 1000000) : ∀ (d i : Nat), i + d = l.length → ∃ r : Int, Ev (fun k => api_Errno_76_fn47.l0 k l (l.length : Int) (i : Int)) r ∧ decide (r ≥ 0) = (l.drop i).any (· != 0)
  | 0, i, h => by
    refine ⟨-1, Ev.step (fun k => by rw [api_Errno_76_fn47.l0]) (ev_neg (by omega) (Ev.now _)), ?_⟩
    rw [List.drop_eq_nil_of_le (by omega)]; rfl
  | d + 1, i, h => by
    obtain ⟨r, hr, hd⟩ := idx_ev l hl d (i + 1) (by omega)
    have hi : i < l.length := by omega
    have hrd : rd l (i : Int) = l[i] := by unfold rd; simp [hi]
    have hdrop : l.drop i = l[i] :: l.drop (i + 1) := List.drop_eq_getElem_cons hi
    have hstep : ∀ b, (l[i] != 0) = b → Ev (fun k => if b = true then some (i : Int) else api_Errno_76_fn47.l0 k l (l.length : Int) (wrap64 ((i : Int) + 1))) (if b = true then (i : Int) else r) → Ev (fun k => api_Errno_76_fn47.l0 k l (l.length : Int) (i : Int)) (if b = true then (i : Int) else r) := by
      intro b hb h'
      refine Ev.step (fun k => by rw [api_Errno_76_fn47.l0]) ?_
      refine ev_pos (by omega) (ev_pos (by omega) (ev_pos (by omega) ?_))
      refine ev_some (a := b) (by unfold skywaykeep2_fine_1.f; rw [hrd, hb]) h'
    by_cases hz : (l[i] != 0) = true
    · refine ⟨i, by have := hstep true hz (ev_pos rfl (Ev.now _)); simpa using this, ?_⟩
      rw [hdrop, List.any_cons, hz]; simp
    · refine ⟨r, by have := hstep false (by simpa using hz) (ev_neg (by decide) (by rw [w64 (by omega) (by omega)]; exact hr)); simpa using this, ?_⟩
      rw [hdrop, List.any_cons, hd]; simp at hz; simp [hz]
theorem fine_ev (l : List Int) (hl : l.length ≤ 1000000) : Ev (fun k => skywaykeep2_fine.f k l) (!(l.any (· != 0))) := by
  obtain ⟨r, hr, hd⟩ := idx_ev l hl l.length 0 (by omega)
  refine Ev.congr (fun k => by rw [skywaykeep2_fine.f]) (Ev.bind (a := l.any (· != 0)) ?_ (Ev.now _))
  refine Ev.congr (fun k => by rw [api_Errno_46_fn47.f]) (Ev.bind (a := r) ?_ (ev_eq (Ev.now _) (by rw [hd]; rfl)))
  refine Ev.congr (fun k => by rw [api_Errno_76_fn47.f]) ?_
  exact hr

end Go.Proofs.Ytpcmmbbkidojoaa.LAlertBand
