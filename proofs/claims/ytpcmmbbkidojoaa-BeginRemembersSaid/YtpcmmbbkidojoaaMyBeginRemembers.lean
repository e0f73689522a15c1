/- The law BeginRemembers over numbers and lists: a history of Step has the last hits. No condition beyond what the types give. -/
import Derived.Test.YtpcmmbbkidojoaaInBeginRemembers
import Derived.Test.YtpcmmbbkidojoaaLBeginRemembers
namespace Go.Proofs.Ytpcmmbbkidojoaa.MyBeginRemembers
open Go.RowKit Go.Proofs.Ytpcmmbbkidojoaa.Opens Go.Proofs.Ytpcmmbbkidojoaa.MBeginRemembers Go.Proofs.YtpcmmbbkidojoaaW.PrintWords Go.Proofs.YtpcmmbbkidojoaaW.PrintLast Go.Proofs.YtpcmmbbkidojoaaW.PrintMore Go.Proofs.Ytpcmmbbkidojoaa.InBeginRemembers Go.Proofs.Ytpcmmbbkidojoaa.Base Go.Proofs.Ytpcmmbbkidojoaa.LBeginRemembers
set_option linter.unusedVariables false
theorem last_ev : Ev (fun k => (begin_Step.f k 0 0 true 16 16).bind fun bt112 => (if bt112.2.2.2 = 0 then (if bt112.1 = 1 then (some (bt112.2.1 == 1)) else (some false)) else (some false))) true := by
  obtain ⟨w, hw⟩ := step_ev (h := 0) (s := 0) (by omega) (by omega) (by decide) true
  have e : next 0 true = 1 := by decide +kernel
  rw [e] at hw
  refine Ev.bind hw ?_
  refine ev_pos rfl ?_
  refine ev_pos rfl ?_
  exact Ev.now _
theorem loop (l : List Bool) (hl : l.length ≤ 40) : ∀ (d i : Nat), i + d = l.length → ∀ h : Int, 0 ≤ h → h < ((2 ^ (min i 16) : Nat) : Int) → Ev (fun k => skywaykeep2_BeginRemembers.l0 k h l (l.length : Int) (i : Int) h ((min i 16 : Nat) : Int)) true
  | 0, i, e, h, h0, h1 => by
    refine Ev.step (fun k => by rw [skywaykeep2_BeginRemembers.l0]) (ev_neg (by omega) ?_)
    exact last_ev
  | d + 1, i, e, h, h0, h1 => by
    have hw : wrap64 ((i : Int) + 1) = ((i + 1 : Nat) : Int) := by rw [w64 (by omega) (by omega)]; omega
    have hm : mn (((i + 1 : Nat) : Int)) 16 = ((min (i + 1) 16 : Nat) : Int) := by unfold mn; split <;> omega
    have hmm : min (min i 16 + 1) 16 = min (i + 1) 16 := by omega
    have hst : ∀ hit : Bool, ∃ w, Ev (fun k => begin_Step.f k h ((min i 16 : Nat) : Int) hit 16 16) (next h hit, ((min (i + 1) 16 : Nat) : Int), w, 0) := fun hit => by
      have := step_ev (h := h) (s := min i 16) (by omega) h0 h1 hit
      rw [hmm] at this
      exact this
    have hin : ∀ hit : Bool, 0 ≤ next h hit ∧ next h hit < ((2 ^ (min (i + 1) 16) : Nat) : Int) := fun hit => by
      have := next_in (h := h) (s := min i 16) (by omega) h0 h1 hit
      rw [hmm] at this
      exact this
    refine Ev.step (fun k => by rw [skywaykeep2_BeginRemembers.l0]) (ev_pos (by omega) (ev_pos (by omega) (ev_pos (by omega) ?_)))
    rw [hw, hm]
    generalize rdOf false l (i : Int) = hit
    obtain ⟨w, hs⟩ := hst hit
    have hi := hin hit
    have ih := loop l hl d (i + 1) (by omega) (next h hit) hi.1 hi.2
    have hc := check_in (h := next h hit) (s := min (i + 1) 16) (by omega) hi.1 hi.2
    refine Ev.bind hs ?_
    refine ev_pos rfl ?_
    by_cases c : hit = true
    · have en : next h hit = Go.bits .or .i64 (Go.bits .and .i64 (wrap64 (h * 2)) 65535) 1 := by unfold next; rw [if_pos c]
      refine ev_pos c (ev_pos en (ev_pos rfl (Ev.bind hc (ev_pos rfl ?_))))
      rw [← en]
      exact ih
    · have en : next h hit = Go.bits .and .i64 (wrap64 (h * 2)) 65535 := by unfold next; rw [if_neg c]
      refine ev_neg c (ev_pos en (ev_pos rfl (Ev.bind hc (ev_pos rfl ?_))))
      rw [← en]
      exact ih
theorem proved : Pure := by
  intro l hl _
  refine Ev.rounds (r := true) ?_
  have hm : 0 ≤ mn (l.length : Int) 40 ∧ mn (l.length : Int) 40 ≤ (l.length : Int) ∧ mn (l.length : Int) 40 ≤ 40 := by unfold mn; split <;> omega
  refine Ev.congr (fun k => by rw [skywaykeep2_BeginRemembers.f]) (ev_pos hm.1 (ev_pos hm.2.1 ?_))
  have hlen : (l.take (mn (l.length : Int) 40).toNat).length ≤ 40 := by rw [List.length_take]; omega
  exact loop _ hlen (l.take (mn (l.length : Int) 40).toNat).length 0 (by omega) 0 (by omega) (by decide)
end Go.Proofs.Ytpcmmbbkidojoaa.MyBeginRemembers
