/- The law TerrainGrows over numbers and lists: the highest terrain grows with the radius, is at least that of the place, and Safe adds the clearance. No condition beyond what the types give. -/
import Derived.Test.YtpcmmbbkidojoaaInTerrainGrows
import Derived.Test.YtpcmmbbkidojoaaLTerrainGrows
namespace Go.Proofs.Ytpcmmbbkidojoaa.MyTerrainGrows
open Go.RowKit Go.Proofs.Ytpcmmbbkidojoaa.Opens Go.Proofs.Ytpcmmbbkidojoaa.PTerrainGrows Go.Proofs.YtpcmmbbkidojoaaW.PrintWords Go.Proofs.YtpcmmbbkidojoaaW.PrintLast Go.Proofs.YtpcmmbbkidojoaaW.PrintMore Go.Proofs.Ytpcmmbbkidojoaa.InTerrainGrows Go.Proofs.Ytpcmmbbkidojoaa.Base Go.Proofs.Ytpcmmbbkidojoaa.LTerrainGrows
theorem example_ev : Ev (fun k => terrain_Safe.f k 1000 (-500) 1000 1 1 [500] 1500 0 0 100) (600, 0) := Ev.of (fun k => terrain_Safe.mono _ _ _ _ _ _ _ _ _ _ k) (by decide +kernel : terrain_Safe.f 9 1000 (-500) 1000 1 1 [500] 1500 0 0 100 = some (600, 0))
theorem proved : Pure := by
  intro x y size nx ny hs px py rad more c _ _ _ _ _ hl _ _ _ hrad _ _
  unfold I64 at hrad
  refine Ev.rounds (r := true) ?_
  refine Ev.congr (fun k => by rw [skywaykeep2_TerrainGrows.f]) ?_
  refine ev_some (a := (1000, -500, 1000, 1, 1, [500])) rfl ?_
  refine Ev.bind example_ev ?_
  refine ev_pos rfl ?_
  refine Ev.step (fun k => by rw [skywaykeep2_TerrainGrows.j0]) (ev_neg (by decide) ?_)
  obtain ⟨w, hw, w0, w1⟩ := within_in more 0 100000 (by omega) (by omega) (by omega)
  obtain ⟨⟨b, f⟩, hb⟩ := highest_any (x := x) (y := y) (size := size) (nx := nx) (ny := ny) hl px py (wrap64 (rad + w))
  obtain ⟨⟨h, e⟩, hh⟩ := height_any (x := x) (y := y) (size := size) (nx := nx) (ny := ny) hl px py
  by_cases hok : OkGrid x y size nx ny hs ∧ OkP px py ∧ 0 ≤ rad ∧ rad ≤ 4000000
  · obtain ⟨g, hp, r0, r1⟩ := hok
    obtain ⟨R, hR, hI⟩ := highest_ok hl g hp r0 r1
    obtain ⟨H, hH, _, hHle⟩ := height_ok hl g hp
    have hle := hHle rad R r0 hI
    have hs := safe_of (c := c) hR hI.lo hI.hi
    rw [if_pos rfl] at hs
    refine Ev.bind hR (ev_some hw (Ev.bind hb (Ev.bind hH (Ev.bind hs (ev_pos rfl ?_)))))
    have hend : Ev (fun k : Nat => if H ≤ R then (if (if 0 ≤ c ∧ c ≤ 60000 then (R + c, (0 : Int)) else (0, 4)).2 = 0 then some ((if 0 ≤ c ∧ c ≤ 60000 then (R + c, (0 : Int)) else (0, 4)).1 == wrap64 (R + c)) else some true) else some false) true := by
      refine ev_pos hle ?_
      by_cases hc : 0 ≤ c ∧ c ≤ 60000
      · have h0 := hI.lo
        have h1 := hI.hi
        refine ev_pos (by rw [if_pos hc]) (ev_eq (Ev.now _) ?_)
        rw [if_pos hc, w64 (by omega) (by omega)]; simp
      · exact ev_neg (by rw [if_neg hc]; decide) (Ev.now _)
    by_cases hf : f = 0
    · refine ev_pos hf ?_
      have hrw : wrap64 (rad + w) = rad + w := w64 (by omega) (by omega)
      rw [hrw] at hb
      by_cases hr2 : rad + w ≤ 4000000
      · obtain ⟨R', hR', hI'⟩ := highest_ok hl g hp (rad := rad + w) (by omega) hr2
        obtain ⟨K1, h1⟩ := hb
        obtain ⟨K2, h2⟩ := hR'
        have h3 := (h1 (max K1 K2) (by omega)).symm.trans (h2 (max K1 K2) (by omega))
        have h4 : b = R' := by injection h3 with h3; injection h3
        have hm := hi_mono (by omega : rad ≤ rad + w) r0 hI hI'
        exact ev_pos (by show R ≤ b; omega) (ev_pos rfl hend)
      · obtain ⟨r, hr0, hr⟩ := highest_bad (x := x) (y := y) (size := size) (nx := nx) (ny := ny) hl (px := px) (py := py) (rad := rad + w) (fun hh => by have := hh.2.2.2; omega)
        obtain ⟨K1, h1⟩ := hb
        obtain ⟨K2, h2⟩ := hr
        have h3 := (h1 (max K1 K2) (by omega)).symm.trans (h2 (max K1 K2) (by omega))
        exfalso
        apply hr0
        injection h3 with h3
        injection h3 with _ h3
        omega
    · exact ev_neg hf (ev_pos rfl hend)
  · obtain ⟨r, hr0, hr⟩ := highest_bad hl hok
    have hs := safe_of (c := c) hr (by omega) (by omega)
    rw [if_neg hr0] at hs
    exact Ev.bind hr (ev_some hw (Ev.bind hb (Ev.bind hh (Ev.bind hs (ev_neg hr0 (ev_pos rfl (Ev.now _)))))))
end Go.Proofs.Ytpcmmbbkidojoaa.MyTerrainGrows
