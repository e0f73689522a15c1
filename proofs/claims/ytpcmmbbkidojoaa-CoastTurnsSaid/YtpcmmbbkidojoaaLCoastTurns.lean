/- What functions that CoastTurns reaches compute, over numbers and lists. Their conditions stand in each lemma. -/
import Derived.Test.YtpcmmbbkidojoaaMCoastTurnsx0
import Derived.Test.YtpcmmbbkidojoaaMCoastTurnsx1
import Derived.Test.YtpcmmbbkidojoaaMCoastTurnsx2
import Derived.Test.YtpcmmbbkidojoaaMCoastTurnsx3
import Derived.Test.YtpcmmbbkidojoaaMCoastTurnsx4
import Derived.Test.YtpcmmbbkidojoaaMCoastTurnsx5
import Derived.Test.YtpcmmbbkidojoaaBase
namespace Go.Proofs.Ytpcmmbbkidojoaa.LCoastTurns
open Go.RowKit Go.Proofs.Ytpcmmbbkidojoaa.Opens Go.Proofs.Ytpcmmbbkidojoaa.MCoastTurns Go.Proofs.YtpcmmbbkidojoaaW.PrintWords Go.Proofs.YtpcmmbbkidojoaaW.PrintLast Go.Proofs.YtpcmmbbkidojoaaW.PrintMore Go.Proofs.Ytpcmmbbkidojoaa.Base
set_option linter.unusedVariables false
set_option linter.unusedSimpArgs false

structure OkSpot (t x y h c e : Int) : Prop where
  t0 : 0 ≤ t
  t1 : t ≤ 200000
  x0 : -1000000 ≤ x
  x1 : x ≤ 1000000
  y0 : -1000000 ≤ y
  y1 : y ≤ 1000000
  h0 : 0 ≤ h
  h1 : h ≤ 60000
  c0 : -1 ≤ c
  c1 : c ≤ 4095
  e0 : 0 ≤ e
  e1 : e ≤ 1000000
def OkAt (x y : Int) : Prop := -1000000 ≤ x ∧ x ≤ 1000000 ∧ -1000000 ≤ y ∧ y ≤ 1000000
theorem placed_ok {x y : Int} (h : OkAt x y) : radar_placed.f x y = some true := by
  unfold OkAt at h; unfold radar_placed.f
  rw [if_pos (by omega), if_pos (by omega), if_pos (by omega)]
  simp; omega
theorem placed_bad {x y : Int} (h : ¬ OkAt x y) : radar_placed.f x y = some false := by
  unfold OkAt at h; unfold radar_placed.f
  by_cases h1 : x ≥ -1000000
  · rw [if_pos h1]
    by_cases h2 : x ≤ 1000000
    · rw [if_pos h2]
      by_cases h3 : y ≥ -1000000
      · rw [if_pos h3]; simp; omega
      · rw [if_neg h3]
    · rw [if_neg h2]
  · rw [if_neg h1]
theorem spot_ok {t x y h c e : Int} (o : OkSpot t x y h c e) : radar_CheckSpot.f t x y h c e = some 0 := by
  obtain ⟨_, _, _, _, _, _, _, _, _, _, _, _⟩ := o
  unfold radar_CheckSpot.f
  rw [placed_ok ⟨by omega, by omega, by omega, by omega⟩, if_neg (by omega), if_neg (by omega)]
  simp only [Option.bind_some, if_true]
  rw [if_neg (by omega), if_neg (by omega), if_neg (by omega), if_neg (by omega), if_neg (by omega), if_neg (by omega)]
theorem spot_bad {t x y h c e : Int} (o : ¬ OkSpot t x y h c e) : radar_CheckSpot.f t x y h c e = some 4 := by
  unfold radar_CheckSpot.f
  by_cases h3 : OkAt x y
  · rw [placed_ok h3]
    simp only [Option.bind_some, if_true]
    repeat (refine ite_same (fun _ => rfl) (fun _ => ?_))
    exfalso; exact o ⟨by omega, by omega, h3.1, h3.2.1, h3.2.2.1, h3.2.2.2, by omega, by omega, by omega, by omega, by omega, by omega⟩
  · rw [placed_bad h3]
    refine ite_same (fun _ => rfl) (fun _ => ite_same (fun _ => rfl) (fun _ => ?_))
    rfl

structure OkTrack (a0 a1 a2 a3 a4 a5 a6 a7 a8 a9 a10 a11 a12 a13 a14 a15 a16 a17 a18 a19 : Int) : Prop where
  time0 : 0 ≤ a2
  time1 : a2 ≤ 200000
  x0 : -1000000 ≤ a3
  x1 : a3 ≤ 1000000
  y0 : -1000000 ≤ a4
  y1 : a4 ≤ 1000000
  vx0 : -12800 ≤ a5
  vx1 : a5 ≤ 12800
  vy0 : -12800 ≤ a6
  vy1 : a6 ≤ 12800
  h0 : 0 ≤ a7
  h1 : a7 ≤ 60000
  rate0 : -3200 ≤ a8
  rate1 : a8 ≤ 3200
  rad0 : 0 ≤ a9
  rad1 : a9 ≤ 4000000
  code0 : -1 ≤ a10
  code1 : a10 ≤ 4095
  slack0 : 0 ≤ a13
  slack1 : a13 ≤ 409600
  id0 : 0 ≤ a0
  hits0 : 0 ≤ a11
  miss0 : 0 ≤ a12
  st0 : 0 ≤ a1
  st1 : a1 ≤ 2
  last : OkSpot a14 a15 a16 a17 a18 a19
  lt : a14 ≤ a2
theorem speed_ok {n : Int} (h0 : -12800 ≤ n) (h1 : n ≤ 12800) : filter_Check_1.f n = some false := by
  unfold filter_Check_1.f; rw [if_neg (by omega)]; simp; omega
theorem speed_bad {n : Int} (h : n < -12800 ∨ 12800 < n) : filter_Check_1.f n = some true := by
  unfold filter_Check_1.f
  rcases h with h | h
  · rw [if_pos h]
  · refine ite_same (fun _ => rfl) (fun _ => ?_); simp; omega
section
variable (a0 a1 a2 a3 a4 a5 a6 a7 a8 a9 a10 a11 a12 a13 a14 a15 a16 a17 a18 a19 : Int)
theorem fc6 : ∀ f, f = true → Ev (fun k => filter_Check.j6 k f a0 a1 a2 a3 a4 a5 a6 a7 a8 a9 a10 a11 a12 a13 a14 a15 a16 a17 a18 a19 a0 a1 a2 a3 a4 a5 a6 a7 a8 a9 a10 a11 a12) 4 := by
  rintro f rfl; exact Ev.step (fun k => by rw [filter_Check.j6]) (ev_pos rfl (Ev.now _))
theorem fc0 : ∀ f, f = true → Ev (fun k => filter_Check.j0 k f a0 a1 a2 a3 a4 a5 a6 a7 a8 a9 a10 a11 a12 a13 a14 a15 a16 a17 a18 a19 a0 a1 a2 a3 a4 a5 a6 a7 a8 a9 a10 a11 a12) 4 := by
  rintro f rfl; exact Ev.step (fun k => by rw [filter_Check.j0]) (ev_pos rfl (fc6 a0 a1 a2 a3 a4 a5 a6 a7 a8 a9 a10 a11 a12 a13 a14 a15 a16 a17 a18 a19 _ rfl))
theorem fc1 : ∀ f, f = true → Ev (fun k => filter_Check.j1 k f a0 a1 a2 a3 a4 a5 a6 a7 a8 a9 a10 a11 a12 a13 a14 a15 a16 a17 a18 a19 a0 a1 a2 a3 a4 a5 a6 a7 a8 a9 a10 a11 a12) 4 := by
  rintro f rfl; exact Ev.step (fun k => by rw [filter_Check.j1]) (ev_pos rfl (fc6 a0 a1 a2 a3 a4 a5 a6 a7 a8 a9 a10 a11 a12 a13 a14 a15 a16 a17 a18 a19 _ rfl))
theorem fc2 : ∀ f, f = true → Ev (fun k => filter_Check.j2 k f a0 a1 a2 a3 a4 a5 a6 a7 a8 a9 a10 a11 a12 a13 a14 a15 a16 a17 a18 a19 a0 a1 a2 a3 a4 a5 a6 a7 a8 a9 a10 a11 a12) 4 := by
  rintro f rfl; exact Ev.step (fun k => by rw [filter_Check.j2]) (ev_pos rfl (fc6 a0 a1 a2 a3 a4 a5 a6 a7 a8 a9 a10 a11 a12 a13 a14 a15 a16 a17 a18 a19 _ rfl))
theorem fc3 : ∀ f, f = true → Ev (fun k => filter_Check.j3 k f a0 a1 a2 a3 a4 a5 a6 a7 a8 a9 a10 a11 a12 a13 a14 a15 a16 a17 a18 a19 a0 a1 a2 a3 a4 a5 a6 a7 a8 a9 a10 a11 a12) 4 := by
  rintro f rfl; exact Ev.step (fun k => by rw [filter_Check.j3]) (ev_pos rfl (fc6 a0 a1 a2 a3 a4 a5 a6 a7 a8 a9 a10 a11 a12 a13 a14 a15 a16 a17 a18 a19 _ rfl))
theorem fc4 : ∀ f, f = true → Ev (fun k => filter_Check.j4 k f a0 a1 a2 a3 a4 a5 a6 a7 a8 a9 a10 a11 a12 a13 a14 a15 a16 a17 a18 a19 a0 a1 a2 a3 a4 a5 a6 a7 a8 a9 a10 a11 a12) 4 := by
  rintro f rfl; exact Ev.step (fun k => by rw [filter_Check.j4]) (ev_pos rfl (fc6 a0 a1 a2 a3 a4 a5 a6 a7 a8 a9 a10 a11 a12 a13 a14 a15 a16 a17 a18 a19 _ rfl))
theorem fc5 : ∀ f, f = true → Ev (fun k => filter_Check.j5 k f a0 a1 a2 a3 a4 a5 a6 a7 a8 a9 a10 a11 a12 a13 a14 a15 a16 a17 a18 a19 a0 a1 a2 a3 a4 a5 a6 a7 a8 a9 a10 a11 a12) 4 := by
  rintro f rfl; exact Ev.step (fun k => by rw [filter_Check.j5]) (ev_pos rfl (fc6 a0 a1 a2 a3 a4 a5 a6 a7 a8 a9 a10 a11 a12 a13 a14 a15 a16 a17 a18 a19 _ rfl))
/-- What Check tells of a track: 0 just where it is valid. -/
theorem track_any : ∃ r : Int, Ev (fun k => filter_Check.f k a0 a1 a2 a3 a4 a5 a6 a7 a8 a9 a10 a11 a12 a13 a14 a15 a16 a17 a18 a19) r ∧ (r = 0 ↔ OkTrack a0 a1 a2 a3 a4 a5 a6 a7 a8 a9 a10 a11 a12 a13 a14 a15 a16 a17 a18 a19) := by
  have no4 : ∀ {P : Prop}, ¬ P → ((4 : Int) = 0 ↔ P) := fun h => ⟨fun h0 => absurd h0 (by decide), fun h0 => absurd h0 h⟩
  by_cases g0 : 0 ≤ a2 ∧ a2 ≤ 200000 ∧ -1000000 ≤ a3 ∧ a3 ≤ 1000000 ∧ -1000000 ≤ a4 ∧ a4 ≤ 1000000
  · have k0 : ∀ {r : Int}, Ev (fun k => filter_Check.j0 k false a0 a1 a2 a3 a4 a5 a6 a7 a8 a9 a10 a11 a12 a13 a14 a15 a16 a17 a18 a19 a0 a1 a2 a3 a4 a5 a6 a7 a8 a9 a10 a11 a12) r → Ev (fun k => filter_Check.f k a0 a1 a2 a3 a4 a5 a6 a7 a8 a9 a10 a11 a12 a13 a14 a15 a16 a17 a18 a19) r := by
      intro r h
      refine Ev.congr (fun k => by rw [filter_Check.f]) ?_
      refine ev_neg (by omega) (ev_neg (by omega) (ev_neg (by omega) (ev_neg (by omega) (ev_neg (by omega) ?_))))
      rw [decide_eq_false (by omega)]; exact h
    by_cases g1 : -12800 ≤ a5 ∧ a5 ≤ 12800 ∧ -12800 ≤ a6 ∧ a6 ≤ 12800
    · have k1 : ∀ {r : Int}, Ev (fun k => filter_Check.j1 k false a0 a1 a2 a3 a4 a5 a6 a7 a8 a9 a10 a11 a12 a13 a14 a15 a16 a17 a18 a19 a0 a1 a2 a3 a4 a5 a6 a7 a8 a9 a10 a11 a12) r → Ev (fun k => filter_Check.f k a0 a1 a2 a3 a4 a5 a6 a7 a8 a9 a10 a11 a12 a13 a14 a15 a16 a17 a18 a19) r := by
        intro r h
        refine k0 (Ev.step (fun k => by rw [filter_Check.j0]) (ev_neg (by decide) ?_))
        refine ev_some (speed_ok g1.1 g1.2.1) (ev_neg (by decide) ?_)
        exact ev_some (speed_ok g1.2.2.1 g1.2.2.2) h
      by_cases g2 : 0 ≤ a7 ∧ a7 ≤ 60000
      · have k2 : ∀ {r : Int}, Ev (fun k => filter_Check.j2 k false a0 a1 a2 a3 a4 a5 a6 a7 a8 a9 a10 a11 a12 a13 a14 a15 a16 a17 a18 a19 a0 a1 a2 a3 a4 a5 a6 a7 a8 a9 a10 a11 a12) r → Ev (fun k => filter_Check.f k a0 a1 a2 a3 a4 a5 a6 a7 a8 a9 a10 a11 a12 a13 a14 a15 a16 a17 a18 a19) r := by
          intro r h
          refine k1 (Ev.step (fun k => by rw [filter_Check.j1]) (ev_neg (by decide) (ev_neg (by omega) ?_)))
          rw [decide_eq_false (by omega)]; exact h
        by_cases g3 : -3200 ≤ a8 ∧ a8 ≤ 3200
        · have k3 : ∀ {r : Int}, Ev (fun k => filter_Check.j3 k false a0 a1 a2 a3 a4 a5 a6 a7 a8 a9 a10 a11 a12 a13 a14 a15 a16 a17 a18 a19 a0 a1 a2 a3 a4 a5 a6 a7 a8 a9 a10 a11 a12) r → Ev (fun k => filter_Check.f k a0 a1 a2 a3 a4 a5 a6 a7 a8 a9 a10 a11 a12 a13 a14 a15 a16 a17 a18 a19) r := by
            intro r h
            refine k2 (Ev.step (fun k => by rw [filter_Check.j2]) (ev_neg (by decide) (ev_neg (by omega) ?_)))
            rw [decide_eq_false (by omega)]; exact h
          by_cases g4 : 0 ≤ a9 ∧ a9 ≤ 4000000
          · have k4 : ∀ {r : Int}, Ev (fun k => filter_Check.j4 k false a0 a1 a2 a3 a4 a5 a6 a7 a8 a9 a10 a11 a12 a13 a14 a15 a16 a17 a18 a19 a0 a1 a2 a3 a4 a5 a6 a7 a8 a9 a10 a11 a12) r → Ev (fun k => filter_Check.f k a0 a1 a2 a3 a4 a5 a6 a7 a8 a9 a10 a11 a12 a13 a14 a15 a16 a17 a18 a19) r := by
              intro r h
              refine k3 (Ev.step (fun k => by rw [filter_Check.j3]) (ev_neg (by decide) (ev_neg (by omega) ?_)))
              rw [decide_eq_false (by omega)]; exact h
            by_cases g5 : -1 ≤ a10 ∧ a10 ≤ 4095
            · have k5 : ∀ {r : Int}, Ev (fun k => filter_Check.j5 k false a0 a1 a2 a3 a4 a5 a6 a7 a8 a9 a10 a11 a12 a13 a14 a15 a16 a17 a18 a19 a0 a1 a2 a3 a4 a5 a6 a7 a8 a9 a10 a11 a12) r → Ev (fun k => filter_Check.f k a0 a1 a2 a3 a4 a5 a6 a7 a8 a9 a10 a11 a12 a13 a14 a15 a16 a17 a18 a19) r := by
                intro r h
                refine k4 (Ev.step (fun k => by rw [filter_Check.j4]) (ev_neg (by decide) (ev_neg (by omega) ?_)))
                rw [decide_eq_false (by omega)]; exact h
              by_cases g6 : 0 ≤ a13 ∧ a13 ≤ 409600 ∧ 0 ≤ a0 ∧ 0 ≤ a11 ∧ 0 ≤ a12
              · have k6 : ∀ {r : Int}, Ev (fun k => filter_Check.j6 k false a0 a1 a2 a3 a4 a5 a6 a7 a8 a9 a10 a11 a12 a13 a14 a15 a16 a17 a18 a19 a0 a1 a2 a3 a4 a5 a6 a7 a8 a9 a10 a11 a12) r → Ev (fun k => filter_Check.f k a0 a1 a2 a3 a4 a5 a6 a7 a8 a9 a10 a11 a12 a13 a14 a15 a16 a17 a18 a19) r := by
                  intro r h
                  refine k5 (Ev.step (fun k => by rw [filter_Check.j5]) (ev_neg (by decide) (ev_neg (by omega) (ev_neg (by omega) (ev_neg (by omega) (ev_neg (by omega) ?_))))))
                  rw [decide_eq_false (by omega)]; exact h
                by_cases g7 : 0 ≤ a1 ∧ a1 ≤ 2
                · have k7 : ∀ {r : Int}, Ev (fun k : Nat => (radar_CheckSpot.f a14 a15 a16 a17 a18 a19).bind fun t => if t = 0 then (if a14 > a2 then some 12 else some 0) else some t) r → Ev (fun k => filter_Check.f k a0 a1 a2 a3 a4 a5 a6 a7 a8 a9 a10 a11 a12 a13 a14 a15 a16 a17 a18 a19) r := by
                    intro r h
                    exact k6 (Ev.step (fun k => by rw [filter_Check.j6]) (ev_neg (by decide) (ev_neg (by omega) (ev_neg (by omega) h))))
                  by_cases g8 : OkSpot a14 a15 a16 a17 a18 a19
                  · by_cases g9 : a14 ≤ a2
                    · exact ⟨0, k7 (ev_some (spot_ok g8) (ev_pos rfl (ev_neg (by omega) (Ev.now _)))), ⟨fun _ => ⟨by omega, by omega, by omega, by omega, by omega, by omega, by omega, by omega, by omega, by omega, by omega, by omega, by omega, by omega, by omega, by omega, by omega, by omega, by omega, by omega, by omega, by omega, by omega, by omega, by omega, g8, g9⟩, fun _ => rfl⟩⟩
                    · exact ⟨12, k7 (ev_some (spot_ok g8) (ev_pos rfl (ev_pos (by omega) (Ev.now _)))), ⟨fun h0 => absurd h0 (by decide), fun h0 => absurd h0.lt g9⟩⟩
                  · exact ⟨4, k7 (ev_some (spot_bad g8) (ev_neg (by decide) (Ev.now _))), no4 (fun h0 => g8 h0.last)⟩
                · refine ⟨1, k6 (Ev.step (fun k => by rw [filter_Check.j6]) (ev_neg (by decide) ?_)), ⟨fun h0 => absurd h0 (by decide), fun h0 => absurd ⟨h0.st0, h0.st1⟩ g7⟩⟩
                  by_cases h1 : a1 < 0
                  · exact ev_pos h1 (Ev.now _)
                  · exact ev_neg h1 (ev_pos (by omega) (Ev.now _))
              · refine ⟨4, k5 (Ev.step (fun k => by rw [filter_Check.j5]) (ev_neg (by decide) ?_)), no4 (fun h0 => g6 ⟨h0.slack0, h0.slack1, h0.id0, h0.hits0, h0.miss0⟩)⟩
                refine ev_bad (fc6 a0 a1 a2 a3 a4 a5 a6 a7 a8 a9 a10 a11 a12 a13 a14 a15 a16 a17 a18 a19 _ rfl) (fun _ => ?_)
                by_cases h1 : a13 > 409600
                · exact ev_pos h1 (fc6 a0 a1 a2 a3 a4 a5 a6 a7 a8 a9 a10 a11 a12 a13 a14 a15 a16 a17 a18 a19 _ (decide_eq_true h1))
                · refine ev_neg h1 ?_
                  refine ev_bad (fc6 a0 a1 a2 a3 a4 a5 a6 a7 a8 a9 a10 a11 a12 a13 a14 a15 a16 a17 a18 a19 _ rfl) (fun _ => ?_)
                  refine ev_bad (fc6 a0 a1 a2 a3 a4 a5 a6 a7 a8 a9 a10 a11 a12 a13 a14 a15 a16 a17 a18 a19 _ rfl) (fun _ => ?_)
                  exact fc6 a0 a1 a2 a3 a4 a5 a6 a7 a8 a9 a10 a11 a12 a13 a14 a15 a16 a17 a18 a19 _ (decide_eq_true (by omega))
            · refine ⟨4, k4 (Ev.step (fun k => by rw [filter_Check.j4]) (ev_neg (by decide) ?_)), no4 (fun h0 => g5 ⟨h0.code0, h0.code1⟩)⟩
              exact ev_bad (fc5 a0 a1 a2 a3 a4 a5 a6 a7 a8 a9 a10 a11 a12 a13 a14 a15 a16 a17 a18 a19 _ rfl) (fun _ => fc5 a0 a1 a2 a3 a4 a5 a6 a7 a8 a9 a10 a11 a12 a13 a14 a15 a16 a17 a18 a19 _ (decide_eq_true (by omega)))
          · refine ⟨4, k3 (Ev.step (fun k => by rw [filter_Check.j3]) (ev_neg (by decide) ?_)), no4 (fun h0 => g4 ⟨h0.rad0, h0.rad1⟩)⟩
            exact ev_bad (fc4 a0 a1 a2 a3 a4 a5 a6 a7 a8 a9 a10 a11 a12 a13 a14 a15 a16 a17 a18 a19 _ rfl) (fun _ => fc4 a0 a1 a2 a3 a4 a5 a6 a7 a8 a9 a10 a11 a12 a13 a14 a15 a16 a17 a18 a19 _ (decide_eq_true (by omega)))
        · refine ⟨4, k2 (Ev.step (fun k => by rw [filter_Check.j2]) (ev_neg (by decide) ?_)), no4 (fun h0 => g3 ⟨h0.rate0, h0.rate1⟩)⟩
          exact ev_bad (fc3 a0 a1 a2 a3 a4 a5 a6 a7 a8 a9 a10 a11 a12 a13 a14 a15 a16 a17 a18 a19 _ rfl) (fun _ => fc3 a0 a1 a2 a3 a4 a5 a6 a7 a8 a9 a10 a11 a12 a13 a14 a15 a16 a17 a18 a19 _ (decide_eq_true (by omega)))
      · refine ⟨4, k1 (Ev.step (fun k => by rw [filter_Check.j1]) (ev_neg (by decide) ?_)), no4 (fun h0 => g2 ⟨h0.h0, h0.h1⟩)⟩
        exact ev_bad (fc2 a0 a1 a2 a3 a4 a5 a6 a7 a8 a9 a10 a11 a12 a13 a14 a15 a16 a17 a18 a19 _ rfl) (fun _ => fc2 a0 a1 a2 a3 a4 a5 a6 a7 a8 a9 a10 a11 a12 a13 a14 a15 a16 a17 a18 a19 _ (decide_eq_true (by omega)))
    · refine ⟨4, k0 (Ev.step (fun k => by rw [filter_Check.j0]) (ev_neg (by decide) ?_)), no4 (fun h0 => g1 ⟨h0.vx0, h0.vx1, h0.vy0, h0.vy1⟩)⟩
      by_cases h1 : -12800 ≤ a5 ∧ a5 ≤ 12800
      · refine ev_some (speed_ok h1.1 h1.2) (ev_neg (by decide) ?_)
        exact ev_some (speed_bad (by omega)) (fc1 a0 a1 a2 a3 a4 a5 a6 a7 a8 a9 a10 a11 a12 a13 a14 a15 a16 a17 a18 a19 _ rfl)
      · exact ev_some (speed_bad (by omega)) (ev_pos rfl (fc1 a0 a1 a2 a3 a4 a5 a6 a7 a8 a9 a10 a11 a12 a13 a14 a15 a16 a17 a18 a19 _ rfl))
  · refine ⟨4, Ev.congr (fun k => by rw [filter_Check.f]) ?_, no4 (fun h0 => g0 ⟨h0.time0, h0.time1, h0.x0, h0.x1, h0.y0, h0.y1⟩)⟩
    repeat (refine ev_bad (fc0 a0 a1 a2 a3 a4 a5 a6 a7 a8 a9 a10 a11 a12 a13 a14 a15 a16 a17 a18 a19 _ rfl) (fun _ => ?_))
    exact fc0 a0 a1 a2 a3 a4 a5 a6 a7 a8 a9 a10 a11 a12 a13 a14 a15 a16 a17 a18 a19 _ (decide_eq_true (by omega))
end
theorem track_ok {a0 a1 a2 a3 a4 a5 a6 a7 a8 a9 a10 a11 a12 a13 a14 a15 a16 a17 a18 a19 : Int} (h : OkTrack a0 a1 a2 a3 a4 a5 a6 a7 a8 a9 a10 a11 a12 a13 a14 a15 a16 a17 a18 a19) : Ev (fun k => filter_Check.f k a0 a1 a2 a3 a4 a5 a6 a7 a8 a9 a10 a11 a12 a13 a14 a15 a16 a17 a18 a19) 0 := by
  obtain ⟨r, hr, hd⟩ := track_any a0 a1 a2 a3 a4 a5 a6 a7 a8 a9 a10 a11 a12 a13 a14 a15 a16 a17 a18 a19
  rw [hd.2 h] at hr
  exact hr

/-- 'within' brings a number into a range. -/
theorem within_in (n low high : Int) (h : low ≤ high) (hl : -1000000000 ≤ low) (hh : high ≤ 1000000000) : ∃ r, skywaykeep2_within.f n low high = some r ∧ low ≤ r ∧ r ≤ high := by
  unfold skywaykeep2_within.f
  have e1 : wrap64 (high - low) = high - low := w64 (by omega) (by omega)
  have e2 : wrap64 (high - low + 1) = high - low + 1 := w64 (by omega) (by omega)
  rw [e1, e2, if_neg (by omega)]
  have hs : 0 < high - low + 1 := by omega
  generalize hsz : high - low + 1 = s at *
  have t1 : Int.tmod n s < s := Int.tmod_lt_of_pos _ hs
  have t0 : -s < Int.tmod n s := by
    have h1 := Int.tmod_lt_of_pos (-n) hs
    rw [Int.neg_tmod] at h1
    omega
  have e3 : wrap64 (Int.tmod n s + s) = Int.tmod n s + s := w64 (by omega) (by omega)
  rw [e3]
  have t2 : Int.tmod (Int.tmod n s + s) s < s := Int.tmod_lt_of_pos _ hs
  have t3 : 0 ≤ Int.tmod (Int.tmod n s + s) s := Int.tmod_nonneg _ (by omega)
  exact ⟨_, rfl, by rw [w64 (by omega) (by omega)]; omega, by rw [w64 (by omega) (by omega)]; omega⟩

theorem miss_ok {a0 a1 a2 a3 a4 a5 a6 a7 a8 a9 a10 a11 a12 a13 a14 a15 a16 a17 a18 a19 lim : Int} (h : OkTrack a0 a1 a2 a3 a4 a5 a6 a7 a8 a9 a10 a11 a12 a13 a14 a15 a16 a17 a18 a19) (l0 : 0 ≤ lim) (l1 : lim ≤ 100) :
    Ev (fun k => coast_Miss.f k a0 a1 a2 a3 a4 a5 a6 a7 a8 a9 a10 a11 a12 a13 a14 a15 a16 a17 a18 a19 lim) (a0, (if a1 = 1 then 2 else a1), a2, a3, a4, a5, a6, a7, a8, a9, a10, a11, mn a12 100 + 1, a13, a14, a15, a16, a17, a18, a19, decide (mn a12 100 + 1 > lim), 0) := by
  refine Ev.congr (fun k => by rw [coast_Miss.f]) ?_
  refine Ev.bind (track_ok h) ?_
  refine ev_pos rfl ?_
  refine ev_neg (by omega) ?_
  rw [decide_eq_false (by omega)]
  refine Ev.step (fun k => by rw [coast_Miss.j0]) ?_
  have hm := h.miss0
  have e : wrap64 (mn a12 100 + 1) = mn a12 100 + 1 := by unfold mn; split <;> exact w64 (by omega) (by omega)
  rw [e]
  refine ev_neg (by decide) ?_
  by_cases h1 : a1 = 1
  · exact ev_pos h1 (ev_eq (Ev.now _) (by rw [if_pos h1]))
  · exact ev_neg h1 (ev_eq (Ev.now _) (by rw [if_neg h1]))
theorem hit_ok {a0 a1 a2 a3 a4 a5 a6 a7 a8 a9 a10 a11 a12 a13 a14 a15 a16 a17 a18 a19 : Int} (h : OkTrack a0 a1 a2 a3 a4 a5 a6 a7 a8 a9 a10 a11 a12 a13 a14 a15 a16 a17 a18 a19) :
    Ev (fun k => coast_Hit.f k a0 a1 a2 a3 a4 a5 a6 a7 a8 a9 a10 a11 a12 a13 a14 a15 a16 a17 a18 a19) (a0, (if a1 = 2 then 1 else a1), a2, a3, a4, a5, a6, a7, a8, a9, a10, a11, 0, a13, a14, a15, a16, a17, a18, a19, 0) := by
  refine Ev.congr (fun k => by rw [coast_Hit.f]) ?_
  refine Ev.bind (track_ok h) ?_
  refine ev_pos rfl ?_
  by_cases h1 : a1 = 2
  · exact ev_pos h1 (ev_eq (Ev.now _) (by rw [if_pos h1]))
  · exact ev_neg h1 (ev_eq (Ev.now _) (by rw [if_neg h1]))
theorem hit_bad {a0 a1 a2 a3 a4 a5 a6 a7 a8 a9 a10 a11 a12 a13 a14 a15 a16 a17 a18 a19 : Int} (h : ¬ OkTrack a0 a1 a2 a3 a4 a5 a6 a7 a8 a9 a10 a11 a12 a13 a14 a15 a16 a17 a18 a19) : ∃ r : Int, r ≠ 0 ∧ Ev (fun k => coast_Hit.f k a0 a1 a2 a3 a4 a5 a6 a7 a8 a9 a10 a11 a12 a13 a14 a15 a16 a17 a18 a19) (0, 0, 0, 0, 0, 0, 0, 0, 0, 0, 0, 0, 0, 0, 0, 0, 0, 0, 0, 0, r) := by
  obtain ⟨r, hr, hd⟩ := track_any a0 a1 a2 a3 a4 a5 a6 a7 a8 a9 a10 a11 a12 a13 a14 a15 a16 a17 a18 a19
  have hr0 : r ≠ 0 := fun h0 => h (hd.1 h0)
  exact ⟨r, hr0, Ev.congr (fun k => by rw [coast_Hit.f]) (Ev.bind hr (ev_neg hr0 (Ev.now _)))⟩
theorem track_with {a0 a1 a2 a3 a4 a5 a6 a7 a8 a9 a10 a11 a12 a13 a14 a15 a16 a17 a18 a19 : Int} (h : OkTrack a0 a1 a2 a3 a4 a5 a6 a7 a8 a9 a10 a11 a12 a13 a14 a15 a16 a17 a18 a19) {s m : Int} (s0 : 0 ≤ s) (s1 : s ≤ 2) (m0 : 0 ≤ m) : OkTrack a0 s a2 a3 a4 a5 a6 a7 a8 a9 a10 a11 m a13 a14 a15 a16 a17 a18 a19 :=
  ⟨h.time0, h.time1, h.x0, h.x1, h.y0, h.y1, h.vx0, h.vx1, h.vy0, h.vy1, h.h0, h.h1, h.rate0, h.rate1, h.rad0, h.rad1, h.code0, h.code1, h.slack0, h.slack1, h.id0, h.hits0, m0, s0, s1, h.last, h.lt⟩

theorem turns_loop {a0 a1 a2 a3 a4 a5 a6 a7 a8 a9 a10 a11 a12 a13 a14 a15 a16 a17 a18 a19 g lim : Int} (h : OkTrack a0 a1 a2 a3 a4 a5 a6 a7 a8 a9 a10 a11 a12 a13 a14 a15 a16 a17 a18 a19) (g0 : g = 0 ∨ g = 1) (l0 : 0 ≤ lim) (l1 : lim ≤ 20) :
    ∀ (d : Nat) (q s : Int), q + d = lim + 1 → 0 ≤ q → (s = g ∨ s = (if g = 1 then 2 else g)) → (q = lim + 1 → s = (if g = 1 then 2 else g)) →
      Ev (fun k => skywaykeep2_CoastTurns.l0 k lim (decide (q > lim)) q a0 g a2 a3 a4 a5 a6 a7 a8 a9 a10 a11 0 a13 a14 a15 a16 a17 a18 a19 a0 s a2 a3 a4 a5 a6 a7 a8 a9 a10 a11 q a13 a14 a15 a16 a17 a18 a19) true
  | 0, q, s, hq, q0, hs, he => by
    have hs' := he (by omega)
    have hsb : 0 ≤ s ∧ s ≤ 2 := by rw [hs']; split <;> omega
    have hh := hit_ok (track_with h hsb.1 hsb.2 q0)
    have hg : (if s = 2 then 1 else s) = g := by
      rw [hs']; rcases g0 with rfl | rfl <;> decide
    rw [hg] at hh
    refine Ev.step (fun k => by rw [skywaykeep2_CoastTurns.l0]) ?_
    refine ev_neg (by omega) ?_
    refine Ev.bind hh ?_
    refine ev_pos (decide_eq_true (by omega)) ?_
    refine ev_pos rfl (ev_eq (Ev.now _) ?_)
    simp
  | d + 1, q, s, hq, q0, hs, he => by
    have hsb : 0 ≤ s ∧ s ≤ 2 := by
      rcases hs with hs | hs
      · omega
      · rw [hs]; split <;> omega
    have hm := miss_ok (lim := lim) (track_with h hsb.1 hsb.2 q0) l0 (by omega)
    have hmn : mn q 100 = q := by unfold mn; rw [if_neg (by omega)]
    rw [hmn] at hm
    have hst : (if s = 1 then 2 else s) = (if g = 1 then 2 else g) := by
      rcases hs with rfl | hs
      · rfl
      · rw [hs]; rcases g0 with rfl | rfl <;> decide
    rw [hst] at hm
    refine Ev.step (fun k => by rw [skywaykeep2_CoastTurns.l0]) ?_
    refine ev_pos (by omega) ?_
    refine ev_neg (by rw [decide_eq_false (by omega)]; decide) ?_
    refine Ev.bind hm ?_
    refine ev_pos rfl ?_
    have hw : wrap64 (q + 1) = q + 1 := w64 (by omega) (by omega)
    rw [hw]
    exact turns_loop h g0 l0 l1 d (q + 1) _ (by omega) (by omega) (Or.inr rfl) (fun _ => rfl)
theorem turns (a0 a1 a2 a3 a4 a5 a6 a7 a8 a9 a10 a11 a12 a13 a14 a15 a16 a17 a18 a19 lim : Int) : Ev (fun k => skywaykeep2_CoastTurns.f k a0 a1 a2 a3 a4 a5 a6 a7 a8 a9 a10 a11 a12 a13 a14 a15 a16 a17 a18 a19 lim) true := by
  have h1 : OkTrack 0 1 0 0 0 0 0 0 0 0 0 0 0 0 0 0 0 0 0 0 := ⟨by omega, by omega, by omega, by omega, by omega, by omega, by omega, by omega, by omega, by omega, by omega, by omega, by omega, by omega, by omega, by omega, by omega, by omega, by omega, by omega, by omega, by omega, by omega, by omega, by omega, ⟨by omega, by omega, by omega, by omega, by omega, by omega, by omega, by omega, by omega, by omega, by omega, by omega⟩, by omega⟩
  refine Ev.congr (fun k => by rw [skywaykeep2_CoastTurns.f]) ?_
  refine Ev.bind (miss_ok (lim := 5) h1 (by omega) (by omega)) ?_
  refine ev_pos rfl ?_
  refine ev_neg (by decide) ?_
  refine Ev.step (fun k => by rw [skywaykeep2_CoastTurns.j0]) ?_
  refine ev_neg (by decide) ?_
  obtain ⟨w, hw, w0, w1⟩ := within_in lim 0 20 (by omega) (by omega) (by omega)
  refine ev_some hw ?_
  by_cases h : OkTrack a0 a1 a2 a3 a4 a5 a6 a7 a8 a9 a10 a11 a12 a13 a14 a15 a16 a17 a18 a19
  · refine Ev.bind (hit_ok h) ?_
    refine ev_pos rfl ?_
    have hb := h.st0
    have hb1 := h.st1
    have hg : (if a1 = 2 then 1 else a1) = 0 ∨ (if a1 = 2 then 1 else a1) = 1 := by split <;> omega
    have := turns_loop h hg w0 w1 (w + 1).toNat 0 _ (by omega) (by omega) (Or.inl rfl) (fun h0 => by omega)
    rw [decide_eq_false (by omega)] at this
    exact this
  · obtain ⟨r, hr0, hr⟩ := hit_bad h
    refine Ev.bind hr ?_
    exact ev_neg hr0 (ev_eq (Ev.now _) rfl)

end Go.Proofs.Ytpcmmbbkidojoaa.LCoastTurns
