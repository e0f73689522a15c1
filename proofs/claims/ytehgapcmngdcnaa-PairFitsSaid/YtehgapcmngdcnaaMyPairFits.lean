/- The law PairFits over numbers and lists: a track whose aircraft is in a tube fits the tube. No condition beyond what the types give. -/
import Derived.Test.YtehgapcmngdcnaaInPairFits
import Derived.Test.YtehgapcmngdcnaaLPairFits
namespace Go.Proofs.Ytehgapcmngdcnaa.MyPairFits
open Go.RowKit Go.Proofs.Ytehgapcmngdcnaa.Opens Go.Proofs.Ytehgapcmngdcnaa.MPairFits Go.Proofs.YtehgapcmngdcnaaW.PrintWords Go.Proofs.YtehgapcmngdcnaaW.PrintLast Go.Proofs.YtehgapcmngdcnaaW.PrintMore Go.Proofs.Ytehgapcmngdcnaa.InPairFits Go.Proofs.Ytehgapcmngdcnaa.Base Go.Proofs.Ytehgapcmngdcnaa.LPairFits
set_option linter.unusedVariables false
theorem works : Ev (fun k => pair_Fits.f k 0 0 50 10000 0 0 0 5000 0 0 7 0 0 [(⟨(⟨0, (⟨0, 0⟩ : S45), 5000⟩ : S80), 100, 300⟩ : S82), (⟨(⟨100, (⟨20000, 0⟩ : S45), 5000⟩ : S80), 100, 300⟩ : S82)]) (true, 0) := Ev.of (fun k => pair_Fits.mono _ _ _ _ _ _ _ _ _ _ _ _ _ _ k) (by decide +kernel : pair_Fits.f 12 0 0 50 10000 0 0 0 5000 0 0 7 0 0 [(⟨(⟨0, (⟨0, 0⟩ : S45), 5000⟩ : S80), 100, 300⟩ : S82), (⟨(⟨100, (⟨20000, 0⟩ : S45), 5000⟩ : S80), 100, 300⟩ : S82)] = some (true, 0))
structure OkT (t x y h r : Int) : Prop where
  x0 : -1000000 ≤ x
  x1 : x ≤ 1000000
  y0 : -1000000 ≤ y
  y1 : y ≤ 1000000
  h0 : 0 ≤ h
  h1 : h ≤ 60000
  r0 : 0 ≤ r
  r1 : r ≤ 4000000
theorem ex4 {p : Prop} [Decidable p] {x : Option Int} {Q : Prop} (h : ¬ p → ∃ c, x = some c ∧ (c = 0 → Q)) : ∃ c, (if p then some 4 else x) = some c ∧ (c = 0 → Q) := by
  by_cases c : p
  · rw [if_pos c]; exact ⟨4, rfl, fun h => absurd h (by decide)⟩
  · rw [if_neg c]; exact h c
theorem track_any (a0 a1 a2 a3 a4 a5 a6 a7 a8 a9 a10 a11 a12 : Int) : ∃ c, pair_checkTrack.f a0 a1 a2 a3 a4 a5 a6 a7 a8 a9 a10 a11 a12 = some c ∧ (c = 0 → OkT a2 a3 a4 a7 a9) := by
  unfold pair_checkTrack.f
  refine ex4 fun g1 => ex4 fun g2 => ex4 fun g3 => ex4 fun g4 => ex4 fun g5 => ex4 fun g6 => ex4 fun g7 => ex4 fun g8 => ex4 fun g9 => ex4 fun g10 => ex4 fun g11 => ex4 fun g12 => ⟨0, rfl, fun _ => ?_⟩
  constructor <;> omega
theorem proved : Pure := by
  intro a0 a1 a2 a3 a4 a5 a6 a7 a8 a9 a10 a11 a12 l px py high _ _ _ _ _ _ _ _ _ _ _ _ _ _ _ _ _ _
  refine Ev.rounds (r := true) ?_
  refine Ev.congr (fun k => by rw [skywaykeep2_PairFits.f]) ?_
  refine ev_some (a := [(⟨(⟨0, (⟨0, 0⟩ : S45), 5000⟩ : S80), 100, 300⟩ : S82), (⟨(⟨100, (⟨20000, 0⟩ : S45), 5000⟩ : S80), 100, 300⟩ : S82)]) rfl ?_
  refine Ev.bind works (ev_pos rfl ?_)
  refine Ev.step (fun k => by rw [skywaykeep2_PairFits.j0]) (ev_neg (by decide) ?_)
  obtain ⟨c1, hc1, hk⟩ := track_any a0 a1 a2 a3 a4 a5 a6 a7 a8 a9 a10 a11 a12
  obtain ⟨n, c, hc, hn, hnc, hr⟩ := At_any l a2
  obtain ⟨w, hw, w0, w1⟩ := within_in high (-100) 100 (by omega) (by omega) (by omega)
  have hf : ∀ {r : Bool × Int}, Ev (fun k => if c1 = 0 then ((tube_Check.f k l).bind fun t152 => (if t152 = 0 then ((tube_At.f k l a2).bind fun bt153 => (if bt153.2.2.2.2.2.2 = 0 then ((pair_square.f bt153.2.1 bt153.2.2.1 a3 a4).bind fun t161 => (if t161 ≤ (wrap64 ((wrap64 (bt153.2.2.2.2.1 + a9)) * (wrap64 (bt153.2.2.2.2.1 + a9)))) then (some (decide ((mx (wrap64 (bt153.2.2.2.1 - a7)) (wrap64 (a7 - bt153.2.2.2.1))) ≤ (wrap64 (bt153.2.2.2.2.2.1 + 100))), (0 : Int))) else (some (false, 0)))) else (some (false, 0)))) else (some (false, t152)))) else (some (false, c1))) r → Ev (fun k => pair_Fits.f k a0 a1 a2 a3 a4 a5 a6 a7 a8 a9 a10 a11 a12 l) r := by
    intro r hq
    exact Ev.congr (fun k => by rw [pair_Fits.f]) (ev_some hc1 hq)
  by_cases e1 : c1 = 0
  · have K := hk e1
    have x0 := K.x0; have x1 := K.x1; have y0 := K.y0; have y1 := K.y1; have h0 := K.h0; have h1 := K.h1; have r0 := K.r0; have r1 := K.r1
    by_cases e : c = 0
    · obtain ⟨⟨b, f⟩, hH, hH2⟩ := has_ev (l := l) (t := a2) (px := px) (py := py) (h := a7 + w) hn hr
      have hwr : wrap64 (a7 + w) = a7 + w := w64 (by omega) (by omega)
      have hlaw : ∀ {g : Bool}, Ev (fun k => pair_Fits.f k a0 a1 a2 a3 a4 a5 a6 a7 a8 a9 a10 a11 a12 l) (g, 0) → (f = 0 → b = true → ((skywaykeep2_square.f px py a3 a4).bind fun t203 => (if t203 > (wrap64 (a9 * a9)) then (some true) else (some g))) = some true) → Ev (fun k => (pair_Fits.f k a0 a1 a2 a3 a4 a5 a6 a7 a8 a9 a10 a11 a12 l).bind fun bt198 => (if bt198.2 = 0 then ((skywaykeep2_within.f high (-100) 100).bind fun t200 => ((tube_Has.f k l a2 px py (wrap64 (a7 + t200))).bind fun bt201 => (if bt201.2 = 0 then (if bt201.1 = true then ((skywaykeep2_square.f px py a3 a4).bind fun t203 => (if t203 > (wrap64 (a9 * a9)) then (some true) else (some bt198.1))) else (some true)) else (some true)))) else (some (!bt198.1)))) true := by
        intro g hg hlast
        refine Ev.bind hg (ev_pos rfl (ev_some hw ?_))
        rw [hwr]
        refine Ev.bind hH ?_
        by_cases f0 : f = 0
        · refine ev_pos f0 ?_
          by_cases b0 : b = true
          · refine ev_pos b0 ?_
            rw [hlast f0 b0]
            exact Ev.now _
          · exact ev_neg b0 (Ev.now _)
        · exact ev_neg f0 (Ev.now _)
      by_cases en : n.2.2.2.2.2.2 = 0
      · have R := hr en
        have rx0 := R.x0; have rx1 := R.x1; have ry0 := R.y0; have ry1 := R.y1; have rh0 := R.h0; have rh1 := R.h1; have rr0 := R.r0; have rr1 := R.r1; have rb0 := R.b0; have rb1 := R.b1
        have hsq : pair_square.f n.2.1 n.2.2.1 a3 a4 = some (sq n.2.1 n.2.2.1 a3 a4) := by
          unfold pair_square.f; rw [(sq_wrap (by omega)).1]
        have hreach := sqbd (v := n.2.2.2.2.1 + a9) (V := 8000000) (by omega) (by omega)
        have hrad := sqbd (v := a9) (V := 4000000) (by omega) (by omega)
        by_cases q : sq n.2.1 n.2.2.1 a3 a4 ≤ (n.2.2.2.2.1 + a9) * (n.2.2.2.2.1 + a9)
        · have hfit := hf (ev_pos e1 (Ev.bind hc (ev_pos e (Ev.bind hn (ev_pos en (ev_some hsq (ev_pos (by rw [w64 (n := n.2.2.2.2.1 + a9) (by omega) (by omega), w64 (by omega) (by omega)]; exact q) (Ev.now _))))))))
          refine hlaw hfit fun f0 b0 => ?_
          obtain ⟨_, hp, hh, hb⟩ := hH2 f0
          have hin := hb.mp b0
          have hm : decide ((mx (wrap64 (n.2.2.2.1 - a7)) (wrap64 (a7 - n.2.2.2.1))) ≤ (wrap64 (n.2.2.2.2.2.1 + 100))) = true := by
            rw [decide_eq_true_iff, w64 (n := n.2.2.2.2.2.1 + 100) (by omega) (by omega), mx_abs (by omega) (by omega)]
            omega
          rw [hm, keep_square (by omega)]
          show (if _ then _ else _) = _
          split <;> rfl
        · have hfit := hf (ev_pos e1 (Ev.bind hc (ev_pos e (Ev.bind hn (ev_pos en (ev_some hsq (ev_neg (by rw [w64 (n := n.2.2.2.2.1 + a9) (by omega) (by omega), w64 (by omega) (by omega)]; exact q) (Ev.now _))))))))
          refine hlaw hfit fun f0 b0 => ?_
          obtain ⟨_, hp, hh, hb⟩ := hH2 f0
          have hin := (hb.mp b0).1
          rw [keep_square (by omega)]
          show (if _ then _ else _) = _
          rw [w64 (n := a9 * a9) (by omega) (by omega)]
          by_cases z : sq px py a3 a4 > a9 * a9
          · rw [if_pos z]
          · exfalso
            have ht := tri (x := n.2.1 - px) (y := n.2.2.1 - py) (u := px - a3) (v := py - a4) rr0 r0 hin (by unfold sq at z; omega)
            rw [show n.2.1 - px + (px - a3) = n.2.1 - a3 by omega, show n.2.2.1 - py + (py - a4) = n.2.2.1 - a4 by omega] at ht
            exact q ht
      · have hfit := hf (ev_pos e1 (Ev.bind hc (ev_pos e (Ev.bind hn (ev_neg en (Ev.now _))))))
        refine hlaw hfit fun f0 b0 => ?_
        exact absurd (hH2 f0).1 en
    · refine Ev.bind (hf (ev_pos e1 (Ev.bind hc (ev_neg e (Ev.now (false, c)))))) (ev_neg e ?_)
      exact Ev.now _
  · refine Ev.bind (hf (ev_neg e1 (Ev.now (false, c1)))) (ev_neg e1 ?_)
    exact Ev.now _
end Go.Proofs.Ytehgapcmngdcnaa.MyPairFits
