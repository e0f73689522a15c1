/- The law ConformSound over numbers and lists: an aircraft in the radius of its track and within 100 feet of its height is in the tube if the track is inside, and not if it is outside. No condition beyond what the types give. -/
import Derived.Test.YtehgapcmngdcnaaInConformSound
import Derived.Test.YtehgapcmngdcnaaLConformSound
namespace Go.Proofs.Ytehgapcmngdcnaa.MyConformSound
open Go.RowKit Go.Proofs.Ytehgapcmngdcnaa.Opens Go.Proofs.Ytehgapcmngdcnaa.MConformSound Go.Proofs.YtehgapcmngdcnaaW.PrintWords Go.Proofs.YtehgapcmngdcnaaW.PrintLast Go.Proofs.YtehgapcmngdcnaaW.PrintMore Go.Proofs.Ytehgapcmngdcnaa.InConformSound Go.Proofs.Ytehgapcmngdcnaa.Base Go.Proofs.Ytehgapcmngdcnaa.LConformSound
set_option linter.unusedVariables false
def ln (r b : Int) : List S82 := [(⟨(⟨0, (⟨0, 0⟩ : S45), 5000⟩ : S80), r, b⟩ : S82), (⟨(⟨100, (⟨20000, 0⟩ : S45), 5000⟩ : S80), r, b⟩ : S82)]
theorem works1 : Ev (fun k => conform_Compare.f k 0 0 50 10000 0 0 0 5000 0 20 0 0 0 (ln 100 300)) (0, 0) := Ev.of (fun k => conform_Compare.mono _ _ _ _ _ _ _ _ _ _ _ _ _ _ k) (by decide +kernel : conform_Compare.f 12 0 0 50 10000 0 0 0 5000 0 20 0 0 0 (ln 100 300) = some (0, 0))
theorem works2 : Ev (fun k => conform_Compare.f k 0 0 50 10000 0 0 0 5000 0 20 0 0 0 (ln 1 300)) (1, 0) := Ev.of (fun k => conform_Compare.mono _ _ _ _ _ _ _ _ _ _ _ _ _ _ k) (by decide +kernel : conform_Compare.f 12 0 0 50 10000 0 0 0 5000 0 20 0 0 0 (ln 1 300) = some (1, 0))
structure OkT (t x y h r : Int) : Prop where
  x0 : -1000000 ≤ x
  x1 : x ≤ 1000000
  y0 : -1000000 ≤ y
  y1 : y ≤ 1000000
  h0 : 0 ≤ h
  h1 : h ≤ 60000
  r0 : 0 ≤ r
  r1 : r ≤ 4000000
theorem ex4 {p : Prop} [Decidable p] {x : Option Int} {Q : Prop} (h : ¬ p → ∃ c, x = some c ∧ (c = 0 → Q)) : ∃ c, (if p then some 4 else x) = some c ∧ (c = 0 → Q) := by
  by_cases c : p
  · rw [if_pos c]; exact ⟨4, rfl, fun h => absurd h (by decide)⟩
  · rw [if_neg c]; exact h c
theorem track_any (a0 a1 a2 a3 a4 a5 a6 a7 a8 a9 a10 a11 a12 : Int) : ∃ c, conform_checkTrack.f a0 a1 a2 a3 a4 a5 a6 a7 a8 a9 a10 a11 a12 = some c ∧ (c = 0 → OkT a2 a3 a4 a7 a9) := by
  unfold conform_checkTrack.f
  refine ex4 fun g1 => ex4 fun g2 => ex4 fun g3 => ex4 fun g4 => ex4 fun g5 => ex4 fun g6 => ex4 fun g7 => ex4 fun g8 => ex4 fun g9 => ex4 fun g10 => ⟨0, rfl, fun _ => ?_⟩
  constructor <;> omega
/-- What Compare answers: an error, or how the disks and the heights lie. -/
theorem compare_any (a0 a1 a2 a3 a4 a5 a6 a7 a8 a9 a10 a11 a12 : Int) (l : List S82) : ∃ (r : Int × Int) (n : Int × Int × Int × Int × Int × Int × Int), Ev (fun k => conform_Compare.f k a0 a1 a2 a3 a4 a5 a6 a7 a8 a9 a10 a11 a12 l) r ∧ Ev (fun k => tube_At.f k l a2) n ∧ (n.2.2.2.2.2.2 = 0 → Rng n) ∧ (r.2 ≠ 0 → r.1 = 0) ∧ (r.2 = 0 → OkT a2 a3 a4 a7 a9 ∧ n.2.2.2.2.2.2 = 0 ∧
    ((r.1 = 2 ∧ (sq n.2.1 n.2.2.1 a3 a4 > (n.2.2.2.2.1 + a9) * (n.2.2.2.2.1 + a9) ∨ n.2.2.2.1 - a7 > n.2.2.2.2.2.1 + 100 ∨ a7 - n.2.2.2.1 > n.2.2.2.2.2.1 + 100)) ∨ r.1 = 1 ∨
     (r.1 = 0 ∧ 0 ≤ n.2.2.2.2.1 - a9 ∧ sq n.2.1 n.2.2.1 a3 a4 ≤ (n.2.2.2.2.1 - a9) * (n.2.2.2.2.1 - a9) ∧ n.2.2.2.1 - a7 ≤ n.2.2.2.2.2.1 - 100 ∧ a7 - n.2.2.2.1 ≤ n.2.2.2.2.2.1 - 100))) := by
  obtain ⟨c1, hc1, hk⟩ := track_any a0 a1 a2 a3 a4 a5 a6 a7 a8 a9 a10 a11 a12
  obtain ⟨n, c, hc, hn, hnc, hr⟩ := At_any l a2
  by_cases e1 : c1 = 0
  · have hnode : Ev (fun k => conform_node.f k a0 a1 a2 a3 a4 a5 a6 a7 a8 a9 a10 a11 a12 l) n := Ev.congr (fun k => by rw [conform_node.f]) (ev_some hc1 (ev_pos e1 (Ev.bind hn (Ev.now n))))
    by_cases en : n.2.2.2.2.2.2 = 0
    · have K := hk e1
      have R := hr en
      have x0 := K.x0; have x1 := K.x1; have y0 := K.y0; have y1 := K.y1; have h0 := K.h0; have h1 := K.h1; have r0 := K.r0; have r1 := K.r1
      have rx0 := R.x0; have rx1 := R.x1; have ry0 := R.y0; have ry1 := R.y1; have rh0 := R.h0; have rh1 := R.h1; have rr0 := R.r0; have rr1 := R.r1; have rb0 := R.b0; have rb1 := R.b1
      have hsq : conform_square.f n.2.1 n.2.2.1 a3 a4 = some (sq n.2.1 n.2.2.1 a3 a4) := by
        unfold conform_square.f; rw [(sq_wrap (by omega)).1]
      have hreach := sqbd (v := n.2.2.2.2.1 + a9) (V := 8000000) (by omega) (by omega)
      have hnear := sqbd (v := n.2.2.2.2.1 - a9) (V := 8000000) (by omega) (by omega)
      have w1 : wrap64 (wrap64 (n.2.2.2.2.1 + a9) * wrap64 (n.2.2.2.2.1 + a9)) = (n.2.2.2.2.1 + a9) * (n.2.2.2.2.1 + a9) := by rw [w64 (n := n.2.2.2.2.1 + a9) (by omega) (by omega), w64 (by omega) (by omega)]
      have w2 : wrap64 (n.2.2.2.2.1 - a9) = n.2.2.2.2.1 - a9 := w64 (by omega) (by omega)
      have w3 : wrap64 ((n.2.2.2.2.1 - a9) * (n.2.2.2.2.1 - a9)) = (n.2.2.2.2.1 - a9) * (n.2.2.2.2.1 - a9) := w64 (by omega) (by omega)
      have w4 : wrap64 (n.2.2.2.2.2.1 + 100) = n.2.2.2.2.2.1 + 100 := w64 (by omega) (by omega)
      have w5 : wrap64 (n.2.2.2.2.2.1 - 100) = n.2.2.2.2.2.1 - 100 := w64 (by omega) (by omega)
      have m1 := mx_abs (a := n.2.2.2.1) (b := a7) (by omega) (by omega)
      let high := mx (wrap64 (n.2.2.2.1 - a7)) (wrap64 (a7 - n.2.2.2.1))
      let J : Nat → Bool → Option (Int × Int) := fun k b => conform_Compare.j0 k (sq n.2.1 n.2.2.1 a3 a4) high b a0 a1 a2 a3 a4 a5 a6 a7 a8 a9 a10 a11 a12 n.1 n.2.1 n.2.2.1 n.2.2.2.1 n.2.2.2.2.1 n.2.2.2.2.2.1
      have hgo : ∀ {r : Int × Int}, Ev (fun k => if sq n.2.1 n.2.2.1 a3 a4 > (n.2.2.2.2.1 + a9) * (n.2.2.2.2.1 + a9) then J k true else J k (decide (high > n.2.2.2.2.2.1 + 100))) r → Ev (fun k => conform_Compare.f k a0 a1 a2 a3 a4 a5 a6 a7 a8 a9 a10 a11 a12 l) r := by
        intro r hq
        refine Ev.congr (fun k => by rw [conform_Compare.f]) ?_
        refine Ev.bind hnode (ev_pos en (ev_some hsq ?_))
        rw [w1, w4]
        exact hq
      have hbad : ∀ b, b = true → Ev (fun k => J k b) (2, 0) := by
        rintro b rfl
        exact Ev.step (fun k => by show conform_Compare.j0 _ _ _ _ _ _ _ _ _ _ _ _ _ _ _ _ _ _ _ _ _ _ _ = _; rw [conform_Compare.j0]) (ev_pos rfl (Ev.now _))
      by_cases q1 : sq n.2.1 n.2.2.1 a3 a4 > (n.2.2.2.2.1 + a9) * (n.2.2.2.2.1 + a9)
      · exact ⟨(2, 0), n, hgo (ev_pos q1 (hbad _ rfl)), hn, hr, fun h => absurd rfl h, fun _ => ⟨K, en, Or.inl ⟨rfl, Or.inl q1⟩⟩⟩
      by_cases q2 : high > n.2.2.2.2.2.1 + 100
      · refine ⟨(2, 0), n, hgo (ev_neg q1 (ev_dt J q2 (hbad _ rfl))), hn, hr, fun h => absurd rfl h, fun _ => ⟨K, en, Or.inl ⟨rfl, Or.inr ?_⟩⟩⟩
        have := m1 (n.2.2.2.2.2.1 + 100)
        have q2' : ¬ (mx (wrap64 (n.2.2.2.1 - a7)) (wrap64 (a7 - n.2.2.2.1)) ≤ n.2.2.2.2.2.1 + 100) := by show ¬ (high ≤ _); omega
        rw [this] at q2'
        omega
      have hgo2 : ∀ {r : Int × Int}, Ev (fun k : Nat => if n.2.2.2.2.1 - a9 ≥ 0 then (if sq n.2.1 n.2.2.1 a3 a4 ≤ (n.2.2.2.2.1 - a9) * (n.2.2.2.2.1 - a9) then (if high ≤ n.2.2.2.2.2.1 - 100 then (some ((0 : Int), (0 : Int))) else (some (1, 0))) else (some (1, 0))) else (some (1, 0))) r → Ev (fun k => conform_Compare.f k a0 a1 a2 a3 a4 a5 a6 a7 a8 a9 a10 a11 a12 l) r := by
        intro r hq
        refine hgo (ev_neg q1 (ev_df J q2 ?_))
        refine Ev.step (fun k => by show conform_Compare.j0 _ _ _ _ _ _ _ _ _ _ _ _ _ _ _ _ _ _ _ _ _ _ _ = _; rw [conform_Compare.j0]) (ev_neg (by decide) ?_)
        rw [w2, w3, w5]
        exact hq
      by_cases q3 : n.2.2.2.2.1 - a9 ≥ 0
      · by_cases q4 : sq n.2.1 n.2.2.1 a3 a4 ≤ (n.2.2.2.2.1 - a9) * (n.2.2.2.2.1 - a9)
        · by_cases q5 : high ≤ n.2.2.2.2.2.1 - 100
          · have := (m1 (n.2.2.2.2.2.1 - 100)).mp q5
            exact ⟨(0, 0), n, hgo2 (ev_pos q3 (ev_pos q4 (ev_pos q5 (Ev.now _)))), hn, hr, fun h => absurd rfl h, fun _ => ⟨K, en, Or.inr (Or.inr ⟨rfl, q3, q4, this⟩)⟩⟩
          · exact ⟨(1, 0), n, hgo2 (ev_pos q3 (ev_pos q4 (ev_neg q5 (Ev.now _)))), hn, hr, fun h => absurd rfl h, fun _ => ⟨K, en, Or.inr (Or.inl rfl)⟩⟩
        · exact ⟨(1, 0), n, hgo2 (ev_pos q3 (ev_neg q4 (Ev.now _))), hn, hr, fun h => absurd rfl h, fun _ => ⟨K, en, Or.inr (Or.inl rfl)⟩⟩
      · exact ⟨(1, 0), n, hgo2 (ev_neg q3 (Ev.now _)), hn, hr, fun h => absurd rfl h, fun _ => ⟨K, en, Or.inr (Or.inl rfl)⟩⟩
    · exact ⟨(0, n.2.2.2.2.2.2), n, Ev.congr (fun k => by rw [conform_Compare.f]) (Ev.bind hnode (ev_neg en (Ev.now _))), hn, hr, fun _ => rfl, fun h => absurd h en⟩
  · refine ⟨(0, c1), n, ?_, hn, hr, fun _ => rfl, fun h => absurd h e1⟩
    have hnode : Ev (fun k => conform_node.f k a0 a1 a2 a3 a4 a5 a6 a7 a8 a9 a10 a11 a12 l) (0, 0, 0, 0, 0, 0, c1) := Ev.congr (fun k => by rw [conform_node.f]) (ev_some hc1 (ev_neg e1 (Ev.now _)))
    exact Ev.congr (fun k => by rw [conform_Compare.f]) (Ev.bind hnode (ev_neg e1 (Ev.now _)))
theorem proved : Pure := by
  intro a0 a1 a2 a3 a4 a5 a6 a7 a8 a9 a10 a11 a12 l px py high _ _ _ _ _ _ _ _ _ _ _ _ _ _ _ _ _ _
  refine Ev.rounds (r := true) ?_
  refine Ev.congr (fun k => by rw [skywaykeep2_ConformSound.f]) ?_
  refine ev_some (a := ln 100 300) rfl ?_
  refine Ev.bind works1 (ev_pos rfl ?_)
  refine Ev.step (fun k => by rw [skywaykeep2_ConformSound.j0]) (ev_neg (by decide) ?_)
  refine ev_some (a := ln 1 300) rfl ?_
  refine Ev.bind works2 (ev_pos rfl ?_)
  refine Ev.step (fun k => by rw [skywaykeep2_ConformSound.j1]) (ev_neg (by decide) ?_)
  obtain ⟨⟨m, e⟩, n, hC, hn, hr, hC0, hC1⟩ := compare_any a0 a1 a2 a3 a4 a5 a6 a7 a8 a9 a10 a11 a12 l
  obtain ⟨w, hw, w0, w1⟩ := within_in high (-100) 100 (by omega) (by omega) (by omega)
  refine Ev.bind hC ?_
  by_cases e0 : e = 0
  · obtain ⟨K, en, hm⟩ := hC1 e0
    have R := hr en
    have x0 := K.x0; have x1 := K.x1; have y0 := K.y0; have y1 := K.y1; have h0 := K.h0; have h1 := K.h1; have r0 := K.r0; have r1 := K.r1
    have rx0 := R.x0; have rx1 := R.x1; have ry0 := R.y0; have ry1 := R.y1; have rh0 := R.h0; have rh1 := R.h1; have rr0 := R.r0; have rr1 := R.r1; have rb0 := R.b0; have rb1 := R.b1
    have hrad := sqbd (v := a9) (V := 4000000) (by omega) (by omega)
    have hwr : wrap64 (a7 + w) = a7 + w := w64 (by omega) (by omega)
    obtain ⟨⟨b, f⟩, hH, hH2⟩ := has_ev (l := l) (t := a2) (px := px) (py := py) (h := a7 + w) hn hr
    refine ev_pos e0 ?_
    obtain ⟨s, hs, hs2⟩ : ∃ s, skywaykeep2_square.f px py a3 a4 = some s ∧ ((-1000000 ≤ px ∧ px ≤ 1000000 ∧ -1000000 ≤ py ∧ py ≤ 1000000) → s = sq px py a3 a4) := by
      refine ⟨_, rfl, fun h => ?_⟩
      have := keep_square (ax := px) (ay := py) (bx := a3) (by_ := a4) (by omega)
      exact Option.some.inj this
    refine ev_some hs ?_
    rw [w64 (n := a9 * a9) (by omega) (by omega)]
    by_cases q : s > a9 * a9
    · refine ev_dt (fun k g => skywaykeep2_ConformSound.j2 k l high m e g a0 a1 a2 a3 a4 a5 a6 a7 a8 a9 a10 a11 a12 px py) q ?_
      refine Ev.step (fun k => by rw [skywaykeep2_ConformSound.j2]) (ev_pos rfl (ev_pos e0 (Ev.now _)))
    · refine ev_df (fun k g => skywaykeep2_ConformSound.j2 k l high m e g a0 a1 a2 a3 a4 a5 a6 a7 a8 a9 a10 a11 a12 px py) q ?_
      refine Ev.step (fun k => by rw [skywaykeep2_ConformSound.j2]) (ev_neg (by decide) (ev_some hw ?_))
      rw [hwr]
      refine Ev.bind hH ?_
      by_cases f0 : f = 0
      · obtain ⟨_, hp, hh, hb⟩ := hH2 f0
        have hse := hs2 hp
        have hb : b = true ↔ sq n.2.1 n.2.2.1 px py ≤ n.2.2.2.2.1 * n.2.2.2.2.1 ∧ a7 + w - n.2.2.2.1 ≤ n.2.2.2.2.2.1 ∧ n.2.2.2.1 - (a7 + w) ≤ n.2.2.2.2.2.1 := hb
        refine ev_pos f0 ?_
        rcases hm with ⟨hm2, hfar⟩ | hm1 | ⟨hm0, hnear, hsm, hh1, hh2⟩
        · have hm2 : m = 2 := hm2
          subst hm2
          refine ev_neg (by decide) (ev_eq (Ev.now _) ?_)
          have hbf : b = false := by
            cases hbb : b
            · rfl
            · exfalso
              have hin := hb.mp hbb
              rcases hfar with hfar | hfar
              · have ht := tri (x := n.2.1 - px) (y := n.2.2.1 - py) (u := px - a3) (v := py - a4) rr0 r0 hin.1 (by unfold sq at hse; omega)
                rw [show n.2.1 - px + (px - a3) = n.2.1 - a3 by omega, show n.2.2.1 - py + (py - a4) = n.2.2.1 - a4 by omega] at ht
                unfold sq at hfar
                omega
              · omega
          subst hbf; rfl
        · have hm1 : m = 1 := hm1
          exact ev_pos hm1 (Ev.now _)
        · have hm0 : m = 0 := hm0
          subst hm0
          refine ev_neg (by decide) (ev_eq (Ev.now _) ?_)
          have hbt : b = true := by
            rw [hb]
            have ht := tri (x := n.2.1 - a3) (y := n.2.2.1 - a4) (u := a3 - px) (v := a4 - py) (A := n.2.2.2.2.1 - a9) (B := a9) hnear r0 hsm (by
              have e1 : (a3 - px) * (a3 - px) = (px - a3) * (px - a3) := by rw [← Int.neg_mul_neg]; congr 1 <;> omega
              have e2 : (a4 - py) * (a4 - py) = (py - a4) * (py - a4) := by rw [← Int.neg_mul_neg]; congr 1 <;> omega
              rw [e1, e2]
              unfold sq at hse; omega)
            rw [show n.2.1 - a3 + (a3 - px) = n.2.1 - px by omega, show n.2.2.1 - a4 + (a4 - py) = n.2.2.1 - py by omega, show n.2.2.2.2.1 - a9 + a9 = n.2.2.2.2.1 by omega] at ht
            exact ⟨ht, by omega, by omega⟩
          subst hbt; rfl
      · exact ev_neg f0 (Ev.now _)
  · have hm : m = 0 := hC0 e0
    refine ev_neg e0 ?_
    refine Ev.step (fun k => by rw [skywaykeep2_ConformSound.j2]) (ev_pos rfl (ev_neg e0 (ev_eq (Ev.now _) ?_)))
    subst hm; rfl
end Go.Proofs.Ytehgapcmngdcnaa.MyConformSound
