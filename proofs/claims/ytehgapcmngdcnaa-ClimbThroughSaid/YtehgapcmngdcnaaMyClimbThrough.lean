/- The law ClimbThrough over numbers and lists: no height before the result of Through can have reached the level. No condition beyond what the types give. -/
import Derived.Test.YtehgapcmngdcnaaInClimbThrough
import Derived.Test.YtehgapcmngdcnaaLClimbThrough
namespace Go.Proofs.Ytehgapcmngdcnaa.MyClimbThrough
open Go.RowKit Go.Proofs.Ytehgapcmngdcnaa.Opens Go.Proofs.Ytehgapcmngdcnaa.MClimbThrough Go.Proofs.YtehgapcmngdcnaaW.PrintWords Go.Proofs.YtehgapcmngdcnaaW.PrintLast Go.Proofs.YtehgapcmngdcnaaW.PrintMore Go.Proofs.Ytehgapcmngdcnaa.InClimbThrough Go.Proofs.Ytehgapcmngdcnaa.Base Go.Proofs.Ytehgapcmngdcnaa.LClimbThrough
set_option linter.unusedVariables false
theorem mul2 {v n V M : Int} (h0 : -V ≤ v) (h1 : v ≤ V) (n0 : -M ≤ n) (n1 : n ≤ M) (hV : 0 ≤ V) : -(V * M) ≤ v * n ∧ v * n ≤ V * M := by
  by_cases h : 0 ≤ n
  · exact mulbd h0 h1 h n1 hV
  · have := mulbd (v := -v) (n := -n) (V := V) (N := M) (by omega) (by omega) (by omega) (by omega) hV
    rw [Int.neg_mul_neg] at this
    exact this
theorem rate_in (l : List Rep) : ∀ i, -3200 ≤ (rate l i).1 ∧ (rate l i).2 ≤ 3200
  | 0 => ⟨by unfold rate; decide, by unfold rate; decide⟩
  | i + 1 => by
    have h1 := rate_in l i
    have h2 := inner_in l (at_ l i) (rate l i) i
    have e : rate l (i + 1) = inner l (at_ l i) i (rate l i) := rfl
    rw [e]
    omega
theorem heights_loop {l : List Rep} (h : Valid l) {t lo hi : Int} (t0 : 0 ≤ t) (t1 : t ≤ 200000) (l0 : -3200 ≤ lo) (l1 : lo ≤ 3200) (h0 : -3200 ≤ hi) (h1 : hi ≤ 3200) : ∀ (d i : Nat), i + d = l.length → ∀ x y : Int, ∃ H, Ev (fun k => climb_Heights.l0 k t lo hi x y l (l.length : Int) (i : Int)) H
  | 0, i, hi_, x, y => by
    by_cases c : x > y
    · exact ⟨(0, 0, 8), Ev.step (fun k => by rw [climb_Heights.l0]) (ev_neg (by omega) (ev_pos c (Ev.now _)))⟩
    · exact ⟨(x, y, 0), Ev.step (fun k => by rw [climb_Heights.l0]) (ev_neg (by omega) (ev_neg c (Ev.now _)))⟩
  | d + 1, i, hi_, x, y => by
    have hl := h.1
    have hw : wrap64 ((i : Int) + 1) = ((i + 1 : Nat) : Int) := by rw [w64 (by omega) (by omega)]; omega
    obtain ⟨a1, a2, a3, a4, _⟩ := h.2 i (by omega)
    have wd : wrap64 (t - (at_ l i).f0) = t - (at_ l i).f0 := w64 (by omega) (by omega)
    have m1 := mul2 (v := lo) (n := t - (at_ l i).f0) (V := 3200) (M := 200000) l0 l1 (by omega) (by omega) (by omega)
    have m2 := mul2 (v := hi) (n := t - (at_ l i).f0) (V := 3200) (M := 200000) h0 h1 (by omega) (by omega) (by omega)
    have w1 : wrap64 (lo * (t - (at_ l i).f0)) = lo * (t - (at_ l i).f0) := w64 (by omega) (by omega)
    have w2 : wrap64 (hi * (t - (at_ l i).f0)) = hi * (t - (at_ l i).f0) := w64 (by omega) (by omega)
    by_cases c : t - (at_ l i).f0 < 0
    · obtain ⟨H, hH⟩ := heights_loop h t0 t1 l0 l1 h0 h1 d (i + 1) (by omega) (mx x (wrap64 ((wrap64 (100 * (at_ l i).f1)) + (hi * (t - (at_ l i).f0)) / 16))) (mn y (wrap64 ((wrap64 ((wrap64 ((wrap64 (100 * (at_ l i).f1)) + 100)) - 1)) + cdiv (lo * (t - (at_ l i).f0)) 16)))
      refine ⟨H, Ev.step (fun k => by rw [climb_Heights.l0]) ?_⟩
      refine ev_pos (by omega) (ev_pos (by omega) (ev_pos (by omega) ?_))
      simp only [rd_at]
      rw [wd, w1, w2, hw]
      refine ev_pos c ?_
      refine Ev.bind (ddown (by omega) (by omega) (by omega)) ?_
      refine Ev.bind (dup (by omega) (by omega) (by omega)) ?_
      exact hH
    · obtain ⟨H, hH⟩ := heights_loop h t0 t1 l0 l1 h0 h1 d (i + 1) (by omega) (mx x (wrap64 ((wrap64 (100 * (at_ l i).f1)) + (lo * (t - (at_ l i).f0)) / 16))) (mn y (wrap64 ((wrap64 ((wrap64 ((wrap64 (100 * (at_ l i).f1)) + 100)) - 1)) + cdiv (hi * (t - (at_ l i).f0)) 16)))
      refine ⟨H, Ev.step (fun k => by rw [climb_Heights.l0]) ?_⟩
      refine ev_pos (by omega) (ev_pos (by omega) (ev_pos (by omega) ?_))
      simp only [rd_at]
      rw [wd, w1, w2, hw]
      refine ev_neg c ?_
      refine Ev.bind (ddown (by omega) (by omega) (by omega)) ?_
      refine Ev.bind (dup (by omega) (by omega) (by omega)) ?_
      exact hH
theorem heights_any {l : List Rep} (h : Valid l) {t : Int} (t0 : 0 ≤ t) (t1 : t ≤ 200000) : ∃ H, Ev (fun k => climb_Heights.f k l t) H := by
  have hr := rate_in l l.length
  by_cases c : (rate l l.length).1 > (rate l l.length).2
  · have e : fin (rate l l.length) = (0, 0, 8) := by unfold fin; rw [if_pos c]
    have hR := rates_ok h
    rw [e] at hR
    refine ⟨(0, 0, 8), ?_⟩
    refine Ev.congr (fun k => by rw [climb_Heights.f]) ?_
    refine Ev.bind hR ?_
    refine ev_neg (show ¬ (8 : Int) = 0 by decide) ?_
    exact Ev.now _
  · have e : fin (rate l l.length) = ((rate l l.length).1, (rate l l.length).2, 0) := by unfold fin; rw [if_neg c]
    have hR := rates_ok h
    rw [e] at hR
    obtain ⟨H, hH⟩ := heights_loop h t0 t1 hr.1 (by omega) (by omega) hr.2 l.length 0 (by omega) 0 60000
    refine ⟨H, ?_⟩
    refine Ev.congr (fun k => by rw [climb_Heights.f]) ?_
    refine Ev.bind hR ?_
    refine ev_pos rfl ?_
    refine ev_neg (show ¬ t < 0 by omega) ?_
    refine ev_df (fun k b => climb_Heights.j0 k l t (rate l l.length).1 (rate l l.length).2 b) (by omega) ?_
    refine Ev.step (fun k => by rw [climb_Heights.j0]) (ev_neg (by decide) ?_)
    exact hH
theorem heights_bad {l : List Rep} (h : ¬ Valid l) (t : Int) : ∃ H, Ev (fun k => climb_Heights.f k l t) H ∧ H.2.2 ≠ 0 := by
  obtain ⟨r, h0, hR⟩ := rates_bad h
  exact ⟨(0, 0, r), Ev.congr (fun k => by rw [climb_Heights.f]) (Ev.bind hR (ev_neg h0 (Ev.now _))), h0⟩
def bad (up : Bool) (level : Int) (H : Int × Int × Int) : Prop := H.2.2 = 0 ∧ ((up = true ∧ H.2.1 ≥ 100 * level) ∨ (up = false ∧ H.1 < 100 * level + 100))
theorem through_loop {l : List Rep} {level frm wait : Int} {up : Bool} (H : Int → Int × Int × Int) (hH : ∀ t, 0 ≤ t → t ≤ 200000 → Ev (fun k => climb_Heights.f k l t) (H t)) (v0 : 0 ≤ level) (v1 : level ≤ 600) (f0 : 0 ≤ frm) (f1 : frm ≤ 200000) (w0 : 0 ≤ wait) (w1 : wait ≤ 600) :
    ∀ (d : Nat) (t : Int), t + d = mn (frm + wait) 200000 + 1 → 0 ≤ t → ∃ r, Ev (fun k => climb_Through.l0 k l level frm wait up t) r ∧ ((r.2 = 0 ∧ t ≤ r.1 ∧ r.1 ≤ mn (frm + wait) 200000 ∧ ∀ s, t ≤ s → s < r.1 → ¬ bad up level (H s)) ∨ (r = (0, 8) ∧ ∀ s, t ≤ s → s ≤ mn (frm + wait) 200000 → ¬ bad up level (H s)))
  | 0, t, ht, t0 => by
    have hw : wrap64 (frm + wait) = frm + wait := w64 (by omega) (by omega)
    refine ⟨(0, 8), Ev.step (fun k => by rw [climb_Through.l0]) ?_, Or.inr ⟨rfl, fun s a b => by omega⟩⟩
    rw [hw]
    exact ev_neg (by omega) (Ev.now _)
  | d + 1, t, ht, t0 => by
    have hw : wrap64 (frm + wait) = frm + wait := w64 (by omega) (by omega)
    have hm : mn (frm + wait) 200000 ≤ 200000 := by unfold mn; split <;> omega
    have hwt : wrap64 (t + 1) = t + 1 := w64 (by omega) (by omega)
    have hw1 : wrap64 (100 * level) = 100 * level := w64 (by omega) (by omega)
    have hw2 : wrap64 (100 * level + 100) = 100 * level + 100 := w64 (by omega) (by omega)
    have hgo : ∀ {r : Int × Int}, Ev (fun k => if (H t).2.2 = 0 then (if up = true then (if (H t).2.1 ≥ 100 * level then (some (t, 0)) else (climb_Through.l0 k l level frm wait up (t + 1))) else (if (H t).1 < 100 * level + 100 then (some (t, 0)) else (climb_Through.l0 k l level frm wait up (t + 1)))) else (climb_Through.l0 k l level frm wait up (t + 1))) r → Ev (fun k => climb_Through.l0 k l level frm wait up t) r := by
      intro r hq
      refine Ev.step (fun k => by rw [climb_Through.l0]) ?_
      rw [hw, hwt, hw1, hw2]
      exact ev_pos (by omega) (Ev.bind (hH t t0 (by omega)) hq)
    obtain ⟨r, hr, hd⟩ := through_loop H hH v0 v1 f0 f1 w0 w1 d (t + 1) (by omega) (by omega)
    have hnext : ¬ bad up level (H t) → ((r.2 = 0 ∧ t ≤ r.1 ∧ r.1 ≤ mn (frm + wait) 200000 ∧ ∀ s, t ≤ s → s < r.1 → ¬ bad up level (H s)) ∨ (r = (0, 8) ∧ ∀ s, t ≤ s → s ≤ mn (frm + wait) 200000 → ¬ bad up level (H s))) := by
      intro hb
      rcases hd with ⟨a, a', b, c⟩ | ⟨a, c⟩
      · refine Or.inl ⟨a, by omega, b, fun s s1 s2 => ?_⟩
        by_cases e : s = t
        · rw [e]; exact hb
        · exact c s (by omega) s2
      · refine Or.inr ⟨a, fun s s1 s2 => ?_⟩
        by_cases e : s = t
        · rw [e]; exact hb
        · exact c s (by omega) s2
    by_cases e : (H t).2.2 = 0
    · cases hu : up
      · by_cases q : (H t).1 < 100 * level + 100
        · exact ⟨(t, 0), by rw [← hu]; exact hgo (ev_pos e (ev_neg (by rw [hu]; decide) (ev_pos q (Ev.now _)))), Or.inl ⟨rfl, Int.le_refl _, by show t ≤ _; omega, fun s a b => by have b : s < t := b; omega⟩⟩
        · rw [← hu]
          exact ⟨r, hgo (ev_pos e (ev_neg (by rw [hu]; decide) (ev_neg q hr))), hnext (by rintro ⟨_, ⟨h, _⟩ | ⟨_, h⟩⟩; (rw [hu] at h; exact absurd h (by decide)); exact q h)⟩
      · by_cases q : (H t).2.1 ≥ 100 * level
        · exact ⟨(t, 0), by rw [← hu]; exact hgo (ev_pos e (ev_pos hu (ev_pos q (Ev.now _)))), Or.inl ⟨rfl, Int.le_refl _, by show t ≤ _; omega, fun s a b => by have b : s < t := b; omega⟩⟩
        · rw [← hu]
          exact ⟨r, hgo (ev_pos e (ev_pos hu (ev_neg q hr))), hnext (by rintro ⟨_, ⟨_, h⟩ | ⟨h, _⟩⟩; exact q h; (rw [hu] at h; exact absurd h (by decide)))⟩
    · exact ⟨r, hgo (ev_neg e hr), hnext fun h => e h.1⟩
theorem law_loop {l : List Rep} (hl : l.length ≤ 64) (hn : 0 < l.length) {level en : Int} {up : Bool} (H : Int → Int × Int × Int) (hH : ∀ t, 0 ≤ t → t ≤ 200000 → Ev (fun k => climb_Heights.f k l t) (H t)) (v0 : 0 ≤ level) (v1 : level ≤ 600) (hup : up = true ↔ level ≥ (at_ l (l.length - 1)).f1)  :
    ∀ (d : Nat) (t : Int), t + d = 200001 → 0 ≤ t → (∀ s, t ≤ s → s ≤ en → s ≤ 200000 → ¬ bad up level (H s)) → Ev (fun k => skywaykeep2_ClimbThrough.l0 k l level en t) true
  | 0, t, ht, t0, hb => by
    refine Ev.step (fun k => by rw [skywaykeep2_ClimbThrough.l0]) ?_
    have hj : Ev (fun k => skywaykeep2_ClimbThrough.j4 k l level en t false) true := Ev.step (fun k => by rw [skywaykeep2_ClimbThrough.j4]) (ev_neg (by decide) (Ev.now _))
    by_cases c : t ≤ en
    · exact ev_pos c (ev_df (fun k b => skywaykeep2_ClimbThrough.j4 k l level en t b) (by omega) hj)
    · exact ev_neg c hj
  | d + 1, t, ht, t0, hb => by
    have hj : Ev (fun k => skywaykeep2_ClimbThrough.j4 k l level en t false) true := Ev.step (fun k => by rw [skywaykeep2_ClimbThrough.j4]) (ev_neg (by decide) (Ev.now _))
    refine Ev.step (fun k => by rw [skywaykeep2_ClimbThrough.l0]) ?_
    by_cases c : t ≤ en
    · refine ev_pos c (ev_dt (fun k b => skywaykeep2_ClimbThrough.j4 k l level en t b) (show t ≤ 200000 by omega) ?_)
      have hn_ : ¬ bad up level (H t) := hb t (by omega) c (by omega)
      have ih := law_loop hl hn H hH v0 v1 hup d (t + 1) (by omega) (by omega) (fun s a b e => hb s (by omega) b e)
      have hw : wrap64 ((l.length : Int) - 1) = ((l.length - 1 : Nat) : Int) := by rw [w64 (by omega) (by omega)]; omega
      have hwt : wrap64 (t + 1) = t + 1 := w64 (by omega) (by omega)
      have hw1 : wrap64 (100 * level) = 100 * level := w64 (by omega) (by omega)
      have hw2 : wrap64 (100 * level + 100) = 100 * level + 100 := w64 (by omega) (by omega)
      refine Ev.step (fun k => by rw [skywaykeep2_ClimbThrough.j4]) (ev_pos rfl (Ev.bind (hH t t0 (by omega)) ?_))
      rw [hw, hwt, hw1, hw2]
      simp only [rd_at]
      refine ev_pos (by omega) (ev_pos (by omega) ?_)
      by_cases e : (H t).2.2 = 0
      · refine ev_pos e ?_
        by_cases u : level ≥ (at_ l (l.length - 1)).f1
        · have hu := hup.mpr u
          refine ev_pos u (ev_neg (fun h => hn_ ⟨e, Or.inl ⟨hu, h⟩⟩) (ev_pos u ih))
        · have hu : up = false := by
            cases hq : up
            · rfl
            · exact absurd (hup.mp hq) u
          refine ev_neg u (ev_neg u (ev_neg (fun h => hn_ ⟨e, Or.inr ⟨hu, h⟩⟩) ih))
      · exact ev_neg e ih
    · exact ev_neg c hj
theorem chk_not8 (l : List Rep) : ∀ (k : Nat) (i : Int), climb_Check.l0 k l l (l.length : Int) i ≠ some 8 ∧ ∀ f a b, climb_Check.j1 k l i l (l.length : Int) i f a b ≠ some 8
  | 0, i => ⟨(by rw [climb_Check.l0]; intro h; cases h), fun f a b => (by rw [climb_Check.j1]; intro h; cases h)⟩
  | k + 1, i => by
    have ih := fun j => chk_not8 l k j
    refine ⟨?_, fun f a b => ?_⟩
    · rw [climb_Check.l0]
      repeat' split
      all_goals first | exact (ih _).2 _ _ _ | (intro h; cases h)
    · rw [climb_Check.j1]
      repeat' split
      all_goals first | exact (ih _).1 | (intro h; cases h)
theorem check_not8 (l : List Rep) {c : Int} (h : Ev (fun k => climb_Check.f k l) c) (e : c = 8) : False := by
  obtain ⟨K, hK⟩ := h
  have := hK K (Nat.le_refl _)
  subst e
  simp only [climb_Check.f] at this
  split at this
  · cases this
  · exact (chk_not8 l K 0).1 this
theorem works : Ev (fun k => climb_Through.f k [(⟨0, 10⟩ : S31), (⟨100, 20⟩ : S31)] 30 100 600) (182, 0) := Ev.of (fun k => climb_Through.mono _ _ _ _ k) (by decide +kernel : climb_Through.f 100 [(⟨0, 10⟩ : S31), (⟨100, 20⟩ : S31)] 30 100 600 = some (182, 0))
theorem proved : Pure := by
  intro l level frm wt hl _ hlev hfrm hwt
  unfold I64 at hlev hfrm hwt
  refine Ev.rounds (r := true) ?_
  refine Ev.congr (fun k => by rw [skywaykeep2_ClimbThrough.f]) ?_
  refine Ev.bind works (ev_pos rfl ?_)
  refine ev_df (fun k b => skywaykeep2_ClimbThrough.j0 k l level frm wt b) (by decide) ?_
  refine Ev.step (fun k => by rw [skywaykeep2_ClimbThrough.j0]) (ev_neg (by decide) ?_)
  obtain ⟨wait, hw, w0, w1⟩ := within_in wt 0 100 (by omega) (by omega) (by omega)
  refine ev_some hw ?_
  have hend : ∀ e : Int, Ev (fun k => skywaykeep2_ClimbThrough.j1 k l level frm wait 0 e true) true := by
    intro e
    refine Ev.step (fun k => by rw [skywaykeep2_ClimbThrough.j1]) ?_
    refine ev_pos rfl ?_
    exact Ev.now _
  obtain ⟨c, hc, hok⟩ := check_any l
  by_cases hv : Valid l
  · have hc0 := check_ok hv
    have hlen := hv.1
    have hj : Ev (fun k => climb_Through.j0 k l level frm wait true) (0, 4) := Ev.step (fun k => by rw [climb_Through.j0]) (ev_pos rfl (Ev.now _))
    have hrange : ∀ {T : Int × Int}, Ev (fun k => climb_Through.f k l level frm wait) T → T = (0, 4) → Ev (fun n => (climb_Through.f n l level frm wait).bind fun bt143 => if bt143.2 = 0 then skywaykeep2_ClimbThrough.j1 n l level frm wait bt143.1 bt143.2 ((l.length : Int) == 0) else if bt143.2 = 8 then skywaykeep2_ClimbThrough.j1 n l level frm wait bt143.1 bt143.2 ((l.length : Int) == 0) else skywaykeep2_ClimbThrough.j1 n l level frm wait bt143.1 bt143.2 true) true := by
      rintro T hT rfl
      refine Ev.bind hT ?_
      refine ev_neg (show ¬ (4 : Int) = 0 by decide) ?_
      refine ev_neg (show ¬ (4 : Int) = 8 by decide) ?_
      exact hend 4
    by_cases g1 : level < 0
    · refine hrange (T := (0, 4)) ?_ rfl
      exact Ev.congr (fun k => by rw [climb_Through.f]) (Ev.bind hc0 (ev_pos rfl (ev_pos g1 hj)))
    by_cases g2 : level > 600
    · refine hrange (T := (0, 4)) ?_ rfl
      exact Ev.congr (fun k => by rw [climb_Through.f]) (Ev.bind hc0 (ev_pos rfl (ev_neg g1 (ev_pos g2 hj))))
    by_cases g3 : frm < 0
    · refine hrange (T := (0, 4)) ?_ rfl
      exact Ev.congr (fun k => by rw [climb_Through.f]) (Ev.bind hc0 (ev_pos rfl (ev_neg g1 (ev_neg g2 (ev_pos g3 hj)))))
    by_cases g4 : frm > 200000
    · refine hrange (T := (0, 4)) ?_ rfl
      exact Ev.congr (fun k => by rw [climb_Through.f]) (Ev.bind hc0 (ev_pos rfl (ev_neg g1 (ev_neg g2 (ev_neg g3 (ev_pos g4 hj))))))
    have hgo : ∀ {T : Int × Int}, Ev (fun k => climb_Through.j0 k l level frm wait false) T → Ev (fun k => climb_Through.f k l level frm wait) T := by
      intro T hT
      refine Ev.congr (fun k => by rw [climb_Through.f]) (Ev.bind hc0 (ev_pos rfl (ev_neg g1 (ev_neg g2 (ev_neg g3 (ev_neg g4 (ev_neg (show ¬ wait < 0 by omega) ?_)))))))
      exact ev_df (fun k b => climb_Through.j0 k l level frm wait b) (by omega) hT
    by_cases z : l.length = 0
    · have hT : Ev (fun k => climb_Through.f k l level frm wait) (0, 8) := hgo (Ev.step (fun k => by rw [climb_Through.j0]) (ev_neg (by decide) (ev_pos (by omega) (Ev.now _))))
      refine Ev.bind hT ?_
      refine ev_neg (show ¬ (8 : Int) = 0 by decide) ?_
      refine ev_pos rfl ?_
      rw [show ((l.length : Int) == 0) = true by rw [beq_iff_eq]; omega]
      exact hend 8
    · have hwl : wrap64 ((l.length : Int) - 1) = ((l.length - 1 : Nat) : Int) := by rw [w64 (by omega) (by omega)]; omega
      have hex : ∀ t : Int, ∃ H, 0 ≤ t → t ≤ 200000 → Ev (fun k => climb_Heights.f k l t) H := by
        intro t
        by_cases q : 0 ≤ t ∧ t ≤ 200000
        · obtain ⟨H, hH⟩ := heights_any hv q.1 q.2
          exact ⟨H, fun _ _ => hH⟩
        · exact ⟨(0, 0, 0), fun a b => absurd ⟨a, b⟩ q⟩
      let H : Int → Int × Int × Int := fun t => Classical.choose (hex t)
      have hH : ∀ t, 0 ≤ t → t ≤ 200000 → Ev (fun k => climb_Heights.f k l t) (H t) := fun t => Classical.choose_spec (hex t)
      have hm : mn (frm + wait) 200000 ≤ 200000 ∧ mn (frm + wait) 200000 ≤ frm + wait ∧ (mn (frm + wait) 200000 = frm + wait ∨ mn (frm + wait) 200000 = 200000) ∧ frm ≤ mn (frm + wait) 200000 := by unfold mn; split <;> omega
      obtain ⟨T, hT, hd⟩ := through_loop (l := l) (level := level) (frm := frm) (wait := wait) (up := decide (level ≥ (at_ l (l.length - 1)).f1)) H hH (by omega) (by omega) (by omega) (by omega) (by omega) (by omega) (mn (frm + wait) 200000 + 1 - frm).toNat frm (by omega) (by omega)
      have hTf : Ev (fun k => climb_Through.f k l level frm wait) T := by
        refine hgo ?_
        refine Ev.step (fun k => by rw [climb_Through.j0]) (ev_neg (by decide) (ev_neg (by omega) ?_))
        rw [hwl]
        simp only [rd_at]
        refine ev_pos (by omega) (ev_pos (by omega) ?_)
        refine Ev.step (fun k => by rw [climb_Through.j1]) ?_
        exact hT
      have hlaw : ∀ en : Int, (∀ s, frm ≤ s → s ≤ en → s ≤ 200000 → ¬ bad (decide (level ≥ (at_ l (l.length - 1)).f1)) level (H s)) → Ev (fun k => skywaykeep2_ClimbThrough.j2 k l level frm en) true := by
        intro en hb
        refine Ev.step (fun k => by rw [skywaykeep2_ClimbThrough.j2]) ?_
        exact law_loop (by omega) (by omega) H hH (by omega) (by omega) (by rw [decide_eq_true_iff]) (200001 - frm).toNat frm (by omega) (by omega) hb
      have hne : ((l.length : Int) == 0) = false := by rw [beq_eq_false_iff_ne]; omega
      refine Ev.bind hTf ?_
      rw [hne]
      rcases hd with ⟨a, a', b, hb⟩ | ⟨rfl, hb⟩
      · refine ev_pos a ?_
        refine Ev.step (fun k => by rw [skywaykeep2_ClimbThrough.j1]) (ev_neg (by decide) (ev_pos a ?_))
        rw [w64 (n := T.1 - 1) (by omega) (by omega)]
        exact hlaw _ fun s s1 s2 s3 => hb s s1 (by omega)
      · refine ev_neg (show ¬ (8 : Int) = 0 by decide) ?_
        refine ev_pos rfl ?_
        refine Ev.step (fun k => by rw [skywaykeep2_ClimbThrough.j1]) (ev_neg (by decide) (ev_neg (show ¬ (8 : Int) = 0 by decide) ?_))
        rw [w64 (n := frm + wait) (by omega) (by omega)]
        exact hlaw _ fun s s1 s2 s3 => hb s s1 (by omega)
  · have c0 : c ≠ 0 := fun h => hv (hok.mp h)
    have hT : Ev (fun k => climb_Through.f k l level frm wait) (0, c) := Ev.congr (fun k => by rw [climb_Through.f]) (Ev.bind hc (ev_neg c0 (Ev.now _)))
    refine Ev.bind hT ?_
    refine ev_neg c0 ?_
    by_cases c8 : c = 8
    · exfalso
      exact check_not8 l hc c8
    · exact ev_neg c8 (hend c)
end Go.Proofs.Ytehgapcmngdcnaa.MyClimbThrough
