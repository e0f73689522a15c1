/- What functions that ConformSound reaches compute, over numbers and lists. Their conditions stand in each lemma. -/
import Derived.Test.YtehgapcmngdcnaaMConformSoundx0
import Derived.Test.YtehgapcmngdcnaaMConformSoundx1
import Derived.Test.YtehgapcmngdcnaaMConformSoundx2
import Derived.Test.YtehgapcmngdcnaaMConformSoundx3
import Derived.Test.YtehgapcmngdcnaaMConformSoundx4
import Derived.Test.YtehgapcmngdcnaaMConformSoundx5
import Derived.Test.YtehgapcmngdcnaaBase
namespace Go.Proofs.Ytehgapcmngdcnaa.LConformSound
open Go.RowKit Go.Proofs.Ytehgapcmngdcnaa.Opens Go.Proofs.Ytehgapcmngdcnaa.MConformSound Go.Proofs.YtehgapcmngdcnaaW.PrintWords Go.Proofs.YtehgapcmngdcnaaW.PrintLast Go.Proofs.YtehgapcmngdcnaaW.PrintMore Go.Proofs.Ytehgapcmngdcnaa.Base
set_option linter.unusedVariables false
set_option linter.unusedSimpArgs false

theorem divDown {a b : Int} (ha0 : -9223372036854775808 ≤ a) (ha : a ≤ 9223372036854775807) (hb : 0 < b) (hq : -9223372036854775808 < a / b ∨ True) : Ev (fun k => num_DivDown.f k a b) (a / b, 0) := by
  have hf := floor_of (a := a) hb
  have hbd := tdiv_bd ha0 ha hb
  have hfd := fdiv_le (a := a) hb
  have hlow : -9223372036854775808 ≤ a / b := by
    by_cases h : 0 ≤ a
    · have := Int.ediv_nonneg h (by omega : 0 ≤ b); omega
    · have h1 : a ≤ a / b := by
        have h2 : a / b < 0 := Int.ediv_neg_of_neg_of_pos (by omega) hb
        have h3 : a / b * b ≤ a / b * 1 := Int.mul_le_mul_of_nonpos_left (by omega) (by omega)
        rw [Int.mul_comm] at h3
        have h4 := hfd.1
        have h5 := hfd.2
        by_cases h6 : b = 1
        · subst h6; simp
        · have h7 : a / b * b ≤ a / b * 2 := Int.mul_le_mul_of_nonpos_left (by omega) (by omega)
          rw [Int.mul_comm] at h7
          by_cases h8 : a ≤ a / b
          · exact h8
          · exfalso
            have : b * (a / b) + b ≤ a / b + 1 := by
              have : b * (a / b + 1) ≤ 1 * (a / b + 1) := Int.mul_le_mul_of_nonpos_right (by omega) (by omega)
              rw [Int.mul_add, Int.mul_one, Int.one_mul] at this
              exact this
            omega
      omega
  have hj : ∀ f, f = false → Ev (fun k => num_DivDown.j0 k a b f) (a / b, 0) := by
    rintro f rfl
    refine Ev.step (fun k => by rw [num_DivDown.j0]) ?_
    refine ev_neg (by decide) (ev_neg (by omega) ?_)
    rw [← hf]
    by_cases h0 : Int.tmod a b = 0
    · refine ev_pos h0 (ev_eq (Ev.now _) ?_)
      rw [if_pos h0, w64 hbd.1 hbd.2]
    · refine ev_neg h0 ?_
      rw [if_neg h0] at hf ⊢
      have hbn : decide (b < 0) = false := decide_eq_false (by omega)
      by_cases h1 : a < 0
      · refine ev_pos (by rw [hbn, decide_eq_true h1]; rfl) (ev_eq (Ev.now _) ?_)
        rw [if_pos h1] at hf ⊢
        rw [w64 hbd.1 hbd.2, w64 (by omega) (by omega)]
      · refine ev_neg (by rw [hbn, decide_eq_false h1]; decide) (ev_eq (Ev.now _) ?_)
        rw [if_neg h1, w64 hbd.1 hbd.2]
  show Ev (fun k => num_DivDown.f k a b) _
  refine Ev.congr (fun k => by rw [num_DivDown.f]) ?_
  refine ev_neg (by omega) ?_
  by_cases hm : a = -9223372036854775808
  · refine ev_pos hm (hj _ ?_)
    simp; omega
  · exact ev_neg hm (hj _ rfl)
theorem ddown {a b : Int} (ha0 : -9223372036854775808 ≤ a) (ha : a ≤ 9223372036854775807) (hb : 0 < b) : Ev (fun k => num_DivDown.f k a b) (a / b, 0) := divDown ha0 ha hb (Or.inr trivial)

theorem dup {a b : Int} (ha0 : -9223372036854775808 ≤ a) (ha : a < 9223372036854775807) (hb : 0 < b) : Ev (fun k => num_DivUp.f k a b) (cdiv a b, 0) := by
  refine Ev.congr (fun k => by rw [num_DivUp.f]) (Ev.bind (ddown ha0 (by omega) hb) ?_)
  refine ev_pos rfl (ev_neg (by omega) ?_)
  have hc := ceil_of (a := a) hb
  have hle := fdiv_le (a := a) hb
  have hup : a / b ≤ 9223372036854775806 := by
    have h1 : a / b ≤ 9223372036854775806 / b := Int.ediv_le_ediv hb (by omega)
    have h2 : (9223372036854775806 : Int) / b ≤ 9223372036854775806 := Int.ediv_le_self _ (by omega)
    omega
  have hlo : -9223372036854775808 ≤ a / b := by
    have h1 : (-9223372036854775808 : Int) / b ≤ a / b := Int.ediv_le_ediv hb ha0
    have h2 : -9223372036854775808 ≤ (-9223372036854775808 : Int) / b := by
      have := fdiv_le (a := (-9223372036854775808 : Int)) hb
      by_cases h3 : -9223372036854775808 ≤ (-9223372036854775808 : Int) / b
      · exact h3
      · exfalso
        have h4 : b * ((-9223372036854775808 : Int) / b + 1) ≤ 1 * ((-9223372036854775808 : Int) / b + 1) := Int.mul_le_mul_of_nonpos_right (by omega) (by omega)
        rw [Int.mul_add, Int.mul_one, Int.one_mul] at h4
        omega
    omega
  by_cases h0 : Int.tmod a b = 0
  · refine ev_pos h0 (ev_eq (Ev.now _) ?_)
    rw [if_pos h0] at hc; rw [hc]
  · refine ev_neg h0 (ev_eq (Ev.now _) ?_)
    rw [if_neg h0] at hc; rw [← hc, w64 (by omega) (by omega)]

theorem mulbd {v n V N : Int} (h0 : -V ≤ v) (h1 : v ≤ V) (n0 : 0 ≤ n) (n1 : n ≤ N) (hV : 0 ≤ V) : -(V * N) ≤ v * n ∧ v * n ≤ V * N := by
  have a1 : v * n ≤ V * n := Int.mul_le_mul_of_nonneg_right h1 n0
  have a2 : V * n ≤ V * N := Int.mul_le_mul_of_nonneg_left n1 hV
  have a3 : (-V) * n ≤ v * n := Int.mul_le_mul_of_nonneg_right h0 n0
  rw [Int.neg_mul] at a3
  omega
theorem qbd {a d M : Int} (h0 : -M ≤ a) (h1 : a ≤ M) (hd : 0 < d) (hM : 0 ≤ M) : -M ≤ a / d ∧ a / d ≤ M := by
  constructor
  · refine Int.le_ediv_of_mul_le hd ?_
    have : -M * d ≤ -M * 1 := Int.mul_le_mul_of_nonpos_left (by omega) (by omega)
    omega
  · have a1 : a / d ≤ M / d := Int.ediv_le_ediv hd h1
    have a2 : M / d ≤ M := Int.ediv_le_self _ hM
    omega
theorem cqbd {a d M : Int} (h0 : -M ≤ a) (h1 : a ≤ M) (hd : 0 < d) (hM : 0 ≤ M) : -M ≤ cdiv a d ∧ cdiv a d ≤ M := by
  have := qbd (a := -a) (d := d) (M := M) (by omega) (by omega) hd hM
  unfold cdiv; omega

theorem pcheck (x y : Int) : ∃ c, plane_Check.f x y = some c ∧ (c = 0 ↔ -1000000 ≤ x ∧ x ≤ 1000000 ∧ -1000000 ≤ y ∧ y ≤ 1000000) := by
  unfold plane_Check.f
  repeat' split
  all_goals exact ⟨_, rfl, by omega⟩
def nd (l : List S82) (i : Nat) : S82 := l.getD i z82
theorem rd_nd (l : List S82) (i : Nat) : rd_T82 l (i : Int) = nd l i := rfl
structure OkNode (x : S82) : Prop where
  t0 : 0 ≤ x.f0.f0
  t1 : x.f0.f0 ≤ 200000
  x0 : -1000000 ≤ x.f0.f1.f0
  x1 : x.f0.f1.f0 ≤ 1000000
  y0 : -1000000 ≤ x.f0.f1.f1
  y1 : x.f0.f1.f1 ≤ 1000000
  h0 : 0 ≤ x.f0.f2
  h1 : x.f0.f2 ≤ 60000
  r0 : 0 ≤ x.f1
  r1 : x.f1 ≤ 1000000
  b0 : 0 ≤ x.f2
  b1 : x.f2 ≤ 60000
structure OkTube (l : List S82) : Prop where
  len0 : 0 < l.length
  len1 : l.length ≤ 64
  node : ∀ i, i < l.length → OkNode (nd l i)
  inc : ∀ i, 0 < i → i < l.length → (nd l (i - 1)).f0.f0 < (nd l i).f0.f0
theorem tube_loop (l : List S82) (hl : l.length ≤ 64) : ∀ (d i : Nat), i + d = l.length → ∃ r : Int, Ev (fun k => tube_Check.l0 k l l (l.length : Int) (i : Int)) r ∧ (r = 0 ↔ ∀ j, i ≤ j → j < l.length → OkNode (nd l j) ∧ (0 < j → (nd l (j - 1)).f0.f0 < (nd l j).f0.f0))
  | 0, i, h => ⟨0, Ev.step (fun k => by rw [tube_Check.l0]) (ev_neg (by omega) (Ev.now _)), ⟨fun _ j h1 h2 => by omega, fun _ => rfl⟩⟩
  | d + 1, i, h => by
    obtain ⟨r, hr, hd⟩ := tube_loop l hl d (i + 1) (by omega)
    have hw : wrap64 ((i : Int) + 1) = ((i + 1 : Nat) : Int) := by rw [w64 (by omega) (by omega)]; omega
    let x := nd l i
    have hgo : ∀ {f : Bool} {r : Int}, (f = true ↔ x.f0.f0 < 0 ∨ x.f0.f0 > 200000 ∨ (0 < i ∧ x.f0.f0 ≤ (nd l (i - 1)).f0.f0)) → Ev (fun k => tube_Check.j1 k l l (l.length : Int) (i : Int) f x.f0.f0 x.f0.f1.f0 x.f0.f1.f1 x.f0.f2 x.f1 x.f2) r → Ev (fun k => tube_Check.l0 k l l (l.length : Int) (i : Int)) r := by
      intro f r hf hq
      refine Ev.step (fun k => by rw [tube_Check.l0]) ?_
      simp only [rd_nd]
      refine ev_pos (by omega) (ev_pos (by omega) (ev_pos (by omega) ?_))
      by_cases c1 : (nd l i).f0.f0 < 0
      · refine ev_pos c1 ?_; have : f = true := hf.mpr (Or.inl c1); subst this; exact hq
      refine ev_neg c1 ?_
      by_cases c2 : (nd l i).f0.f0 > 200000
      · refine ev_pos c2 ?_; have : f = true := hf.mpr (Or.inr (Or.inl c2)); subst this; exact hq
      refine ev_neg c2 ?_
      by_cases c3 : 0 < i
      · have hm : wrap64 ((i : Int) - 1) = ((i - 1 : Nat) : Int) := by rw [w64 (by omega) (by omega)]; omega
        rw [hm]
        simp only [rd_nd]
        refine ev_pos (by omega) (ev_pos (by omega) (ev_pos (by omega) ?_))
        by_cases c4 : (nd l i).f0.f0 ≤ (nd l (i - 1)).f0.f0
        · have : f = true := hf.mpr (Or.inr (Or.inr ⟨c3, c4⟩)); subst this; exact ev_dt (fun k b => tube_Check.j1 k l l (l.length : Int) (i : Int) b (nd l i).f0.f0 (nd l i).f0.f1.f0 (nd l i).f0.f1.f1 (nd l i).f0.f2 (nd l i).f1 (nd l i).f2) c4 hq
        · have : f = false := by
            cases hff : f
            · rfl
            · rcases hf.mp hff with h | h | h
              · exact absurd h c1
              · exact absurd h c2
              · exact absurd h.2 c4
          subst this; exact ev_df (fun k b => tube_Check.j1 k l l (l.length : Int) (i : Int) b (nd l i).f0.f0 (nd l i).f0.f1.f0 (nd l i).f0.f1.f1 (nd l i).f0.f2 (nd l i).f1 (nd l i).f2) c4 hq
      · refine ev_neg (by omega) ?_
        have : f = false := by
          cases hff : f
          · rfl
          · rcases hf.mp hff with h | h | h
            · exact absurd h c1
            · exact absurd h c2
            · exact absurd h.1 c3
        subst this; exact hq
    by_cases hbad : x.f0.f0 < 0 ∨ x.f0.f0 > 200000 ∨ (0 < i ∧ x.f0.f0 ≤ (nd l (i - 1)).f0.f0)
    · refine ⟨12, hgo (f := true) (by simp only [true_iff]; exact hbad) (Ev.step (fun k => by rw [tube_Check.j1]) (ev_pos rfl (Ev.now _))), ⟨fun h0 => absurd h0 (by decide), fun hh => ?_⟩⟩
      obtain ⟨hn, hi⟩ := hh i (by omega) (by omega)
      have := hn.t0; have := hn.t1
      rcases hbad with h | h | h
      · have h : (nd l i).f0.f0 < 0 := h
        omega
      · have h : (nd l i).f0.f0 > 200000 := h
        omega
      · have h2 := hi h.1
        have h3 : (nd l i).f0.f0 ≤ (nd l (i - 1)).f0.f0 := h.2
        omega
    · have hgo2 : ∀ {r : Int}, Ev (fun k => (plane_Check.f x.f0.f1.f0 x.f0.f1.f1).bind fun t105 => (if t105 = 0 then (if x.f0.f2 < 0 then (some 4) else (if x.f0.f2 > 60000 then (some 4) else (if x.f1 < 0 then (some 4) else (if x.f1 > 1000000 then (some 4) else (if x.f2 < 0 then (some 4) else (if x.f2 > 60000 then (some 4) else (tube_Check.l0 k l l (l.length : Int) ((i + 1 : Nat) : Int)))))))) else (some t105))) r → Ev (fun k => tube_Check.l0 k l l (l.length : Int) (i : Int)) r := by
        intro r hq
        refine hgo (f := false) (by simp only [Bool.false_eq_true, false_iff]; exact hbad) (Ev.step (fun k => by rw [tube_Check.j1]) (ev_neg (by decide) ?_))
        rw [hw]
        exact hq
      obtain ⟨c, hc, hci⟩ := pcheck x.f0.f1.f0 x.f0.f1.f1
      have hfin : ∀ {r : Int}, r ≠ 0 → Ev (fun k => tube_Check.l0 k l l (l.length : Int) (i : Int)) r → ¬ OkNode (nd l i) → ∃ r : Int, Ev (fun k => tube_Check.l0 k l l (l.length : Int) (i : Int)) r ∧ (r = 0 ↔ ∀ j, i ≤ j → j < l.length → OkNode (nd l j) ∧ (0 < j → (nd l (j - 1)).f0.f0 < (nd l j).f0.f0)) :=
        fun h0 h1 h2 => ⟨_, h1, ⟨fun h => absurd h h0, fun hh => absurd (hh i (by omega) (by omega)).1 h2⟩⟩
      by_cases c0 : c = 0
      · by_cases c1 : x.f0.f2 < 0
        · exact hfin (by decide) (hgo2 (ev_some hc (ev_pos c0 (ev_pos c1 (Ev.now 4))))) (fun h => by have h0 := h.h0; have c1 : (nd l i).f0.f2 < 0 := c1; omega)
        by_cases c2 : x.f0.f2 > 60000
        · exact hfin (by decide) (hgo2 (ev_some hc (ev_pos c0 (ev_neg c1 (ev_pos c2 (Ev.now 4)))))) (fun h => by have h0 := h.h1; have c1 : (nd l i).f0.f2 > 60000 := c2; omega)
        by_cases c3 : x.f1 < 0
        · exact hfin (by decide) (hgo2 (ev_some hc (ev_pos c0 (ev_neg c1 (ev_neg c2 (ev_pos c3 (Ev.now 4))))))) (fun h => by have h0 := h.r0; have c1 : (nd l i).f1 < 0 := c3; omega)
        by_cases c4 : x.f1 > 1000000
        · exact hfin (by decide) (hgo2 (ev_some hc (ev_pos c0 (ev_neg c1 (ev_neg c2 (ev_neg c3 (ev_pos c4 (Ev.now 4)))))))) (fun h => by have h0 := h.r1; have c1 : (nd l i).f1 > 1000000 := c4; omega)
        by_cases c5 : x.f2 < 0
        · exact hfin (by decide) (hgo2 (ev_some hc (ev_pos c0 (ev_neg c1 (ev_neg c2 (ev_neg c3 (ev_neg c4 (ev_pos c5 (Ev.now 4))))))))) (fun h => by have h0 := h.b0; have c1 : (nd l i).f2 < 0 := c5; omega)
        by_cases c6 : x.f2 > 60000
        · exact hfin (by decide) (hgo2 (ev_some hc (ev_pos c0 (ev_neg c1 (ev_neg c2 (ev_neg c3 (ev_neg c4 (ev_neg c5 (ev_pos c6 (Ev.now 4)))))))))) (fun h => by have h0 := h.b1; have c1 : (nd l i).f2 > 60000 := c6; omega)
        refine ⟨r, hgo2 (ev_some hc (ev_pos c0 (ev_neg c1 (ev_neg c2 (ev_neg c3 (ev_neg c4 (ev_neg c5 (ev_neg c6 hr)))))))), ?_⟩
        rw [hd]
        constructor
        · intro hh j a b
          by_cases hji : j = i
          · subst hji
            have hp := hci.mp c0
            refine ⟨⟨?_, ?_, hp.1, hp.2.1, hp.2.2.1, hp.2.2.2, ?_, ?_, ?_, ?_, ?_, ?_⟩, fun h0 => ?_⟩
            · show 0 ≤ x.f0.f0
              omega
            · show x.f0.f0 ≤ _
              omega
            · show 0 ≤ x.f0.f2
              omega
            · show x.f0.f2 ≤ _
              omega
            · show 0 ≤ x.f1
              omega
            · show x.f1 ≤ _
              omega
            · show 0 ≤ x.f2
              omega
            · show x.f2 ≤ _
              omega
            · show _ < x.f0.f0
              omega
          · exact hh j (by omega) b
        · exact fun hh j a b => hh j (by omega) b
      · exact hfin c0 (hgo2 (ev_some hc (ev_neg c0 (Ev.now c)))) (fun h => c0 (hci.mpr ⟨h.x0, h.x1, h.y0, h.y1⟩))
theorem tube_any (l : List S82) : ∃ r : Int, Ev (fun k => tube_Check.f k l) r ∧ (r = 0 ↔ OkTube l) := by
  by_cases h1 : (l.length : Int) > 64
  · exact ⟨2, Ev.congr (fun k => by rw [tube_Check.f]) (ev_pos h1 (Ev.now _)), ⟨fun h => absurd h (by decide), fun h => by have := h.len1; omega⟩⟩
  by_cases h2 : (l.length : Int) = 0
  · exact ⟨3, Ev.congr (fun k => by rw [tube_Check.f]) (ev_neg h1 (ev_pos h2 (Ev.now _))), ⟨fun h => absurd h (by decide), fun h => by have := h.len0; omega⟩⟩
  obtain ⟨r, hr, hd⟩ := tube_loop l (by omega) l.length 0 (by omega)
  have hf : Ev (fun k => tube_Check.f k l) r := by
    refine Ev.congr (fun k => by rw [tube_Check.f]) ?_
    refine ev_neg h1 (ev_neg h2 ?_)
    exact hr
  refine ⟨r, hf, hd.trans ⟨fun h => ⟨by omega, by omega, fun i hi => (h i (by omega) hi).1, fun i i0 hi => (h i (by omega) hi).2 i0⟩, fun h j _ hj => ⟨h.node j hj, fun j0 => h.inc j j0 hj⟩⟩⟩
theorem tube_inc {l : List S82} (h : OkTube l) : ∀ (d i : Nat), i + d + 1 < l.length → (nd l i).f0.f0 < (nd l (i + d + 1)).f0.f0
  | 0, i, hi => h.inc (i + 1) (by omega) hi
  | d + 1, i, hi => by
    have h1 := tube_inc h d i (by omega)
    have h2 := h.inc (i + (d + 1) + 1) (by omega) hi
    have e : i + (d + 1) + 1 - 1 = i + d + 1 := by omega
    rw [e] at h2
    omega
theorem tube_lt {l : List S82} (h : OkTube l) {i j : Nat} (hij : i < j) (hj : j < l.length) : (nd l i).f0.f0 < (nd l j).f0.f0 := by
  have := tube_inc h (j - i - 1) i (by omega)
  have e : i + (j - i - 1) + 1 = j := by omega
  rwa [e] at this
theorem tube_le {l : List S82} (h : OkTube l) {i j : Nat} (hij : i ≤ j) (hj : j < l.length) : (nd l i).f0.f0 ≤ (nd l j).f0.f0 := by
  by_cases e : i = j
  · subst e; omega
  · have := tube_lt h (show i < j by omega) hj; omega
/-- the node at a time between two nodes -/
def mix (a b : S82) (t : Int) : Int × Int × Int × Int × Int × Int :=
  (t, a.f0.f1.f0 + ((b.f0.f1.f0 - a.f0.f1.f0) * (t - a.f0.f0)) / (b.f0.f0 - a.f0.f0), a.f0.f1.f1 + ((b.f0.f1.f1 - a.f0.f1.f1) * (t - a.f0.f0)) / (b.f0.f0 - a.f0.f0), a.f0.f2 + ((b.f0.f2 - a.f0.f2) * (t - a.f0.f0)) / (b.f0.f0 - a.f0.f0), a.f1 + cdiv ((b.f1 - a.f1) * (t - a.f0.f0)) (b.f0.f0 - a.f0.f0), a.f2 + cdiv ((b.f2 - a.f2) * (t - a.f0.f0)) (b.f0.f0 - a.f0.f0))
def flat (a : S82) : Int × Int × Int × Int × Int × Int := (a.f0.f0, a.f0.f1.f0, a.f0.f1.f1, a.f0.f2, a.f1, a.f2)
theorem cdiv_zero (d : Int) : cdiv 0 d = 0 := by unfold cdiv; simp
theorem cdiv_mul {a d : Int} (hd : 0 < d) : cdiv (a * d) d = a := by unfold cdiv; rw [← Int.neg_mul, Int.mul_ediv_cancel _ (by omega)]; omega
theorem mix_left (a b : S82) : mix a b a.f0.f0 = flat a := by unfold mix flat; simp [cdiv_zero]
theorem mix_right (a b : S82) (h : a.f0.f0 < b.f0.f0) : mix a b b.f0.f0 = flat b := by
  have hd : 0 < b.f0.f0 - a.f0.f0 := by omega
  unfold mix flat
  rw [Int.mul_ediv_cancel _ (by omega), Int.mul_ediv_cancel _ (by omega), Int.mul_ediv_cancel _ (by omega), cdiv_mul hd, cdiv_mul hd]
  have e1 : ∀ x y : Int, x + (y - x) = y := fun x y => by omega
  simp only [e1]
theorem between_ev {a b n d : Int} (h : -4000000 ≤ b - a ∧ b - a ≤ 4000000) (ha : -4000000 ≤ a ∧ a ≤ 4000000) (n0 : 0 ≤ n) (n1 : n ≤ 200000) (d0 : 0 < d) (d1 : d ≤ 200000) : Ev (fun k => tube_between.f k a b n d) (a + ((b - a) * n) / d) := by
  have hm := mulbd h.1 h.2 n0 n1 (by omega)
  have hq := qbd (d := d) hm.1 hm.2 d0 (by omega)
  refine Ev.congr (fun k => by rw [tube_between.f]) ?_
  rw [w64 (n := b - a) (by omega) (by omega), w64 (n := (b - a) * n) (by omega) (by omega)]
  refine Ev.bind (ddown (by omega) (by omega) d0) (ev_eq (Ev.now _) ?_)
  show wrap64 (a + (b - a) * n / d) = _
  rw [w64 (by omega) (by omega)]
theorem above_ev {a b n d : Int} (h : -4000000 ≤ b - a ∧ b - a ≤ 4000000) (ha : -4000000 ≤ a ∧ a ≤ 4000000) (n0 : 0 ≤ n) (n1 : n ≤ 200000) (d0 : 0 < d) (d1 : d ≤ 200000) : Ev (fun k => tube_above.f k a b n d) (a + cdiv ((b - a) * n) d) := by
  have hm := mulbd h.1 h.2 n0 n1 (by omega)
  have hq := cqbd (d := d) hm.1 hm.2 d0 (by omega)
  refine Ev.congr (fun k => by rw [tube_above.f]) ?_
  rw [w64 (n := b - a) (by omega) (by omega), w64 (n := (b - a) * n) (by omega) (by omega)]
  refine Ev.bind (dup (by omega) (by omega) d0) (ev_eq (Ev.now _) ?_)
  show wrap64 (a + cdiv ((b - a) * n) d) = _
  rw [w64 (by omega) (by omega)]
theorem toward_ev {ax ay bx by_ n d : Int} (ha : -1000000 ≤ ax ∧ ax ≤ 1000000 ∧ -1000000 ≤ ay ∧ ay ≤ 1000000) (hb : -1000000 ≤ bx ∧ bx ≤ 1000000 ∧ -1000000 ≤ by_ ∧ by_ ≤ 1000000) (n0 : 0 ≤ n) (n1 : n ≤ d) (d0 : 0 < d) (d1 : d ≤ 200000) :
    Ev (fun k => plane_Toward.f k ax ay bx by_ n d) (ax + ((bx - ax) * n) / d, ay + ((by_ - ay) * n) / d, 0) := by
  obtain ⟨c1, hc1, h1⟩ := pcheck ax ay
  obtain ⟨c2, hc2, h2⟩ := pcheck bx by_
  have e1 : c1 = 0 := h1.mpr ha
  have e2 : c2 = 0 := h2.mpr hb
  subst e1; subst e2
  have hm := mulbd (v := bx - ax) (n := n) (V := 2000000) (N := 200000) (by omega) (by omega) n0 (by omega) (by omega)
  have hq := qbd (d := d) hm.1 hm.2 d0 (by omega)
  have hm2 := mulbd (v := by_ - ay) (n := n) (V := 2000000) (N := 200000) (by omega) (by omega) n0 (by omega) (by omega)
  have hq2 := qbd (d := d) hm2.1 hm2.2 d0 (by omega)
  refine Ev.congr (fun k => by rw [plane_Toward.f]) ?_
  refine ev_neg (by omega) (ev_neg (by omega) (ev_neg (by omega) (ev_neg (by omega) (ev_some hc1 (ev_pos rfl (ev_some hc2 ?_))))))
  refine Ev.step (fun k => by rw [plane_Toward.j0]) (ev_neg (by decide) ?_)
  rw [w64 (n := bx - ax) (by omega) (by omega), w64 (n := (bx - ax) * n) (by omega) (by omega), w64 (n := by_ - ay) (by omega) (by omega), w64 (n := (by_ - ay) * n) (by omega) (by omega)]
  refine Ev.bind (ddown (by omega) (by omega) d0) ?_
  refine Ev.bind (ddown (by omega) (by omega) d0) (ev_eq (Ev.now _) ?_)
  show (wrap64 (ax + (bx - ax) * n / d), wrap64 (ay + (by_ - ay) * n / d), (0 : Int)) = _
  rw [w64 (by omega) (by omega), w64 (by omega) (by omega)]
/-- where a time lies in a tube -/
def At (l : List S82) (t : Int) (p : Nat) : Prop := p < l.length ∧ (nd l p).f0.f0 ≤ t ∧ (∀ j, p < j → j < l.length → t < (nd l j).f0.f0)
def out (x : Int × Int × Int × Int × Int × Int) : Int × Int × Int × Int × Int × Int × Int := (x.1, x.2.1, x.2.2.1, x.2.2.2.1, x.2.2.2.2.1, x.2.2.2.2.2, 0)
theorem at_j2 {l : List S82} (h : OkTube l) {t : Int} {p : Nat} (hp : At l t p) (ht : t ≤ (nd l (l.length - 1)).f0.f0) :
    Ev (fun k => tube_at.j2 k l t (p : Int)) (out (if (nd l p).f0.f0 = t then flat (nd l p) else mix (nd l p) (nd l (p + 1)) t)) := by
  obtain ⟨h1, h2, h3⟩ := hp
  have hlen := h.len1
  have hw : wrap64 ((p : Int) + 1) = ((p + 1 : Nat) : Int) := by rw [w64 (by omega) (by omega)]; omega
  refine Ev.step (fun k => by rw [tube_at.j2]) ?_
  rw [hw]
  simp only [rd_nd]
  refine ev_pos (by omega) (ev_pos (by omega) ?_)
  by_cases e : (nd l p).f0.f0 = t
  · rw [if_pos e]
    exact ev_pos e (Ev.now _)
  · rw [if_neg e]
    have hp1 : p + 1 < l.length := by
      by_cases q : p + 1 < l.length
      · exact q
      · have : p = l.length - 1 := by omega
        rw [← this] at ht
        omega
    have hlt := h3 (p + 1) (by omega) hp1
    have na := h.node p h1
    have nb := h.node (p + 1) hp1
    have a1 := na.t0; have a2 := na.x0; have a3 := na.x1; have a4 := na.y0; have a5 := na.y1; have a6 := na.h0; have a7 := na.h1; have a8 := na.r0; have a9 := na.r1; have a10 := na.b0; have a11 := na.b1
    have b1 := nb.t1; have b2 := nb.x0; have b3 := nb.x1; have b4 := nb.y0; have b5 := nb.y1; have b6 := nb.h0; have b7 := nb.h1; have b8 := nb.r0; have b9 := nb.r1; have b10 := nb.b0; have b11 := nb.b1
    refine ev_neg e (ev_pos (by omega) (ev_pos (by omega) ?_))
    rw [w64 (n := t - (nd l p).f0.f0) (by omega) (by omega), w64 (n := (nd l (p + 1)).f0.f0 - (nd l p).f0.f0) (by omega) (by omega)]
    refine Ev.bind (toward_ev ⟨a2, a3, a4, a5⟩ ⟨b2, b3, b4, b5⟩ (by omega) (by omega) (by omega) (by omega)) ?_
    refine Ev.bind (between_ev (by omega) (by omega) (by omega) (by omega) (by omega) (by omega)) ?_
    refine Ev.bind (above_ev (by omega) (by omega) (by omega) (by omega) (by omega) (by omega)) ?_
    refine Ev.bind (above_ev (by omega) (by omega) (by omega) (by omega) (by omega) (by omega)) ?_
    exact Ev.now _
theorem at_loop {l : List S82} (h : OkTube l) {t : Int} {p : Nat} (hp : At l t p) (ht : t ≤ (nd l (l.length - 1)).f0.f0) : ∀ (d i : Nat), i + d = p →
    Ev (fun k => tube_at.l0 k l t (i : Int)) (out (if (nd l p).f0.f0 = t then flat (nd l p) else mix (nd l p) (nd l (p + 1)) t)) := by
  have hlen := h.len1
  have hw : ∀ i : Nat, i < l.length → wrap64 ((i : Int) + 1) = ((i + 1 : Nat) : Int) := fun i hi => by rw [w64 (by omega) (by omega)]; omega
  intro d
  induction d with
  | zero =>
    intro i e
    have e : i = p := by omega
    subst e
    refine Ev.step (fun k => by rw [tube_at.l0]) ?_
    rw [hw i hp.1]
    simp only [rd_nd]
    by_cases q : i + 1 < l.length
    · have := hp.2.2 (i + 1) (by omega) q
      exact ev_pos (by omega) (ev_pos (by omega) (ev_neg (by omega) (at_j2 h hp ht)))
    · exact ev_neg (by omega) (at_j2 h hp ht)
  | succ d ih =>
    intro i e
    have hp1 := hp.1
    refine Ev.step (fun k => by rw [tube_at.l0]) ?_
    rw [hw i (by omega)]
    simp only [rd_nd]
    have h2 := tube_le h (show i + 1 ≤ p by omega) hp.1
    have h3 := hp.2.1
    exact ev_pos (by omega) (ev_pos (by omega) (ev_pos (by omega) (ih (i + 1) (by omega))))
theorem at_exists {l : List S82} (h : OkTube l) {t : Int} (h0 : (nd l 0).f0.f0 ≤ t) : ∃ p, At l t p := by
  have hfind : ∀ d : Nat, d < l.length → (∃ p, p ≤ d ∧ (nd l p).f0.f0 ≤ t ∧ ∀ j, p < j → j ≤ d → t < (nd l j).f0.f0) := by
    intro d
    induction d with
    | zero => intro _; exact ⟨0, by omega, h0, fun j a b => by omega⟩
    | succ d ih =>
      intro hd
      obtain ⟨p, a, b, c⟩ := ih (by omega)
      by_cases q : (nd l (d + 1)).f0.f0 ≤ t
      · exact ⟨d + 1, by omega, q, fun j a b => by omega⟩
      · refine ⟨p, by omega, b, fun j j1 j2 => ?_⟩
        by_cases e : j = d + 1
        · subst e; omega
        · exact c j j1 (by omega)
  have := h.len0
  obtain ⟨p, a, b, c⟩ := hfind (l.length - 1) (by omega)
  exact ⟨p, by omega, b, fun j j1 j2 => c j j1 (by omega)⟩
theorem at_ok {l : List S82} (h : OkTube l) {t : Int} {p : Nat} (hp : At l t p) (ht : t ≤ (nd l (l.length - 1)).f0.f0) :
    Ev (fun k => tube_at.f k l t) (out (if (nd l p).f0.f0 = t then flat (nd l p) else mix (nd l p) (nd l (p + 1)) t)) := by
  have hlen := h.len1; have hlen0 := h.len0
  have hw : wrap64 ((l.length : Int) - 1) = ((l.length - 1 : Nat) : Int) := by rw [w64 (by omega) (by omega)]; omega
  have hfirst := tube_le h (show 0 ≤ p by omega) hp.1
  have h2 := hp.2.1
  refine Ev.congr (fun k => by rw [tube_at.f]) ?_
  rw [hw]
  simp only [rd_nd]
  refine ev_pos (by omega) ?_
  refine ev_neg (show ¬ t < (nd l 0).f0.f0 by omega) ?_
  refine ev_pos (by omega) (ev_pos (by omega) ?_)
  refine ev_df (fun k b => tube_at.j0 k l t b) (show ¬ t > (nd l (l.length - 1)).f0.f0 by omega) ?_
  refine Ev.step (fun k => by rw [tube_at.j0]) (ev_neg (by decide) ?_)
  exact at_loop h hp ht p 0 (by omega)
theorem at_out {l : List S82} (h : OkTube l) {t : Int} (ht : t < (nd l 0).f0.f0 ∨ (nd l (l.length - 1)).f0.f0 < t) : Ev (fun k => tube_at.f k l t) (0, 0, 0, 0, 0, 0, 12) := by
  have hlen := h.len1; have hlen0 := h.len0
  have hw : wrap64 ((l.length : Int) - 1) = ((l.length - 1 : Nat) : Int) := by rw [w64 (by omega) (by omega)]; omega
  have hj : Ev (fun k => tube_at.j0 k l t true) (0, 0, 0, 0, 0, 0, 12) := Ev.step (fun k => by rw [tube_at.j0]) (ev_pos rfl (Ev.now _))
  refine Ev.congr (fun k => by rw [tube_at.f]) ?_
  rw [hw]
  simp only [rd_nd]
  refine ev_pos (by omega) ?_
  by_cases c : t < (nd l 0).f0.f0
  · exact ev_pos c hj
  · refine ev_neg c (ev_pos (by omega) (ev_pos (by omega) ?_))
    exact ev_dt (fun k b => tube_at.j0 k l t b) (show t > (nd l (l.length - 1)).f0.f0 by omega) hj
theorem At_ev {l : List S82} {t c : Int} {x : Int × Int × Int × Int × Int × Int × Int} (hc : Ev (fun k => tube_Check.f k l) c) (hx : c = 0 → Ev (fun k => tube_at.f k l t) x) : Ev (fun k => tube_At.f k l t) (if c = 0 then x else (0, 0, 0, 0, 0, 0, c)) := by
  refine Ev.congr (fun k => by rw [tube_At.f]) (Ev.bind hc ?_)
  by_cases e : c = 0
  · rw [if_pos e]
    exact ev_pos e (Ev.bind (hx e) (Ev.now _))
  · rw [if_neg e]
    exact ev_neg e (Ev.now _)

/-- 'within' brings a number into a range. -/
theorem within_in (n low high : Int) (h : low ≤ high) (hl : -1000000000 ≤ low) (hh : high ≤ 1000000000) : ∃ r, skywaykeep2_within.f n low high = some r ∧ low ≤ r ∧ r ≤ high := by
  unfold skywaykeep2_within.f
  have e1 : wrap64 (high - low) = high - low := w64 (by omega) (by omega)
  have e2 : wrap64 (high - low + 1) = high - low + 1 := w64 (by omega) (by omega)
  rw [e1, e2, if_neg (by omega)]
  have hs : 0 < high - low + 1 := by omega
  generalize hsz : high - low + 1 = s at *
  have t1 : Int.tmod n s < s := Int.tmod_lt_of_pos _ hs
  have t0 : -s < Int.tmod n s := by
    have h1 := Int.tmod_lt_of_pos (-n) hs
    rw [Int.neg_tmod] at h1
    omega
  have e3 : wrap64 (Int.tmod n s + s) = Int.tmod n s + s := w64 (by omega) (by omega)
  rw [e3]
  have t2 : Int.tmod (Int.tmod n s + s) s < s := Int.tmod_lt_of_pos _ hs
  have t3 : 0 ≤ Int.tmod (Int.tmod n s + s) s := Int.tmod_nonneg _ (by omega)
  exact ⟨_, rfl, by rw [w64 (by omega) (by omega)]; omega, by rw [w64 (by omega) (by omega)]; omega⟩

theorem sqbd {v V : Int} (h0 : -V ≤ v) (h1 : v ≤ V) : 0 ≤ v * v ∧ v * v ≤ V * V := by
  by_cases h : 0 ≤ v
  · exact ⟨Int.mul_nonneg h h, Int.mul_le_mul h1 h1 h (by omega)⟩
  · have e : v * v = (-v) * (-v) := by rw [Int.neg_mul_neg]
    rw [e]
    exact ⟨Int.mul_nonneg (by omega) (by omega), Int.mul_le_mul (by omega) (by omega) (by omega) (by omega)⟩
theorem tri {x y u v A B : Int} (hA : 0 ≤ A) (hB : 0 ≤ B) (h1 : x * x + y * y ≤ A * A) (h2 : u * u + v * v ≤ B * B) : (x + u) * (x + u) + (y + v) * (y + v) ≤ (A + B) * (A + B) := by
  have hS : x * u + y * v ≤ A * B := by
    by_cases c : x * u + y * v ≤ A * B
    · exact c
    · exfalso
      have hAB : 0 ≤ A * B := Int.mul_nonneg hA hB
      have i1 : (x * x + y * y) * (u * u + v * v) = (x * u + y * v) * (x * u + y * v) + (x * v - u * y) * (x * v - u * y) := by grind
      have i2 : 0 ≤ (x * v - u * y) * (x * v - u * y) := by
        by_cases h : 0 ≤ x * v - u * y
        · exact Int.mul_nonneg h h
        · rw [← Int.neg_mul_neg]; exact Int.mul_nonneg (by omega) (by omega)
      have p1 : 0 ≤ u * u + v * v := by
        have a1 : 0 ≤ u * u := by
          by_cases h : 0 ≤ u
          · exact Int.mul_nonneg h h
          · rw [← Int.neg_mul_neg]; exact Int.mul_nonneg (by omega) (by omega)
        have a2 : 0 ≤ v * v := by
          by_cases h : 0 ≤ v
          · exact Int.mul_nonneg h h
          · rw [← Int.neg_mul_neg]; exact Int.mul_nonneg (by omega) (by omega)
        omega
      have i3 : (x * x + y * y) * (u * u + v * v) ≤ (A * A) * (B * B) := by
        have b1 := Int.mul_le_mul_of_nonneg_right h1 p1
        have b2 := Int.mul_le_mul_of_nonneg_left h2 (Int.mul_nonneg hA hA)
        omega
      have i4 : (A * A) * (B * B) = (A * B) * (A * B) := by grind
      have i5 : (A * B + 1) * (A * B + 1) ≤ (x * u + y * v) * (x * u + y * v) := Int.mul_le_mul (by omega) (by omega) (by omega) (by omega)
      have i6 : (A * B + 1) * (A * B + 1) = (A * B) * (A * B) + 2 * (A * B) + 1 := by grind
      omega
  have e1 : (x + u) * (x + u) + (y + v) * (y + v) = (x * x + y * y) + (u * u + v * v) + 2 * (x * u + y * v) := by grind
  have e2 : (A + B) * (A + B) = A * A + B * B + 2 * (A * B) := by grind
  omega
theorem qmix {v n d V : Int} (h0 : -V ≤ v) (h1 : v ≤ V) (n0 : 0 ≤ n) (n1 : n ≤ d) (hd : 0 < d) (hV : 0 ≤ V) : -V ≤ v * n / d ∧ v * n / d ≤ V := by
  have hm := mulbd (v := v) (n := n) (V := V) (N := d) h0 h1 n0 n1 hV
  constructor
  · refine Int.le_ediv_of_mul_le hd ?_
    rw [Int.neg_mul]; omega
  · exact Int.ediv_le_of_le_mul hd (by omega)
theorem cqmix {v n d V : Int} (h0 : -V ≤ v) (h1 : v ≤ V) (n0 : 0 ≤ n) (n1 : n ≤ d) (hd : 0 < d) (hV : 0 ≤ V) : -V ≤ cdiv (v * n) d ∧ cdiv (v * n) d ≤ V := by
  have := qmix (v := -v) (n := n) (d := d) (V := V) (by omega) (by omega) n0 n1 hd hV
  rw [Int.neg_mul] at this
  unfold cdiv; omega
theorem cqpos {a b n d : Int} (ha : 0 ≤ a) (hb : 0 ≤ b) (n0 : 0 ≤ n) (n1 : n ≤ d) (hd : 0 < d) : 0 ≤ a + cdiv ((b - a) * n) d := by
  have h1 : (-a) * n ≤ (b - a) * n := Int.mul_le_mul_of_nonneg_right (by omega) n0
  have h2 : (-a) * d ≤ (-a) * n := Int.mul_le_mul_of_nonpos_left (by omega) n1
  have h3 : (-((b - a) * n)) / d ≤ a := Int.ediv_le_of_le_mul hd (by rw [Int.neg_mul] at h2; omega)
  unfold cdiv; omega
structure Rng (z : Int × Int × Int × Int × Int × Int × Int) : Prop where
  x0 : -3000000 ≤ z.2.1
  x1 : z.2.1 ≤ 3000000
  y0 : -3000000 ≤ z.2.2.1
  y1 : z.2.2.1 ≤ 3000000
  h0 : -200000 ≤ z.2.2.2.1
  h1 : z.2.2.2.1 ≤ 200000
  r0 : 0 ≤ z.2.2.2.2.1
  r1 : z.2.2.2.2.1 ≤ 2000000
  b0 : -200000 ≤ z.2.2.2.2.2.1
  b1 : z.2.2.2.2.2.1 ≤ 200000
theorem at_rng {l : List S82} (h : OkTube l) {t : Int} {p : Nat} (hp : At l t p) (ht : t ≤ (nd l (l.length - 1)).f0.f0) : Rng (out (if (nd l p).f0.f0 = t then flat (nd l p) else mix (nd l p) (nd l (p + 1)) t)) := by
  have na := h.node p hp.1
  have a1 := na.t0; have a2 := na.x0; have a3 := na.x1; have a4 := na.y0; have a5 := na.y1; have a6 := na.h0; have a7 := na.h1; have a8 := na.r0; have a9 := na.r1; have a10 := na.b0; have a11 := na.b1
  by_cases e : (nd l p).f0.f0 = t
  · rw [if_pos e]
    constructor <;> simp only [out, flat] <;> omega
  · rw [if_neg e]
    have h2 := hp.2.1
    have hp1 : p + 1 < l.length := by
      by_cases q : p + 1 < l.length
      · exact q
      · have h1 := hp.1
        have : p = l.length - 1 := by omega
        rw [← this] at ht
        omega
    have hlt := hp.2.2 (p + 1) (by omega) hp1
    have nb := h.node (p + 1) hp1
    have b1 := nb.t1; have b2 := nb.x0; have b3 := nb.x1; have b4 := nb.y0; have b5 := nb.y1; have b6 := nb.h0; have b7 := nb.h1; have b8 := nb.r0; have b9 := nb.r1; have b10 := nb.b0; have b11 := nb.b1
    have q1 := qmix (v := (nd l (p + 1)).f0.f1.f0 - (nd l p).f0.f1.f0) (n := t - (nd l p).f0.f0) (d := (nd l (p + 1)).f0.f0 - (nd l p).f0.f0) (V := 2000000) (by omega) (by omega) (by omega) (by omega) (by omega) (by omega)
    have q2 := qmix (v := (nd l (p + 1)).f0.f1.f1 - (nd l p).f0.f1.f1) (n := t - (nd l p).f0.f0) (d := (nd l (p + 1)).f0.f0 - (nd l p).f0.f0) (V := 2000000) (by omega) (by omega) (by omega) (by omega) (by omega) (by omega)
    have q3 := qmix (v := (nd l (p + 1)).f0.f2 - (nd l p).f0.f2) (n := t - (nd l p).f0.f0) (d := (nd l (p + 1)).f0.f0 - (nd l p).f0.f0) (V := 60000) (by omega) (by omega) (by omega) (by omega) (by omega) (by omega)
    have q4 := cqmix (v := (nd l (p + 1)).f1 - (nd l p).f1) (n := t - (nd l p).f0.f0) (d := (nd l (p + 1)).f0.f0 - (nd l p).f0.f0) (V := 1000000) (by omega) (by omega) (by omega) (by omega) (by omega) (by omega)
    have q5 := cqmix (v := (nd l (p + 1)).f2 - (nd l p).f2) (n := t - (nd l p).f0.f0) (d := (nd l (p + 1)).f0.f0 - (nd l p).f0.f0) (V := 60000) (by omega) (by omega) (by omega) (by omega) (by omega) (by omega)
    have q6 := cqpos (a := (nd l p).f1) (b := (nd l (p + 1)).f1) (n := t - (nd l p).f0.f0) (d := (nd l (p + 1)).f0.f0 - (nd l p).f0.f0) (by omega) (by omega) (by omega) (by omega) (by omega)
    constructor <;> simp only [out, mix] <;> omega
theorem At_any (l : List S82) (t : Int) : ∃ n c, Ev (fun k => tube_Check.f k l) c ∧ Ev (fun k => tube_At.f k l t) n ∧ (c ≠ 0 → n.2.2.2.2.2.2 = c) ∧ (n.2.2.2.2.2.2 = 0 → Rng n) := by
  obtain ⟨c, hc, hok⟩ := tube_any l
  by_cases e : c = 0
  · have h : OkTube l := hok.mp e
    by_cases o : t < (nd l 0).f0.f0 ∨ (nd l (l.length - 1)).f0.f0 < t
    · have := At_ev hc fun _ => at_out h o
      rw [if_pos e] at this
      exact ⟨_, c, hc, this, fun x => absurd e x, fun x => absurd x (by decide)⟩
    · obtain ⟨p, hp⟩ := at_exists h (t := t) (by omega)
      have hle : t ≤ (nd l (l.length - 1)).f0.f0 := by omega
      have := At_ev hc fun _ => at_ok h hp hle
      rw [if_pos e] at this
      exact ⟨_, c, hc, this, fun x => absurd e x, fun _ => at_rng h hp hle⟩
  · have := At_ev (t := t) (x := (0, 0, 0, 0, 0, 0, 0)) hc fun x => absurd x e
    rw [if_neg e] at this
    exact ⟨_, c, hc, this, fun _ => rfl, fun x => absurd x e⟩
def sq (ax ay bx by_ : Int) : Int := (ax - bx) * (ax - bx) + (ay - by_) * (ay - by_)
theorem sq_wrap {ax ay bx by_ : Int} (h : -4000000 ≤ ax - bx ∧ ax - bx ≤ 4000000 ∧ -4000000 ≤ ay - by_ ∧ ay - by_ ≤ 4000000) : wrap64 (wrap64 (wrap64 (ax - bx) * wrap64 (ax - bx)) + wrap64 (wrap64 (ay - by_) * wrap64 (ay - by_))) = sq ax ay bx by_ ∧ 0 ≤ sq ax ay bx by_ := by
  have h1 := sqbd h.1 h.2.1
  have h2 := sqbd h.2.2.1 h.2.2.2
  rw [w64 (n := ax - bx) (by omega) (by omega), w64 (n := ay - by_) (by omega) (by omega), w64 (n := (ax - bx) * (ax - bx)) (by omega) (by omega), w64 (n := (ay - by_) * (ay - by_)) (by omega) (by omega), w64 (by omega) (by omega)]
  exact ⟨rfl, by unfold sq; omega⟩
theorem keep_square {ax ay bx by_ : Int} (h : -4000000 ≤ ax - bx ∧ ax - bx ≤ 4000000 ∧ -4000000 ≤ ay - by_ ∧ ay - by_ ≤ 4000000) : skywaykeep2_square.f ax ay bx by_ = some (sq ax ay bx by_) := by
  unfold skywaykeep2_square.f; rw [(sq_wrap h).1]
theorem within_sq {ax ay bx by_ r : Int} (h : -4000000 ≤ ax - bx ∧ ax - bx ≤ 4000000 ∧ -4000000 ≤ ay - by_ ∧ ay - by_ ≤ 4000000) (r0 : 0 ≤ r) (r1 : r ≤ 8000000) : plane_Within.f ax ay bx by_ r = some (decide (sq ax ay bx by_ ≤ r * r)) := by
  have hr := sqbd (v := r) (V := 8000000) (by omega) r1
  unfold plane_Within.f plane_Square.f plane_Sub.f plane_Dot.f
  rw [if_pos r0, if_pos r1]
  simp only [Option.bind_some]
  rw [(sq_wrap h).1, w64 (n := r * r) (by omega) (by omega)]
theorem mx_abs {a b : Int} (h : -1000000 ≤ a ∧ a ≤ 1000000) (h' : -1000000 ≤ b ∧ b ≤ 1000000) (m : Int) : mx (wrap64 (a - b)) (wrap64 (b - a)) ≤ m ↔ a - b ≤ m ∧ b - a ≤ m := by
  rw [w64 (by omega) (by omega), w64 (by omega) (by omega)]
  unfold mx
  split <;> omega
theorem has_ev {l : List S82} {t px py h : Int} {n : Int × Int × Int × Int × Int × Int × Int} (hn : Ev (fun k => tube_At.f k l t) n) (hr : n.2.2.2.2.2.2 = 0 → Rng n) :
    ∃ r : Bool × Int, Ev (fun k => tube_Has.f k l t px py h) r ∧ (r.2 = 0 → n.2.2.2.2.2.2 = 0 ∧ (-1000000 ≤ px ∧ px ≤ 1000000 ∧ -1000000 ≤ py ∧ py ≤ 1000000) ∧ (0 ≤ h ∧ h ≤ 60000) ∧ (r.1 = true ↔ sq n.2.1 n.2.2.1 px py ≤ n.2.2.2.2.1 * n.2.2.2.2.1 ∧ h - n.2.2.2.1 ≤ n.2.2.2.2.2.1 ∧ n.2.2.2.1 - h ≤ n.2.2.2.2.2.1)) := by
  have hgo : ∀ {r : Bool × Int}, Ev (fun k => (if n.2.2.2.2.2.2 = 0 then ((plane_Check.f px py).bind fun t174 => (if t174 = 0 then (if h < 0 then (some (false, 4)) else (if h > 60000 then (some (false, 4)) else ((plane_Within.f n.2.1 n.2.2.1 px py n.2.2.2.2.1).bind fun t175 => (if t175 = true then (some (decide ((mx (wrap64 (h - n.2.2.2.1)) (wrap64 (n.2.2.2.1 - h))) ≤ n.2.2.2.2.2.1), 0)) else (some (false, 0)))))) else (some (false, t174)))) else (some (false, n.2.2.2.2.2.2)))) r → Ev (fun k => tube_Has.f k l t px py h) r := by
    intro r hq
    exact Ev.congr (fun k => by rw [tube_Has.f]) (Ev.bind hn hq)
  by_cases e : n.2.2.2.2.2.2 = 0
  · have R := hr e
    obtain ⟨c, hc, hci⟩ := pcheck px py
    by_cases c0 : c = 0
    · have hp := hci.mp c0
      by_cases g0 : h < 0
      · exact ⟨_, hgo (ev_pos e (ev_some hc (ev_pos c0 (ev_pos g0 (Ev.now (false, 4)))))), fun x => absurd x (by decide)⟩
      by_cases g1 : h > 60000
      · exact ⟨_, hgo (ev_pos e (ev_some hc (ev_pos c0 (ev_neg g0 (ev_pos g1 (Ev.now (false, 4))))))), fun x => absurd x (by decide)⟩
      have x0 := R.x0; have x1 := R.x1; have y0 := R.y0; have y1 := R.y1; have z0 := R.h0; have z1 := R.h1; have r0 := R.r0; have r1 := R.r1
      have hw := within_sq (ax := n.2.1) (ay := n.2.2.1) (bx := px) (by_ := py) (r := n.2.2.2.2.1) (by omega) (by omega) (by omega)
      have hm := mx_abs (a := h) (b := n.2.2.2.1) (by omega) (by omega) n.2.2.2.2.2.1
      by_cases q : sq n.2.1 n.2.2.1 px py ≤ n.2.2.2.2.1 * n.2.2.2.2.1
      · refine ⟨_, hgo (ev_pos e (ev_some hc (ev_pos c0 (ev_neg g0 (ev_neg g1 (ev_some hw (ev_pos (decide_eq_true q) (Ev.now _)))))))), fun _ => ⟨e, hp, by omega, ?_⟩⟩
        rw [decide_eq_true_iff, hm]
        exact ⟨fun x => ⟨q, x⟩, fun x => x.2⟩
      · refine ⟨_, hgo (ev_pos e (ev_some hc (ev_pos c0 (ev_neg g0 (ev_neg g1 (ev_some hw (ev_neg (by rw [decide_eq_false q]; decide) (Ev.now (false, 0))))))))), fun _ => ⟨e, hp, by omega, ?_⟩⟩
        exact ⟨fun x => absurd x (by decide), fun x => absurd x.1 q⟩
    · exact ⟨_, hgo (ev_pos e (ev_some hc (ev_neg c0 (Ev.now (false, c))))), fun x => absurd x c0⟩
  · exact ⟨_, hgo (ev_neg e (Ev.now (false, _))), fun x => absurd x e⟩

end Go.Proofs.Ytehgapcmngdcnaa.LConformSound
