/- What functions that RadarGrows reaches compute, over numbers and lists. Their conditions stand in each lemma. -/
import Derived.Test.YtpcmmbbkidojoaaMRadarGrowsx0
import Derived.Test.YtpcmmbbkidojoaaMRadarGrowsx1
import Derived.Test.YtpcmmbbkidojoaaMRadarGrowsx2
import Derived.Test.YtpcmmbbkidojoaaBase
namespace Go.Proofs.Ytpcmmbbkidojoaa.LRadarGrows
open Go.RowKit Go.Proofs.Ytpcmmbbkidojoaa.Opens Go.Proofs.Ytpcmmbbkidojoaa.MRadarGrows Go.Proofs.YtpcmmbbkidojoaaW.PrintWords Go.Proofs.YtpcmmbbkidojoaaW.PrintLast Go.Proofs.YtpcmmbbkidojoaaW.PrintMore Go.Proofs.Ytpcmmbbkidojoaa.Base
set_option linter.unusedVariables false
set_option linter.unusedSimpArgs false

theorem divDown {a b : Int} (ha0 : -9223372036854775808 ≤ a) (ha : a ≤ 9223372036854775807) (hb : 0 < b) (hq : -9223372036854775808 < a / b ∨ True) : Ev (fun k => num_DivDown.f k a b) (a / b, 0) := by
  have hf := floor_of (a := a) hb
  have hbd := tdiv_bd ha0 ha hb
  have hfd := fdiv_le (a := a) hb
  have hlow : -9223372036854775808 ≤ a / b := by
    by_cases h : 0 ≤ a
    · have := Int.ediv_nonneg h (by omega : 0 ≤ b); omega
    · have h1 : a ≤ a / b := by
        have h2 : a / b < 0 := Int.ediv_neg_of_neg_of_pos (by omega) hb
        have h3 : a / b * b ≤ a / b * 1 := Int.mul_le_mul_of_nonpos_left (by omega) (by omega)
        rw [Int.mul_comm] at h3
        have h4 := hfd.1
        have h5 := hfd.2
        by_cases h6 : b = 1
        · subst h6; simp
        · have h7 : a / b * b ≤ a / b * 2 := Int.mul_le_mul_of_nonpos_left (by omega) (by omega)
          rw [Int.mul_comm] at h7
          by_cases h8 : a ≤ a / b
          · exact h8
          · exfalso
            have : b * (a / b) + b ≤ a / b + 1 := by
              have : b * (a / b + 1) ≤ 1 * (a / b + 1) := Int.mul_le_mul_of_nonpos_right (by omega) (by omega)
              rw [Int.mul_add, Int.mul_one, Int.one_mul] at this
              exact this
            omega
      omega
  have hj : ∀ f, f = false → Ev (fun k => num_DivDown.j0 k a b f) (a / b, 0) := by
    rintro f rfl
    refine Ev.step (fun k => by rw [num_DivDown.j0]) ?_
    refine ev_neg (by decide) (ev_neg (by omega) ?_)
    rw [← hf]
    by_cases h0 : Int.tmod a b = 0
    · refine ev_pos h0 (ev_eq (Ev.now _) ?_)
      rw [if_pos h0, w64 hbd.1 hbd.2]
    · refine ev_neg h0 ?_
      rw [if_neg h0] at hf ⊢
      have hbn : decide (b < 0) = false := decide_eq_false (by omega)
      by_cases h1 : a < 0
      · refine ev_pos (by rw [hbn, decide_eq_true h1]; rfl) (ev_eq (Ev.now _) ?_)
        rw [if_pos h1] at hf ⊢
        rw [w64 hbd.1 hbd.2, w64 (by omega) (by omega)]
      · refine ev_neg (by rw [hbn, decide_eq_false h1]; decide) (ev_eq (Ev.now _) ?_)
        rw [if_neg h1, w64 hbd.1 hbd.2]
  show Ev (fun k => num_DivDown.f k a b) _
  refine Ev.congr (fun k => by rw [num_DivDown.f]) ?_
  refine ev_neg (by omega) ?_
  by_cases hm : a = -9223372036854775808
  · refine ev_pos hm (hj _ ?_)
    simp; omega
  · exact ev_neg hm (hj _ rfl)
theorem ddown {a b : Int} (ha0 : -9223372036854775808 ≤ a) (ha : a ≤ 9223372036854775807) (hb : 0 < b) : Ev (fun k => num_DivDown.f k a b) (a / b, 0) := divDown ha0 ha hb (Or.inr trivial)

theorem dup {a b : Int} (ha0 : -9223372036854775808 ≤ a) (ha : a < 9223372036854775807) (hb : 0 < b) : Ev (fun k => num_DivUp.f k a b) (cdiv a b, 0) := by
  refine Ev.congr (fun k => by rw [num_DivUp.f]) (Ev.bind (ddown ha0 (by omega) hb) ?_)
  refine ev_pos rfl (ev_neg (by omega) ?_)
  have hc := ceil_of (a := a) hb
  have hle := fdiv_le (a := a) hb
  have hup : a / b ≤ 9223372036854775806 := by
    have h1 : a / b ≤ 9223372036854775806 / b := Int.ediv_le_ediv hb (by omega)
    have h2 : (9223372036854775806 : Int) / b ≤ 9223372036854775806 := Int.ediv_le_self _ (by omega)
    omega
  have hlo : -9223372036854775808 ≤ a / b := by
    have h1 : (-9223372036854775808 : Int) / b ≤ a / b := Int.ediv_le_ediv hb ha0
    have h2 : -9223372036854775808 ≤ (-9223372036854775808 : Int) / b := by
      have := fdiv_le (a := (-9223372036854775808 : Int)) hb
      by_cases h3 : -9223372036854775808 ≤ (-9223372036854775808 : Int) / b
      · exact h3
      · exfalso
        have h4 : b * ((-9223372036854775808 : Int) / b + 1) ≤ 1 * ((-9223372036854775808 : Int) / b + 1) := Int.mul_le_mul_of_nonpos_right (by omega) (by omega)
        rw [Int.mul_add, Int.mul_one, Int.one_mul] at h4
        omega
    omega
  by_cases h0 : Int.tmod a b = 0
  · refine ev_pos h0 (ev_eq (Ev.now _) ?_)
    rw [if_pos h0] at hc; rw [hc]
  · refine ev_neg h0 (ev_eq (Ev.now _) ?_)
    rw [if_neg h0] at hc; rw [← hc, w64 (by omega) (by omega)]

theorem idx_ev (l : List Int) (hl : l.length ≤ 1000000) : ∀ (d i : Nat), i + d = l.length → ∃ r : Int, Ev (fun k => api_Errno_76_fn47.l0 k l (l.length : Int) (i : Int)) r ∧ decide (r ≥ 0) = (l.drop i).any (· != 0)
  | 0, i, h => by
    refine ⟨-1, Ev.step (fun k => by rw [api_Errno_76_fn47.l0]) (ev_neg (by omega) (Ev.now _)), ?_⟩
    rw [List.drop_eq_nil_of_le (by omega)]; rfl
  | d + 1, i, h => by
    obtain ⟨r, hr, hd⟩ := idx_ev l hl d (i + 1) (by omega)
    have hi : i < l.length := by omega
    have hrd : rd l (i : Int) = l[i] := by unfold rd; simp [hi]
    have hdrop : l.drop i = l[i] :: l.drop (i + 1) := List.drop_eq_getElem_cons hi
    have hstep : ∀ b, (l[i] != 0) = b → Ev (fun k => if b = true then some (i : Int) else api_Errno_76_fn47.l0 k l (l.length : Int) (wrap64 ((i : Int) + 1))) (if b = true then (i : Int) else r) → Ev (fun k => api_Errno_76_fn47.l0 k l (l.length : Int) (i : Int)) (if b = true then (i : Int) else r) := by
      intro b hb h'
      refine Ev.step (fun k => by rw [api_Errno_76_fn47.l0]) ?_
      refine ev_pos (by omega) (ev_pos (by omega) (ev_pos (by omega) ?_))
      refine ev_some (a := b) (by unfold skywaykeep2_fine_1.f; rw [hrd, hb]) h'
    by_cases hz : (l[i] != 0) = true
    · refine ⟨i, by have := hstep true hz (ev_pos rfl (Ev.now _)); simpa using this, ?_⟩
      rw [hdrop, List.any_cons, hz]; simp
    · refine ⟨r, by have := hstep false (by simpa using hz) (ev_neg (by decide) (by rw [w64 (by omega) (by omega)]; exact hr)); simpa using this, ?_⟩
      rw [hdrop, List.any_cons, hd]; simp at hz; simp [hz]
theorem fine_ev (l : List Int) (hl : l.length ≤ 1000000) : Ev (fun k => skywaykeep2_fine.f k l) (!(l.any (· != 0))) := by
  obtain ⟨r, hr, hd⟩ := idx_ev l hl l.length 0 (by omega)
  refine Ev.congr (fun k => by rw [skywaykeep2_fine.f]) (Ev.bind (a := l.any (· != 0)) ?_ (Ev.now _))
  refine Ev.congr (fun k => by rw [api_Errno_46_fn47.f]) (Ev.bind (a := r) ?_ (ev_eq (Ev.now _) (by rw [hd]; rfl)))
  refine Ev.congr (fun k => by rw [api_Errno_76_fn47.f]) ?_
  exact hr

def OkAt (x y : Int) : Prop := -1000000 ≤ x ∧ x ≤ 1000000 ∧ -1000000 ≤ y ∧ y ≤ 1000000
theorem placed_ok {x y : Int} (h : OkAt x y) : radar_placed.f x y = some true := by
  unfold OkAt at h; unfold radar_placed.f
  rw [if_pos (by omega), if_pos (by omega), if_pos (by omega)]
  simp; omega
theorem placed_bad {x y : Int} (h : ¬ OkAt x y) : radar_placed.f x y = some false := by
  unfold OkAt at h; unfold radar_placed.f
  by_cases h1 : x ≥ -1000000
  · rw [if_pos h1]
    by_cases h2 : x ≤ 1000000
    · rw [if_pos h2]
      by_cases h3 : y ≥ -1000000
      · rw [if_pos h3]; simp; omega
      · rw [if_neg h3]
    · rw [if_neg h2]
  · rw [if_neg h1]
def OkSite (id x y reach re ae : Int) : Prop := 0 ≤ id ∧ id ≤ 255 ∧ OkAt x y ∧ 1 ≤ reach ∧ reach ≤ 1000000 ∧ 1 ≤ re ∧ re ≤ 10000 ∧ 1 ≤ ae ∧ ae ≤ 100
theorem site_ok {id x y reach re ae : Int} (h : OkSite id x y reach re ae) : radar_Check.f id x y reach re ae = some 0 := by
  obtain ⟨h1, h2, h3, h4⟩ := h
  unfold radar_Check.f
  rw [placed_ok h3, if_neg (by omega), if_neg (by omega)]
  simp only [Option.bind_some, if_true]
  rw [if_neg (by omega), if_neg (by omega), if_neg (by omega), if_neg (by omega), if_neg (by omega), if_neg (by omega)]
theorem site_bad {id x y reach re ae : Int} (h : ¬ OkSite id x y reach re ae) : radar_Check.f id x y reach re ae = some 4 := by
  unfold OkSite at h
  unfold radar_Check.f
  by_cases h3 : OkAt x y
  · rw [placed_ok h3]
    simp only [Option.bind_some, if_true]
    repeat (refine ite_same (fun _ => rfl) (fun _ => ?_))
    exfalso; exact h ⟨by omega, by omega, h3, by omega, by omega, by omega, by omega, by omega, by omega⟩
  · rw [placed_bad h3]
    refine ite_same (fun _ => rfl) (fun _ => ite_same (fun _ => rfl) (fun _ => ?_))
    rfl
/-- The bound of the error. -/
def errOf (re ae far : Int) : Int := re + cdiv (far * ae) 651 + cdiv far 23170 + 2
theorem error_ok {id x y reach re ae far : Int} (h : OkSite id x y reach re ae) (h0 : 0 ≤ far) (h1 : far ≤ 2000000) : Ev (fun k => radar_Error.f k id x y reach re ae far) (errOf re ae far, 0) := by
  have hs := site_ok h
  obtain ⟨_, _, _, _, _, r0, r1, a0, a1⟩ := h
  refine Ev.congr (fun k => by rw [radar_Error.f]) ?_
  refine ev_some hs ?_
  refine ev_pos rfl ?_
  refine ev_neg (by omega) ?_
  rw [decide_eq_false (by omega)]
  have m0 : 0 ≤ far * ae := Int.mul_nonneg h0 (by omega)
  have m1 : far * ae ≤ 2000000 * 100 := Int.mul_le_mul h1 a1 (by omega) (by omega)
  refine Ev.step (fun k => by rw [radar_Error.j0]) (ev_neg (by decide) ?_)
  rw [w64 (n := far * ae) (by omega) (by omega)]
  refine Ev.bind (dup (a := far * ae) (b := 651) (by omega) (by omega) (by omega)) (Ev.bind (dup (a := far) (b := 23170) (by omega) (by omega) (by omega)) (ev_eq (Ev.now _) ?_))
  have c1 := le_cdiv (a := far * ae) (b := 651) (by omega)
  have c2 := le_cdiv (a := far) (b := 23170) (by omega)
  show (wrap64 (wrap64 (wrap64 (re + cdiv (far * ae) 651) + cdiv far 23170) + 2), (0 : Int)) = (errOf re ae far, 0)
  rw [w64 (n := re + cdiv (far * ae) 651) (by omega) (by omega), w64 (n := re + cdiv (far * ae) 651 + cdiv far 23170) (by omega) (by omega), w64 (by omega) (by omega)]
  rfl
theorem error_bad {id x y reach re ae far : Int} (h : ¬ (OkSite id x y reach re ae ∧ 0 ≤ far ∧ far ≤ 2000000)) : Ev (fun k => radar_Error.f k id x y reach re ae far) (0, 4) := by
  refine Ev.congr (fun k => by rw [radar_Error.f]) ?_
  by_cases hs : OkSite id x y reach re ae
  · refine ev_some (site_ok hs) (ev_pos rfl ?_)
    have hj : ∀ f, f = true → Ev (fun k => radar_Error.j0 k far f id x y reach re ae) (0, 4) := by
      rintro f rfl
      exact Ev.step (fun k => by rw [radar_Error.j0]) (ev_pos rfl (Ev.now _))
    by_cases h0 : far < 0
    · exact ev_pos h0 (hj _ rfl)
    · refine ev_neg h0 (hj _ (decide_eq_true ?_))
      by_cases h1 : far > 2000000
      · exact h1
      · exact absurd ⟨hs, by omega, by omega⟩ h
  · exact ev_some (site_bad hs) (ev_neg (by decide) (Ev.now _))
theorem err_mono {re ae a b : Int} (ha : 1 ≤ ae) (h : a ≤ b) : errOf re ae a ≤ errOf re ae b := by
  unfold errOf
  have h1 : cdiv (a * ae) 651 ≤ cdiv (b * ae) 651 := cdiv_mono (by omega) (Int.mul_le_mul_of_nonneg_right h (by omega))
  have h2 : cdiv a 23170 ≤ cdiv b 23170 := cdiv_mono (by omega) h
  omega

end Go.Proofs.Ytpcmmbbkidojoaa.LRadarGrows
