-- PRINTED BY print.sh 35421559b90ae4d0a3588c463048766b98c2df88dd9212a6774a882060cdf62d: not written by this session
import Derived.Test.YtpcmmbbkidojoaaPClimbNarrowsx0
import Derived.Test.YtpcmmbbkidojoaaPClimbNarrowsx1
namespace Go.Proofs.Ytpcmmbbkidojoaa.PClimbNarrows
open Go.RowKit Go.Proofs.YtpcmmbbkidojoaaW.PrintWords Go.Proofs.YtpcmmbbkidojoaaW.PrintLast Go.Proofs.YtpcmmbbkidojoaaW.PrintMore
attribute [local go_sem] max2_int min2_int max_two min_two max_three min_three max_four min_four   -- for this text's walks alone
set_option linter.unusedVariables false
set_option linter.unusedSimpArgs false

/-! ### skywaykeep2_ClimbNarrows: function 9 -/
def skywaykeep2_ClimbNarrows.j0 : Nat → List (S112) → Bool → Option (Bool)
  | 0, _, _ => none
  | k + 1, x0, x26 => if x26 = true then (some false) else (if (x0.length : Int) = 0 then (some true) else (if 0 ≤ (wrap64 ((x0.length : Int) - 1)) then (if (wrap64 ((x0.length : Int) - 1)) ≤ (x0.length : Int) then ((climb_Rates.f k (x0.take ((wrap64 ((x0.length : Int) - 1)) : Int).toNat)).bind fun bt126 => ((climb_Rates.f k x0).bind fun bt129 => (if bt129.2.2 = 0 then (if bt126.2.2 = 0 then (if bt126.1 ≤ bt129.1 then (if bt129.2.1 ≤ bt126.2.1 then (some (decide (bt129.1 ≤ bt129.2.1))) else (some false)) else (some false)) else (some false)) else (if bt129.1 = 0 then (some (bt129.2.1 == 0)) else (some false))))) else (none)) else (none)))
def skywaykeep2_ClimbNarrows.f (k : Nat) (l0 : List (S112)) : Option (Bool) := (climb_Rates.f k ([] : List (S112))).bind fun bt119 => (if bt119.2.2 = 0 then (if bt119.1 = (-3200) then (skywaykeep2_ClimbNarrows.j0 k l0 (bt119.2.1 != 3200)) else (skywaykeep2_ClimbNarrows.j0 k l0 true)) else (skywaykeep2_ClimbNarrows.j0 k l0 true))
theorem skywaykeep2_ClimbNarrows.mono_l : ∀ k, (∀ y0 y1, LeO (skywaykeep2_ClimbNarrows.j0 k y0 y1) (skywaykeep2_ClimbNarrows.j0 (k + 1) y0 y1))
  | 0 => fun _ _ r h => by simp [skywaykeep2_ClimbNarrows.j0] at h
  | k + 1 => by
    have ih0 := skywaykeep2_ClimbNarrows.mono_l k
    · intro y0 y1
      unfold skywaykeep2_ClimbNarrows.j0
      repeat' first
      | (with_reducible exact ih0 _ _)
      | (with_reducible exact climb_Rates.mono _ _)
      | (with_reducible exact LeO.refl _)
      | (with_reducible exact LeO.none _)
      | (with_reducible refine LeO.ite ?_ ?_)
      | (with_reducible refine LeO.bind ?_ (fun _ => ?_))
      | exact ih0 _ _
      | exact climb_Rates.mono _ _
      | exact LeO.none _
      | refine LeO.ite ?_ ?_
      | refine LeO.bind ?_ (fun _ => ?_)
theorem skywaykeep2_ClimbNarrows.mono : ∀ a0 k, LeO (skywaykeep2_ClimbNarrows.f k a0) (skywaykeep2_ClimbNarrows.f (k + 1) a0) := by
  intro a0 k
  have ih0 := skywaykeep2_ClimbNarrows.mono_l k
  unfold skywaykeep2_ClimbNarrows.f
  repeat' first
      | (with_reducible exact ih0 _ _)
      | (with_reducible exact climb_Rates.mono _ _)
      | (with_reducible exact LeO.refl _)
      | (with_reducible exact LeO.none _)
      | (with_reducible refine LeO.ite ?_ ?_)
      | (with_reducible refine LeO.bind ?_ (fun _ => ?_))
      | exact ih0 _ _
      | exact climb_Rates.mono _ _
      | exact LeO.none _
      | refine LeO.ite ?_ ?_
      | refine LeO.bind ?_ (fun _ => ?_)
set_option maxHeartbeats 8000000 in
set_option maxRecDepth 100000 in
theorem skywaykeep2_ClimbNarrows.calls (k : Nat) (A0 : Option Addr) (c0 : Nat) (l0 : List (S112)) (r : Bool) (w : World) (hr0 : Kd.C k112 w A0 l0.length l0) (hc0 : l0.length ≤ c0) (h : skywaykeep2_ClimbNarrows.f k l0 = some r) :
    Calls Try.prog 9 #[.slice A0 l0.length c0] w fun e w' => e = .returned (.bool r) ∧ Below w.heap.size w w' := by
  have HR0 := Aside0.mk hr0
  have HC0 := Aside0.mk hc0
  clear hr0 hc0
  have HB := Aside0.mk (Below.refl w.heap.size w)
  have H : ((climb_Rates.f k ([] : List (S112))).bind fun bt119 => (if bt119.2.2 = 0 then (if bt119.1 = (-3200) then (skywaykeep2_ClimbNarrows.j0 k l0 (bt119.2.1 != 3200)) else (skywaykeep2_ClimbNarrows.j0 k l0 true)) else (skywaykeep2_ClimbNarrows.j0 k l0 true))) = some r := h
  clear h
  replace H := Option.bind_eq_some_iff.mp H
  obtain ⟨⟨t119, t120, t121⟩, A20, H⟩ := H
  replace H : (if t121 = 0 then (if t119 = (-3200) then (skywaykeep2_ClimbNarrows.j0 k l0 (t120 != 3200)) else (skywaykeep2_ClimbNarrows.j0 k l0 true)) else (skywaykeep2_ClimbNarrows.j0 k l0 true)) = some r := H
  have A2 := Aside0.mk A20
  clear A20
  have HC3 := Aside0.mk H
  clear H
  go_enter Try.func9, Try.ntmps9
  go_upto_region 2 with (first | ((with_reducible refine gate_callee (f := 27) rfl ?_); refine goesL_ (some 13) rfl rfl Try.func27 (by kernel_rfl) rfl #[.slice none 0 0] rfl (by (try simp only [List.map_toArray, List.map_cons, List.map_nil]); first | done | rfl | (simp only [List.length_drop, List.length_take]; rfl)) ?_; (refine (climb_Rates.calls k _ _ ([] : List (S112)) t119 t120 t121 _ ?side1 ?side2 A2.out).mono ?_); (case side1 => exact Kd.C_nil _ _); (case side2 => exact Nat.le_refl _); rintro e w4 ⟨rfl, hb⟩; refine ⟨_, rfl, ?_⟩; have n0_ := Aside0.mk (below_step (by repeat (first | (with_reducible first | exact HB.out | apply below_alloc | apply pw_below_drewN | apply below_drew1) | exact HB.out)) hb); clear HB; have HB := n0_; clear n0_; (try clear hb); (try clear hb2); (try clear hk); (try clear hi)))
  (try simp only [Act.put, List.setIfInBounds_toArray, List.set_cons_zero, List.set_cons_succ])
  go_cut [26] (fun v26 wc => ∃ (kq : Nat) (x26_2 : Bool), v26 = .bool x26_2 ∧ Aside0 (skywaykeep2_ClimbNarrows.j0 kq l0 x26_2 = some r) ∧ Aside0 (kq ≤ k) ∧ Aside0 (Below w.heap.size w wc))
  case first =>
    have H := HC3.out
    clear HC3
    by_cases c5 : t121 = 0
    · rw [if_pos c5] at H
      have c5b0 : (t121 == 0) = true := beq_iff_eq.mpr c5
      have c5b1 : (t121 != 0) = false := bne_eq_false_iff_eq.mpr c5
      clear c5
      (first | rw [c5b0] | (simp only [i64_w, i32_w]; rw [c5b0]) | skip)
      by_cases c6 : t119 = (-3200)
      · rw [if_pos c6] at H
        have c6b0 : (t119 == (-3200)) = true := beq_iff_eq.mpr c6
        have c6b1 : (t119 != (-3200)) = false := bne_eq_false_iff_eq.mpr c6
        clear c6
        have H' := Aside0.mk H
        clear H
        go_wp2
        go_meet
        case rel => exact ⟨_, ((t120 != 3200)), (by first | rfl | (simp; done) | (simp [*]; done)), H', ⟨by first | omega | exact Nat.le_refl _⟩, ⟨by repeat (first | (with_reducible first | exact HB.out | apply below_alloc | apply pw_below_drewN | apply below_drew1) | exact HB.out)⟩⟩
      · rw [if_neg c6] at H
        have c6b0 : (t119 == (-3200)) = false := beq_eq_false_iff_ne.mpr c6
        have c6b1 : (t119 != (-3200)) = true := bne_iff_ne.mpr c6
        have H' := Aside0.mk H
        clear H
        go_wp2
        go_meet
        case rel => exact ⟨_, (true), (by first | rfl | (simp; done) | (simp [*]; done)), H', ⟨by first | omega | exact Nat.le_refl _⟩, ⟨by repeat (first | (with_reducible first | exact HB.out | apply below_alloc | apply pw_below_drewN | apply below_drew1) | exact HB.out)⟩⟩
    · rw [if_neg c5] at H
      have c5b0 : (t121 == 0) = false := beq_eq_false_iff_ne.mpr c5
      have c5b1 : (t121 != 0) = true := bne_iff_ne.mpr c5
      (first | rw [c5b0] | (simp only [i64_w, i32_w]; rw [c5b0]) | skip)
      have H' := Aside0.mk H
      clear H
      go_wp2
      go_meet
      case rel => exact ⟨_, (true), (by first | rfl | (simp; done) | (simp [*]; done)), H', ⟨by first | omega | exact Nat.le_refl _⟩, ⟨by repeat (first | (with_reducible first | exact HB.out | apply below_alloc | apply pw_below_drewN | apply below_drew1) | exact HB.out)⟩⟩
  case rest =>
    clear HC3
    try clear c2
    try clear p2
    try clear c5
    try clear c5b0
    try clear c5b1
    try clear c6
    try clear c6b0
    try clear c6b1
    obtain ⟨kq, x26_2, rfl, HA, HJ2, HB⟩ := hcut
    cases kq with
    | zero => exact absurd HA.out (by simp [skywaykeep2_ClimbNarrows.j0])
    | succ kj2 =>
      have H := HA.out
      clear HA
      simp only [skywaykeep2_ClimbNarrows.j0] at H
      by_cases c7 : x26_2 = true
      · subst c7
        have H1 : (some false) = some r := by rw [if_pos rfl] at H; exact H
        clear H
        have H := H1
        clear H1
        obtain rfl := Option.some.inj H
        go_wp2
        go_ret
        exact ⟨by first | rfl | (simp [errW_none, errW_some] <;> rfl) | (simp [*, errW_none, errW_some] <;> rfl), by repeat (first | (with_reducible first | exact HB.out | apply below_alloc | apply pw_below_drewN | apply below_drew1) | exact HB.out)⟩
      · replace c7 := Bool.eq_false_iff.mpr c7
        subst c7
        have H1 : (if (l0.length : Int) = 0 then (some true) else (if 0 ≤ (wrap64 ((l0.length : Int) - 1)) then (if (wrap64 ((l0.length : Int) - 1)) ≤ (l0.length : Int) then ((climb_Rates.f kj2 (l0.take ((wrap64 ((l0.length : Int) - 1)) : Int).toNat)).bind fun bt126 => ((climb_Rates.f kj2 l0).bind fun bt129 => (if bt129.2.2 = 0 then (if bt126.2.2 = 0 then (if bt126.1 ≤ bt129.1 then (if bt129.2.1 ≤ bt126.2.1 then (some (decide (bt129.1 ≤ bt129.2.1))) else (some false)) else (some false)) else (some false)) else (if bt129.1 = 0 then (some (bt129.2.1 == 0)) else (some false))))) else (none)) else (none))) = some r := by rw [if_neg (show ¬ (false = true) by decide)] at H; exact H
        clear H
        have H := H1
        clear H1
        by_cases c8 : (l0.length : Int) = 0
        · rw [if_pos c8] at H
          have c8b0 : ((l0.length : Int) == 0) = true := beq_iff_eq.mpr c8
          have c8b1 : ((l0.length : Int) != 0) = false := bne_eq_false_iff_eq.mpr c8
          clear c8
          obtain rfl := Option.some.inj H
          go_wp2
          go_ret
          exact ⟨by first | rfl | (simp [errW_none, errW_some] <;> rfl) | (simp [*, errW_none, errW_some] <;> rfl), by repeat (first | (with_reducible first | exact HB.out | apply below_alloc | apply pw_below_drewN | apply below_drew1) | exact HB.out)⟩
        · rw [if_neg c8] at H
          have c8b0 : ((l0.length : Int) == 0) = false := beq_eq_false_iff_ne.mpr c8
          have c8b1 : ((l0.length : Int) != 0) = true := bne_iff_ne.mpr c8
          have c8b2 : ¬ (l0 = []) := fun h_ => c8 (by rw [h_]; rfl)
          obtain ⟨ji9, hji9⟩ : ∃ j_ : Int, (wrap64 ((l0.length : Int) - 1)) = j_ := ⟨_, rfl⟩
          replace H : (if 0 ≤ (ji9) then (if (ji9) ≤ (l0.length : Int) then ((climb_Rates.f kj2 (l0.take ((ji9) : Int).toNat)).bind fun bt126 => ((climb_Rates.f kj2 l0).bind fun bt129 => (if bt129.2.2 = 0 then (if bt126.2.2 = 0 then (if bt126.1 ≤ bt129.1 then (if bt129.2.1 ≤ bt126.2.1 then (some (decide (bt129.1 ≤ bt129.2.1))) else (some false)) else (some false)) else (some false)) else (if bt129.1 = 0 then (some (bt129.2.1 == 0)) else (some false))))) else (none)) else (none)) = some r := by first | (rw [hji9] at H; exact H) | (simp only [hji9] at H ⊢; exact H)
          have hji9w : (IntKind.i64.wrap ((l0.length : Int) - 1)) = ji9 := (i64_w _).trans hji9
          by_cases c10 : 0 ≤ (ji9)
          · rw [if_pos c10] at H
            have c10b0 := eq_true c10
            have c10b1 : decide (0 ≤ (ji9)) = true := decide_eq_true c10
            clear c10
            by_cases c11 : (ji9) ≤ (l0.length : Int)
            · rw [if_pos c11] at H
              have c11b0 := eq_true c11
              have c11b1 : decide ((ji9) ≤ (l0.length : Int)) = true := decide_eq_true c11
              clear c11
              obtain ⟨y122, hy122⟩ : ∃ y_ : List (S112), y_ = (l0.take ((ji9) : Int).toNat) := ⟨_, rfl⟩
              replace H : ((climb_Rates.f kj2 y122).bind fun bt126 => ((climb_Rates.f kj2 l0).bind fun bt129 => (if bt129.2.2 = 0 then (if bt126.2.2 = 0 then (if bt126.1 ≤ bt129.1 then (if bt129.2.1 ≤ bt126.2.1 then (some (decide (bt129.1 ≤ bt129.2.1))) else (some false)) else (some false)) else (some false)) else (if bt129.1 = 0 then (some (bt129.2.1 == 0)) else (some false))))) = some r := by first | (rw [hy122]; with_reducible exact H) | (have H2_ := (Option.bind_some _ _).symm.trans H; rw [hy122]; with_reducible exact H2_) | (have H2_ := (Option.bind_some _ _).symm.trans H; with_reducible exact H2_) | with_reducible exact H | (rw [hy122]; exact H) | exact H
              have Ny122 := Aside0.mk hy122
              clear hy122
              replace H := Option.bind_eq_some_iff.mp H
              obtain ⟨⟨t126, t127, t128⟩, A120, H⟩ := H
              replace H : ((climb_Rates.f kj2 l0).bind fun bt129 => (if bt129.2.2 = 0 then (if t128 = 0 then (if t126 ≤ bt129.1 then (if bt129.2.1 ≤ t127 then (some (decide (bt129.1 ≤ bt129.2.1))) else (some false)) else (some false)) else (some false)) else (if bt129.1 = 0 then (some (bt129.2.1 == 0)) else (some false)))) = some r := H
              have A12 := Aside0.mk A120
              clear A120
              replace H := Option.bind_eq_some_iff.mp H
              obtain ⟨⟨t129, t130, t131⟩, A130, H⟩ := H
              replace H : (if t131 = 0 then (if t128 = 0 then (if t126 ≤ t129 then (if t130 ≤ t127 then (some (decide (t129 ≤ t130))) else (some false)) else (some false)) else (some false)) else (if t129 = 0 then (some (t130 == 0)) else (some false))) = some r := H
              have A13 := Aside0.mk A130
              clear A130
              by_cases c14 : t131 = 0
              · rw [if_pos c14] at H
                have c14b0 : (t131 == 0) = true := beq_iff_eq.mpr c14
                have c14b1 : (t131 != 0) = false := bne_eq_false_iff_eq.mpr c14
                clear c14
                by_cases c15 : t128 = 0
                · rw [if_pos c15] at H
                  have c15b0 : (t128 == 0) = true := beq_iff_eq.mpr c15
                  have c15b1 : (t128 != 0) = false := bne_eq_false_iff_eq.mpr c15
                  clear c15
                  by_cases c16 : t126 ≤ t129
                  · rw [if_pos c16] at H
                    have c16b0 : decide (t126 ≤ t129) = true := decide_eq_true c16
                    clear c16
                    by_cases c17 : t130 ≤ t127
                    · rw [if_pos c17] at H
                      have c17b0 : decide (t130 ≤ t127) = true := decide_eq_true c17
                      clear c17
                      obtain rfl := Option.some.inj H
                      have q18 : ((ji9) : Int) ≤ ((l0.length : Int) : Int) := of_decide_eq_true (by first | (with_reducible assumption) | assumption)
                      obtain ⟨i018, hi018, _, hsz18, _⟩ := info_parts info112
                      have hroom18 : l0.length ≤ c0 := HC0.out
                      have hC18 : Kd.C k112 _ A0 l0.length l0 := HR0.out
                      have hcut18 := cut_to (P := Try.prog) 56 112 .i64 Try.underlying56 hi018 A0 l0.length c0 (ji9) (of_decide_eq_true (by first | (with_reducible assumption) | assumption)) q18 hroom18
                      have hr18 := Kd.C_take (m := ((ji9) : Int).toNat) hC18 (by omega)
                      have hy18 : y122.length = ((ji9) : Int).toNat := (by rw [Ny122.out, List.length_take]; omega)
                      rw [← Ny122.out] at hr18
                      rw [← hy18] at hcut18
                      have HR125 := Aside0.mk hr18
                      have HC125 := Aside0.mk (show y122.length ≤ c0 from by omega)
                      clear hr18 hC18 hroom18 hi018 hsz18
                      have KY18 := Aside0.mk hy18
                      clear hy18
                      replace q18 := eq_true q18
                      go_wp2_with (first | ((with_reducible refine gate_callee (f := 27) rfl ?_); refine goesL_ (some 36) rfl rfl Try.func27 (by kernel_rfl) rfl #[.slice A0 y122.length c0] rfl (by (try simp only [List.map_toArray, List.map_cons, List.map_nil]); first | done | rfl | (simp only [List.length_drop, List.length_take]; rfl)) ?_; (with_reducible refine (climb_Rates.calls kj2 _ _ y122 t126 t127 t128 _ ?side1 ?side2 A12.out).mono ?_); (case side1 => repeat (first | exact (Kd.C_below HR125.out HB.out) | (with_reducible refine Kd.C_alloc ?_ _) | (with_reducible refine Kd.C_drewN ?_ _) | (with_reducible refine Kd.C_drew ?_))); (case side2 => exact HC125.out); rintro e w19 ⟨rfl, hb⟩; refine ⟨_, rfl, ?_⟩; have n0_ := Aside0.mk (below_step (by repeat (first | (with_reducible first | exact HB.out | apply below_alloc | apply pw_below_drewN | apply below_drew1) | exact HB.out)) hb); clear HB; have HB := n0_; clear n0_; (try clear hb); (try clear hb2); (try clear hk); (try clear hi)) | ((with_reducible refine gate_callee (f := 27) rfl ?_); refine goesL_ (some 42) rfl rfl Try.func27 (by kernel_rfl) rfl #[.slice A0 l0.length c0] rfl (by (try simp only [List.map_toArray, List.map_cons, List.map_nil]); first | done | rfl | (simp only [List.length_drop, List.length_take]; rfl)) ?_; (with_reducible refine (climb_Rates.calls kj2 _ _ l0 t129 t130 t131 _ ?side1 ?side2 A13.out).mono ?_); (case side1 => repeat (first | exact (Kd.C_below HR0.out HB.out) | (with_reducible refine Kd.C_alloc ?_ _) | (with_reducible refine Kd.C_drewN ?_ _) | (with_reducible refine Kd.C_drew ?_))); (case side2 => exact HC0.out); rintro e w20 ⟨rfl, hb⟩; refine ⟨_, rfl, ?_⟩; have n0_ := Aside0.mk (below_step (by repeat (first | (with_reducible first | exact HB.out | apply below_alloc | apply pw_below_drewN | apply below_drew1) | exact HB.out)) hb); clear HB; have HB := n0_; clear n0_; (try clear hb); (try clear hb2); (try clear hk); (try clear hi)))
                      go_ret
                      exact ⟨by first | rfl | (simp [errW_none, errW_some] <;> rfl) | (simp only [← hji9]; first | rfl | (simp [errW_none, errW_some] <;> rfl)) | (simp [*, errW_none, errW_some] <;> rfl), by repeat (first | (with_reducible first | exact HB.out | apply below_alloc | apply pw_below_drewN | apply below_drew1) | exact HB.out)⟩
                    · rw [if_neg c17] at H
                      have c17b0 : decide (t130 ≤ t127) = false := decide_eq_false c17
                      clear c17
                      obtain rfl := Option.some.inj H
                      have q21 : ((ji9) : Int) ≤ ((l0.length : Int) : Int) := of_decide_eq_true (by first | (with_reducible assumption) | assumption)
                      obtain ⟨i021, hi021, _, hsz21, _⟩ := info_parts info112
                      have hroom21 : l0.length ≤ c0 := HC0.out
                      have hC21 : Kd.C k112 _ A0 l0.length l0 := HR0.out
                      have hcut21 := cut_to (P := Try.prog) 56 112 .i64 Try.underlying56 hi021 A0 l0.length c0 (ji9) (of_decide_eq_true (by first | (with_reducible assumption) | assumption)) q21 hroom21
                      have hr21 := Kd.C_take (m := ((ji9) : Int).toNat) hC21 (by omega)
                      have hy21 : y122.length = ((ji9) : Int).toNat := (by rw [Ny122.out, List.length_take]; omega)
                      rw [← Ny122.out] at hr21
                      rw [← hy21] at hcut21
                      have HR125 := Aside0.mk hr21
                      have HC125 := Aside0.mk (show y122.length ≤ c0 from by omega)
                      clear hr21 hC21 hroom21 hi021 hsz21
                      have KY21 := Aside0.mk hy21
                      clear hy21
                      replace q21 := eq_true q21
                      go_wp2_with (first | ((with_reducible refine gate_callee (f := 27) rfl ?_); refine goesL_ (some 36) rfl rfl Try.func27 (by kernel_rfl) rfl #[.slice A0 y122.length c0] rfl (by (try simp only [List.map_toArray, List.map_cons, List.map_nil]); first | done | rfl | (simp only [List.length_drop, List.length_take]; rfl)) ?_; (with_reducible refine (climb_Rates.calls kj2 _ _ y122 t126 t127 t128 _ ?side1 ?side2 A12.out).mono ?_); (case side1 => repeat (first | exact (Kd.C_below HR125.out HB.out) | (with_reducible refine Kd.C_alloc ?_ _) | (with_reducible refine Kd.C_drewN ?_ _) | (with_reducible refine Kd.C_drew ?_))); (case side2 => exact HC125.out); rintro e w22 ⟨rfl, hb⟩; refine ⟨_, rfl, ?_⟩; have n0_ := Aside0.mk (below_step (by repeat (first | (with_reducible first | exact HB.out | apply below_alloc | apply pw_below_drewN | apply below_drew1) | exact HB.out)) hb); clear HB; have HB := n0_; clear n0_; (try clear hb); (try clear hb2); (try clear hk); (try clear hi)) | ((with_reducible refine gate_callee (f := 27) rfl ?_); refine goesL_ (some 42) rfl rfl Try.func27 (by kernel_rfl) rfl #[.slice A0 l0.length c0] rfl (by (try simp only [List.map_toArray, List.map_cons, List.map_nil]); first | done | rfl | (simp only [List.length_drop, List.length_take]; rfl)) ?_; (with_reducible refine (climb_Rates.calls kj2 _ _ l0 t129 t130 t131 _ ?side1 ?side2 A13.out).mono ?_); (case side1 => repeat (first | exact (Kd.C_below HR0.out HB.out) | (with_reducible refine Kd.C_alloc ?_ _) | (with_reducible refine Kd.C_drewN ?_ _) | (with_reducible refine Kd.C_drew ?_))); (case side2 => exact HC0.out); rintro e w23 ⟨rfl, hb⟩; refine ⟨_, rfl, ?_⟩; have n0_ := Aside0.mk (below_step (by repeat (first | (with_reducible first | exact HB.out | apply below_alloc | apply pw_below_drewN | apply below_drew1) | exact HB.out)) hb); clear HB; have HB := n0_; clear n0_; (try clear hb); (try clear hb2); (try clear hk); (try clear hi)))
                      go_ret
                      exact ⟨by first | rfl | (simp [errW_none, errW_some] <;> rfl) | (simp only [← hji9]; first | rfl | (simp [errW_none, errW_some] <;> rfl)) | (simp [*, errW_none, errW_some] <;> rfl), by repeat (first | (with_reducible first | exact HB.out | apply below_alloc | apply pw_below_drewN | apply below_drew1) | exact HB.out)⟩
                  · rw [if_neg c16] at H
                    have c16b0 : decide (t126 ≤ t129) = false := decide_eq_false c16
                    clear c16
                    obtain rfl := Option.some.inj H
                    have q24 : ((ji9) : Int) ≤ ((l0.length : Int) : Int) := of_decide_eq_true (by first | (with_reducible assumption) | assumption)
                    obtain ⟨i024, hi024, _, hsz24, _⟩ := info_parts info112
                    have hroom24 : l0.length ≤ c0 := HC0.out
                    have hC24 : Kd.C k112 _ A0 l0.length l0 := HR0.out
                    have hcut24 := cut_to (P := Try.prog) 56 112 .i64 Try.underlying56 hi024 A0 l0.length c0 (ji9) (of_decide_eq_true (by first | (with_reducible assumption) | assumption)) q24 hroom24
                    have hr24 := Kd.C_take (m := ((ji9) : Int).toNat) hC24 (by omega)
                    have hy24 : y122.length = ((ji9) : Int).toNat := (by rw [Ny122.out, List.length_take]; omega)
                    rw [← Ny122.out] at hr24
                    rw [← hy24] at hcut24
                    have HR125 := Aside0.mk hr24
                    have HC125 := Aside0.mk (show y122.length ≤ c0 from by omega)
                    clear hr24 hC24 hroom24 hi024 hsz24
                    have KY24 := Aside0.mk hy24
                    clear hy24
                    replace q24 := eq_true q24
                    go_wp2_with (first | ((with_reducible refine gate_callee (f := 27) rfl ?_); refine goesL_ (some 36) rfl rfl Try.func27 (by kernel_rfl) rfl #[.slice A0 y122.length c0] rfl (by (try simp only [List.map_toArray, List.map_cons, List.map_nil]); first | done | rfl | (simp only [List.length_drop, List.length_take]; rfl)) ?_; (with_reducible refine (climb_Rates.calls kj2 _ _ y122 t126 t127 t128 _ ?side1 ?side2 A12.out).mono ?_); (case side1 => repeat (first | exact (Kd.C_below HR125.out HB.out) | (with_reducible refine Kd.C_alloc ?_ _) | (with_reducible refine Kd.C_drewN ?_ _) | (with_reducible refine Kd.C_drew ?_))); (case side2 => exact HC125.out); rintro e w25 ⟨rfl, hb⟩; refine ⟨_, rfl, ?_⟩; have n0_ := Aside0.mk (below_step (by repeat (first | (with_reducible first | exact HB.out | apply below_alloc | apply pw_below_drewN | apply below_drew1) | exact HB.out)) hb); clear HB; have HB := n0_; clear n0_; (try clear hb); (try clear hb2); (try clear hk); (try clear hi)) | ((with_reducible refine gate_callee (f := 27) rfl ?_); refine goesL_ (some 42) rfl rfl Try.func27 (by kernel_rfl) rfl #[.slice A0 l0.length c0] rfl (by (try simp only [List.map_toArray, List.map_cons, List.map_nil]); first | done | rfl | (simp only [List.length_drop, List.length_take]; rfl)) ?_; (with_reducible refine (climb_Rates.calls kj2 _ _ l0 t129 t130 t131 _ ?side1 ?side2 A13.out).mono ?_); (case side1 => repeat (first | exact (Kd.C_below HR0.out HB.out) | (with_reducible refine Kd.C_alloc ?_ _) | (with_reducible refine Kd.C_drewN ?_ _) | (with_reducible refine Kd.C_drew ?_))); (case side2 => exact HC0.out); rintro e w26 ⟨rfl, hb⟩; refine ⟨_, rfl, ?_⟩; have n0_ := Aside0.mk (below_step (by repeat (first | (with_reducible first | exact HB.out | apply below_alloc | apply pw_below_drewN | apply below_drew1) | exact HB.out)) hb); clear HB; have HB := n0_; clear n0_; (try clear hb); (try clear hb2); (try clear hk); (try clear hi)))
                    go_ret
                    exact ⟨by first | rfl | (simp [errW_none, errW_some] <;> rfl) | (simp only [← hji9]; first | rfl | (simp [errW_none, errW_some] <;> rfl)) | (simp [*, errW_none, errW_some] <;> rfl), by repeat (first | (with_reducible first | exact HB.out | apply below_alloc | apply pw_below_drewN | apply below_drew1) | exact HB.out)⟩
                · rw [if_neg c15] at H
                  have c15b0 : (t128 == 0) = false := beq_eq_false_iff_ne.mpr c15
                  have c15b1 : (t128 != 0) = true := bne_iff_ne.mpr c15
                  obtain rfl := Option.some.inj H
                  have q27 : ((ji9) : Int) ≤ ((l0.length : Int) : Int) := of_decide_eq_true (by first | (with_reducible assumption) | assumption)
                  obtain ⟨i027, hi027, _, hsz27, _⟩ := info_parts info112
                  have hroom27 : l0.length ≤ c0 := HC0.out
                  have hC27 : Kd.C k112 _ A0 l0.length l0 := HR0.out
                  have hcut27 := cut_to (P := Try.prog) 56 112 .i64 Try.underlying56 hi027 A0 l0.length c0 (ji9) (of_decide_eq_true (by first | (with_reducible assumption) | assumption)) q27 hroom27
                  have hr27 := Kd.C_take (m := ((ji9) : Int).toNat) hC27 (by omega)
                  have hy27 : y122.length = ((ji9) : Int).toNat := (by rw [Ny122.out, List.length_take]; omega)
                  rw [← Ny122.out] at hr27
                  rw [← hy27] at hcut27
                  have HR125 := Aside0.mk hr27
                  have HC125 := Aside0.mk (show y122.length ≤ c0 from by omega)
                  clear hr27 hC27 hroom27 hi027 hsz27
                  have KY27 := Aside0.mk hy27
                  clear hy27
                  replace q27 := eq_true q27
                  go_wp2_with (first | ((with_reducible refine gate_callee (f := 27) rfl ?_); refine goesL_ (some 36) rfl rfl Try.func27 (by kernel_rfl) rfl #[.slice A0 y122.length c0] rfl (by (try simp only [List.map_toArray, List.map_cons, List.map_nil]); first | done | rfl | (simp only [List.length_drop, List.length_take]; rfl)) ?_; (with_reducible refine (climb_Rates.calls kj2 _ _ y122 t126 t127 t128 _ ?side1 ?side2 A12.out).mono ?_); (case side1 => repeat (first | exact (Kd.C_below HR125.out HB.out) | (with_reducible refine Kd.C_alloc ?_ _) | (with_reducible refine Kd.C_drewN ?_ _) | (with_reducible refine Kd.C_drew ?_))); (case side2 => exact HC125.out); rintro e w28 ⟨rfl, hb⟩; refine ⟨_, rfl, ?_⟩; have n0_ := Aside0.mk (below_step (by repeat (first | (with_reducible first | exact HB.out | apply below_alloc | apply pw_below_drewN | apply below_drew1) | exact HB.out)) hb); clear HB; have HB := n0_; clear n0_; (try clear hb); (try clear hb2); (try clear hk); (try clear hi)) | ((with_reducible refine gate_callee (f := 27) rfl ?_); refine goesL_ (some 42) rfl rfl Try.func27 (by kernel_rfl) rfl #[.slice A0 l0.length c0] rfl (by (try simp only [List.map_toArray, List.map_cons, List.map_nil]); first | done | rfl | (simp only [List.length_drop, List.length_take]; rfl)) ?_; (with_reducible refine (climb_Rates.calls kj2 _ _ l0 t129 t130 t131 _ ?side1 ?side2 A13.out).mono ?_); (case side1 => repeat (first | exact (Kd.C_below HR0.out HB.out) | (with_reducible refine Kd.C_alloc ?_ _) | (with_reducible refine Kd.C_drewN ?_ _) | (with_reducible refine Kd.C_drew ?_))); (case side2 => exact HC0.out); rintro e w29 ⟨rfl, hb⟩; refine ⟨_, rfl, ?_⟩; have n0_ := Aside0.mk (below_step (by repeat (first | (with_reducible first | exact HB.out | apply below_alloc | apply pw_below_drewN | apply below_drew1) | exact HB.out)) hb); clear HB; have HB := n0_; clear n0_; (try clear hb); (try clear hb2); (try clear hk); (try clear hi)))
                  go_ret
                  exact ⟨by first | rfl | (simp [errW_none, errW_some] <;> rfl) | (simp only [← hji9]; first | rfl | (simp [errW_none, errW_some] <;> rfl)) | (simp [*, errW_none, errW_some] <;> rfl), by repeat (first | (with_reducible first | exact HB.out | apply below_alloc | apply pw_below_drewN | apply below_drew1) | exact HB.out)⟩
              · rw [if_neg c14] at H
                have c14b0 : (t131 == 0) = false := beq_eq_false_iff_ne.mpr c14
                have c14b1 : (t131 != 0) = true := bne_iff_ne.mpr c14
                by_cases c30 : t129 = 0
                · rw [if_pos c30] at H
                  have c30b0 : (t129 == 0) = true := beq_iff_eq.mpr c30
                  have c30b1 : (t129 != 0) = false := bne_eq_false_iff_eq.mpr c30
                  clear c30
                  obtain rfl := Option.some.inj H
                  have q31 : ((ji9) : Int) ≤ ((l0.length : Int) : Int) := of_decide_eq_true (by first | (with_reducible assumption) | assumption)
                  obtain ⟨i031, hi031, _, hsz31, _⟩ := info_parts info112
                  have hroom31 : l0.length ≤ c0 := HC0.out
                  have hC31 : Kd.C k112 _ A0 l0.length l0 := HR0.out
                  have hcut31 := cut_to (P := Try.prog) 56 112 .i64 Try.underlying56 hi031 A0 l0.length c0 (ji9) (of_decide_eq_true (by first | (with_reducible assumption) | assumption)) q31 hroom31
                  have hr31 := Kd.C_take (m := ((ji9) : Int).toNat) hC31 (by omega)
                  have hy31 : y122.length = ((ji9) : Int).toNat := (by rw [Ny122.out, List.length_take]; omega)
                  rw [← Ny122.out] at hr31
                  rw [← hy31] at hcut31
                  have HR125 := Aside0.mk hr31
                  have HC125 := Aside0.mk (show y122.length ≤ c0 from by omega)
                  clear hr31 hC31 hroom31 hi031 hsz31
                  have KY31 := Aside0.mk hy31
                  clear hy31
                  replace q31 := eq_true q31
                  go_wp2_with (first | ((with_reducible refine gate_callee (f := 27) rfl ?_); refine goesL_ (some 36) rfl rfl Try.func27 (by kernel_rfl) rfl #[.slice A0 y122.length c0] rfl (by (try simp only [List.map_toArray, List.map_cons, List.map_nil]); first | done | rfl | (simp only [List.length_drop, List.length_take]; rfl)) ?_; (with_reducible refine (climb_Rates.calls kj2 _ _ y122 t126 t127 t128 _ ?side1 ?side2 A12.out).mono ?_); (case side1 => repeat (first | exact (Kd.C_below HR125.out HB.out) | (with_reducible refine Kd.C_alloc ?_ _) | (with_reducible refine Kd.C_drewN ?_ _) | (with_reducible refine Kd.C_drew ?_))); (case side2 => exact HC125.out); rintro e w32 ⟨rfl, hb⟩; refine ⟨_, rfl, ?_⟩; have n0_ := Aside0.mk (below_step (by repeat (first | (with_reducible first | exact HB.out | apply below_alloc | apply pw_below_drewN | apply below_drew1) | exact HB.out)) hb); clear HB; have HB := n0_; clear n0_; (try clear hb); (try clear hb2); (try clear hk); (try clear hi)) | ((with_reducible refine gate_callee (f := 27) rfl ?_); refine goesL_ (some 42) rfl rfl Try.func27 (by kernel_rfl) rfl #[.slice A0 l0.length c0] rfl (by (try simp only [List.map_toArray, List.map_cons, List.map_nil]); first | done | rfl | (simp only [List.length_drop, List.length_take]; rfl)) ?_; (with_reducible refine (climb_Rates.calls kj2 _ _ l0 t129 t130 t131 _ ?side1 ?side2 A13.out).mono ?_); (case side1 => repeat (first | exact (Kd.C_below HR0.out HB.out) | (with_reducible refine Kd.C_alloc ?_ _) | (with_reducible refine Kd.C_drewN ?_ _) | (with_reducible refine Kd.C_drew ?_))); (case side2 => exact HC0.out); rintro e w33 ⟨rfl, hb⟩; refine ⟨_, rfl, ?_⟩; have n0_ := Aside0.mk (below_step (by repeat (first | (with_reducible first | exact HB.out | apply below_alloc | apply pw_below_drewN | apply below_drew1) | exact HB.out)) hb); clear HB; have HB := n0_; clear n0_; (try clear hb); (try clear hb2); (try clear hk); (try clear hi)))
                  go_ret
                  exact ⟨by first | rfl | (simp [errW_none, errW_some] <;> rfl) | (simp only [← hji9]; first | rfl | (simp [errW_none, errW_some] <;> rfl)) | (simp [*, errW_none, errW_some] <;> rfl), by repeat (first | (with_reducible first | exact HB.out | apply below_alloc | apply pw_below_drewN | apply below_drew1) | exact HB.out)⟩
                · rw [if_neg c30] at H
                  have c30b0 : (t129 == 0) = false := beq_eq_false_iff_ne.mpr c30
                  have c30b1 : (t129 != 0) = true := bne_iff_ne.mpr c30
                  obtain rfl := Option.some.inj H
                  have q34 : ((ji9) : Int) ≤ ((l0.length : Int) : Int) := of_decide_eq_true (by first | (with_reducible assumption) | assumption)
                  obtain ⟨i034, hi034, _, hsz34, _⟩ := info_parts info112
                  have hroom34 : l0.length ≤ c0 := HC0.out
                  have hC34 : Kd.C k112 _ A0 l0.length l0 := HR0.out
                  have hcut34 := cut_to (P := Try.prog) 56 112 .i64 Try.underlying56 hi034 A0 l0.length c0 (ji9) (of_decide_eq_true (by first | (with_reducible assumption) | assumption)) q34 hroom34
                  have hr34 := Kd.C_take (m := ((ji9) : Int).toNat) hC34 (by omega)
                  have hy34 : y122.length = ((ji9) : Int).toNat := (by rw [Ny122.out, List.length_take]; omega)
                  rw [← Ny122.out] at hr34
                  rw [← hy34] at hcut34
                  have HR125 := Aside0.mk hr34
                  have HC125 := Aside0.mk (show y122.length ≤ c0 from by omega)
                  clear hr34 hC34 hroom34 hi034 hsz34
                  have KY34 := Aside0.mk hy34
                  clear hy34
                  replace q34 := eq_true q34
                  go_wp2_with (first | ((with_reducible refine gate_callee (f := 27) rfl ?_); refine goesL_ (some 36) rfl rfl Try.func27 (by kernel_rfl) rfl #[.slice A0 y122.length c0] rfl (by (try simp only [List.map_toArray, List.map_cons, List.map_nil]); first | done | rfl | (simp only [List.length_drop, List.length_take]; rfl)) ?_; (with_reducible refine (climb_Rates.calls kj2 _ _ y122 t126 t127 t128 _ ?side1 ?side2 A12.out).mono ?_); (case side1 => repeat (first | exact (Kd.C_below HR125.out HB.out) | (with_reducible refine Kd.C_alloc ?_ _) | (with_reducible refine Kd.C_drewN ?_ _) | (with_reducible refine Kd.C_drew ?_))); (case side2 => exact HC125.out); rintro e w35 ⟨rfl, hb⟩; refine ⟨_, rfl, ?_⟩; have n0_ := Aside0.mk (below_step (by repeat (first | (with_reducible first | exact HB.out | apply below_alloc | apply pw_below_drewN | apply below_drew1) | exact HB.out)) hb); clear HB; have HB := n0_; clear n0_; (try clear hb); (try clear hb2); (try clear hk); (try clear hi)) | ((with_reducible refine gate_callee (f := 27) rfl ?_); refine goesL_ (some 42) rfl rfl Try.func27 (by kernel_rfl) rfl #[.slice A0 l0.length c0] rfl (by (try simp only [List.map_toArray, List.map_cons, List.map_nil]); first | done | rfl | (simp only [List.length_drop, List.length_take]; rfl)) ?_; (with_reducible refine (climb_Rates.calls kj2 _ _ l0 t129 t130 t131 _ ?side1 ?side2 A13.out).mono ?_); (case side1 => repeat (first | exact (Kd.C_below HR0.out HB.out) | (with_reducible refine Kd.C_alloc ?_ _) | (with_reducible refine Kd.C_drewN ?_ _) | (with_reducible refine Kd.C_drew ?_))); (case side2 => exact HC0.out); rintro e w36 ⟨rfl, hb⟩; refine ⟨_, rfl, ?_⟩; have n0_ := Aside0.mk (below_step (by repeat (first | (with_reducible first | exact HB.out | apply below_alloc | apply pw_below_drewN | apply below_drew1) | exact HB.out)) hb); clear HB; have HB := n0_; clear n0_; (try clear hb); (try clear hb2); (try clear hk); (try clear hi)))
                  go_ret
                  exact ⟨by first | rfl | (simp [errW_none, errW_some] <;> rfl) | (simp only [← hji9]; first | rfl | (simp [errW_none, errW_some] <;> rfl)) | (simp [*, errW_none, errW_some] <;> rfl), by repeat (first | (with_reducible first | exact HB.out | apply below_alloc | apply pw_below_drewN | apply below_drew1) | exact HB.out)⟩
            · rw [if_neg c11] at H
              exact absurd H (by simp)
          · rw [if_neg c10] at H
            exact absurd H (by simp)

end Go.Proofs.Ytpcmmbbkidojoaa.PClimbNarrows
