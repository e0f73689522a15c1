-- Written for this claim by a program of this session out of the translation (functions with function values and the like). Lean checks it.
import Derived.Test.YtehgapcmngdcnaaMClimbThroughx0
import Derived.Test.YtehgapcmngdcnaaMClimbThroughx1
namespace Go.Proofs.Ytehgapcmngdcnaa.MClimbThrough
open Go.RowKit Go.Proofs.Ytehgapcmngdcnaa.Evt Go.Proofs.YtehgapcmngdcnaaW.PrintWords Go.Proofs.YtehgapcmngdcnaaW.PrintLast Go.Proofs.YtehgapcmngdcnaaW.PrintMore
attribute [local go_sem] max2_int min2_int max_two min_two max_three min_three max_four min_four   -- for this text's walks alone
set_option linter.unusedVariables false
set_option linter.unusedSimpArgs false

/-! ### climb_Heights: function 20 -/
mutual
def climb_Heights.j0 : Nat → List (S31) → Int → Int → Int → Bool → Option (Int × Int × Int)
  | 0, _, _, _, _, _ => none
  | k + 1, x0, x1, x7, x8, x35 => if x35 = true then (some (0, 0, 4)) else (climb_Heights.l0 k x1 x7 x8 0 60000 x0 (x0.length : Int) 0)
def climb_Heights.l0 : Nat → Int → Int → Int → Int → Int → List (S31) → Int → Int → Option (Int × Int × Int)
  | 0, _, _, _, _, _, _, _, _ => none
  | k + 1, x1, x7, x8, x10, x11, x36, x37, x38 => if x38 < x37 then (if 0 ≤ x38 then (if x38 < (x36.length : Int) then (if (wrap64 (x1 - ((rd_T31 x36 x38).f0))) < 0 then ((num_DivDown.f k (wrap64 (x8 * (wrap64 (x1 - ((rd_T31 x36 x38).f0))))) 16).bind fun bt124 => ((num_DivUp.f k (wrap64 (x7 * (wrap64 (x1 - ((rd_T31 x36 x38).f0))))) 16).bind fun bt126 => (climb_Heights.l0 k x1 x7 x8 (mx x10 (wrap64 ((wrap64 (100 * ((rd_T31 x36 x38).f1))) + bt124.1))) (mn x11 (wrap64 ((wrap64 ((wrap64 ((wrap64 (100 * ((rd_T31 x36 x38).f1))) + 100)) - 1)) + bt126.1))) x36 x37 (wrap64 (x38 + 1))))) else ((num_DivDown.f k (wrap64 (x7 * (wrap64 (x1 - ((rd_T31 x36 x38).f0))))) 16).bind fun bt128 => ((num_DivUp.f k (wrap64 (x8 * (wrap64 (x1 - ((rd_T31 x36 x38).f0))))) 16).bind fun bt130 => (climb_Heights.l0 k x1 x7 x8 (mx x10 (wrap64 ((wrap64 (100 * ((rd_T31 x36 x38).f1))) + bt128.1))) (mn x11 (wrap64 ((wrap64 ((wrap64 ((wrap64 (100 * ((rd_T31 x36 x38).f1))) + 100)) - 1)) + bt130.1))) x36 x37 (wrap64 (x38 + 1)))))) else (none)) else (none)) else (if x10 > x11 then (some (0, 0, 8)) else (some (x10, x11, 0)))
end
def climb_Heights.f (k : Nat) (l0 : List (S31)) (a1 : Int) : Option (Int × Int × Int) := (climb_Rates.f k l0).bind fun bt119 => (if bt119.2.2 = 0 then (if a1 < 0 then (climb_Heights.j0 k l0 a1 bt119.1 bt119.2.1 true) else (climb_Heights.j0 k l0 a1 bt119.1 bt119.2.1 (decide (a1 > 200000)))) else (some (0, 0, bt119.2.2)))
theorem climb_Heights.mono_l : ∀ k, (∀ y0 y1 y2 y3 y4, LeO (climb_Heights.j0 k y0 y1 y2 y3 y4) (climb_Heights.j0 (k + 1) y0 y1 y2 y3 y4)) ∧ (∀ y0 y1 y2 y3 y4 y5 y6 y7, LeO (climb_Heights.l0 k y0 y1 y2 y3 y4 y5 y6 y7) (climb_Heights.l0 (k + 1) y0 y1 y2 y3 y4 y5 y6 y7))
  | 0 => ⟨fun _ _ _ _ _ r h => by simp [climb_Heights.j0] at h, fun _ _ _ _ _ _ _ _ r h => by simp [climb_Heights.l0] at h⟩
  | k + 1 => by
    obtain ⟨ih0, ih1⟩ := climb_Heights.mono_l k
    refine ⟨?_, ?_⟩
    · intro y0 y1 y2 y3 y4
      unfold climb_Heights.j0
      repeat' first
      | (with_reducible exact ih0 _ _ _ _ _)
      | (with_reducible exact ih1 _ _ _ _ _ _ _ _)
      | (with_reducible exact climb_Rates.mono _ _)
      | (with_reducible exact num_DivDown.mono _ _ _)
      | (with_reducible exact num_DivUp.mono _ _ _)
      | (with_reducible exact LeO.refl _)
      | (with_reducible exact LeO.none _)
      | (with_reducible refine LeO.ite ?_ ?_)
      | (with_reducible refine LeO.bind ?_ (fun _ => ?_))
      | exact ih0 _ _ _ _ _
      | exact ih1 _ _ _ _ _ _ _ _
      | exact climb_Rates.mono _ _
      | exact num_DivDown.mono _ _ _
      | exact num_DivUp.mono _ _ _
      | exact LeO.none _
      | refine LeO.ite ?_ ?_
      | refine LeO.bind ?_ (fun _ => ?_)
    · intro y0 y1 y2 y3 y4 y5 y6 y7
      unfold climb_Heights.l0
      repeat' first
      | (with_reducible exact ih0 _ _ _ _ _)
      | (with_reducible exact ih1 _ _ _ _ _ _ _ _)
      | (with_reducible exact climb_Rates.mono _ _)
      | (with_reducible exact num_DivDown.mono _ _ _)
      | (with_reducible exact num_DivUp.mono _ _ _)
      | (with_reducible exact LeO.refl _)
      | (with_reducible exact LeO.none _)
      | (with_reducible refine LeO.ite ?_ ?_)
      | (with_reducible refine LeO.bind ?_ (fun _ => ?_))
      | exact ih0 _ _ _ _ _
      | exact ih1 _ _ _ _ _ _ _ _
      | exact climb_Rates.mono _ _
      | exact num_DivDown.mono _ _ _
      | exact num_DivUp.mono _ _ _
      | exact LeO.none _
      | refine LeO.ite ?_ ?_
      | refine LeO.bind ?_ (fun _ => ?_)
theorem climb_Heights.mono : ∀ a0 a1 k, LeO (climb_Heights.f k a0 a1) (climb_Heights.f (k + 1) a0 a1) := by
  intro a0 a1 k
  obtain ⟨ih0, ih1⟩ := climb_Heights.mono_l k
  unfold climb_Heights.f
  repeat' first
      | (with_reducible exact ih0 _ _ _ _ _)
      | (with_reducible exact ih1 _ _ _ _ _ _ _ _)
      | (with_reducible exact climb_Rates.mono _ _)
      | (with_reducible exact num_DivDown.mono _ _ _)
      | (with_reducible exact num_DivUp.mono _ _ _)
      | (with_reducible exact LeO.refl _)
      | (with_reducible exact LeO.none _)
      | (with_reducible refine LeO.ite ?_ ?_)
      | (with_reducible refine LeO.bind ?_ (fun _ => ?_))
      | exact ih0 _ _ _ _ _
      | exact ih1 _ _ _ _ _ _ _ _
      | exact climb_Rates.mono _ _
      | exact num_DivDown.mono _ _ _
      | exact num_DivUp.mono _ _ _
      | exact LeO.none _
      | refine LeO.ite ?_ ?_
      | refine LeO.bind ?_ (fun _ => ?_)
set_option maxHeartbeats 80000000 in
set_option maxRecDepth 100000 in
theorem climb_Heights.calls (k : Nat) (A0 : Option Addr) (c0 : Nat) (l0 : List (S31)) (a1 : Int) (r1 : Int) (r2 : Int) (r3 : Int) (w : World) (hr0 : Kd.C k31 w A0 l0.length l0) (hc0 : l0.length ≤ c0) (h : climb_Heights.f k l0 a1 = some (r1, r2, r3)) :
    Calls Try.prog 20 #[.slice A0 l0.length c0, .int .i64 a1] w fun e w' => e = .returned (.tuple #[.int .i64 r1, .int .i64 r2, .int .i64 r3]) ∧ Below w.heap.size w w' := by
  have hu31 := Try.underlying31
  have HR0 := Aside0.mk hr0
  have HC0 := Aside0.mk hc0
  clear hr0 hc0
  have HB := Aside0.mk (Below.refl w.heap.size w)
  have H : ((climb_Rates.f k l0).bind fun bt119 => (if bt119.2.2 = 0 then (if a1 < 0 then (climb_Heights.j0 k l0 a1 bt119.1 bt119.2.1 true) else (climb_Heights.j0 k l0 a1 bt119.1 bt119.2.1 (decide (a1 > 200000)))) else (some (0, 0, bt119.2.2)))) = some (r1, r2, r3) := h
  clear h
  replace H := Option.bind_eq_some_iff.mp H
  obtain ⟨⟨t119, t120, t121⟩, A30, H⟩ := H
  replace H : (if t121 = 0 then (if a1 < 0 then (climb_Heights.j0 k l0 a1 t119 t120 true) else (climb_Heights.j0 k l0 a1 t119 t120 (decide (a1 > 200000)))) else (some (0, 0, t121))) = some (r1, r2, r3) := H
  have A3 := Aside0.mk A30
  clear A30
  by_cases c4 : t121 = 0
  · rw [if_pos c4] at H
    have c4b0 : (t121 == 0) = true := beq_iff_eq.mpr c4
    have c4b1 : (t121 != 0) = false := bne_eq_false_iff_eq.mpr c4
    clear c4
    have HC5 := Aside0.mk H
    clear H
    go_enter Try.func20, Try.ntmps20
    go_upto_region 4 with (first | (go_at_call 19; (with_reducible refine (climb_Rates.calls k _ _ l0 t119 t120 t121 _ ?side1 ?side2 A3.out).mono ?_); (case side1 => repeat (first | exact HR0.out | (with_reducible refine Kd.C_alloc ?_ _) | (with_reducible refine Kd.C_drewN ?_ _) | (with_reducible refine Kd.C_drew ?_))); (case side2 => exact HC0.out); rintro e w6 ⟨rfl, hb⟩; have n0_ := Aside0.mk (below_step (by repeat (first | (with_reducible first | exact HB.out | apply below_alloc | apply pw_below_drewN | apply below_drew1) | exact HB.out)) hb); clear HB; have HB := n0_; clear n0_; (try clear hb); (try clear hb2); (try clear hk); (try clear hi)))
    repeat (go_quiet (first | (go_at_call 19; (with_reducible refine (climb_Rates.calls k _ _ l0 t119 t120 t121 _ ?side1 ?side2 A3.out).mono ?_); (case side1 => repeat (first | exact HR0.out | (with_reducible refine Kd.C_alloc ?_ _) | (with_reducible refine Kd.C_drewN ?_ _) | (with_reducible refine Kd.C_drew ?_))); (case side2 => exact HC0.out); rintro e w6 ⟨rfl, hb⟩; have n0_ := Aside0.mk (below_step (by repeat (first | (with_reducible first | exact HB.out | apply below_alloc | apply pw_below_drewN | apply below_drew1) | exact HB.out)) hb); clear HB; have HB := n0_; clear n0_; (try clear hb); (try clear hb2); (try clear hk); (try clear hi))); go_upto_region 4 with (first | (go_at_call 19; (with_reducible refine (climb_Rates.calls k _ _ l0 t119 t120 t121 _ ?side1 ?side2 A3.out).mono ?_); (case side1 => repeat (first | exact HR0.out | (with_reducible refine Kd.C_alloc ?_ _) | (with_reducible refine Kd.C_drewN ?_ _) | (with_reducible refine Kd.C_drew ?_))); (case side2 => exact HC0.out); rintro e w6 ⟨rfl, hb⟩; have n0_ := Aside0.mk (below_step (by repeat (first | (with_reducible first | exact HB.out | apply below_alloc | apply pw_below_drewN | apply below_drew1) | exact HB.out)) hb); clear HB; have HB := n0_; clear n0_; (try clear hb); (try clear hb2); (try clear hk); (try clear hi))))
    (try simp only [Act.put, List.setIfInBounds_toArray, List.set_cons_zero, List.set_cons_succ])
    go_cut [35] (fun v35 wc => ∃ (kq : Nat) (x35_4 : Bool), v35 = .bool x35_4 ∧ Aside0 (climb_Heights.j0 kq l0 a1 t119 t120 x35_4 = some (r1, r2, r3)) ∧ Aside0 (kq ≤ k) ∧ Aside0 (Below w.heap.size w wc))
    case first =>
      have H := HC5.out
      clear HC5
      by_cases c7 : a1 < 0
      · rw [if_pos c7] at H
        have c7b0 : decide (a1 < 0) = true := decide_eq_true c7
        clear c7
        (first | rw [c7b0] | (simp only [i64_w, i32_w]; rw [c7b0]) | skip)
        have H' := Aside0.mk H
        clear H
        go_wp2
        repeat (go_quiet (fail); try go_wp2)
        go_meet
        case rel => exact ⟨_, (true), (by first | rfl | (simp; done) | (simp [*]; done)), H', ⟨by first | omega | exact Nat.le_refl _⟩, ⟨by repeat (first | (with_reducible first | exact HB.out | apply below_alloc | apply pw_below_drewN | apply below_drew1) | exact HB.out)⟩⟩
      · rw [if_neg c7] at H
        have c7b0 : decide (a1 < 0) = false := decide_eq_false c7
        clear c7
        (first | rw [c7b0] | (simp only [i64_w, i32_w]; rw [c7b0]) | skip)
        have H' := Aside0.mk H
        clear H
        go_wp2
        repeat (go_quiet (fail); try go_wp2)
        go_meet
        case rel => exact ⟨_, (decide (a1 > 200000)), (by first | rfl | (simp; done) | (simp [*]; done)), H', ⟨by first | omega | exact Nat.le_refl _⟩, ⟨by repeat (first | (with_reducible first | exact HB.out | apply below_alloc | apply pw_below_drewN | apply below_drew1) | exact HB.out)⟩⟩
    case rest =>
      clear HC5
      try clear c2
      try clear p2
      try clear c4
      try clear c4b0
      try clear c4b1
      try clear c7
      try clear c7b0
      obtain ⟨kq, x35_4, rfl, HA, HJ4, HB⟩ := hcut
      cases kq with
      | zero => exact absurd HA.out (by simp [climb_Heights.j0])
      | succ kj4 =>
        have H := HA.out
        clear HA
        simp only [climb_Heights.j0] at H
        by_cases c8 : x35_4 = true
        · subst c8
          have H1 : (some (0, 0, 4)) = some (r1, r2, r3) := by rw [if_pos rfl] at H; exact H
          clear H
          have H := H1
          clear H1
          simp only [Option.some.injEq, Prod.mk.injEq] at H
          obtain ⟨rfl, rfl, rfl⟩ := H
          go_wp2
          repeat (go_quiet (fail); try go_wp2)
          go_ret3
          exact ⟨by first | rfl | (simp [errW_none, errW_some] <;> rfl) | (simp [*, errW_none, errW_some] <;> rfl), by repeat (first | (with_reducible first | exact HB.out | apply below_alloc | apply pw_below_drewN | apply below_drew1) | exact HB.out)⟩
        · replace c8 := Bool.eq_false_iff.mpr c8
          subst c8
          have H1 : (climb_Heights.l0 kj4 a1 t119 t120 0 60000 l0 (l0.length : Int) 0) = some (r1, r2, r3) := by rw [if_neg (show ¬ (false = true) by decide)] at H; exact H
          clear H
          have H := H1
          clear H1
          have H' := Aside0.mk H
          clear H
          go_wp2
          repeat (go_quiet (fail); try go_wp2)
          go_loopg [10, 11, 38] kj4 (fun kq v10 v11 v38 w' => ∃ (x10_2 : Int) (x11_2 : Int) (x38_2 : Int), v10 = .int .i64 x10_2 ∧ v11 = .int .i64 x11_2 ∧ v38 = .int .i64 x38_2 ∧ Aside0 (climb_Heights.l0 kq a1 t119 t120 x10_2 x11_2 l0 (l0.length : Int) x38_2 = some (r1, r2, r3)) ∧ Aside0 (kq ≤ kj4) ∧ Aside0 (Below w.heap.size w w'))
          case atStart => exact ⟨(0), (60000), (0), (by first | rfl | (simp; done) | (simp [*]; done)), (by first | rfl | (simp; done) | (simp [*]; done)), (by first | rfl | (simp; done) | (simp [*]; done)), H', ⟨Nat.le_refl _⟩, ⟨by repeat (first | (with_reducible first | exact HB.out | apply below_alloc | apply pw_below_drewN | apply below_drew1) | exact HB.out)⟩⟩
          case round =>
            clear H'
            try clear c2
            try clear p2
            try clear c4
            try clear c4b0
            try clear c4b1
            try clear c7
            try clear c7b0
            try clear c8
            try clear p2
            obtain ⟨x10_2, x11_2, x38_2, rfl, rfl, rfl, HA, HK2, HB⟩ := hrel
            cases gk with
            | zero => exact absurd HA.out (by simp [climb_Heights.l0])
            | succ k2 =>
              have H := HA.out
              clear HA
              simp only [climb_Heights.l0] at H
              by_cases c9 : x38_2 < (l0.length : Int)
              · rw [if_pos c9] at H
                have c9b0 : decide (x38_2 < (l0.length : Int)) = true := decide_eq_true c9
                clear c9
                by_cases c10 : 0 ≤ x38_2
                · rw [if_pos c10] at H
                  have c10b0 : decide (0 ≤ x38_2) = true := decide_eq_true c10
                  clear c10
                  by_cases c11 : x38_2 < (l0.length : Int)
                  · rw [if_pos c11] at H
                    have c11b0 : decide (x38_2 < (l0.length : Int)) = true := decide_eq_true c11
                    clear c11
                    by_cases c12 : (wrap64 (a1 - ((rd_T31 l0 x38_2).f0))) < 0
                    · rw [if_pos c12] at H
                      have c12b0 : decide ((wrap64 (a1 - ((rd_T31 l0 x38_2).f0))) < 0) = true := decide_eq_true c12
                      clear c12
                      replace H := Option.bind_eq_some_iff.mp H
                      obtain ⟨⟨t124, t125⟩, A130, H⟩ := H
                      replace H : ((num_DivUp.f k2 (wrap64 (t119 * (wrap64 (a1 - ((rd_T31 l0 x38_2).f0))))) 16).bind fun bt126 => (climb_Heights.l0 k2 a1 t119 t120 (mx x10_2 (wrap64 ((wrap64 (100 * ((rd_T31 l0 x38_2).f1))) + t124))) (mn x11_2 (wrap64 ((wrap64 ((wrap64 ((wrap64 (100 * ((rd_T31 l0 x38_2).f1))) + 100)) - 1)) + bt126.1))) l0 (l0.length : Int) (wrap64 (x38_2 + 1)))) = some (r1, r2, r3) := H
                      have A13 := Aside0.mk A130
                      have CA13 := Aside0.mk (fun W_ => num_DivDown.calls k2 (wrap64 (t120 * (wrap64 (a1 - ((rd_T31 l0 x38_2).f0))))) 16 t124 t125 W_ A130)
                      clear A130
                      replace H := Option.bind_eq_some_iff.mp H
                      obtain ⟨⟨t126, t127⟩, A140, H⟩ := H
                      replace H : (climb_Heights.l0 k2 a1 t119 t120 (mx x10_2 (wrap64 ((wrap64 (100 * ((rd_T31 l0 x38_2).f1))) + t124))) (mn x11_2 (wrap64 ((wrap64 ((wrap64 ((wrap64 (100 * ((rd_T31 l0 x38_2).f1))) + 100)) - 1)) + t126))) l0 (l0.length : Int) (wrap64 (x38_2 + 1))) = some (r1, r2, r3) := H
                      have A14 := Aside0.mk A140
                      have CA14 := Aside0.mk (fun W_ => num_DivUp.calls k2 (wrap64 (t119 * (wrap64 (a1 - ((rd_T31 l0 x38_2).f0))))) 16 t126 t127 W_ A140)
                      clear A140
                      obtain ⟨ji15, hji15⟩ : ∃ j_ : Int, (mx x10_2 (wrap64 ((wrap64 (100 * ((rd_T31 l0 x38_2).f1))) + t124))) = j_ := ⟨_, rfl⟩
                      replace H : (climb_Heights.l0 k2 a1 t119 t120 ji15 (mn x11_2 (wrap64 ((wrap64 ((wrap64 ((wrap64 (100 * ((rd_T31 l0 x38_2).f1))) + 100)) - 1)) + t126))) l0 (l0.length : Int) (wrap64 (x38_2 + 1))) = some (r1, r2, r3) := by first | (rw [hji15] at H; exact H) | (simp only [hji15] at H ⊢; exact H)
                      (try rw [hji15] at A13)
                      (try rw [hji15] at A14)
                      have hji15_ : (if x10_2 < (wrap64 ((wrap64 (100 * ((rd_T31 l0 x38_2).f1))) + t124)) then (wrap64 ((wrap64 (100 * ((rd_T31 l0 x38_2).f1))) + t124)) else x10_2) = ji15 := hji15
                      obtain ⟨ji16, hji16⟩ : ∃ j_ : Int, (mn x11_2 (wrap64 ((wrap64 ((wrap64 ((wrap64 (100 * ((rd_T31 l0 x38_2).f1))) + 100)) - 1)) + t126))) = j_ := ⟨_, rfl⟩
                      replace H : (climb_Heights.l0 k2 a1 t119 t120 ji15 ji16 l0 (l0.length : Int) (wrap64 (x38_2 + 1))) = some (r1, r2, r3) := by first | (rw [hji16] at H; exact H) | (simp only [hji16] at H ⊢; exact H)
                      (try rw [hji16] at A13)
                      (try rw [hji16] at A14)
                      have hji16_ : (if (wrap64 ((wrap64 ((wrap64 ((wrap64 (100 * ((rd_T31 l0 x38_2).f1))) + 100)) - 1)) + t126)) < x11_2 then (wrap64 ((wrap64 ((wrap64 ((wrap64 (100 * ((rd_T31 l0 x38_2).f1))) + 100)) - 1)) + t126)) else x11_2) = ji16 := hji16
                      have H' := Aside0.mk H
                      clear H
                      have p122 : 0 ≤ (x38_2 : Int) := of_decide_eq_true (by first | (with_reducible assumption) | assumption)
                      have q122 : x38_2 < (l0.length : Int) := of_decide_eq_true (by first | (with_reducible assumption) | assumption)
                      obtain ⟨ad122, e122, hx122_0, hx122_1⟩ := at_T31 HR0.out x38_2 p122 q122
                      cases e122
                      replace hx122_0 := (HB.out.cell (World.block_lt_of_cell? w _ hx122_0)).trans hx122_0
                      replace hx122_1 := (HB.out.cell (World.block_lt_of_cell? w _ hx122_1)).trans hx122_1
                      replace p122 := eq_true p122
                      replace q122 := eq_true q122
                      go_wp2_with (first | ((with_reducible refine gate_dst (N := 13) rfl ?_); refine box_event ?hg (N := 13) ?hd (cs := #[.int .i64 0, .int .i64 0]) (t := 31) ?hr ?_; (case hd => rfl); (case hg => rfl); (case hr => first | (go_simp; done) | (go_simp; rfl)); intro gb123 hg w17 hbox hb; have n0_ := Aside0.mk (below_step (by repeat (first | (with_reducible first | exact HB.out | apply below_alloc | apply pw_below_drewN | apply below_drew1) | exact HB.out)) hb); have n1_ := Aside0.mk (hbox); have n2_ := Aside0.mk ((by rw [hg]; exact (below_size (by repeat (first | (with_reducible first | exact HB.out | apply below_alloc | apply pw_below_drewN | apply below_drew1) | exact HB.out))) : w.heap.size ≤ gb123)); have n3_ := Aside0.mk ((by rw [hg]; exact (below_size (by repeat (first | (with_reducible first | exact HB.out | apply below_alloc | apply pw_below_drewN | apply below_drew1) | exact HB.out))) : w.heap.size ≤ gb123)); clear HB; have HB := n0_; have BK123 := n1_; have GW123 := n2_; have GE123 := n3_; clear n0_ n1_ n2_ n3_; clear hb hbox hg) | ((with_reducible refine gate_store (t := 31) (p := 13) rfl ?_); (try (rw [drewN_self w17]; generalize hq_ : World.drewN w17 _ = w17; have n0_ := Aside0.mk (blk_at hq_ BK123.out); have n1_ := Aside0.mk (below_at hq_ HB.out); clear hq_ BK123 HB; have BK123 := n0_; have HB := n1_; clear n0_ n1_)); refine st_row rfl rfl 31 13 _ rfl gb123 0 rfl (t := 31) (cs := #[.int .i64 0, .int .i64 0]) [.int .i64 ((rd_T31 l0 x38_2).f0), .int .i64 ((rd_T31 l0 x38_2).f1)] _ rfl rfl isz31 (by (with_reducible repeat (first | refine blk_drewN ?_ _ | refine blk_drew ?_ | refine blk_alloc ?_ _)); exact BK123.out) (Nat.le_of_ble_eq_true rfl) rfl #[.int .i64 ((rd_T31 l0 x38_2).f0), .int .i64 ((rd_T31 l0 x38_2).f1)] rfl ?_; intro w18 hx_ hy_ hz_; have n0_ := Aside0.mk (hx_); have n1_ := Aside0.mk (hz_ _ _ (by repeat (first | (with_reducible first | exact HB.out | apply below_alloc | apply pw_below_drewN | apply below_drew1 | refine below_set ?_ GE123.out) | exact HB.out)) GE123.out); clear BK123; clear HB; have BK123 := n0_; have HB := n1_; clear n0_ n1_; clear hx_ hy_ hz_) | ((with_reducible refine gate_dst (N := 44) rfl ?_); refine ld_cell rfl (N := 44) rfl 3 _ rfl gb123 0 rfl (t := 31) (cs := #[.int .i64 ((rd_T31 l0 x38_2).f0), .int .i64 ((rd_T31 l0 x38_2).f1)]) (fr := (0, 0)) (.int .i64 ((rd_T31 l0 x38_2).f0)) (by (with_reducible repeat (first | refine blk_drewN ?_ _ | refine blk_drew ?_ | refine blk_alloc ?_ _)); exact BK123.out) Try.underlying3 rfl rfl ?_) | (go_at_call 46; (with_reducible refine (CA13.out _).mono ?_); rintro e w' ⟨rfl, ⟨nd, rfl⟩⟩; (try first | exact ⟨rfl, _, World.drewN_drewN _ _ _⟩ | exact ⟨rfl, _, Eq.trans (World.drewN_drewN _ _ _) (congrArg (World.drewN _) (Nat.add_assoc _ _ _))⟩)) | (go_at_call 47; (with_reducible refine (CA14.out _).mono ?_); rintro e w' ⟨rfl, ⟨nd, rfl⟩⟩; (try first | exact ⟨rfl, _, World.drewN_drewN _ _ _⟩ | exact ⟨rfl, _, Eq.trans (World.drewN_drewN _ _ _) (congrArg (World.drewN _) (Nat.add_assoc _ _ _))⟩); obtain ⟨hcz19_0, hfz19_0⟩ := blkc2 BK123.out))
                      repeat (go_quiet (first | ((with_reducible refine gate_dst (N := 13) rfl ?_); refine box_event ?hg (N := 13) ?hd (cs := #[.int .i64 0, .int .i64 0]) (t := 31) ?hr ?_; (case hd => rfl); (case hg => rfl); (case hr => first | (go_simp; done) | (go_simp; rfl)); intro gb123 hg w17 hbox hb; have n0_ := Aside0.mk (below_step (by repeat (first | (with_reducible first | exact HB.out | apply below_alloc | apply pw_below_drewN | apply below_drew1) | exact HB.out)) hb); have n1_ := Aside0.mk (hbox); have n2_ := Aside0.mk ((by rw [hg]; exact (below_size (by repeat (first | (with_reducible first | exact HB.out | apply below_alloc | apply pw_below_drewN | apply below_drew1) | exact HB.out))) : w.heap.size ≤ gb123)); have n3_ := Aside0.mk ((by rw [hg]; exact (below_size (by repeat (first | (with_reducible first | exact HB.out | apply below_alloc | apply pw_below_drewN | apply below_drew1) | exact HB.out))) : w.heap.size ≤ gb123)); clear HB; have HB := n0_; have BK123 := n1_; have GW123 := n2_; have GE123 := n3_; clear n0_ n1_ n2_ n3_; clear hb hbox hg) | ((with_reducible refine gate_store (t := 31) (p := 13) rfl ?_); (try (rw [drewN_self w17]; generalize hq_ : World.drewN w17 _ = w17; have n0_ := Aside0.mk (blk_at hq_ BK123.out); have n1_ := Aside0.mk (below_at hq_ HB.out); clear hq_ BK123 HB; have BK123 := n0_; have HB := n1_; clear n0_ n1_)); refine st_row rfl rfl 31 13 _ rfl gb123 0 rfl (t := 31) (cs := #[.int .i64 0, .int .i64 0]) [.int .i64 ((rd_T31 l0 x38_2).f0), .int .i64 ((rd_T31 l0 x38_2).f1)] _ rfl rfl isz31 (by (with_reducible repeat (first | refine blk_drewN ?_ _ | refine blk_drew ?_ | refine blk_alloc ?_ _)); exact BK123.out) (Nat.le_of_ble_eq_true rfl) rfl #[.int .i64 ((rd_T31 l0 x38_2).f0), .int .i64 ((rd_T31 l0 x38_2).f1)] rfl ?_; intro w18 hx_ hy_ hz_; have n0_ := Aside0.mk (hx_); have n1_ := Aside0.mk (hz_ _ _ (by repeat (first | (with_reducible first | exact HB.out | apply below_alloc | apply pw_below_drewN | apply below_drew1 | refine below_set ?_ GE123.out) | exact HB.out)) GE123.out); clear BK123; clear HB; have BK123 := n0_; have HB := n1_; clear n0_ n1_; clear hx_ hy_ hz_) | ((with_reducible refine gate_dst (N := 44) rfl ?_); refine ld_cell rfl (N := 44) rfl 3 _ rfl gb123 0 rfl (t := 31) (cs := #[.int .i64 ((rd_T31 l0 x38_2).f0), .int .i64 ((rd_T31 l0 x38_2).f1)]) (fr := (0, 0)) (.int .i64 ((rd_T31 l0 x38_2).f0)) (by (with_reducible repeat (first | refine blk_drewN ?_ _ | refine blk_drew ?_ | refine blk_alloc ?_ _)); exact BK123.out) Try.underlying3 rfl rfl ?_) | (go_at_call 46; (with_reducible refine (CA13.out _).mono ?_); rintro e w' ⟨rfl, ⟨nd, rfl⟩⟩; (try first | exact ⟨rfl, _, World.drewN_drewN _ _ _⟩ | exact ⟨rfl, _, Eq.trans (World.drewN_drewN _ _ _) (congrArg (World.drewN _) (Nat.add_assoc _ _ _))⟩)) | (go_at_call 47; (with_reducible refine (CA14.out _).mono ?_); rintro e w' ⟨rfl, ⟨nd, rfl⟩⟩; (try first | exact ⟨rfl, _, World.drewN_drewN _ _ _⟩ | exact ⟨rfl, _, Eq.trans (World.drewN_drewN _ _ _) (congrArg (World.drewN _) (Nat.add_assoc _ _ _))⟩); obtain ⟨hcz19_0, hfz19_0⟩ := blkc2 BK123.out)); try go_wp2_with (first | ((with_reducible refine gate_dst (N := 13) rfl ?_); refine box_event ?hg (N := 13) ?hd (cs := #[.int .i64 0, .int .i64 0]) (t := 31) ?hr ?_; (case hd => rfl); (case hg => rfl); (case hr => first | (go_simp; done) | (go_simp; rfl)); intro gb123 hg w17 hbox hb; have n0_ := Aside0.mk (below_step (by repeat (first | (with_reducible first | exact HB.out | apply below_alloc | apply pw_below_drewN | apply below_drew1) | exact HB.out)) hb); have n1_ := Aside0.mk (hbox); have n2_ := Aside0.mk ((by rw [hg]; exact (below_size (by repeat (first | (with_reducible first | exact HB.out | apply below_alloc | apply pw_below_drewN | apply below_drew1) | exact HB.out))) : w.heap.size ≤ gb123)); have n3_ := Aside0.mk ((by rw [hg]; exact (below_size (by repeat (first | (with_reducible first | exact HB.out | apply below_alloc | apply pw_below_drewN | apply below_drew1) | exact HB.out))) : w.heap.size ≤ gb123)); clear HB; have HB := n0_; have BK123 := n1_; have GW123 := n2_; have GE123 := n3_; clear n0_ n1_ n2_ n3_; clear hb hbox hg) | ((with_reducible refine gate_store (t := 31) (p := 13) rfl ?_); (try (rw [drewN_self w17]; generalize hq_ : World.drewN w17 _ = w17; have n0_ := Aside0.mk (blk_at hq_ BK123.out); have n1_ := Aside0.mk (below_at hq_ HB.out); clear hq_ BK123 HB; have BK123 := n0_; have HB := n1_; clear n0_ n1_)); refine st_row rfl rfl 31 13 _ rfl gb123 0 rfl (t := 31) (cs := #[.int .i64 0, .int .i64 0]) [.int .i64 ((rd_T31 l0 x38_2).f0), .int .i64 ((rd_T31 l0 x38_2).f1)] _ rfl rfl isz31 (by (with_reducible repeat (first | refine blk_drewN ?_ _ | refine blk_drew ?_ | refine blk_alloc ?_ _)); exact BK123.out) (Nat.le_of_ble_eq_true rfl) rfl #[.int .i64 ((rd_T31 l0 x38_2).f0), .int .i64 ((rd_T31 l0 x38_2).f1)] rfl ?_; intro w18 hx_ hy_ hz_; have n0_ := Aside0.mk (hx_); have n1_ := Aside0.mk (hz_ _ _ (by repeat (first | (with_reducible first | exact HB.out | apply below_alloc | apply pw_below_drewN | apply below_drew1 | refine below_set ?_ GE123.out) | exact HB.out)) GE123.out); clear BK123; clear HB; have BK123 := n0_; have HB := n1_; clear n0_ n1_; clear hx_ hy_ hz_) | ((with_reducible refine gate_dst (N := 44) rfl ?_); refine ld_cell rfl (N := 44) rfl 3 _ rfl gb123 0 rfl (t := 31) (cs := #[.int .i64 ((rd_T31 l0 x38_2).f0), .int .i64 ((rd_T31 l0 x38_2).f1)]) (fr := (0, 0)) (.int .i64 ((rd_T31 l0 x38_2).f0)) (by (with_reducible repeat (first | refine blk_drewN ?_ _ | refine blk_drew ?_ | refine blk_alloc ?_ _)); exact BK123.out) Try.underlying3 rfl rfl ?_) | (go_at_call 46; (with_reducible refine (CA13.out _).mono ?_); rintro e w' ⟨rfl, ⟨nd, rfl⟩⟩; (try first | exact ⟨rfl, _, World.drewN_drewN _ _ _⟩ | exact ⟨rfl, _, Eq.trans (World.drewN_drewN _ _ _) (congrArg (World.drewN _) (Nat.add_assoc _ _ _))⟩)) | (go_at_call 47; (with_reducible refine (CA14.out _).mono ?_); rintro e w' ⟨rfl, ⟨nd, rfl⟩⟩; (try first | exact ⟨rfl, _, World.drewN_drewN _ _ _⟩ | exact ⟨rfl, _, Eq.trans (World.drewN_drewN _ _ _) (congrArg (World.drewN _) (Nat.add_assoc _ _ _))⟩); obtain ⟨hcz19_0, hfz19_0⟩ := blkc2 BK123.out)))
                      go_roundg k2
                      case measure => have := HJ4.out; have := HK2.out; omega
                      case rel => exact ⟨(ji15), (ji16), (wrap64 (x38_2 + 1)), (by first | rfl | (simp; done) | (simp only [← hji15] <;> (first | rfl | simp)) | (simp [*]; done)), (by first | rfl | (simp; done) | (simp only [← hji16] <;> (first | rfl | simp)) | (simp [*]; done)), (by first | rfl | (simp; done) | (simp [*]; done)), H', ⟨by have := HJ4.out; have := HK2.out; omega⟩, ⟨by repeat (first | (with_reducible first | exact HB.out | apply below_alloc | apply pw_below_drewN | apply below_drew1 | refine below_set ?_ GE123.out) | exact HB.out)⟩⟩
                    · rw [if_neg c12] at H
                      have c12b0 : decide ((wrap64 (a1 - ((rd_T31 l0 x38_2).f0))) < 0) = false := decide_eq_false c12
                      clear c12
                      replace H := Option.bind_eq_some_iff.mp H
                      obtain ⟨⟨t128, t129⟩, A200, H⟩ := H
                      replace H : ((num_DivUp.f k2 (wrap64 (t120 * (wrap64 (a1 - ((rd_T31 l0 x38_2).f0))))) 16).bind fun bt130 => (climb_Heights.l0 k2 a1 t119 t120 (mx x10_2 (wrap64 ((wrap64 (100 * ((rd_T31 l0 x38_2).f1))) + t128))) (mn x11_2 (wrap64 ((wrap64 ((wrap64 ((wrap64 (100 * ((rd_T31 l0 x38_2).f1))) + 100)) - 1)) + bt130.1))) l0 (l0.length : Int) (wrap64 (x38_2 + 1)))) = some (r1, r2, r3) := H
                      have A20 := Aside0.mk A200
                      have CA20 := Aside0.mk (fun W_ => num_DivDown.calls k2 (wrap64 (t119 * (wrap64 (a1 - ((rd_T31 l0 x38_2).f0))))) 16 t128 t129 W_ A200)
                      clear A200
                      replace H := Option.bind_eq_some_iff.mp H
                      obtain ⟨⟨t130, t131⟩, A210, H⟩ := H
                      replace H : (climb_Heights.l0 k2 a1 t119 t120 (mx x10_2 (wrap64 ((wrap64 (100 * ((rd_T31 l0 x38_2).f1))) + t128))) (mn x11_2 (wrap64 ((wrap64 ((wrap64 ((wrap64 (100 * ((rd_T31 l0 x38_2).f1))) + 100)) - 1)) + t130))) l0 (l0.length : Int) (wrap64 (x38_2 + 1))) = some (r1, r2, r3) := H
                      have A21 := Aside0.mk A210
                      have CA21 := Aside0.mk (fun W_ => num_DivUp.calls k2 (wrap64 (t120 * (wrap64 (a1 - ((rd_T31 l0 x38_2).f0))))) 16 t130 t131 W_ A210)
                      clear A210
                      obtain ⟨ji22, hji22⟩ : ∃ j_ : Int, (mx x10_2 (wrap64 ((wrap64 (100 * ((rd_T31 l0 x38_2).f1))) + t128))) = j_ := ⟨_, rfl⟩
                      replace H : (climb_Heights.l0 k2 a1 t119 t120 ji22 (mn x11_2 (wrap64 ((wrap64 ((wrap64 ((wrap64 (100 * ((rd_T31 l0 x38_2).f1))) + 100)) - 1)) + t130))) l0 (l0.length : Int) (wrap64 (x38_2 + 1))) = some (r1, r2, r3) := by first | (rw [hji22] at H; exact H) | (simp only [hji22] at H ⊢; exact H)
                      (try rw [hji22] at A20)
                      (try rw [hji22] at A21)
                      have hji22_ : (if x10_2 < (wrap64 ((wrap64 (100 * ((rd_T31 l0 x38_2).f1))) + t128)) then (wrap64 ((wrap64 (100 * ((rd_T31 l0 x38_2).f1))) + t128)) else x10_2) = ji22 := hji22
                      obtain ⟨ji23, hji23⟩ : ∃ j_ : Int, (mn x11_2 (wrap64 ((wrap64 ((wrap64 ((wrap64 (100 * ((rd_T31 l0 x38_2).f1))) + 100)) - 1)) + t130))) = j_ := ⟨_, rfl⟩
                      replace H : (climb_Heights.l0 k2 a1 t119 t120 ji22 ji23 l0 (l0.length : Int) (wrap64 (x38_2 + 1))) = some (r1, r2, r3) := by first | (rw [hji23] at H; exact H) | (simp only [hji23] at H ⊢; exact H)
                      (try rw [hji23] at A20)
                      (try rw [hji23] at A21)
                      have hji23_ : (if (wrap64 ((wrap64 ((wrap64 ((wrap64 (100 * ((rd_T31 l0 x38_2).f1))) + 100)) - 1)) + t130)) < x11_2 then (wrap64 ((wrap64 ((wrap64 ((wrap64 (100 * ((rd_T31 l0 x38_2).f1))) + 100)) - 1)) + t130)) else x11_2) = ji23 := hji23
                      have H' := Aside0.mk H
                      clear H
                      have p122 : 0 ≤ (x38_2 : Int) := of_decide_eq_true (by first | (with_reducible assumption) | assumption)
                      have q122 : x38_2 < (l0.length : Int) := of_decide_eq_true (by first | (with_reducible assumption) | assumption)
                      obtain ⟨ad122, e122, hx122_0, hx122_1⟩ := at_T31 HR0.out x38_2 p122 q122
                      cases e122
                      replace hx122_0 := (HB.out.cell (World.block_lt_of_cell? w _ hx122_0)).trans hx122_0
                      replace hx122_1 := (HB.out.cell (World.block_lt_of_cell? w _ hx122_1)).trans hx122_1
                      replace p122 := eq_true p122
                      replace q122 := eq_true q122
                      go_wp2_with (first | ((with_reducible refine gate_dst (N := 13) rfl ?_); refine box_event ?hg (N := 13) ?hd (cs := #[.int .i64 0, .int .i64 0]) (t := 31) ?hr ?_; (case hd => rfl); (case hg => rfl); (case hr => first | (go_simp; done) | (go_simp; rfl)); intro gb123 hg w24 hbox hb; have n0_ := Aside0.mk (below_step (by repeat (first | (with_reducible first | exact HB.out | apply below_alloc | apply pw_below_drewN | apply below_drew1) | exact HB.out)) hb); have n1_ := Aside0.mk (hbox); have n2_ := Aside0.mk ((by rw [hg]; exact (below_size (by repeat (first | (with_reducible first | exact HB.out | apply below_alloc | apply pw_below_drewN | apply below_drew1) | exact HB.out))) : w.heap.size ≤ gb123)); have n3_ := Aside0.mk ((by rw [hg]; exact (below_size (by repeat (first | (with_reducible first | exact HB.out | apply below_alloc | apply pw_below_drewN | apply below_drew1) | exact HB.out))) : w.heap.size ≤ gb123)); clear HB; have HB := n0_; have BK123 := n1_; have GW123 := n2_; have GE123 := n3_; clear n0_ n1_ n2_ n3_; clear hb hbox hg) | ((with_reducible refine gate_store (t := 31) (p := 13) rfl ?_); (try (rw [drewN_self w24]; generalize hq_ : World.drewN w24 _ = w24; have n0_ := Aside0.mk (blk_at hq_ BK123.out); have n1_ := Aside0.mk (below_at hq_ HB.out); clear hq_ BK123 HB; have BK123 := n0_; have HB := n1_; clear n0_ n1_)); refine st_row rfl rfl 31 13 _ rfl gb123 0 rfl (t := 31) (cs := #[.int .i64 0, .int .i64 0]) [.int .i64 ((rd_T31 l0 x38_2).f0), .int .i64 ((rd_T31 l0 x38_2).f1)] _ rfl rfl isz31 (by (with_reducible repeat (first | refine blk_drewN ?_ _ | refine blk_drew ?_ | refine blk_alloc ?_ _)); exact BK123.out) (Nat.le_of_ble_eq_true rfl) rfl #[.int .i64 ((rd_T31 l0 x38_2).f0), .int .i64 ((rd_T31 l0 x38_2).f1)] rfl ?_; intro w25 hx_ hy_ hz_; have n0_ := Aside0.mk (hx_); have n1_ := Aside0.mk (hz_ _ _ (by repeat (first | (with_reducible first | exact HB.out | apply below_alloc | apply pw_below_drewN | apply below_drew1 | refine below_set ?_ GE123.out) | exact HB.out)) GE123.out); clear BK123; clear HB; have BK123 := n0_; have HB := n1_; clear n0_ n1_; clear hx_ hy_ hz_) | ((with_reducible refine gate_dst (N := 44) rfl ?_); refine ld_cell rfl (N := 44) rfl 3 _ rfl gb123 0 rfl (t := 31) (cs := #[.int .i64 ((rd_T31 l0 x38_2).f0), .int .i64 ((rd_T31 l0 x38_2).f1)]) (fr := (0, 0)) (.int .i64 ((rd_T31 l0 x38_2).f0)) (by (with_reducible repeat (first | refine blk_drewN ?_ _ | refine blk_drew ?_ | refine blk_alloc ?_ _)); exact BK123.out) Try.underlying3 rfl rfl ?_) | (go_at_call 46; (with_reducible refine (CA20.out _).mono ?_); rintro e w' ⟨rfl, ⟨nd, rfl⟩⟩; (try first | exact ⟨rfl, _, World.drewN_drewN _ _ _⟩ | exact ⟨rfl, _, Eq.trans (World.drewN_drewN _ _ _) (congrArg (World.drewN _) (Nat.add_assoc _ _ _))⟩)) | (go_at_call 47; (with_reducible refine (CA21.out _).mono ?_); rintro e w' ⟨rfl, ⟨nd, rfl⟩⟩; (try first | exact ⟨rfl, _, World.drewN_drewN _ _ _⟩ | exact ⟨rfl, _, Eq.trans (World.drewN_drewN _ _ _) (congrArg (World.drewN _) (Nat.add_assoc _ _ _))⟩); obtain ⟨hcz26_0, hfz26_0⟩ := blkc2 BK123.out))
                      repeat (go_quiet (first | ((with_reducible refine gate_dst (N := 13) rfl ?_); refine box_event ?hg (N := 13) ?hd (cs := #[.int .i64 0, .int .i64 0]) (t := 31) ?hr ?_; (case hd => rfl); (case hg => rfl); (case hr => first | (go_simp; done) | (go_simp; rfl)); intro gb123 hg w24 hbox hb; have n0_ := Aside0.mk (below_step (by repeat (first | (with_reducible first | exact HB.out | apply below_alloc | apply pw_below_drewN | apply below_drew1) | exact HB.out)) hb); have n1_ := Aside0.mk (hbox); have n2_ := Aside0.mk ((by rw [hg]; exact (below_size (by repeat (first | (with_reducible first | exact HB.out | apply below_alloc | apply pw_below_drewN | apply below_drew1) | exact HB.out))) : w.heap.size ≤ gb123)); have n3_ := Aside0.mk ((by rw [hg]; exact (below_size (by repeat (first | (with_reducible first | exact HB.out | apply below_alloc | apply pw_below_drewN | apply below_drew1) | exact HB.out))) : w.heap.size ≤ gb123)); clear HB; have HB := n0_; have BK123 := n1_; have GW123 := n2_; have GE123 := n3_; clear n0_ n1_ n2_ n3_; clear hb hbox hg) | ((with_reducible refine gate_store (t := 31) (p := 13) rfl ?_); (try (rw [drewN_self w24]; generalize hq_ : World.drewN w24 _ = w24; have n0_ := Aside0.mk (blk_at hq_ BK123.out); have n1_ := Aside0.mk (below_at hq_ HB.out); clear hq_ BK123 HB; have BK123 := n0_; have HB := n1_; clear n0_ n1_)); refine st_row rfl rfl 31 13 _ rfl gb123 0 rfl (t := 31) (cs := #[.int .i64 0, .int .i64 0]) [.int .i64 ((rd_T31 l0 x38_2).f0), .int .i64 ((rd_T31 l0 x38_2).f1)] _ rfl rfl isz31 (by (with_reducible repeat (first | refine blk_drewN ?_ _ | refine blk_drew ?_ | refine blk_alloc ?_ _)); exact BK123.out) (Nat.le_of_ble_eq_true rfl) rfl #[.int .i64 ((rd_T31 l0 x38_2).f0), .int .i64 ((rd_T31 l0 x38_2).f1)] rfl ?_; intro w25 hx_ hy_ hz_; have n0_ := Aside0.mk (hx_); have n1_ := Aside0.mk (hz_ _ _ (by repeat (first | (with_reducible first | exact HB.out | apply below_alloc | apply pw_below_drewN | apply below_drew1 | refine below_set ?_ GE123.out) | exact HB.out)) GE123.out); clear BK123; clear HB; have BK123 := n0_; have HB := n1_; clear n0_ n1_; clear hx_ hy_ hz_) | ((with_reducible refine gate_dst (N := 44) rfl ?_); refine ld_cell rfl (N := 44) rfl 3 _ rfl gb123 0 rfl (t := 31) (cs := #[.int .i64 ((rd_T31 l0 x38_2).f0), .int .i64 ((rd_T31 l0 x38_2).f1)]) (fr := (0, 0)) (.int .i64 ((rd_T31 l0 x38_2).f0)) (by (with_reducible repeat (first | refine blk_drewN ?_ _ | refine blk_drew ?_ | refine blk_alloc ?_ _)); exact BK123.out) Try.underlying3 rfl rfl ?_) | (go_at_call 46; (with_reducible refine (CA20.out _).mono ?_); rintro e w' ⟨rfl, ⟨nd, rfl⟩⟩; (try first | exact ⟨rfl, _, World.drewN_drewN _ _ _⟩ | exact ⟨rfl, _, Eq.trans (World.drewN_drewN _ _ _) (congrArg (World.drewN _) (Nat.add_assoc _ _ _))⟩)) | (go_at_call 47; (with_reducible refine (CA21.out _).mono ?_); rintro e w' ⟨rfl, ⟨nd, rfl⟩⟩; (try first | exact ⟨rfl, _, World.drewN_drewN _ _ _⟩ | exact ⟨rfl, _, Eq.trans (World.drewN_drewN _ _ _) (congrArg (World.drewN _) (Nat.add_assoc _ _ _))⟩); obtain ⟨hcz26_0, hfz26_0⟩ := blkc2 BK123.out)); try go_wp2_with (first | ((with_reducible refine gate_dst (N := 13) rfl ?_); refine box_event ?hg (N := 13) ?hd (cs := #[.int .i64 0, .int .i64 0]) (t := 31) ?hr ?_; (case hd => rfl); (case hg => rfl); (case hr => first | (go_simp; done) | (go_simp; rfl)); intro gb123 hg w24 hbox hb; have n0_ := Aside0.mk (below_step (by repeat (first | (with_reducible first | exact HB.out | apply below_alloc | apply pw_below_drewN | apply below_drew1) | exact HB.out)) hb); have n1_ := Aside0.mk (hbox); have n2_ := Aside0.mk ((by rw [hg]; exact (below_size (by repeat (first | (with_reducible first | exact HB.out | apply below_alloc | apply pw_below_drewN | apply below_drew1) | exact HB.out))) : w.heap.size ≤ gb123)); have n3_ := Aside0.mk ((by rw [hg]; exact (below_size (by repeat (first | (with_reducible first | exact HB.out | apply below_alloc | apply pw_below_drewN | apply below_drew1) | exact HB.out))) : w.heap.size ≤ gb123)); clear HB; have HB := n0_; have BK123 := n1_; have GW123 := n2_; have GE123 := n3_; clear n0_ n1_ n2_ n3_; clear hb hbox hg) | ((with_reducible refine gate_store (t := 31) (p := 13) rfl ?_); (try (rw [drewN_self w24]; generalize hq_ : World.drewN w24 _ = w24; have n0_ := Aside0.mk (blk_at hq_ BK123.out); have n1_ := Aside0.mk (below_at hq_ HB.out); clear hq_ BK123 HB; have BK123 := n0_; have HB := n1_; clear n0_ n1_)); refine st_row rfl rfl 31 13 _ rfl gb123 0 rfl (t := 31) (cs := #[.int .i64 0, .int .i64 0]) [.int .i64 ((rd_T31 l0 x38_2).f0), .int .i64 ((rd_T31 l0 x38_2).f1)] _ rfl rfl isz31 (by (with_reducible repeat (first | refine blk_drewN ?_ _ | refine blk_drew ?_ | refine blk_alloc ?_ _)); exact BK123.out) (Nat.le_of_ble_eq_true rfl) rfl #[.int .i64 ((rd_T31 l0 x38_2).f0), .int .i64 ((rd_T31 l0 x38_2).f1)] rfl ?_; intro w25 hx_ hy_ hz_; have n0_ := Aside0.mk (hx_); have n1_ := Aside0.mk (hz_ _ _ (by repeat (first | (with_reducible first | exact HB.out | apply below_alloc | apply pw_below_drewN | apply below_drew1 | refine below_set ?_ GE123.out) | exact HB.out)) GE123.out); clear BK123; clear HB; have BK123 := n0_; have HB := n1_; clear n0_ n1_; clear hx_ hy_ hz_) | ((with_reducible refine gate_dst (N := 44) rfl ?_); refine ld_cell rfl (N := 44) rfl 3 _ rfl gb123 0 rfl (t := 31) (cs := #[.int .i64 ((rd_T31 l0 x38_2).f0), .int .i64 ((rd_T31 l0 x38_2).f1)]) (fr := (0, 0)) (.int .i64 ((rd_T31 l0 x38_2).f0)) (by (with_reducible repeat (first | refine blk_drewN ?_ _ | refine blk_drew ?_ | refine blk_alloc ?_ _)); exact BK123.out) Try.underlying3 rfl rfl ?_) | (go_at_call 46; (with_reducible refine (CA20.out _).mono ?_); rintro e w' ⟨rfl, ⟨nd, rfl⟩⟩; (try first | exact ⟨rfl, _, World.drewN_drewN _ _ _⟩ | exact ⟨rfl, _, Eq.trans (World.drewN_drewN _ _ _) (congrArg (World.drewN _) (Nat.add_assoc _ _ _))⟩)) | (go_at_call 47; (with_reducible refine (CA21.out _).mono ?_); rintro e w' ⟨rfl, ⟨nd, rfl⟩⟩; (try first | exact ⟨rfl, _, World.drewN_drewN _ _ _⟩ | exact ⟨rfl, _, Eq.trans (World.drewN_drewN _ _ _) (congrArg (World.drewN _) (Nat.add_assoc _ _ _))⟩); obtain ⟨hcz26_0, hfz26_0⟩ := blkc2 BK123.out)))
                      go_roundg k2
                      case measure => have := HJ4.out; have := HK2.out; omega
                      case rel => exact ⟨(ji22), (ji23), (wrap64 (x38_2 + 1)), (by first | rfl | (simp; done) | (simp only [← hji22] <;> (first | rfl | simp)) | (simp [*]; done)), (by first | rfl | (simp; done) | (simp only [← hji23] <;> (first | rfl | simp)) | (simp [*]; done)), (by first | rfl | (simp; done) | (simp [*]; done)), H', ⟨by have := HJ4.out; have := HK2.out; omega⟩, ⟨by repeat (first | (with_reducible first | exact HB.out | apply below_alloc | apply pw_below_drewN | apply below_drew1 | refine below_set ?_ GE123.out) | exact HB.out)⟩⟩
                  · rw [if_neg c11] at H
                    exact absurd H (by simp)
                · rw [if_neg c10] at H
                  exact absurd H (by simp)
              · rw [if_neg c9] at H
                have c9b0 : decide (x38_2 < (l0.length : Int)) = false := decide_eq_false c9
                clear c9
                by_cases c27 : x10_2 > x11_2
                · rw [if_pos c27] at H
                  have c27b0 : decide (x11_2 < x10_2) = true := decide_eq_true c27
                  clear c27
                  simp only [Option.some.injEq, Prod.mk.injEq] at H
                  obtain ⟨rfl, rfl, rfl⟩ := H
                  go_wp2
                  repeat (go_quiet (fail); try go_wp2)
                  go_ret3
                  exact ⟨by first | rfl | (simp [errW_none, errW_some] <;> rfl) | (simp [*, errW_none, errW_some] <;> rfl), by repeat (first | (with_reducible first | exact HB.out | apply below_alloc | apply pw_below_drewN | apply below_drew1) | exact HB.out)⟩
                · rw [if_neg c27] at H
                  have c27b0 : decide (x11_2 < x10_2) = false := decide_eq_false c27
                  clear c27
                  simp only [Option.some.injEq, Prod.mk.injEq] at H
                  obtain ⟨rfl, rfl, rfl⟩ := H
                  go_wp2
                  repeat (go_quiet (fail); try go_wp2)
                  go_ret3
                  exact ⟨by first | rfl | (simp [errW_none, errW_some] <;> rfl) | (simp [*, errW_none, errW_some] <;> rfl), by repeat (first | (with_reducible first | exact HB.out | apply below_alloc | apply pw_below_drewN | apply below_drew1) | exact HB.out)⟩
  · rw [if_neg c4] at H
    have c4b0 : (t121 == 0) = false := beq_eq_false_iff_ne.mpr c4
    have c4b1 : (t121 != 0) = true := bne_iff_ne.mpr c4
    simp only [Option.some.injEq, Prod.mk.injEq] at H
    obtain ⟨rfl, rfl, rfl⟩ := H
    go_enter Try.func20, Try.ntmps20
    go_wp2_with (first | (go_at_call 19; (with_reducible refine (climb_Rates.calls k _ _ l0 t119 t120 t121 _ ?side1 ?side2 A3.out).mono ?_); (case side1 => repeat (first | exact HR0.out | (with_reducible refine Kd.C_alloc ?_ _) | (with_reducible refine Kd.C_drewN ?_ _) | (with_reducible refine Kd.C_drew ?_))); (case side2 => exact HC0.out); rintro e w28 ⟨rfl, hb⟩; have n0_ := Aside0.mk (below_step (by repeat (first | (with_reducible first | exact HB.out | apply below_alloc | apply pw_below_drewN | apply below_drew1) | exact HB.out)) hb); clear HB; have HB := n0_; clear n0_; (try clear hb); (try clear hb2); (try clear hk); (try clear hi)))
    repeat (go_quiet (first | (go_at_call 19; (with_reducible refine (climb_Rates.calls k _ _ l0 t119 t120 t121 _ ?side1 ?side2 A3.out).mono ?_); (case side1 => repeat (first | exact HR0.out | (with_reducible refine Kd.C_alloc ?_ _) | (with_reducible refine Kd.C_drewN ?_ _) | (with_reducible refine Kd.C_drew ?_))); (case side2 => exact HC0.out); rintro e w28 ⟨rfl, hb⟩; have n0_ := Aside0.mk (below_step (by repeat (first | (with_reducible first | exact HB.out | apply below_alloc | apply pw_below_drewN | apply below_drew1) | exact HB.out)) hb); clear HB; have HB := n0_; clear n0_; (try clear hb); (try clear hb2); (try clear hk); (try clear hi))); try go_wp2_with (first | (go_at_call 19; (with_reducible refine (climb_Rates.calls k _ _ l0 t119 t120 t121 _ ?side1 ?side2 A3.out).mono ?_); (case side1 => repeat (first | exact HR0.out | (with_reducible refine Kd.C_alloc ?_ _) | (with_reducible refine Kd.C_drewN ?_ _) | (with_reducible refine Kd.C_drew ?_))); (case side2 => exact HC0.out); rintro e w28 ⟨rfl, hb⟩; have n0_ := Aside0.mk (below_step (by repeat (first | (with_reducible first | exact HB.out | apply below_alloc | apply pw_below_drewN | apply below_drew1) | exact HB.out)) hb); clear HB; have HB := n0_; clear n0_; (try clear hb); (try clear hb2); (try clear hk); (try clear hi))))
    go_ret3
    exact ⟨by first | rfl | (simp [errW_none, errW_some] <;> rfl) | (simp [*, errW_none, errW_some] <;> rfl), by repeat (first | (with_reducible first | exact HB.out | apply below_alloc | apply pw_below_drewN | apply below_drew1) | exact HB.out)⟩

/-! ### climb_Through: function 21 -/
mutual
def climb_Through.j0 : Nat → List (S31) → Int → Int → Int → Bool → Option (Int × Int)
  | 0, _, _, _, _, _ => none
  | k + 1, x0, x1, x2, x3, x42 => if x42 = true then (some (0, 4)) else (if (x0.length : Int) = 0 then (some (0, 8)) else (if 0 ≤ (wrap64 ((x0.length : Int) - 1)) then (if (wrap64 ((x0.length : Int) - 1)) < (x0.length : Int) then (climb_Through.j1 k x0 x1 x2 x3 (decide (x1 ≥ ((rd_T31 x0 (wrap64 ((x0.length : Int) - 1))).f1)))) else (none)) else (none)))
def climb_Through.j1 : Nat → List (S31) → Int → Int → Int → Bool → Option (Int × Int)
  | 0, _, _, _, _, _ => none
  | k + 1, x0, x1, x2, x3, x11 => climb_Through.l0 k x0 x1 x2 x3 x11 x2
def climb_Through.l0 : Nat → List (S31) → Int → Int → Int → Bool → Int → Option (Int × Int)
  | 0, _, _, _, _, _, _ => none
  | k + 1, x0, x1, x2, x3, x11, x12 => if x12 ≤ (mn (wrap64 (x2 + x3)) 200000) then ((climb_Heights.f k x0 x12).bind fun bt134 => (if bt134.2.2 = 0 then (if x11 = true then (if bt134.2.1 ≥ (wrap64 (100 * x1)) then (some (x12, 0)) else (climb_Through.l0 k x0 x1 x2 x3 x11 (wrap64 (x12 + 1)))) else (if bt134.1 < (wrap64 ((wrap64 (100 * x1)) + 100)) then (some (x12, 0)) else (climb_Through.l0 k x0 x1 x2 x3 x11 (wrap64 (x12 + 1))))) else (climb_Through.l0 k x0 x1 x2 x3 x11 (wrap64 (x12 + 1))))) else (some (0, 8))
end
def climb_Through.f (k : Nat) (l0 : List (S31)) (a1 : Int) (a2 : Int) (a3 : Int) : Option (Int × Int) := (climb_Check.f k l0).bind fun t132 => (if t132 = 0 then (if a1 < 0 then (climb_Through.j0 k l0 a1 a2 a3 true) else (if a1 > 600 then (climb_Through.j0 k l0 a1 a2 a3 true) else (if a2 < 0 then (climb_Through.j0 k l0 a1 a2 a3 true) else (if a2 > 200000 then (climb_Through.j0 k l0 a1 a2 a3 true) else (if a3 < 0 then (climb_Through.j0 k l0 a1 a2 a3 true) else (climb_Through.j0 k l0 a1 a2 a3 (decide (a3 > 600)))))))) else (some (0, t132)))
theorem climb_Through.mono_l : ∀ k, (∀ y0 y1 y2 y3 y4, LeO (climb_Through.j0 k y0 y1 y2 y3 y4) (climb_Through.j0 (k + 1) y0 y1 y2 y3 y4)) ∧ (∀ y0 y1 y2 y3 y4, LeO (climb_Through.j1 k y0 y1 y2 y3 y4) (climb_Through.j1 (k + 1) y0 y1 y2 y3 y4)) ∧ (∀ y0 y1 y2 y3 y4 y5, LeO (climb_Through.l0 k y0 y1 y2 y3 y4 y5) (climb_Through.l0 (k + 1) y0 y1 y2 y3 y4 y5))
  | 0 => ⟨fun _ _ _ _ _ r h => by simp [climb_Through.j0] at h, fun _ _ _ _ _ r h => by simp [climb_Through.j1] at h, fun _ _ _ _ _ _ r h => by simp [climb_Through.l0] at h⟩
  | k + 1 => by
    obtain ⟨ih0, ih1, ih2⟩ := climb_Through.mono_l k
    refine ⟨?_, ?_, ?_⟩
    · intro y0 y1 y2 y3 y4
      unfold climb_Through.j0
      repeat' first
      | (with_reducible exact ih0 _ _ _ _ _)
      | (with_reducible exact ih1 _ _ _ _ _)
      | (with_reducible exact ih2 _ _ _ _ _ _)
      | (with_reducible exact climb_Check.mono _ _)
      | (with_reducible exact climb_Heights.mono _ _ _)
      | (with_reducible exact LeO.refl _)
      | (with_reducible exact LeO.none _)
      | (with_reducible refine LeO.ite ?_ ?_)
      | (with_reducible refine LeO.bind ?_ (fun _ => ?_))
      | exact ih0 _ _ _ _ _
      | exact ih1 _ _ _ _ _
      | exact ih2 _ _ _ _ _ _
      | exact climb_Check.mono _ _
      | exact climb_Heights.mono _ _ _
      | exact LeO.none _
      | refine LeO.ite ?_ ?_
      | refine LeO.bind ?_ (fun _ => ?_)
    · intro y0 y1 y2 y3 y4
      unfold climb_Through.j1
      repeat' first
      | (with_reducible exact ih0 _ _ _ _ _)
      | (with_reducible exact ih1 _ _ _ _ _)
      | (with_reducible exact ih2 _ _ _ _ _ _)
      | (with_reducible exact climb_Check.mono _ _)
      | (with_reducible exact climb_Heights.mono _ _ _)
      | (with_reducible exact LeO.refl _)
      | (with_reducible exact LeO.none _)
      | (with_reducible refine LeO.ite ?_ ?_)
      | (with_reducible refine LeO.bind ?_ (fun _ => ?_))
      | exact ih0 _ _ _ _ _
      | exact ih1 _ _ _ _ _
      | exact ih2 _ _ _ _ _ _
      | exact climb_Check.mono _ _
      | exact climb_Heights.mono _ _ _
      | exact LeO.none _
      | refine LeO.ite ?_ ?_
      | refine LeO.bind ?_ (fun _ => ?_)
    · intro y0 y1 y2 y3 y4 y5
      unfold climb_Through.l0
      repeat' first
      | (with_reducible exact ih0 _ _ _ _ _)
      | (with_reducible exact ih1 _ _ _ _ _)
      | (with_reducible exact ih2 _ _ _ _ _ _)
      | (with_reducible exact climb_Check.mono _ _)
      | (with_reducible exact climb_Heights.mono _ _ _)
      | (with_reducible exact LeO.refl _)
      | (with_reducible exact LeO.none _)
      | (with_reducible refine LeO.ite ?_ ?_)
      | (with_reducible refine LeO.bind ?_ (fun _ => ?_))
      | exact ih0 _ _ _ _ _
      | exact ih1 _ _ _ _ _
      | exact ih2 _ _ _ _ _ _
      | exact climb_Check.mono _ _
      | exact climb_Heights.mono _ _ _
      | exact LeO.none _
      | refine LeO.ite ?_ ?_
      | refine LeO.bind ?_ (fun _ => ?_)
theorem climb_Through.mono : ∀ a0 a1 a2 a3 k, LeO (climb_Through.f k a0 a1 a2 a3) (climb_Through.f (k + 1) a0 a1 a2 a3) := by
  intro a0 a1 a2 a3 k
  obtain ⟨ih0, ih1, ih2⟩ := climb_Through.mono_l k
  unfold climb_Through.f
  repeat' first
      | (with_reducible exact ih0 _ _ _ _ _)
      | (with_reducible exact ih1 _ _ _ _ _)
      | (with_reducible exact ih2 _ _ _ _ _ _)
      | (with_reducible exact climb_Check.mono _ _)
      | (with_reducible exact climb_Heights.mono _ _ _)
      | (with_reducible exact LeO.refl _)
      | (with_reducible exact LeO.none _)
      | (with_reducible refine LeO.ite ?_ ?_)
      | (with_reducible refine LeO.bind ?_ (fun _ => ?_))
      | exact ih0 _ _ _ _ _
      | exact ih1 _ _ _ _ _
      | exact ih2 _ _ _ _ _ _
      | exact climb_Check.mono _ _
      | exact climb_Heights.mono _ _ _
      | exact LeO.none _
      | refine LeO.ite ?_ ?_
      | refine LeO.bind ?_ (fun _ => ?_)
set_option maxHeartbeats 80000000 in
set_option maxRecDepth 100000 in
theorem climb_Through.calls (k : Nat) (A0 : Option Addr) (c0 : Nat) (l0 : List (S31)) (a1 : Int) (a2 : Int) (a3 : Int) (r1 : Int) (r2 : Int) (w : World) (hr0 : Kd.C k31 w A0 l0.length l0) (hc0 : l0.length ≤ c0) (h : climb_Through.f k l0 a1 a2 a3 = some (r1, r2)) :
    Calls Try.prog 21 #[.slice A0 l0.length c0, .int .i64 a1, .int .i64 a2, .int .i64 a3] w fun e w' => e = .returned (.tuple #[.int .i64 r1, .int .i64 r2]) ∧ Below w.heap.size w w' := by
  have HR0 := Aside0.mk hr0
  have HC0 := Aside0.mk hc0
  clear hr0 hc0
  have HB := Aside0.mk (Below.refl w.heap.size w)
  have H : ((climb_Check.f k l0).bind fun t132 => (if t132 = 0 then (if a1 < 0 then (climb_Through.j0 k l0 a1 a2 a3 true) else (if a1 > 600 then (climb_Through.j0 k l0 a1 a2 a3 true) else (if a2 < 0 then (climb_Through.j0 k l0 a1 a2 a3 true) else (if a2 > 200000 then (climb_Through.j0 k l0 a1 a2 a3 true) else (if a3 < 0 then (climb_Through.j0 k l0 a1 a2 a3 true) else (climb_Through.j0 k l0 a1 a2 a3 (decide (a3 > 600)))))))) else (some (0, t132)))) = some (r1, r2) := h
  clear h
  replace H := Option.bind_eq_some_iff.mp H
  obtain ⟨t132, A50, H⟩ := H
  replace H : (if t132 = 0 then (if a1 < 0 then (climb_Through.j0 k l0 a1 a2 a3 true) else (if a1 > 600 then (climb_Through.j0 k l0 a1 a2 a3 true) else (if a2 < 0 then (climb_Through.j0 k l0 a1 a2 a3 true) else (if a2 > 200000 then (climb_Through.j0 k l0 a1 a2 a3 true) else (if a3 < 0 then (climb_Through.j0 k l0 a1 a2 a3 true) else (climb_Through.j0 k l0 a1 a2 a3 (decide (a3 > 600)))))))) else (some (0, t132))) = some (r1, r2) := H
  have A5 := Aside0.mk A50
  clear A50
  by_cases c6 : t132 = 0
  · rw [if_pos c6] at H
    have c6b0 : (t132 == 0) = true := beq_iff_eq.mpr c6
    have c6b1 : (t132 != 0) = false := bne_eq_false_iff_eq.mpr c6
    clear c6
    have HC7 := Aside0.mk H
    clear H
    go_enter Try.func21, Try.ntmps21
    go_upto_region 4 with (first | ((with_reducible refine gate_callee (f := 45) rfl ?_); refine goesL_ (some 17) rfl rfl Try.func45 (by kernel_rfl) rfl #[.slice A0 l0.length c0] rfl (by (try simp only [List.map_toArray, List.map_cons, List.map_nil]); first | done | rfl | (simp only [List.length_drop, List.length_take]; rfl)) ?_; (with_reducible refine (climb_Check.calls k _ _ l0 t132 _ ?side1 ?side2 A5.out).mono ?_); (case side1 => repeat (first | exact HR0.out | (with_reducible refine Kd.C_alloc ?_ _) | (with_reducible refine Kd.C_drewN ?_ _) | (with_reducible refine Kd.C_drew ?_))); (case side2 => exact HC0.out); rintro e w8 ⟨rfl, hb⟩; refine ⟨_, rfl, ?_⟩; have n0_ := Aside0.mk (below_step (by repeat (first | (with_reducible first | exact HB.out | apply below_alloc | apply pw_below_drewN | apply below_drew1) | exact HB.out)) hb); clear HB; have HB := n0_; clear n0_; (try clear hb); (try clear hb2); (try clear hk); (try clear hi)))
    (try simp only [Act.put, List.setIfInBounds_toArray, List.set_cons_zero, List.set_cons_succ])
    go_cut [42] (fun v42 wc => ∃ (kq : Nat) (x42_6 : Bool), v42 = .bool x42_6 ∧ Aside0 (climb_Through.j0 kq l0 a1 a2 a3 x42_6 = some (r1, r2)) ∧ Aside0 (kq ≤ k) ∧ Aside0 (Below w.heap.size w wc))
    case first =>
      have H := HC7.out
      clear HC7
      by_cases c9 : a1 < 0
      · rw [if_pos c9] at H
        have c9b0 : decide (a1 < 0) = true := decide_eq_true c9
        clear c9
        (first | rw [c9b0] | (simp only [i64_w, i32_w]; rw [c9b0]) | skip)
        have H' := Aside0.mk H
        clear H
        go_wp2
        go_meet
        case rel => exact ⟨_, (true), (by first | rfl | (simp; done) | (simp [*]; done)), H', ⟨by first | omega | exact Nat.le_refl _⟩, ⟨by repeat (first | (with_reducible first | exact HB.out | apply below_alloc | apply pw_below_drewN | apply below_drew1) | exact HB.out)⟩⟩
      · rw [if_neg c9] at H
        have c9b0 : decide (a1 < 0) = false := decide_eq_false c9
        clear c9
        (first | rw [c9b0] | (simp only [i64_w, i32_w]; rw [c9b0]) | skip)
        by_cases c10 : a1 > 600
        · rw [if_pos c10] at H
          have c10b0 : decide (600 < a1) = true := decide_eq_true c10
          clear c10
          have H' := Aside0.mk H
          clear H
          go_wp2
          go_meet
          case rel => exact ⟨_, (true), (by first | rfl | (simp; done) | (simp [*]; done)), H', ⟨by first | omega | exact Nat.le_refl _⟩, ⟨by repeat (first | (with_reducible first | exact HB.out | apply below_alloc | apply pw_below_drewN | apply below_drew1) | exact HB.out)⟩⟩
        · rw [if_neg c10] at H
          have c10b0 : decide (600 < a1) = false := decide_eq_false c10
          clear c10
          by_cases c11 : a2 < 0
          · rw [if_pos c11] at H
            have c11b0 : decide (a2 < 0) = true := decide_eq_true c11
            clear c11
            have H' := Aside0.mk H
            clear H
            go_wp2
            go_meet
            case rel => exact ⟨_, (true), (by first | rfl | (simp; done) | (simp [*]; done)), H', ⟨by first | omega | exact Nat.le_refl _⟩, ⟨by repeat (first | (with_reducible first | exact HB.out | apply below_alloc | apply pw_below_drewN | apply below_drew1) | exact HB.out)⟩⟩
          · rw [if_neg c11] at H
            have c11b0 : decide (a2 < 0) = false := decide_eq_false c11
            clear c11
            by_cases c12 : a2 > 200000
            · rw [if_pos c12] at H
              have c12b0 : decide (200000 < a2) = true := decide_eq_true c12
              clear c12
              have H' := Aside0.mk H
              clear H
              go_wp2
              go_meet
              case rel => exact ⟨_, (true), (by first | rfl | (simp; done) | (simp [*]; done)), H', ⟨by first | omega | exact Nat.le_refl _⟩, ⟨by repeat (first | (with_reducible first | exact HB.out | apply below_alloc | apply pw_below_drewN | apply below_drew1) | exact HB.out)⟩⟩
            · rw [if_neg c12] at H
              have c12b0 : decide (200000 < a2) = false := decide_eq_false c12
              clear c12
              by_cases c13 : a3 < 0
              · rw [if_pos c13] at H
                have c13b0 : decide (a3 < 0) = true := decide_eq_true c13
                clear c13
                have H' := Aside0.mk H
                clear H
                go_wp2
                go_meet
                case rel => exact ⟨_, (true), (by first | rfl | (simp; done) | (simp [*]; done)), H', ⟨by first | omega | exact Nat.le_refl _⟩, ⟨by repeat (first | (with_reducible first | exact HB.out | apply below_alloc | apply pw_below_drewN | apply below_drew1) | exact HB.out)⟩⟩
              · rw [if_neg c13] at H
                have c13b0 : decide (a3 < 0) = false := decide_eq_false c13
                clear c13
                have H' := Aside0.mk H
                clear H
                go_wp2
                go_meet
                case rel => exact ⟨_, (decide (a3 > 600)), (by first | rfl | (simp; done) | (simp [*]; done)), H', ⟨by first | omega | exact Nat.le_refl _⟩, ⟨by repeat (first | (with_reducible first | exact HB.out | apply below_alloc | apply pw_below_drewN | apply below_drew1) | exact HB.out)⟩⟩
    case rest =>
      clear HC7
      try clear c1
      try clear c2
      try clear p2
      try clear c4
      try clear c6
      try clear c6b0
      try clear c6b1
      try clear c9
      try clear c9b0
      try clear c10
      try clear c10b0
      try clear c11
      try clear c11b0
      try clear c12
      try clear c12b0
      try clear c13
      try clear c13b0
      obtain ⟨kq, x42_6, rfl, HA, HJ6, HB⟩ := hcut
      cases kq with
      | zero => exact absurd HA.out (by simp [climb_Through.j0])
      | succ kj6 =>
        have H := HA.out
        clear HA
        simp only [climb_Through.j0] at H
        by_cases c14 : x42_6 = true
        · subst c14
          have H1 : (some (0, 4)) = some (r1, r2) := by rw [if_pos rfl] at H; exact H
          clear H
          have H := H1
          clear H1
          simp only [Option.some.injEq, Prod.mk.injEq] at H
          obtain ⟨rfl, rfl⟩ := H
          go_wp2
          go_ret2
          exact ⟨by first | rfl | (simp [errW_none, errW_some] <;> rfl) | (simp [*, errW_none, errW_some] <;> rfl), by repeat (first | (with_reducible first | exact HB.out | apply below_alloc | apply pw_below_drewN | apply below_drew1) | exact HB.out)⟩
        · replace c14 := Bool.eq_false_iff.mpr c14
          subst c14
          have H1 : (if (l0.length : Int) = 0 then (some (0, 8)) else (if 0 ≤ (wrap64 ((l0.length : Int) - 1)) then (if (wrap64 ((l0.length : Int) - 1)) < (l0.length : Int) then (climb_Through.j1 kj6 l0 a1 a2 a3 (decide (a1 ≥ ((rd_T31 l0 (wrap64 ((l0.length : Int) - 1))).f1)))) else (none)) else (none))) = some (r1, r2) := by rw [if_neg (show ¬ (false = true) by decide)] at H; exact H
          clear H
          have H := H1
          clear H1
          by_cases c15 : (l0.length : Int) = 0
          · rw [if_pos c15] at H
            have c15b0 : ((l0.length : Int) == 0) = true := beq_iff_eq.mpr c15
            have c15b1 : ((l0.length : Int) != 0) = false := bne_eq_false_iff_eq.mpr c15
            clear c15
            simp only [Option.some.injEq, Prod.mk.injEq] at H
            obtain ⟨rfl, rfl⟩ := H
            go_wp2
            go_ret2
            exact ⟨by first | rfl | (simp [errW_none, errW_some] <;> rfl) | (simp [*, errW_none, errW_some] <;> rfl), by repeat (first | (with_reducible first | exact HB.out | apply below_alloc | apply pw_below_drewN | apply below_drew1) | exact HB.out)⟩
          · rw [if_neg c15] at H
            have c15b0 : ((l0.length : Int) == 0) = false := beq_eq_false_iff_ne.mpr c15
            have c15b1 : ((l0.length : Int) != 0) = true := bne_iff_ne.mpr c15
            have c15b2 : ¬ (l0 = []) := fun h_ => c15 (by rw [h_]; rfl)
            have HC16 := Aside0.mk H
            clear H
            go_upto_region 8 with (fail)
            go_cut [11] (fun v11 wc => ∃ (kq : Nat) (x11_15 : Bool), v11 = .bool x11_15 ∧ Aside0 (climb_Through.j1 kq l0 a1 a2 a3 x11_15 = some (r1, r2)) ∧ Aside0 (kq ≤ kj6) ∧ Aside0 (Below w.heap.size w wc))
            case first =>
              have H := HC16.out
              clear HC16
              obtain ⟨ji17, hji17⟩ : ∃ j_ : Int, (wrap64 ((l0.length : Int) - 1)) = j_ := ⟨_, rfl⟩
              replace H : (if 0 ≤ (ji17) then (if (ji17) < (l0.length : Int) then (climb_Through.j1 kj6 l0 a1 a2 a3 (decide (a1 ≥ ((rd_T31 l0 (ji17)).f1)))) else (none)) else (none)) = some (r1, r2) := by first | (rw [hji17] at H; exact H) | (simp only [hji17] at H ⊢; exact H)
              have hji17w : (IntKind.i64.wrap ((l0.length : Int) - 1)) = ji17 := (i64_w _).trans hji17
              by_cases c18 : 0 ≤ (ji17)
              · rw [if_pos c18] at H
                have c18b0 : decide (0 ≤ (ji17)) = true := decide_eq_true c18
                clear c18
                (first | rw [c18b0] | (simp only [i64_w, i32_w]; rw [c18b0]) | skip)
                by_cases c19 : (ji17) < (l0.length : Int)
                · rw [if_pos c19] at H
                  have c19b0 : decide ((ji17) < (l0.length : Int)) = true := decide_eq_true c19
                  clear c19
                  have H' := Aside0.mk H
                  clear H
                  have p133 : 0 ≤ ((ji17) : Int) := of_decide_eq_true (by first | (with_reducible assumption) | assumption)
                  have q133 : (ji17) < (l0.length : Int) := of_decide_eq_true (by first | (with_reducible assumption) | assumption)
                  obtain ⟨ad133, e133, hx133_0, hx133_1⟩ := at_T31 HR0.out (ji17) p133 q133
                  cases e133
                  replace hx133_0 := (HB.out.cell (World.block_lt_of_cell? w _ hx133_0)).trans hx133_0
                  replace hx133_1 := (HB.out.cell (World.block_lt_of_cell? w _ hx133_1)).trans hx133_1
                  replace p133 := eq_true p133
                  replace q133 := eq_true q133
                  go_wp2
                  go_meet
                  case rel => exact ⟨_, (decide (a1 ≥ ((rd_T31 l0 (ji17)).f1))), (by first | rfl | (simp; done) | (simp only [← hji17] <;> (first | rfl | simp)) | (simp [*]; done)), H', ⟨by have := HJ6.out; first | omega | exact Nat.le_refl _⟩, ⟨by repeat (first | (with_reducible first | exact HB.out | apply below_alloc | apply pw_below_drewN | apply below_drew1) | exact HB.out)⟩⟩
                · rw [if_neg c19] at H
                  exact absurd H (by simp)
              · rw [if_neg c18] at H
                exact absurd H (by simp)
            case rest =>
              clear HC16
              try clear c1
              try clear p1
              try clear q1
              try clear hx1
              try clear c2
              try clear p2
              try clear c4
              try clear c6
              try clear c6b0
              try clear c6b1
              try clear p6
              try clear c9
              try clear c9b0
              try clear c10
              try clear c10b0
              try clear c11
              try clear c11b0
              try clear c12
              try clear c12b0
              try clear c13
              try clear c13b0
              try clear p13
              try clear q13
              try clear hx13
              try clear c14
              try clear c15
              try clear c15b0
              try clear c15b1
              try clear c15b2
              try clear c18
              try clear c18b0
              try clear c19
              try clear c19b0
              try clear hx133_0
              try clear hx133_1
              try clear p133
              try clear p2
              try clear q133
              obtain ⟨kq, x11_15, rfl, HA, HJ15, HB⟩ := hcut
              cases kq with
              | zero => exact absurd HA.out (by simp [climb_Through.j1])
              | succ kj15 =>
                have H := HA.out
                clear HA
                simp only [climb_Through.j1] at H
                have H' := Aside0.mk H
                clear H
                go_wp2
                go_loopg [12] kj15 (fun kq v12 w' => ∃ (x12_3 : Int), v12 = .int .i64 x12_3 ∧ Aside0 (climb_Through.l0 kq l0 a1 a2 a3 x11_15 x12_3 = some (r1, r2)) ∧ Aside0 (kq ≤ kj15) ∧ Aside0 (Below w.heap.size w w'))
                case atStart => exact ⟨(a2), (by first | rfl | (simp; done) | (simp [*]; done)), H', ⟨Nat.le_refl _⟩, ⟨by repeat (first | (with_reducible first | exact HB.out | apply below_alloc | apply pw_below_drewN | apply below_drew1) | exact HB.out)⟩⟩
                case round =>
                  clear H'
                  try clear c1
                  try clear p1
                  try clear q1
                  try clear hx1
                  try clear c2
                  try clear p2
                  try clear c4
                  try clear c6
                  try clear c6b0
                  try clear c6b1
                  try clear p6
                  try clear c9
                  try clear c9b0
                  try clear c10
                  try clear c10b0
                  try clear c11
                  try clear c11b0
                  try clear c12
                  try clear c12b0
                  try clear c13
                  try clear c13b0
                  try clear p13
                  try clear q13
                  try clear hx13
                  try clear c14
                  try clear c15
                  try clear c15b0
                  try clear c15b1
                  try clear c15b2
                  try clear c18
                  try clear c18b0
                  try clear c19
                  try clear c19b0
                  try clear hx133_0
                  try clear hx133_1
                  try clear p1
                  try clear p13
                  try clear p133
                  try clear p2
                  try clear p6
                  try clear q1
                  try clear q13
                  try clear q133
                  obtain ⟨x12_3, rfl, HA, HK3, HB⟩ := hrel
                  cases gk with
                  | zero => exact absurd HA.out (by simp [climb_Through.l0])
                  | succ k3 =>
                    have H := HA.out
                    clear HA
                    simp only [climb_Through.l0] at H
                    obtain ⟨ji20, hji20⟩ : ∃ j_ : Int, (mn (wrap64 (a2 + a3)) 200000) = j_ := ⟨_, rfl⟩
                    replace H : (if x12_3 ≤ (ji20) then ((climb_Heights.f k3 l0 x12_3).bind fun bt134 => (if bt134.2.2 = 0 then (if x11_15 = true then (if bt134.2.1 ≥ (wrap64 (100 * a1)) then (some (x12_3, 0)) else (climb_Through.l0 k3 l0 a1 a2 a3 x11_15 (wrap64 (x12_3 + 1)))) else (if bt134.1 < (wrap64 ((wrap64 (100 * a1)) + 100)) then (some (x12_3, 0)) else (climb_Through.l0 k3 l0 a1 a2 a3 x11_15 (wrap64 (x12_3 + 1))))) else (climb_Through.l0 k3 l0 a1 a2 a3 x11_15 (wrap64 (x12_3 + 1))))) else (some (0, 8))) = some (r1, r2) := by first | (rw [hji20] at H; exact H) | (simp only [hji20] at H ⊢; exact H)
                    have hji20_ : (if 200000 < (wrap64 (a2 + a3)) then 200000 else (wrap64 (a2 + a3))) = ji20 := hji20
                    by_cases c21 : x12_3 ≤ (ji20)
                    · rw [if_pos c21] at H
                      have c21b0 : decide (x12_3 ≤ (ji20)) = true := decide_eq_true c21
                      clear c21
                      replace H := Option.bind_eq_some_iff.mp H
                      obtain ⟨⟨t134, t135, t136⟩, A220, H⟩ := H
                      replace H : (if t136 = 0 then (if x11_15 = true then (if t135 ≥ (wrap64 (100 * a1)) then (some (x12_3, 0)) else (climb_Through.l0 k3 l0 a1 a2 a3 x11_15 (wrap64 (x12_3 + 1)))) else (if t134 < (wrap64 ((wrap64 (100 * a1)) + 100)) then (some (x12_3, 0)) else (climb_Through.l0 k3 l0 a1 a2 a3 x11_15 (wrap64 (x12_3 + 1))))) else (climb_Through.l0 k3 l0 a1 a2 a3 x11_15 (wrap64 (x12_3 + 1)))) = some (r1, r2) := H
                      have A22 := Aside0.mk A220
                      clear A220
                      by_cases c23 : t136 = 0
                      · rw [if_pos c23] at H
                        have c23b0 : (t136 == 0) = true := beq_iff_eq.mpr c23
                        have c23b1 : (t136 != 0) = false := bne_eq_false_iff_eq.mpr c23
                        clear c23
                        by_cases c24 : x11_15 = true
                        · subst c24
                          have H1 : (if t135 ≥ (wrap64 (100 * a1)) then (some (x12_3, 0)) else (climb_Through.l0 k3 l0 a1 a2 a3 true (wrap64 (x12_3 + 1)))) = some (r1, r2) := by rw [if_pos rfl] at H; exact H
                          clear H
                          have H := H1
                          clear H1
                          by_cases c25 : t135 ≥ (wrap64 (100 * a1))
                          · rw [if_pos c25] at H
                            have c25b0 : decide ((wrap64 (100 * a1)) ≤ t135) = true := decide_eq_true c25
                            clear c25
                            simp only [Option.some.injEq, Prod.mk.injEq] at H
                            obtain ⟨rfl, rfl⟩ := H
                            go_wp2_with (first | ((with_reducible refine gate_callee (f := 20) rfl ?_); refine goesL_ (some 67) rfl rfl Try.func20 (by kernel_rfl) rfl #[.slice A0 l0.length c0, .int .i64 x12_3] rfl (by (try simp only [List.map_toArray, List.map_cons, List.map_nil]); first | done | rfl | (simp only [List.length_drop, List.length_take]; rfl)) ?_; (with_reducible refine (climb_Heights.calls k3 _ _ l0 x12_3 t134 t135 t136 _ ?side1 ?side2 A22.out).mono ?_); (case side1 => repeat (first | exact (Kd.C_below HR0.out HB.out) | (with_reducible refine Kd.C_alloc ?_ _) | (with_reducible refine Kd.C_drewN ?_ _) | (with_reducible refine Kd.C_drew ?_))); (case side2 => exact HC0.out); rintro e w26 ⟨rfl, hb⟩; refine ⟨_, rfl, ?_⟩; have n0_ := Aside0.mk (below_step (by repeat (first | (with_reducible first | exact HB.out | apply below_alloc | apply pw_below_drewN | apply below_drew1) | exact HB.out)) hb); clear HB; have HB := n0_; clear n0_; (try clear hb); (try clear hb2); (try clear hk); (try clear hi)))
                            go_ret2
                            exact ⟨by first | rfl | (simp [errW_none, errW_some] <;> rfl) | (simp only [← hji20]; first | rfl | (simp [errW_none, errW_some] <;> rfl)) | (simp [*, errW_none, errW_some] <;> rfl), by repeat (first | (with_reducible first | exact HB.out | apply below_alloc | apply pw_below_drewN | apply below_drew1) | exact HB.out)⟩
                          · rw [if_neg c25] at H
                            have c25b0 : decide ((wrap64 (100 * a1)) ≤ t135) = false := decide_eq_false c25
                            clear c25
                            have H' := Aside0.mk H
                            clear H
                            go_wp2_with (first | ((with_reducible refine gate_callee (f := 20) rfl ?_); refine goesL_ (some 67) rfl rfl Try.func20 (by kernel_rfl) rfl #[.slice A0 l0.length c0, .int .i64 x12_3] rfl (by (try simp only [List.map_toArray, List.map_cons, List.map_nil]); first | done | rfl | (simp only [List.length_drop, List.length_take]; rfl)) ?_; (with_reducible refine (climb_Heights.calls k3 _ _ l0 x12_3 t134 t135 t136 _ ?side1 ?side2 A22.out).mono ?_); (case side1 => repeat (first | exact (Kd.C_below HR0.out HB.out) | (with_reducible refine Kd.C_alloc ?_ _) | (with_reducible refine Kd.C_drewN ?_ _) | (with_reducible refine Kd.C_drew ?_))); (case side2 => exact HC0.out); rintro e w27 ⟨rfl, hb⟩; refine ⟨_, rfl, ?_⟩; have n0_ := Aside0.mk (below_step (by repeat (first | (with_reducible first | exact HB.out | apply below_alloc | apply pw_below_drewN | apply below_drew1) | exact HB.out)) hb); clear HB; have HB := n0_; clear n0_; (try clear hb); (try clear hb2); (try clear hk); (try clear hi)))
                            go_roundg k3
                            case measure => have := HJ6.out; have := HJ15.out; have := HK3.out; omega
                            case rel => exact ⟨(wrap64 (x12_3 + 1)), (by first | rfl | (simp; done) | (simp [*]; done)), H', ⟨by have := HJ6.out; have := HJ15.out; have := HK3.out; omega⟩, ⟨by repeat (first | (with_reducible first | exact HB.out | apply below_alloc | apply pw_below_drewN | apply below_drew1) | exact HB.out)⟩⟩
                        · replace c24 := Bool.eq_false_iff.mpr c24
                          subst c24
                          have H1 : (if t134 < (wrap64 ((wrap64 (100 * a1)) + 100)) then (some (x12_3, 0)) else (climb_Through.l0 k3 l0 a1 a2 a3 false (wrap64 (x12_3 + 1)))) = some (r1, r2) := by rw [if_neg (show ¬ (false = true) by decide)] at H; exact H
                          clear H
                          have H := H1
                          clear H1
                          by_cases c28 : t134 < (wrap64 ((wrap64 (100 * a1)) + 100))
                          · rw [if_pos c28] at H
                            have c28b0 : decide (t134 < (wrap64 ((wrap64 (100 * a1)) + 100))) = true := decide_eq_true c28
                            clear c28
                            simp only [Option.some.injEq, Prod.mk.injEq] at H
                            obtain ⟨rfl, rfl⟩ := H
                            go_wp2_with (first | ((with_reducible refine gate_callee (f := 20) rfl ?_); refine goesL_ (some 67) rfl rfl Try.func20 (by kernel_rfl) rfl #[.slice A0 l0.length c0, .int .i64 x12_3] rfl (by (try simp only [List.map_toArray, List.map_cons, List.map_nil]); first | done | rfl | (simp only [List.length_drop, List.length_take]; rfl)) ?_; (with_reducible refine (climb_Heights.calls k3 _ _ l0 x12_3 t134 t135 t136 _ ?side1 ?side2 A22.out).mono ?_); (case side1 => repeat (first | exact (Kd.C_below HR0.out HB.out) | (with_reducible refine Kd.C_alloc ?_ _) | (with_reducible refine Kd.C_drewN ?_ _) | (with_reducible refine Kd.C_drew ?_))); (case side2 => exact HC0.out); rintro e w29 ⟨rfl, hb⟩; refine ⟨_, rfl, ?_⟩; have n0_ := Aside0.mk (below_step (by repeat (first | (with_reducible first | exact HB.out | apply below_alloc | apply pw_below_drewN | apply below_drew1) | exact HB.out)) hb); clear HB; have HB := n0_; clear n0_; (try clear hb); (try clear hb2); (try clear hk); (try clear hi)))
                            go_ret2
                            exact ⟨by first | rfl | (simp [errW_none, errW_some] <;> rfl) | (simp only [← hji20]; first | rfl | (simp [errW_none, errW_some] <;> rfl)) | (simp [*, errW_none, errW_some] <;> rfl), by repeat (first | (with_reducible first | exact HB.out | apply below_alloc | apply pw_below_drewN | apply below_drew1) | exact HB.out)⟩
                          · rw [if_neg c28] at H
                            have c28b0 : decide (t134 < (wrap64 ((wrap64 (100 * a1)) + 100))) = false := decide_eq_false c28
                            clear c28
                            have H' := Aside0.mk H
                            clear H
                            go_wp2_with (first | ((with_reducible refine gate_callee (f := 20) rfl ?_); refine goesL_ (some 67) rfl rfl Try.func20 (by kernel_rfl) rfl #[.slice A0 l0.length c0, .int .i64 x12_3] rfl (by (try simp only [List.map_toArray, List.map_cons, List.map_nil]); first | done | rfl | (simp only [List.length_drop, List.length_take]; rfl)) ?_; (with_reducible refine (climb_Heights.calls k3 _ _ l0 x12_3 t134 t135 t136 _ ?side1 ?side2 A22.out).mono ?_); (case side1 => repeat (first | exact (Kd.C_below HR0.out HB.out) | (with_reducible refine Kd.C_alloc ?_ _) | (with_reducible refine Kd.C_drewN ?_ _) | (with_reducible refine Kd.C_drew ?_))); (case side2 => exact HC0.out); rintro e w30 ⟨rfl, hb⟩; refine ⟨_, rfl, ?_⟩; have n0_ := Aside0.mk (below_step (by repeat (first | (with_reducible first | exact HB.out | apply below_alloc | apply pw_below_drewN | apply below_drew1) | exact HB.out)) hb); clear HB; have HB := n0_; clear n0_; (try clear hb); (try clear hb2); (try clear hk); (try clear hi)))
                            go_roundg k3
                            case measure => have := HJ6.out; have := HJ15.out; have := HK3.out; omega
                            case rel => exact ⟨(wrap64 (x12_3 + 1)), (by first | rfl | (simp; done) | (simp [*]; done)), H', ⟨by have := HJ6.out; have := HJ15.out; have := HK3.out; omega⟩, ⟨by repeat (first | (with_reducible first | exact HB.out | apply below_alloc | apply pw_below_drewN | apply below_drew1) | exact HB.out)⟩⟩
                      · rw [if_neg c23] at H
                        have c23b0 : (t136 == 0) = false := beq_eq_false_iff_ne.mpr c23
                        have c23b1 : (t136 != 0) = true := bne_iff_ne.mpr c23
                        have H' := Aside0.mk H
                        clear H
                        go_wp2_with (first | ((with_reducible refine gate_callee (f := 20) rfl ?_); refine goesL_ (some 67) rfl rfl Try.func20 (by kernel_rfl) rfl #[.slice A0 l0.length c0, .int .i64 x12_3] rfl (by (try simp only [List.map_toArray, List.map_cons, List.map_nil]); first | done | rfl | (simp only [List.length_drop, List.length_take]; rfl)) ?_; (with_reducible refine (climb_Heights.calls k3 _ _ l0 x12_3 t134 t135 t136 _ ?side1 ?side2 A22.out).mono ?_); (case side1 => repeat (first | exact (Kd.C_below HR0.out HB.out) | (with_reducible refine Kd.C_alloc ?_ _) | (with_reducible refine Kd.C_drewN ?_ _) | (with_reducible refine Kd.C_drew ?_))); (case side2 => exact HC0.out); rintro e w31 ⟨rfl, hb⟩; refine ⟨_, rfl, ?_⟩; have n0_ := Aside0.mk (below_step (by repeat (first | (with_reducible first | exact HB.out | apply below_alloc | apply pw_below_drewN | apply below_drew1) | exact HB.out)) hb); clear HB; have HB := n0_; clear n0_; (try clear hb); (try clear hb2); (try clear hk); (try clear hi)))
                        go_roundg k3
                        case measure => have := HJ6.out; have := HJ15.out; have := HK3.out; omega
                        case rel => exact ⟨(wrap64 (x12_3 + 1)), (by first | rfl | (simp; done) | (simp [*]; done)), H', ⟨by have := HJ6.out; have := HJ15.out; have := HK3.out; omega⟩, ⟨by repeat (first | (with_reducible first | exact HB.out | apply below_alloc | apply pw_below_drewN | apply below_drew1) | exact HB.out)⟩⟩
                    · rw [if_neg c21] at H
                      have c21b0 : decide (x12_3 ≤ (ji20)) = false := decide_eq_false c21
                      clear c21
                      simp only [Option.some.injEq, Prod.mk.injEq] at H
                      obtain ⟨rfl, rfl⟩ := H
                      go_wp2
                      go_ret2
                      exact ⟨by first | rfl | (simp [errW_none, errW_some] <;> rfl) | (simp only [← hji20]; first | rfl | (simp [errW_none, errW_some] <;> rfl)) | (simp [*, errW_none, errW_some] <;> rfl), by repeat (first | (with_reducible first | exact HB.out | apply below_alloc | apply pw_below_drewN | apply below_drew1) | exact HB.out)⟩
  · rw [if_neg c6] at H
    have c6b0 : (t132 == 0) = false := beq_eq_false_iff_ne.mpr c6
    have c6b1 : (t132 != 0) = true := bne_iff_ne.mpr c6
    simp only [Option.some.injEq, Prod.mk.injEq] at H
    obtain ⟨rfl, rfl⟩ := H
    go_enter Try.func21, Try.ntmps21
    go_wp2_with (first | ((with_reducible refine gate_callee (f := 45) rfl ?_); refine goesL_ (some 17) rfl rfl Try.func45 (by kernel_rfl) rfl #[.slice A0 l0.length c0] rfl (by (try simp only [List.map_toArray, List.map_cons, List.map_nil]); first | done | rfl | (simp only [List.length_drop, List.length_take]; rfl)) ?_; (with_reducible refine (climb_Check.calls k _ _ l0 t132 _ ?side1 ?side2 A5.out).mono ?_); (case side1 => repeat (first | exact HR0.out | (with_reducible refine Kd.C_alloc ?_ _) | (with_reducible refine Kd.C_drewN ?_ _) | (with_reducible refine Kd.C_drew ?_))); (case side2 => exact HC0.out); rintro e w32 ⟨rfl, hb⟩; refine ⟨_, rfl, ?_⟩; have n0_ := Aside0.mk (below_step (by repeat (first | (with_reducible first | exact HB.out | apply below_alloc | apply pw_below_drewN | apply below_drew1) | exact HB.out)) hb); clear HB; have HB := n0_; clear n0_; (try clear hb); (try clear hb2); (try clear hk); (try clear hi)))
    go_ret2
    exact ⟨by first | rfl | (simp [errW_none, errW_some] <;> rfl) | (simp [*, errW_none, errW_some] <;> rfl), by repeat (first | (with_reducible first | exact HB.out | apply below_alloc | apply pw_below_drewN | apply below_drew1) | exact HB.out)⟩

end Go.Proofs.Ytehgapcmngdcnaa.MClimbThrough
