-- Written for this claim by a program of this session out of the translation (functions with function values and the like). Lean checks it.
import Derived.Test.YtehgapcmngdcnaaMClimbThroughx0
namespace Go.Proofs.Ytehgapcmngdcnaa.MClimbThrough
open Go.RowKit Go.Proofs.Ytehgapcmngdcnaa.Evt Go.Proofs.YtehgapcmngdcnaaW.PrintWords Go.Proofs.YtehgapcmngdcnaaW.PrintLast Go.Proofs.YtehgapcmngdcnaaW.PrintMore
attribute [local go_sem] max2_int min2_int max_two min_two max_three min_three max_four min_four   -- for this text's walks alone
set_option linter.unusedVariables false
set_option linter.unusedSimpArgs false

/-! ### skywaykeep2_within: function 16 -/
def skywaykeep2_within.f (a0 : Int) (a1 : Int) (a2 : Int) : Option (Int) := if (wrap64 ((wrap64 (a2 - a1)) + 1)) = 0 then (none) else (some (wrap64 (a1 + (Int.tmod (wrap64 ((Int.tmod a0 (wrap64 ((wrap64 (a2 - a1)) + 1))) + (wrap64 ((wrap64 (a2 - a1)) + 1)))) (wrap64 ((wrap64 (a2 - a1)) + 1))))))
set_option maxHeartbeats 80000000 in
set_option maxRecDepth 100000 in
theorem skywaykeep2_within.calls (a0 : Int) (a1 : Int) (a2 : Int) (r : Int) (w : World) (h : skywaykeep2_within.f a0 a1 a2 = some r) :
    Calls Try.prog 16 #[.int .i64 a0, .int .i64 a1, .int .i64 a2] w fun e w' => e = .returned (.int .i64 r) ∧ Drawn0 w w' := by
  have H : (if (wrap64 ((wrap64 (a2 - a1)) + 1)) = 0 then (none) else (some (wrap64 (a1 + (Int.tmod (wrap64 ((Int.tmod a0 (wrap64 ((wrap64 (a2 - a1)) + 1))) + (wrap64 ((wrap64 (a2 - a1)) + 1)))) (wrap64 ((wrap64 (a2 - a1)) + 1))))))) = some r := h
  clear h
  by_cases c4 : (wrap64 ((wrap64 (a2 - a1)) + 1)) = 0
  · rw [if_pos c4] at H
    exact absurd H (by simp)
  · rw [if_neg c4] at H
    have c4b0 : ((wrap64 ((wrap64 (a2 - a1)) + 1)) == 0) = false := beq_eq_false_iff_ne.mpr c4
    have c4b1 : ((wrap64 ((wrap64 (a2 - a1)) + 1)) != 0) = true := bne_iff_ne.mpr c4
    obtain rfl := Option.some.inj H
    go_enter Try.func16, Try.ntmps16
    go_wp2
    go_ret
    exact ⟨by first | rfl | (simp; done) | (simp [*]; done), by repeat (first | exact Drawn0.refl _ | apply Drawn0.step)⟩

/-! ### climb_Check: function 45 -/
mutual
def climb_Check.l0 : Nat → List (S31) → List (S31) → Int → Int → Option (Int)
  | 0, _, _, _, _ => none
  | k + 1, x0, x8, x9, x10 => if x10 < x9 then (if 0 ≤ x10 then (if x10 < (x8.length : Int) then (if ((rd_T31 x8 x10).f0) < 0 then (climb_Check.j1 k x0 x10 x8 x9 x10 true ((rd_T31 x8 x10).f0) ((rd_T31 x8 x10).f1)) else (if ((rd_T31 x8 x10).f0) > 200000 then (climb_Check.j1 k x0 x10 x8 x9 x10 true ((rd_T31 x8 x10).f0) ((rd_T31 x8 x10).f1)) else (if ((rd_T31 x8 x10).f1) < 0 then (climb_Check.j1 k x0 x10 x8 x9 x10 true ((rd_T31 x8 x10).f0) ((rd_T31 x8 x10).f1)) else (climb_Check.j1 k x0 x10 x8 x9 x10 (decide (((rd_T31 x8 x10).f1) > 600)) ((rd_T31 x8 x10).f0) ((rd_T31 x8 x10).f1))))) else (none)) else (none)) else (some 0)
def climb_Check.j1 : Nat → List (S31) → Int → List (S31) → Int → Int → Bool → Int → Int → Option (Int)
  | 0, _, _, _, _, _, _, _, _ => none
  | k + 1, x0, x3, x8, x9, x10, x15, x103000, x103001 => if x15 = true then (some 4) else (if x3 > 0 then (if 0 ≤ (wrap64 (x3 - 1)) then (if (wrap64 (x3 - 1)) < (x0.length : Int) then (if x103000 ≤ ((rd_T31 x0 (wrap64 (x3 - 1))).f0) then (some 12) else (climb_Check.l0 k x0 x8 x9 (wrap64 (x10 + 1)))) else (none)) else (none)) else (climb_Check.l0 k x0 x8 x9 (wrap64 (x10 + 1))))
end
def climb_Check.f (k : Nat) (l0 : List (S31)) : Option (Int) := if (l0.length : Int) > 64 then (some 2) else (climb_Check.l0 k l0 l0 (l0.length : Int) 0)
theorem climb_Check.mono_l : ∀ k, (∀ y0 y1 y2 y3, LeO (climb_Check.l0 k y0 y1 y2 y3) (climb_Check.l0 (k + 1) y0 y1 y2 y3)) ∧ (∀ y0 y1 y2 y3 y4 y5 y6 y7, LeO (climb_Check.j1 k y0 y1 y2 y3 y4 y5 y6 y7) (climb_Check.j1 (k + 1) y0 y1 y2 y3 y4 y5 y6 y7))
  | 0 => ⟨fun _ _ _ _ r h => by simp [climb_Check.l0] at h, fun _ _ _ _ _ _ _ _ r h => by simp [climb_Check.j1] at h⟩
  | k + 1 => by
    obtain ⟨ih0, ih1⟩ := climb_Check.mono_l k
    refine ⟨?_, ?_⟩
    · intro y0 y1 y2 y3
      unfold climb_Check.l0
      repeat' first
      | (with_reducible exact ih0 _ _ _ _)
      | (with_reducible exact ih1 _ _ _ _ _ _ _ _)
      | (with_reducible exact LeO.refl _)
      | (with_reducible exact LeO.none _)
      | (with_reducible refine LeO.ite ?_ ?_)
      | (with_reducible refine LeO.bind ?_ (fun _ => ?_))
      | exact ih0 _ _ _ _
      | exact ih1 _ _ _ _ _ _ _ _
      | exact LeO.none _
      | refine LeO.ite ?_ ?_
      | refine LeO.bind ?_ (fun _ => ?_)
    · intro y0 y1 y2 y3 y4 y5 y6 y7
      unfold climb_Check.j1
      repeat' first
      | (with_reducible exact ih0 _ _ _ _)
      | (with_reducible exact ih1 _ _ _ _ _ _ _ _)
      | (with_reducible exact LeO.refl _)
      | (with_reducible exact LeO.none _)
      | (with_reducible refine LeO.ite ?_ ?_)
      | (with_reducible refine LeO.bind ?_ (fun _ => ?_))
      | exact ih0 _ _ _ _
      | exact ih1 _ _ _ _ _ _ _ _
      | exact LeO.none _
      | refine LeO.ite ?_ ?_
      | refine LeO.bind ?_ (fun _ => ?_)
theorem climb_Check.mono : ∀ a0 k, LeO (climb_Check.f k a0) (climb_Check.f (k + 1) a0) := by
  intro a0 k
  obtain ⟨ih0, ih1⟩ := climb_Check.mono_l k
  unfold climb_Check.f
  repeat' first
      | (with_reducible exact ih0 _ _ _ _)
      | (with_reducible exact ih1 _ _ _ _ _ _ _ _)
      | (with_reducible exact LeO.refl _)
      | (with_reducible exact LeO.none _)
      | (with_reducible refine LeO.ite ?_ ?_)
      | (with_reducible refine LeO.bind ?_ (fun _ => ?_))
      | exact ih0 _ _ _ _
      | exact ih1 _ _ _ _ _ _ _ _
      | exact LeO.none _
      | refine LeO.ite ?_ ?_
      | refine LeO.bind ?_ (fun _ => ?_)
set_option maxHeartbeats 80000000 in
set_option maxRecDepth 100000 in
theorem climb_Check.calls (k : Nat) (A0 : Option Addr) (c0 : Nat) (l0 : List (S31)) (r : Int) (w : World) (hr0 : Kd.C k31 w A0 l0.length l0) (hc0 : l0.length ≤ c0) (h : climb_Check.f k l0 = some r) :
    Calls Try.prog 45 #[.slice A0 l0.length c0] w fun e w' => e = .returned (.int .i64 r) ∧ Below w.heap.size w w' := by
  have hu31 := Try.underlying31
  have HR0 := Aside0.mk hr0
  have HC0 := Aside0.mk hc0
  clear hr0 hc0
  have HB := Aside0.mk (Below.refl w.heap.size w)
  have H : (if (l0.length : Int) > 64 then (some 2) else (climb_Check.l0 k l0 l0 (l0.length : Int) 0)) = some r := h
  clear h
  by_cases c2 : (l0.length : Int) > 64
  · rw [if_pos c2] at H
    have c2b0 : decide (64 < (l0.length : Int)) = true := decide_eq_true c2
    have c2b1 : decide (64 < l0.length) = true := decide_eq_true (by omega)
    clear c2
    obtain rfl := Option.some.inj H
    go_enter Try.func45, Try.ntmps45
    go_wp2
    repeat (go_quiet (fail); try go_wp2)
    go_ret
    exact ⟨by first | rfl | (simp [errW_none, errW_some] <;> rfl) | (simp [*, errW_none, errW_some] <;> rfl), by repeat (first | (with_reducible first | exact HB.out | apply below_alloc | apply pw_below_drewN | apply below_drew1) | exact HB.out)⟩
  · rw [if_neg c2] at H
    have c2b0 : decide (64 < (l0.length : Int)) = false := decide_eq_false c2
    have c2b1 : decide (64 < l0.length) = false := decide_eq_false (by omega)
    clear c2
    have H' := Aside0.mk H
    clear H
    go_enter Try.func45, Try.ntmps45
    go_wp2
    repeat (go_quiet (fail); try go_wp2)
    go_loopg [10] k (fun kq v10 w' => ∃ (x10_1 : Int), v10 = .int .i64 x10_1 ∧ Aside0 (climb_Check.l0 kq l0 l0 (l0.length : Int) x10_1 = some r) ∧ Aside0 (kq ≤ k) ∧ Aside0 (Below w.heap.size w w'))
    case atStart => exact ⟨(0), (by first | rfl | (simp; done) | (simp [*]; done)), H', ⟨Nat.le_refl _⟩, ⟨by repeat (first | (with_reducible first | exact HB.out | apply below_alloc | apply pw_below_drewN | apply below_drew1) | exact HB.out)⟩⟩
    case round =>
      clear H'
      try clear c2
      try clear c2b0
      try clear c2b1
      try clear p2
      obtain ⟨x10_1, rfl, HA, HK1, HB⟩ := hrel
      cases gk with
      | zero => exact absurd HA.out (by simp [climb_Check.l0])
      | succ k1 =>
        have H := HA.out
        clear HA
        simp only [climb_Check.l0] at H
        by_cases c3 : x10_1 < (l0.length : Int)
        · rw [if_pos c3] at H
          have c3b0 : decide (x10_1 < (l0.length : Int)) = true := decide_eq_true c3
          clear c3
          by_cases c4 : 0 ≤ x10_1
          · rw [if_pos c4] at H
            have c4b0 : decide (0 ≤ x10_1) = true := decide_eq_true c4
            clear c4
            by_cases c5 : x10_1 < (l0.length : Int)
            · rw [if_pos c5] at H
              have c5b0 : decide (x10_1 < (l0.length : Int)) = true := decide_eq_true c5
              clear c5
              have HC6 := Aside0.mk H
              clear H
              have p101 : 0 ≤ (x10_1 : Int) := of_decide_eq_true (by first | (with_reducible assumption) | assumption)
              have q101 : x10_1 < (l0.length : Int) := of_decide_eq_true (by first | (with_reducible assumption) | assumption)
              obtain ⟨ad101, e101, hx101_0, hx101_1⟩ := at_T31 HR0.out x10_1 p101 q101
              cases e101
              replace hx101_0 := (HB.out.cell (World.block_lt_of_cell? w _ hx101_0)).trans hx101_0
              replace hx101_1 := (HB.out.cell (World.block_lt_of_cell? w _ hx101_1)).trans hx101_1
              replace p101 := eq_true p101
              replace q101 := eq_true q101
              go_upto_region 6 with (first | ((with_reducible refine gate_dst (N := 4) rfl ?_); refine box_event ?hg (N := 4) ?hd (cs := #[.int .i64 0, .int .i64 0]) (t := 31) ?hr ?_; (case hd => rfl); (case hg => rfl); (case hr => first | (go_simp; done) | (go_simp; rfl)); intro gb102 hg w7 hbox hb; have n0_ := Aside0.mk (below_step (by repeat (first | (with_reducible first | exact HB.out | apply below_alloc | apply pw_below_drewN | apply below_drew1) | exact HB.out)) hb); have n1_ := Aside0.mk (hbox); have n2_ := Aside0.mk ((by rw [hg]; exact (below_size (by repeat (first | (with_reducible first | exact HB.out | apply below_alloc | apply pw_below_drewN | apply below_drew1) | exact HB.out))) : w.heap.size ≤ gb102)); have n3_ := Aside0.mk ((by rw [hg]; exact (below_size (by repeat (first | (with_reducible first | exact HB.out | apply below_alloc | apply pw_below_drewN | apply below_drew1) | exact HB.out))) : w.heap.size ≤ gb102)); clear HB; have HB := n0_; have BK102 := n1_; have GW102 := n2_; have GE102 := n3_; clear n0_ n1_ n2_ n3_; clear hb hbox hg) | ((with_reducible refine gate_store (t := 31) (p := 4) rfl ?_); (try (rw [drewN_self w7]; generalize hq_ : World.drewN w7 _ = w7; have n0_ := Aside0.mk (blk_at hq_ BK102.out); have n1_ := Aside0.mk (below_at hq_ HB.out); clear hq_ BK102 HB; have BK102 := n0_; have HB := n1_; clear n0_ n1_)); refine st_row rfl rfl 31 4 _ rfl gb102 0 rfl (t := 31) (cs := #[.int .i64 0, .int .i64 0]) [.int .i64 ((rd_T31 l0 x10_1).f0), .int .i64 ((rd_T31 l0 x10_1).f1)] _ rfl rfl isz31 (by (with_reducible repeat (first | refine blk_drewN ?_ _ | refine blk_drew ?_ | refine blk_alloc ?_ _)); exact BK102.out) (Nat.le_of_ble_eq_true rfl) rfl #[.int .i64 ((rd_T31 l0 x10_1).f0), .int .i64 ((rd_T31 l0 x10_1).f1)] rfl ?_; intro w8 hx_ hy_ hz_; have n0_ := Aside0.mk (hx_); have n1_ := Aside0.mk (hz_ _ _ (by repeat (first | (with_reducible first | exact HB.out | apply below_alloc | apply pw_below_drewN | apply below_drew1 | refine below_set ?_ GE102.out) | exact HB.out)) GE102.out); clear BK102; clear HB; have BK102 := n0_; have HB := n1_; clear n0_ n1_; clear hx_ hy_ hz_))
              repeat (go_quiet (first | ((with_reducible refine gate_dst (N := 4) rfl ?_); refine box_event ?hg (N := 4) ?hd (cs := #[.int .i64 0, .int .i64 0]) (t := 31) ?hr ?_; (case hd => rfl); (case hg => rfl); (case hr => first | (go_simp; done) | (go_simp; rfl)); intro gb102 hg w7 hbox hb; have n0_ := Aside0.mk (below_step (by repeat (first | (with_reducible first | exact HB.out | apply below_alloc | apply pw_below_drewN | apply below_drew1) | exact HB.out)) hb); have n1_ := Aside0.mk (hbox); have n2_ := Aside0.mk ((by rw [hg]; exact (below_size (by repeat (first | (with_reducible first | exact HB.out | apply below_alloc | apply pw_below_drewN | apply below_drew1) | exact HB.out))) : w.heap.size ≤ gb102)); have n3_ := Aside0.mk ((by rw [hg]; exact (below_size (by repeat (first | (with_reducible first | exact HB.out | apply below_alloc | apply pw_below_drewN | apply below_drew1) | exact HB.out))) : w.heap.size ≤ gb102)); clear HB; have HB := n0_; have BK102 := n1_; have GW102 := n2_; have GE102 := n3_; clear n0_ n1_ n2_ n3_; clear hb hbox hg) | ((with_reducible refine gate_store (t := 31) (p := 4) rfl ?_); (try (rw [drewN_self w7]; generalize hq_ : World.drewN w7 _ = w7; have n0_ := Aside0.mk (blk_at hq_ BK102.out); have n1_ := Aside0.mk (below_at hq_ HB.out); clear hq_ BK102 HB; have BK102 := n0_; have HB := n1_; clear n0_ n1_)); refine st_row rfl rfl 31 4 _ rfl gb102 0 rfl (t := 31) (cs := #[.int .i64 0, .int .i64 0]) [.int .i64 ((rd_T31 l0 x10_1).f0), .int .i64 ((rd_T31 l0 x10_1).f1)] _ rfl rfl isz31 (by (with_reducible repeat (first | refine blk_drewN ?_ _ | refine blk_drew ?_ | refine blk_alloc ?_ _)); exact BK102.out) (Nat.le_of_ble_eq_true rfl) rfl #[.int .i64 ((rd_T31 l0 x10_1).f0), .int .i64 ((rd_T31 l0 x10_1).f1)] rfl ?_; intro w8 hx_ hy_ hz_; have n0_ := Aside0.mk (hx_); have n1_ := Aside0.mk (hz_ _ _ (by repeat (first | (with_reducible first | exact HB.out | apply below_alloc | apply pw_below_drewN | apply below_drew1 | refine below_set ?_ GE102.out) | exact HB.out)) GE102.out); clear BK102; clear HB; have BK102 := n0_; have HB := n1_; clear n0_ n1_; clear hx_ hy_ hz_)); go_upto_region 6 with (first | ((with_reducible refine gate_dst (N := 4) rfl ?_); refine box_event ?hg (N := 4) ?hd (cs := #[.int .i64 0, .int .i64 0]) (t := 31) ?hr ?_; (case hd => rfl); (case hg => rfl); (case hr => first | (go_simp; done) | (go_simp; rfl)); intro gb102 hg w7 hbox hb; have n0_ := Aside0.mk (below_step (by repeat (first | (with_reducible first | exact HB.out | apply below_alloc | apply pw_below_drewN | apply below_drew1) | exact HB.out)) hb); have n1_ := Aside0.mk (hbox); have n2_ := Aside0.mk ((by rw [hg]; exact (below_size (by repeat (first | (with_reducible first | exact HB.out | apply below_alloc | apply pw_below_drewN | apply below_drew1) | exact HB.out))) : w.heap.size ≤ gb102)); have n3_ := Aside0.mk ((by rw [hg]; exact (below_size (by repeat (first | (with_reducible first | exact HB.out | apply below_alloc | apply pw_below_drewN | apply below_drew1) | exact HB.out))) : w.heap.size ≤ gb102)); clear HB; have HB := n0_; have BK102 := n1_; have GW102 := n2_; have GE102 := n3_; clear n0_ n1_ n2_ n3_; clear hb hbox hg) | ((with_reducible refine gate_store (t := 31) (p := 4) rfl ?_); (try (rw [drewN_self w7]; generalize hq_ : World.drewN w7 _ = w7; have n0_ := Aside0.mk (blk_at hq_ BK102.out); have n1_ := Aside0.mk (below_at hq_ HB.out); clear hq_ BK102 HB; have BK102 := n0_; have HB := n1_; clear n0_ n1_)); refine st_row rfl rfl 31 4 _ rfl gb102 0 rfl (t := 31) (cs := #[.int .i64 0, .int .i64 0]) [.int .i64 ((rd_T31 l0 x10_1).f0), .int .i64 ((rd_T31 l0 x10_1).f1)] _ rfl rfl isz31 (by (with_reducible repeat (first | refine blk_drewN ?_ _ | refine blk_drew ?_ | refine blk_alloc ?_ _)); exact BK102.out) (Nat.le_of_ble_eq_true rfl) rfl #[.int .i64 ((rd_T31 l0 x10_1).f0), .int .i64 ((rd_T31 l0 x10_1).f1)] rfl ?_; intro w8 hx_ hy_ hz_; have n0_ := Aside0.mk (hx_); have n1_ := Aside0.mk (hz_ _ _ (by repeat (first | (with_reducible first | exact HB.out | apply below_alloc | apply pw_below_drewN | apply below_drew1 | refine below_set ?_ GE102.out) | exact HB.out)) GE102.out); clear BK102; clear HB; have BK102 := n0_; have HB := n1_; clear n0_ n1_; clear hx_ hy_ hz_)))
              (try simp only [Act.put, List.setIfInBounds_toArray, List.set_cons_zero, List.set_cons_succ])
              go_cut [15] (fun v15 wc => ∃ (kq : Nat) (x15_5 : Bool), v15 = .bool x15_5 ∧ Aside0 (climb_Check.j1 kq l0 x10_1 l0 (l0.length : Int) x10_1 x15_5 ((rd_T31 l0 x10_1).f0) ((rd_T31 l0 x10_1).f1) = some r) ∧ Aside0 (kq ≤ k1) ∧ Aside0 (wc.heap[gb102]? = some (.cells #[.int .i64 ((rd_T31 l0 x10_1).f0), .int .i64 ((rd_T31 l0 x10_1).f1)] 31 (0, 0))) ∧ Aside0 (Below w.heap.size w wc))
              case first =>
                have H := HC6.out
                clear HC6
                by_cases c9 : ((rd_T31 l0 x10_1).f0) < 0
                · rw [if_pos c9] at H
                  have c9b0 : decide (((rd_T31 l0 x10_1).f0) < 0) = true := decide_eq_true c9
                  clear c9
                  (first | rw [c9b0] | (simp only [i64_w, i32_w]; rw [c9b0]) | skip)
                  have H' := Aside0.mk H
                  clear H
                  go_wp2_with (first | ((with_reducible refine gate_dst (N := 17) rfl ?_); refine ld_cell rfl (N := 17) rfl 3 _ rfl gb102 0 rfl (t := 31) (cs := #[.int .i64 ((rd_T31 l0 x10_1).f0), .int .i64 ((rd_T31 l0 x10_1).f1)]) (fr := (0, 0)) (.int .i64 ((rd_T31 l0 x10_1).f0)) (by (with_reducible repeat (first | refine blk_drewN ?_ _ | refine blk_drew ?_ | refine blk_alloc ?_ _)); exact BK102.out) Try.underlying3 rfl rfl ?_))
                  repeat (go_quiet (first | ((with_reducible refine gate_dst (N := 17) rfl ?_); refine ld_cell rfl (N := 17) rfl 3 _ rfl gb102 0 rfl (t := 31) (cs := #[.int .i64 ((rd_T31 l0 x10_1).f0), .int .i64 ((rd_T31 l0 x10_1).f1)]) (fr := (0, 0)) (.int .i64 ((rd_T31 l0 x10_1).f0)) (by (with_reducible repeat (first | refine blk_drewN ?_ _ | refine blk_drew ?_ | refine blk_alloc ?_ _)); exact BK102.out) Try.underlying3 rfl rfl ?_)); try go_wp2_with (first | ((with_reducible refine gate_dst (N := 17) rfl ?_); refine ld_cell rfl (N := 17) rfl 3 _ rfl gb102 0 rfl (t := 31) (cs := #[.int .i64 ((rd_T31 l0 x10_1).f0), .int .i64 ((rd_T31 l0 x10_1).f1)]) (fr := (0, 0)) (.int .i64 ((rd_T31 l0 x10_1).f0)) (by (with_reducible repeat (first | refine blk_drewN ?_ _ | refine blk_drew ?_ | refine blk_alloc ?_ _)); exact BK102.out) Try.underlying3 rfl rfl ?_)))
                  go_meet
                  case rel => exact ⟨_, (true), (by first | rfl | (simp; done) | (simp [*]; done)), H', ⟨by have := HK1.out; first | omega | exact Nat.le_refl _⟩, ⟨by (with_reducible repeat (first | refine blk_drewN ?_ _ | refine blk_drew ?_ | refine blk_alloc ?_ _)); exact BK102.out⟩, ⟨by repeat (first | (with_reducible first | exact HB.out | apply below_alloc | apply pw_below_drewN | apply below_drew1 | refine below_set ?_ GE102.out) | exact HB.out)⟩⟩
                · rw [if_neg c9] at H
                  have c9b0 : decide (((rd_T31 l0 x10_1).f0) < 0) = false := decide_eq_false c9
                  clear c9
                  (first | rw [c9b0] | (simp only [i64_w, i32_w]; rw [c9b0]) | skip)
                  by_cases c10 : ((rd_T31 l0 x10_1).f0) > 200000
                  · rw [if_pos c10] at H
                    have c10b0 : decide (200000 < ((rd_T31 l0 x10_1).f0)) = true := decide_eq_true c10
                    clear c10
                    have H' := Aside0.mk H
                    clear H
                    obtain ⟨hcz11_0, hfz11_0⟩ := blkc2 BK102.out
                    go_wp2_with (first | ((with_reducible refine gate_dst (N := 17) rfl ?_); refine ld_cell rfl (N := 17) rfl 3 _ rfl gb102 0 rfl (t := 31) (cs := #[.int .i64 ((rd_T31 l0 x10_1).f0), .int .i64 ((rd_T31 l0 x10_1).f1)]) (fr := (0, 0)) (.int .i64 ((rd_T31 l0 x10_1).f0)) (by (with_reducible repeat (first | refine blk_drewN ?_ _ | refine blk_drew ?_ | refine blk_alloc ?_ _)); exact BK102.out) Try.underlying3 rfl rfl ?_))
                    repeat (go_quiet (first | ((with_reducible refine gate_dst (N := 17) rfl ?_); refine ld_cell rfl (N := 17) rfl 3 _ rfl gb102 0 rfl (t := 31) (cs := #[.int .i64 ((rd_T31 l0 x10_1).f0), .int .i64 ((rd_T31 l0 x10_1).f1)]) (fr := (0, 0)) (.int .i64 ((rd_T31 l0 x10_1).f0)) (by (with_reducible repeat (first | refine blk_drewN ?_ _ | refine blk_drew ?_ | refine blk_alloc ?_ _)); exact BK102.out) Try.underlying3 rfl rfl ?_)); try go_wp2_with (first | ((with_reducible refine gate_dst (N := 17) rfl ?_); refine ld_cell rfl (N := 17) rfl 3 _ rfl gb102 0 rfl (t := 31) (cs := #[.int .i64 ((rd_T31 l0 x10_1).f0), .int .i64 ((rd_T31 l0 x10_1).f1)]) (fr := (0, 0)) (.int .i64 ((rd_T31 l0 x10_1).f0)) (by (with_reducible repeat (first | refine blk_drewN ?_ _ | refine blk_drew ?_ | refine blk_alloc ?_ _)); exact BK102.out) Try.underlying3 rfl rfl ?_)))
                    go_meet
                    case rel => exact ⟨_, (true), (by first | rfl | (simp; done) | (simp [*]; done)), H', ⟨by have := HK1.out; first | omega | exact Nat.le_refl _⟩, ⟨by (with_reducible repeat (first | refine blk_drewN ?_ _ | refine blk_drew ?_ | refine blk_alloc ?_ _)); exact BK102.out⟩, ⟨by repeat (first | (with_reducible first | exact HB.out | apply below_alloc | apply pw_below_drewN | apply below_drew1 | refine below_set ?_ GE102.out) | exact HB.out)⟩⟩
                  · rw [if_neg c10] at H
                    have c10b0 : decide (200000 < ((rd_T31 l0 x10_1).f0)) = false := decide_eq_false c10
                    clear c10
                    by_cases c12 : ((rd_T31 l0 x10_1).f1) < 0
                    · rw [if_pos c12] at H
                      have c12b0 : decide (((rd_T31 l0 x10_1).f1) < 0) = true := decide_eq_true c12
                      clear c12
                      have H' := Aside0.mk H
                      clear H
                      obtain ⟨hcz13_0, hfz13_0⟩ := blkc2 BK102.out
                      go_wp2_with (first | ((with_reducible refine gate_dst (N := 17) rfl ?_); refine ld_cell rfl (N := 17) rfl 3 _ rfl gb102 0 rfl (t := 31) (cs := #[.int .i64 ((rd_T31 l0 x10_1).f0), .int .i64 ((rd_T31 l0 x10_1).f1)]) (fr := (0, 0)) (.int .i64 ((rd_T31 l0 x10_1).f0)) (by (with_reducible repeat (first | refine blk_drewN ?_ _ | refine blk_drew ?_ | refine blk_alloc ?_ _)); exact BK102.out) Try.underlying3 rfl rfl ?_))
                      repeat (go_quiet (first | ((with_reducible refine gate_dst (N := 17) rfl ?_); refine ld_cell rfl (N := 17) rfl 3 _ rfl gb102 0 rfl (t := 31) (cs := #[.int .i64 ((rd_T31 l0 x10_1).f0), .int .i64 ((rd_T31 l0 x10_1).f1)]) (fr := (0, 0)) (.int .i64 ((rd_T31 l0 x10_1).f0)) (by (with_reducible repeat (first | refine blk_drewN ?_ _ | refine blk_drew ?_ | refine blk_alloc ?_ _)); exact BK102.out) Try.underlying3 rfl rfl ?_)); try go_wp2_with (first | ((with_reducible refine gate_dst (N := 17) rfl ?_); refine ld_cell rfl (N := 17) rfl 3 _ rfl gb102 0 rfl (t := 31) (cs := #[.int .i64 ((rd_T31 l0 x10_1).f0), .int .i64 ((rd_T31 l0 x10_1).f1)]) (fr := (0, 0)) (.int .i64 ((rd_T31 l0 x10_1).f0)) (by (with_reducible repeat (first | refine blk_drewN ?_ _ | refine blk_drew ?_ | refine blk_alloc ?_ _)); exact BK102.out) Try.underlying3 rfl rfl ?_)))
                      go_meet
                      case rel => exact ⟨_, (true), (by first | rfl | (simp; done) | (simp [*]; done)), H', ⟨by have := HK1.out; first | omega | exact Nat.le_refl _⟩, ⟨by (with_reducible repeat (first | refine blk_drewN ?_ _ | refine blk_drew ?_ | refine blk_alloc ?_ _)); exact BK102.out⟩, ⟨by repeat (first | (with_reducible first | exact HB.out | apply below_alloc | apply pw_below_drewN | apply below_drew1 | refine below_set ?_ GE102.out) | exact HB.out)⟩⟩
                    · rw [if_neg c12] at H
                      have c12b0 : decide (((rd_T31 l0 x10_1).f1) < 0) = false := decide_eq_false c12
                      clear c12
                      have H' := Aside0.mk H
                      clear H
                      obtain ⟨hcz14_0, hfz14_0⟩ := blkc2 BK102.out
                      go_wp2_with (first | ((with_reducible refine gate_dst (N := 17) rfl ?_); refine ld_cell rfl (N := 17) rfl 3 _ rfl gb102 0 rfl (t := 31) (cs := #[.int .i64 ((rd_T31 l0 x10_1).f0), .int .i64 ((rd_T31 l0 x10_1).f1)]) (fr := (0, 0)) (.int .i64 ((rd_T31 l0 x10_1).f0)) (by (with_reducible repeat (first | refine blk_drewN ?_ _ | refine blk_drew ?_ | refine blk_alloc ?_ _)); exact BK102.out) Try.underlying3 rfl rfl ?_))
                      repeat (go_quiet (first | ((with_reducible refine gate_dst (N := 17) rfl ?_); refine ld_cell rfl (N := 17) rfl 3 _ rfl gb102 0 rfl (t := 31) (cs := #[.int .i64 ((rd_T31 l0 x10_1).f0), .int .i64 ((rd_T31 l0 x10_1).f1)]) (fr := (0, 0)) (.int .i64 ((rd_T31 l0 x10_1).f0)) (by (with_reducible repeat (first | refine blk_drewN ?_ _ | refine blk_drew ?_ | refine blk_alloc ?_ _)); exact BK102.out) Try.underlying3 rfl rfl ?_)); try go_wp2_with (first | ((with_reducible refine gate_dst (N := 17) rfl ?_); refine ld_cell rfl (N := 17) rfl 3 _ rfl gb102 0 rfl (t := 31) (cs := #[.int .i64 ((rd_T31 l0 x10_1).f0), .int .i64 ((rd_T31 l0 x10_1).f1)]) (fr := (0, 0)) (.int .i64 ((rd_T31 l0 x10_1).f0)) (by (with_reducible repeat (first | refine blk_drewN ?_ _ | refine blk_drew ?_ | refine blk_alloc ?_ _)); exact BK102.out) Try.underlying3 rfl rfl ?_)))
                      go_meet
                      case rel => exact ⟨_, (decide (((rd_T31 l0 x10_1).f1) > 600)), (by first | rfl | (simp; done) | (simp [*]; done)), H', ⟨by have := HK1.out; first | omega | exact Nat.le_refl _⟩, ⟨by (with_reducible repeat (first | refine blk_drewN ?_ _ | refine blk_drew ?_ | refine blk_alloc ?_ _)); exact BK102.out⟩, ⟨by repeat (first | (with_reducible first | exact HB.out | apply below_alloc | apply pw_below_drewN | apply below_drew1 | refine below_set ?_ GE102.out) | exact HB.out)⟩⟩
              case rest =>
                clear HC6
                try clear c1
                try clear p1
                try clear q1
                try clear hx1
                try clear c2
                try clear c2b0
                try clear c2b1
                try clear p2
                try clear c3
                try clear c3b0
                try clear c4
                try clear c4b0
                try clear c5
                try clear c5b0
                try clear c9
                try clear c9b0
                try clear c10
                try clear c10b0
                try clear p10
                try clear q10
                try clear hx10
                try clear c12
                try clear c12b0
                try clear hcz11_0
                try clear hcz13_0
                try clear hcz14_0
                try clear hfz11_0
                try clear hfz13_0
                try clear hfz14_0
                try clear hx101_0
                try clear hx101_1
                try clear p101
                try clear p2
                try clear q101
                obtain ⟨kq, x15_5, rfl, HA, HJ5, BK102, HB⟩ := hcut
                cases kq with
                | zero => exact absurd HA.out (by simp [climb_Check.j1])
                | succ kj5 =>
                  have H := HA.out
                  clear HA
                  simp only [climb_Check.j1] at H
                  by_cases c15 : x15_5 = true
                  · subst c15
                    have H1 : (some 4) = some r := by rw [if_pos rfl] at H; exact H
                    clear H
                    have H := H1
                    clear H1
                    obtain rfl := Option.some.inj H
                    go_wp2
                    repeat (go_quiet (fail); try go_wp2)
                    go_ret
                    exact ⟨by first | rfl | (simp [errW_none, errW_some] <;> rfl) | (simp [*, errW_none, errW_some] <;> rfl), by repeat (first | (with_reducible first | exact HB.out | apply below_alloc | apply pw_below_drewN | apply below_drew1 | refine below_set ?_ GE102.out) | exact HB.out)⟩
                  · replace c15 := Bool.eq_false_iff.mpr c15
                    subst c15
                    have H1 : (if x10_1 > 0 then (if 0 ≤ (wrap64 (x10_1 - 1)) then (if (wrap64 (x10_1 - 1)) < (l0.length : Int) then (if ((rd_T31 l0 x10_1).f0) ≤ ((rd_T31 l0 (wrap64 (x10_1 - 1))).f0) then (some 12) else (climb_Check.l0 kj5 l0 l0 (l0.length : Int) (wrap64 (x10_1 + 1)))) else (none)) else (none)) else (climb_Check.l0 kj5 l0 l0 (l0.length : Int) (wrap64 (x10_1 + 1)))) = some r := by rw [if_neg (show ¬ (false = true) by decide)] at H; exact H
                    clear H
                    have H := H1
                    clear H1
                    by_cases c16 : x10_1 > 0
                    · rw [if_pos c16] at H
                      have c16b0 : decide (0 < x10_1) = true := decide_eq_true c16
                      clear c16
                      obtain ⟨ji17, hji17⟩ : ∃ j_ : Int, (wrap64 (x10_1 - 1)) = j_ := ⟨_, rfl⟩
                      replace H : (if 0 ≤ (ji17) then (if (ji17) < (l0.length : Int) then (if ((rd_T31 l0 x10_1).f0) ≤ ((rd_T31 l0 (ji17)).f0) then (some 12) else (climb_Check.l0 kj5 l0 l0 (l0.length : Int) (wrap64 (x10_1 + 1)))) else (none)) else (none)) = some r := by first | (rw [hji17] at H; exact H) | (simp only [hji17] at H ⊢; exact H)
                      have hji17w : (IntKind.i64.wrap (x10_1 - 1)) = ji17 := (i64_w _).trans hji17
                      by_cases c18 : 0 ≤ (ji17)
                      · rw [if_pos c18] at H
                        have c18b0 : decide (0 ≤ (ji17)) = true := decide_eq_true c18
                        clear c18
                        by_cases c19 : (ji17) < (l0.length : Int)
                        · rw [if_pos c19] at H
                          have c19b0 : decide ((ji17) < (l0.length : Int)) = true := decide_eq_true c19
                          clear c19
                          by_cases c20 : ((rd_T31 l0 x10_1).f0) ≤ ((rd_T31 l0 (ji17)).f0)
                          · rw [if_pos c20] at H
                            have c20b0 : decide (((rd_T31 l0 x10_1).f0) ≤ ((rd_T31 l0 (ji17)).f0)) = true := decide_eq_true c20
                            clear c20
                            obtain rfl := Option.some.inj H
                            obtain ⟨hcz21_0, hfz21_0⟩ := blkc2 BK102.out
                            have p103 : 0 ≤ ((ji17) : Int) := of_decide_eq_true (by first | (with_reducible assumption) | assumption)
                            have q103 : (ji17) < (l0.length : Int) := of_decide_eq_true (by first | (with_reducible assumption) | assumption)
                            obtain ⟨ad103, e103, hx103_0, hx103_1⟩ := at_T31 HR0.out (ji17) p103 q103
                            obtain rfl : ad101 = ad103 := (by injection e103)
                            replace hx103_0 := (HB.out.cell (World.block_lt_of_cell? w _ hx103_0)).trans hx103_0
                            replace hx103_1 := (HB.out.cell (World.block_lt_of_cell? w _ hx103_1)).trans hx103_1
                            replace p103 := eq_true p103
                            replace q103 := eq_true q103
                            go_wp2
                            repeat (go_quiet (fail); try go_wp2)
                            go_ret
                            exact ⟨by first | rfl | (simp [errW_none, errW_some] <;> rfl) | (simp only [← hji17]; first | rfl | (simp [errW_none, errW_some] <;> rfl)) | (simp [*, errW_none, errW_some] <;> rfl), by repeat (first | (with_reducible first | exact HB.out | apply below_alloc | apply pw_below_drewN | apply below_drew1 | refine below_set ?_ GE102.out) | exact HB.out)⟩
                          · rw [if_neg c20] at H
                            have c20b0 : decide (((rd_T31 l0 x10_1).f0) ≤ ((rd_T31 l0 (ji17)).f0)) = false := decide_eq_false c20
                            clear c20
                            have H' := Aside0.mk H
                            clear H
                            obtain ⟨hcz22_0, hfz22_0⟩ := blkc2 BK102.out
                            have p103 : 0 ≤ ((ji17) : Int) := of_decide_eq_true (by first | (with_reducible assumption) | assumption)
                            have q103 : (ji17) < (l0.length : Int) := of_decide_eq_true (by first | (with_reducible assumption) | assumption)
                            obtain ⟨ad103, e103, hx103_0, hx103_1⟩ := at_T31 HR0.out (ji17) p103 q103
                            obtain rfl : ad101 = ad103 := (by injection e103)
                            replace hx103_0 := (HB.out.cell (World.block_lt_of_cell? w _ hx103_0)).trans hx103_0
                            replace hx103_1 := (HB.out.cell (World.block_lt_of_cell? w _ hx103_1)).trans hx103_1
                            replace p103 := eq_true p103
                            replace q103 := eq_true q103
                            go_wp2
                            repeat (go_quiet (fail); try go_wp2)
                            go_roundg kj5
                            case measure => have := HK1.out; have := HJ5.out; omega
                            case rel => exact ⟨(wrap64 (x10_1 + 1)), (by first | rfl | (simp; done) | (simp [*]; done)), H', ⟨by have := HK1.out; have := HJ5.out; omega⟩, ⟨by repeat (first | (with_reducible first | exact HB.out | apply below_alloc | apply pw_below_drewN | apply below_drew1 | refine below_set ?_ GE102.out) | exact HB.out)⟩⟩
                        · rw [if_neg c19] at H
                          exact absurd H (by simp)
                      · rw [if_neg c18] at H
                        exact absurd H (by simp)
                    · rw [if_neg c16] at H
                      have c16b0 : decide (0 < x10_1) = false := decide_eq_false c16
                      clear c16
                      have H' := Aside0.mk H
                      clear H
                      go_wp2
                      repeat (go_quiet (fail); try go_wp2)
                      go_roundg kj5
                      case measure => have := HK1.out; have := HJ5.out; omega
                      case rel => exact ⟨(wrap64 (x10_1 + 1)), (by first | rfl | (simp; done) | (simp [*]; done)), H', ⟨by have := HK1.out; have := HJ5.out; omega⟩, ⟨by repeat (first | (with_reducible first | exact HB.out | apply below_alloc | apply pw_below_drewN | apply below_drew1 | refine below_set ?_ GE102.out) | exact HB.out)⟩⟩
            · rw [if_neg c5] at H
              exact absurd H (by simp)
          · rw [if_neg c4] at H
            exact absurd H (by simp)
        · rw [if_neg c3] at H
          have c3b0 : decide (x10_1 < (l0.length : Int)) = false := decide_eq_false c3
          clear c3
          obtain rfl := Option.some.inj H
          go_wp2
          repeat (go_quiet (fail); try go_wp2)
          go_ret
          exact ⟨by first | rfl | (simp [errW_none, errW_some] <;> rfl) | (simp [*, errW_none, errW_some] <;> rfl), by repeat (first | (with_reducible first | exact HB.out | apply below_alloc | apply pw_below_drewN | apply below_drew1) | exact HB.out)⟩

/-! ### num_DivDown: function 46 -/
def num_DivDown.j0 : Nat → Int → Int → Bool → Option (Int × Int)
  | 0, _, _, _ => none
  | k + 1, x0, x1, x10 => if x10 = true then (some (0, 2)) else (if x1 = 0 then (none) else (if (Int.tmod x0 x1) = 0 then (some (wrap64 (Int.tdiv x0 x1), 0)) else (if ((decide (x0 < 0)) != (decide (x1 < 0))) = true then (some (wrap64 ((wrap64 (Int.tdiv x0 x1)) - 1), 0)) else (some (wrap64 (Int.tdiv x0 x1), 0)))))
def num_DivDown.f (k : Nat) (a0 : Int) (a1 : Int) : Option (Int × Int) := if a1 = 0 then (some (0, 10)) else (if a0 = (-9223372036854775808) then (num_DivDown.j0 k a0 a1 (a1 == (-1))) else (num_DivDown.j0 k a0 a1 false))
theorem num_DivDown.mono_l : ∀ k, (∀ y0 y1 y2, LeO (num_DivDown.j0 k y0 y1 y2) (num_DivDown.j0 (k + 1) y0 y1 y2))
  | 0 => fun _ _ _ r h => by simp [num_DivDown.j0] at h
  | k + 1 => by
    have ih0 := num_DivDown.mono_l k
    · intro y0 y1 y2
      unfold num_DivDown.j0
      repeat' first
      | (with_reducible exact ih0 _ _ _)
      | (with_reducible exact LeO.refl _)
      | (with_reducible exact LeO.none _)
      | (with_reducible refine LeO.ite ?_ ?_)
      | (with_reducible refine LeO.bind ?_ (fun _ => ?_))
      | exact ih0 _ _ _
      | exact LeO.none _
      | refine LeO.ite ?_ ?_
      | refine LeO.bind ?_ (fun _ => ?_)
theorem num_DivDown.mono : ∀ a0 a1 k, LeO (num_DivDown.f k a0 a1) (num_DivDown.f (k + 1) a0 a1) := by
  intro a0 a1 k
  have ih0 := num_DivDown.mono_l k
  unfold num_DivDown.f
  repeat' first
      | (with_reducible exact ih0 _ _ _)
      | (with_reducible exact LeO.refl _)
      | (with_reducible exact LeO.none _)
      | (with_reducible refine LeO.ite ?_ ?_)
      | (with_reducible refine LeO.bind ?_ (fun _ => ?_))
      | exact ih0 _ _ _
      | exact LeO.none _
      | refine LeO.ite ?_ ?_
      | refine LeO.bind ?_ (fun _ => ?_)
set_option maxHeartbeats 80000000 in
set_option maxRecDepth 100000 in
theorem num_DivDown.calls (k : Nat) (a0 : Int) (a1 : Int) (r1 : Int) (r2 : Int) (w : World) (h : num_DivDown.f k a0 a1 = some (r1, r2)) :
    Calls Try.prog 46 #[.int .i64 a0, .int .i64 a1] w fun e w' => e = .returned (.tuple #[.int .i64 r1, .int .i64 r2]) ∧ Drawn0 w w' := by
  have H : (if a1 = 0 then (some (0, 10)) else (if a0 = (-9223372036854775808) then (num_DivDown.j0 k a0 a1 (a1 == (-1))) else (num_DivDown.j0 k a0 a1 false))) = some (r1, r2) := h
  clear h
  by_cases c3 : a1 = 0
  · rw [if_pos c3] at H
    have c3b0 : (a1 == 0) = true := beq_iff_eq.mpr c3
    have c3b1 : (a1 != 0) = false := bne_eq_false_iff_eq.mpr c3
    clear c3
    simp only [Option.some.injEq, Prod.mk.injEq] at H
    obtain ⟨rfl, rfl⟩ := H
    go_enter Try.func46, Try.ntmps46
    go_wp2
    go_ret2
    exact ⟨by first | rfl | (simp; done) | (simp [*]; done), by repeat (first | exact Drawn0.refl _ | apply Drawn0.step)⟩
  · rw [if_neg c3] at H
    have c3b0 : (a1 == 0) = false := beq_eq_false_iff_ne.mpr c3
    have c3b1 : (a1 != 0) = true := bne_iff_ne.mpr c3
    have HC4 := Aside0.mk H
    clear H
    go_enter Try.func46, Try.ntmps46
    go_upto_region 3 with (fail)
    go_cut [10] (fun v10 wc => ∃ (kq : Nat) (x10_3 : Bool), v10 = .bool x10_3 ∧ Aside0 (num_DivDown.j0 kq a0 a1 x10_3 = some (r1, r2)) ∧ Aside0 (kq ≤ k) ∧ Drawn0 w wc)
    case first =>
      have H := HC4.out
      clear HC4
      by_cases c5 : a0 = (-9223372036854775808)
      · rw [if_pos c5] at H
        have c5b0 : (a0 == (-9223372036854775808)) = true := beq_iff_eq.mpr c5
        have c5b1 : (a0 != (-9223372036854775808)) = false := bne_eq_false_iff_eq.mpr c5
        clear c5
        (first | rw [c5b0] | (simp only [i64_w, i32_w]; rw [c5b0]) | skip)
        have H' := Aside0.mk H
        clear H
        go_wp2
        go_meet
        case rel => exact ⟨_, ((a1 == (-1))), (by first | rfl | (simp; done) | (simp [*]; done)), H', ⟨by first | omega | exact Nat.le_refl _⟩, by repeat (first | exact Drawn0.refl _ | apply Drawn0.step)⟩
      · rw [if_neg c5] at H
        have c5b0 : (a0 == (-9223372036854775808)) = false := beq_eq_false_iff_ne.mpr c5
        have c5b1 : (a0 != (-9223372036854775808)) = true := bne_iff_ne.mpr c5
        (first | rw [c5b0] | (simp only [i64_w, i32_w]; rw [c5b0]) | skip)
        have H' := Aside0.mk H
        clear H
        go_wp2
        go_meet
        case rel => exact ⟨_, (false), (by first | rfl | (simp; done) | (simp [*]; done)), H', ⟨by first | omega | exact Nat.le_refl _⟩, by repeat (first | exact Drawn0.refl _ | apply Drawn0.step)⟩
    case rest =>
      clear HC4
      try clear p2
      try clear c3
      try clear c3b0
      try clear c3b1
      try clear c4
      try clear c5
      try clear c5b0
      try clear c5b1
      obtain ⟨kq, x10_3, rfl, HA, HJ3, ⟨mc3, rfl⟩⟩ := hcut
      cases kq with
      | zero => exact absurd HA.out (by simp [num_DivDown.j0])
      | succ kj3 =>
        have H := HA.out
        clear HA
        simp only [num_DivDown.j0] at H
        by_cases c6 : x10_3 = true
        · subst c6
          have H1 : (some (0, 2)) = some (r1, r2) := by rw [if_pos rfl] at H; exact H
          clear H
          have H := H1
          clear H1
          simp only [Option.some.injEq, Prod.mk.injEq] at H
          obtain ⟨rfl, rfl⟩ := H
          go_wp2
          go_ret2
          exact ⟨by first | rfl | (simp; done) | (simp [*]; done), by repeat (first | exact Drawn0.refl _ | apply Drawn0.step)⟩
        · replace c6 := Bool.eq_false_iff.mpr c6
          subst c6
          have H1 : (if a1 = 0 then (none) else (if (Int.tmod a0 a1) = 0 then (some (wrap64 (Int.tdiv a0 a1), 0)) else (if ((decide (a0 < 0)) != (decide (a1 < 0))) = true then (some (wrap64 ((wrap64 (Int.tdiv a0 a1)) - 1), 0)) else (some (wrap64 (Int.tdiv a0 a1), 0))))) = some (r1, r2) := by rw [if_neg (show ¬ (false = true) by decide)] at H; exact H
          clear H
          have H := H1
          clear H1
          by_cases c7 : a1 = 0
          · rw [if_pos c7] at H
            exact absurd H (by simp)
          · rw [if_neg c7] at H
            have c7b0 : (a1 == 0) = false := beq_eq_false_iff_ne.mpr c7
            have c7b1 : (a1 != 0) = true := bne_iff_ne.mpr c7
            by_cases c8 : (Int.tmod a0 a1) = 0
            · rw [if_pos c8] at H
              have c8b0 : ((Int.tmod a0 a1) == 0) = true := beq_iff_eq.mpr c8
              have c8b1 : ((Int.tmod a0 a1) != 0) = false := bne_eq_false_iff_eq.mpr c8
              clear c8
              simp only [Option.some.injEq, Prod.mk.injEq] at H
              obtain ⟨rfl, rfl⟩ := H
              go_wp2
              go_ret2
              exact ⟨by first | rfl | (simp; done) | (simp [*]; done), by repeat (first | exact Drawn0.refl _ | apply Drawn0.step)⟩
            · rw [if_neg c8] at H
              have c8b0 : ((Int.tmod a0 a1) == 0) = false := beq_eq_false_iff_ne.mpr c8
              have c8b1 : ((Int.tmod a0 a1) != 0) = true := bne_iff_ne.mpr c8
              by_cases c9 : ((decide (a0 < 0)) != (decide (a1 < 0))) = true
              · rw [if_pos c9] at H
                have c9b0 : ((decide (a0 < 0)) != (decide (a1 < 0))) = true := c9
                (try (have c9b1 : decide ((decide (a0 < 0)) = (decide (a1 < 0))) = false := by simpa using c9))
                (try (have c9b2 : ((decide (a0 < 0)) == (decide (a1 < 0))) = false := by simpa using c9))
                (try (have c9b3 : ¬ ((decide (a0 < 0)) = (decide (a1 < 0))) := by simpa using c9))
                clear c9
                simp only [Option.some.injEq, Prod.mk.injEq] at H
                obtain ⟨rfl, rfl⟩ := H
                go_wp2
                go_ret2
                exact ⟨by first | rfl | (simp; done) | (simp [*]; done), by repeat (first | exact Drawn0.refl _ | apply Drawn0.step)⟩
              · rw [if_neg c9] at H
                have c9b0 : ((decide (a0 < 0)) != (decide (a1 < 0))) = false := by simpa using c9
                (try (have c9b1 : decide ((decide (a0 < 0)) = (decide (a1 < 0))) = true := by simpa using c9))
                (try (have c9b2 : ((decide (a0 < 0)) == (decide (a1 < 0))) = true := by simpa using c9))
                clear c9
                simp only [Option.some.injEq, Prod.mk.injEq] at H
                obtain ⟨rfl, rfl⟩ := H
                go_wp2
                go_ret2
                exact ⟨by first | rfl | (simp; done) | (simp [*]; done), by repeat (first | exact Drawn0.refl _ | apply Drawn0.step)⟩

/-! ### num_DivUp: function 47 -/
def num_DivUp.f (k : Nat) (a0 : Int) (a1 : Int) : Option (Int × Int) := (num_DivDown.f k a0 a1).bind fun bt104 => (if bt104.2 = 0 then (if a1 = 0 then (none) else (if (Int.tmod a0 a1) = 0 then (some (bt104.1, bt104.2)) else (some (wrap64 (bt104.1 + 1), bt104.2)))) else (some (bt104.1, bt104.2)))
theorem num_DivUp.mono : ∀ a0 a1 k, LeO (num_DivUp.f k a0 a1) (num_DivUp.f (k + 1) a0 a1) := by
  intro a0 a1 k
  unfold num_DivUp.f
  repeat' first
      | (with_reducible exact num_DivDown.mono _ _ _)
      | (with_reducible exact LeO.refl _)
      | (with_reducible exact LeO.none _)
      | (with_reducible refine LeO.ite ?_ ?_)
      | (with_reducible refine LeO.bind ?_ (fun _ => ?_))
      | exact num_DivDown.mono _ _ _
      | exact LeO.none _
      | refine LeO.ite ?_ ?_
      | refine LeO.bind ?_ (fun _ => ?_)
set_option maxHeartbeats 80000000 in
set_option maxRecDepth 100000 in
theorem num_DivUp.calls (k : Nat) (a0 : Int) (a1 : Int) (r1 : Int) (r2 : Int) (w : World) (h : num_DivUp.f k a0 a1 = some (r1, r2)) :
    Calls Try.prog 47 #[.int .i64 a0, .int .i64 a1] w fun e w' => e = .returned (.tuple #[.int .i64 r1, .int .i64 r2]) ∧ Drawn0 w w' := by
  have H : ((num_DivDown.f k a0 a1).bind fun bt104 => (if bt104.2 = 0 then (if a1 = 0 then (none) else (if (Int.tmod a0 a1) = 0 then (some (bt104.1, bt104.2)) else (some (wrap64 (bt104.1 + 1), bt104.2)))) else (some (bt104.1, bt104.2)))) = some (r1, r2) := h
  clear h
  replace H := Option.bind_eq_some_iff.mp H
  obtain ⟨⟨t104, t105⟩, A30, H⟩ := H
  replace H : (if t105 = 0 then (if a1 = 0 then (none) else (if (Int.tmod a0 a1) = 0 then (some (t104, t105)) else (some (wrap64 (t104 + 1), t105)))) else (some (t104, t105))) = some (r1, r2) := H
  have A3 := Aside0.mk A30
  have CA3 := Aside0.mk (fun W_ => num_DivDown.calls k a0 a1 t104 t105 W_ A30)
  clear A30
  by_cases c4 : t105 = 0
  · rw [if_pos c4] at H
    have c4b0 : (t105 == 0) = true := beq_iff_eq.mpr c4
    have c4b1 : (t105 != 0) = false := bne_eq_false_iff_eq.mpr c4
    clear c4
    by_cases c5 : a1 = 0
    · rw [if_pos c5] at H
      exact absurd H (by simp)
    · rw [if_neg c5] at H
      have c5b0 : (a1 == 0) = false := beq_eq_false_iff_ne.mpr c5
      have c5b1 : (a1 != 0) = true := bne_iff_ne.mpr c5
      by_cases c6 : (Int.tmod a0 a1) = 0
      · rw [if_pos c6] at H
        have c6b0 : ((Int.tmod a0 a1) == 0) = true := beq_iff_eq.mpr c6
        have c6b1 : ((Int.tmod a0 a1) != 0) = false := bne_eq_false_iff_eq.mpr c6
        clear c6
        simp only [Option.some.injEq, Prod.mk.injEq] at H
        obtain ⟨rfl, rfl⟩ := H
        go_enter Try.func47, Try.ntmps47
        go_wp2_with (first | ((with_reducible refine gate_callee (f := 46) rfl ?_); refine goesL_ (some 11) rfl rfl Try.func46 (by kernel_rfl) rfl _ rfl (by (try simp only [List.map_toArray, List.map_cons, List.map_nil]); first | done | rfl) ((CA3.out _).mono ?_); rintro e w' ⟨rfl, ⟨nd, rfl⟩⟩; refine ⟨_, rfl, ?_⟩))
        go_ret2
        exact ⟨by first | rfl | (simp; done) | (simp [*]; done), by repeat (first | exact Drawn0.refl _ | apply Drawn0.step)⟩
      · rw [if_neg c6] at H
        have c6b0 : ((Int.tmod a0 a1) == 0) = false := beq_eq_false_iff_ne.mpr c6
        have c6b1 : ((Int.tmod a0 a1) != 0) = true := bne_iff_ne.mpr c6
        simp only [Option.some.injEq, Prod.mk.injEq] at H
        obtain ⟨rfl, rfl⟩ := H
        go_enter Try.func47, Try.ntmps47
        go_wp2_with (first | ((with_reducible refine gate_callee (f := 46) rfl ?_); refine goesL_ (some 11) rfl rfl Try.func46 (by kernel_rfl) rfl _ rfl (by (try simp only [List.map_toArray, List.map_cons, List.map_nil]); first | done | rfl) ((CA3.out _).mono ?_); rintro e w' ⟨rfl, ⟨nd, rfl⟩⟩; refine ⟨_, rfl, ?_⟩))
        go_ret2
        exact ⟨by first | rfl | (simp; done) | (simp [*]; done), by repeat (first | exact Drawn0.refl _ | apply Drawn0.step)⟩
  · rw [if_neg c4] at H
    have c4b0 : (t105 == 0) = false := beq_eq_false_iff_ne.mpr c4
    have c4b1 : (t105 != 0) = true := bne_iff_ne.mpr c4
    simp only [Option.some.injEq, Prod.mk.injEq] at H
    obtain ⟨rfl, rfl⟩ := H
    go_enter Try.func47, Try.ntmps47
    go_wp2_with (first | ((with_reducible refine gate_callee (f := 46) rfl ?_); refine goesL_ (some 11) rfl rfl Try.func46 (by kernel_rfl) rfl _ rfl (by (try simp only [List.map_toArray, List.map_cons, List.map_nil]); first | done | rfl) ((CA3.out _).mono ?_); rintro e w' ⟨rfl, ⟨nd, rfl⟩⟩; refine ⟨_, rfl, ?_⟩))
    go_ret2
    exact ⟨by first | rfl | (simp; done) | (simp [*]; done), by repeat (first | exact Drawn0.refl _ | apply Drawn0.step)⟩

/-! ### climb_Rates: function 19 -/
mutual
def climb_Rates.l0 : Nat → List (S31) → Int → Int → List (S31) → Int → Int → Option (Int × Int × Int)
  | 0, _, _, _, _, _, _ => none
  | k + 1, x0, x6, x7, x23, x24, x25 => if x25 < x24 then (if 0 ≤ x25 then (if x25 < (x23.length : Int) then (if x25 ≤ (x0.length : Int) then ((some (x0.take (x25 : Int).toNat : List (S31))).bind fun y109 => (climb_Rates.l1 k x0 x6 x7 x23 x24 x25 y109 (y109.length : Int) 0 ((rd_T31 x23 x25).f0) ((rd_T31 x23 x25).f1))) else (none)) else (none)) else (none)) else (if x6 > x7 then (some (0, 0, 8)) else (some (x6, x7, 0)))
def climb_Rates.l1 : Nat → List (S31) → Int → Int → List (S31) → Int → Int → List (S31) → Int → Int → Int → Int → Option (Int × Int × Int)
  | 0, _, _, _, _, _, _, _, _, _, _, _ => none
  | k + 1, x0, x6, x7, x23, x24, x25, x32, x33, x34, x109000, x109001 => if x34 < x33 then (if 0 ≤ x34 then (if x34 < (x32.length : Int) then ((num_DivDown.f k (wrap64 (16 * (wrap64 ((wrap64 ((wrap64 (100 * (wrap64 (x109001 - ((rd_T31 x32 x34).f1))))) - 100)) + 1)))) (wrap64 (x109000 - ((rd_T31 x32 x34).f0)))).bind fun bt115 => ((num_DivUp.f k (wrap64 (16 * (wrap64 ((wrap64 ((wrap64 (100 * (wrap64 (x109001 - ((rd_T31 x32 x34).f1))))) + 100)) - 1)))) (wrap64 (x109000 - ((rd_T31 x32 x34).f0)))).bind fun bt117 => (climb_Rates.l1 k x0 (mx x6 bt115.1) (mn x7 bt117.1) x23 x24 x25 x32 x33 (wrap64 (x34 + 1)) x109000 x109001))) else (none)) else (none)) else (climb_Rates.l0 k x0 x6 x7 x23 x24 (wrap64 (x25 + 1)))
end
def climb_Rates.f (k : Nat) (l0 : List (S31)) : Option (Int × Int × Int) := (climb_Check.f k l0).bind fun t106 => (if t106 = 0 then (climb_Rates.l0 k l0 (-3200) 3200 l0 (l0.length : Int) 0) else (some (0, 0, t106)))
theorem climb_Rates.mono_l : ∀ k, (∀ y0 y1 y2 y3 y4 y5, LeO (climb_Rates.l0 k y0 y1 y2 y3 y4 y5) (climb_Rates.l0 (k + 1) y0 y1 y2 y3 y4 y5)) ∧ (∀ y0 y1 y2 y3 y4 y5 y6 y7 y8 y9 y10, LeO (climb_Rates.l1 k y0 y1 y2 y3 y4 y5 y6 y7 y8 y9 y10) (climb_Rates.l1 (k + 1) y0 y1 y2 y3 y4 y5 y6 y7 y8 y9 y10))
  | 0 => ⟨fun _ _ _ _ _ _ r h => by simp [climb_Rates.l0] at h, fun _ _ _ _ _ _ _ _ _ _ _ r h => by simp [climb_Rates.l1] at h⟩
  | k + 1 => by
    obtain ⟨ih0, ih1⟩ := climb_Rates.mono_l k
    refine ⟨?_, ?_⟩
    · intro y0 y1 y2 y3 y4 y5
      unfold climb_Rates.l0
      repeat' first
      | (with_reducible exact ih0 _ _ _ _ _ _)
      | (with_reducible exact ih1 _ _ _ _ _ _ _ _ _ _ _)
      | (with_reducible exact climb_Check.mono _ _)
      | (with_reducible exact num_DivDown.mono _ _ _)
      | (with_reducible exact num_DivUp.mono _ _ _)
      | (with_reducible exact LeO.refl _)
      | (with_reducible exact LeO.none _)
      | (with_reducible refine LeO.ite ?_ ?_)
      | (with_reducible refine LeO.bind ?_ (fun _ => ?_))
      | exact ih0 _ _ _ _ _ _
      | exact ih1 _ _ _ _ _ _ _ _ _ _ _
      | exact climb_Check.mono _ _
      | exact num_DivDown.mono _ _ _
      | exact num_DivUp.mono _ _ _
      | exact LeO.none _
      | refine LeO.ite ?_ ?_
      | refine LeO.bind ?_ (fun _ => ?_)
    · intro y0 y1 y2 y3 y4 y5 y6 y7 y8 y9 y10
      unfold climb_Rates.l1
      repeat' first
      | (with_reducible exact ih0 _ _ _ _ _ _)
      | (with_reducible exact ih1 _ _ _ _ _ _ _ _ _ _ _)
      | (with_reducible exact climb_Check.mono _ _)
      | (with_reducible exact num_DivDown.mono _ _ _)
      | (with_reducible exact num_DivUp.mono _ _ _)
      | (with_reducible exact LeO.refl _)
      | (with_reducible exact LeO.none _)
      | (with_reducible refine LeO.ite ?_ ?_)
      | (with_reducible refine LeO.bind ?_ (fun _ => ?_))
      | exact ih0 _ _ _ _ _ _
      | exact ih1 _ _ _ _ _ _ _ _ _ _ _
      | exact climb_Check.mono _ _
      | exact num_DivDown.mono _ _ _
      | exact num_DivUp.mono _ _ _
      | exact LeO.none _
      | refine LeO.ite ?_ ?_
      | refine LeO.bind ?_ (fun _ => ?_)
theorem climb_Rates.mono : ∀ a0 k, LeO (climb_Rates.f k a0) (climb_Rates.f (k + 1) a0) := by
  intro a0 k
  obtain ⟨ih0, ih1⟩ := climb_Rates.mono_l k
  unfold climb_Rates.f
  repeat' first
      | (with_reducible exact ih0 _ _ _ _ _ _)
      | (with_reducible exact ih1 _ _ _ _ _ _ _ _ _ _ _)
      | (with_reducible exact climb_Check.mono _ _)
      | (with_reducible exact num_DivDown.mono _ _ _)
      | (with_reducible exact num_DivUp.mono _ _ _)
      | (with_reducible exact LeO.refl _)
      | (with_reducible exact LeO.none _)
      | (with_reducible refine LeO.ite ?_ ?_)
      | (with_reducible refine LeO.bind ?_ (fun _ => ?_))
      | exact ih0 _ _ _ _ _ _
      | exact ih1 _ _ _ _ _ _ _ _ _ _ _
      | exact climb_Check.mono _ _
      | exact num_DivDown.mono _ _ _
      | exact num_DivUp.mono _ _ _
      | exact LeO.none _
      | refine LeO.ite ?_ ?_
      | refine LeO.bind ?_ (fun _ => ?_)
set_option maxHeartbeats 80000000 in
set_option maxRecDepth 100000 in
theorem climb_Rates.calls (k : Nat) (A0 : Option Addr) (c0 : Nat) (l0 : List (S31)) (r1 : Int) (r2 : Int) (r3 : Int) (w : World) (hr0 : Kd.C k31 w A0 l0.length l0) (hc0 : l0.length ≤ c0) (h : climb_Rates.f k l0 = some (r1, r2, r3)) :
    Calls Try.prog 19 #[.slice A0 l0.length c0] w fun e w' => e = .returned (.tuple #[.int .i64 r1, .int .i64 r2, .int .i64 r3]) ∧ Below w.heap.size w w' := by
  have hu31 := Try.underlying31
  have HR0 := Aside0.mk hr0
  have HC0 := Aside0.mk hc0
  clear hr0 hc0
  have HB := Aside0.mk (Below.refl w.heap.size w)
  have H : ((climb_Check.f k l0).bind fun t106 => (if t106 = 0 then (climb_Rates.l0 k l0 (-3200) 3200 l0 (l0.length : Int) 0) else (some (0, 0, t106)))) = some (r1, r2, r3) := h
  clear h
  replace H := Option.bind_eq_some_iff.mp H
  obtain ⟨t106, A20, H⟩ := H
  replace H : (if t106 = 0 then (climb_Rates.l0 k l0 (-3200) 3200 l0 (l0.length : Int) 0) else (some (0, 0, t106))) = some (r1, r2, r3) := H
  have A2 := Aside0.mk A20
  clear A20
  by_cases c3 : t106 = 0
  · rw [if_pos c3] at H
    have c3b0 : (t106 == 0) = true := beq_iff_eq.mpr c3
    have c3b1 : (t106 != 0) = false := bne_eq_false_iff_eq.mpr c3
    clear c3
    have H' := Aside0.mk H
    clear H
    go_enter Try.func19, Try.ntmps19
    go_wp2_with (first | ((with_reducible refine gate_callee (f := 45) rfl ?_); refine goesL_ (some 19) rfl rfl Try.func45 (by kernel_rfl) rfl #[.slice A0 l0.length c0] rfl (by (try simp only [List.map_toArray, List.map_cons, List.map_nil]); first | done | rfl | (simp only [List.length_drop, List.length_take]; rfl)) ?_; (with_reducible refine (climb_Check.calls k _ _ l0 t106 _ ?side1 ?side2 A2.out).mono ?_); (case side1 => repeat (first | exact HR0.out | (with_reducible refine Kd.C_alloc ?_ _) | (with_reducible refine Kd.C_drewN ?_ _) | (with_reducible refine Kd.C_drew ?_))); (case side2 => exact HC0.out); rintro e w4 ⟨rfl, hb⟩; refine ⟨_, rfl, ?_⟩; have n0_ := Aside0.mk (below_step (by repeat (first | (with_reducible first | exact HB.out | apply below_alloc | apply pw_below_drewN | apply below_drew1) | exact HB.out)) hb); clear HB; have HB := n0_; clear n0_; (try clear hb); (try clear hb2); (try clear hk); (try clear hi)))
    go_loopg [6, 7, 25] k (fun kq v6 v7 v25 w' => ∃ (x6_1 : Int) (x7_1 : Int) (x25_1 : Int), v6 = .int .i64 x6_1 ∧ v7 = .int .i64 x7_1 ∧ v25 = .int .i64 x25_1 ∧ Aside0 (climb_Rates.l0 kq l0 x6_1 x7_1 l0 (l0.length : Int) x25_1 = some (r1, r2, r3)) ∧ Aside0 (kq ≤ k) ∧ Aside0 (Below w.heap.size w w'))
    case atStart => exact ⟨((-3200)), (3200), (0), (by first | rfl | (simp; done) | (simp [*]; done)), (by first | rfl | (simp; done) | (simp [*]; done)), (by first | rfl | (simp; done) | (simp [*]; done)), H', ⟨Nat.le_refl _⟩, ⟨by repeat (first | (with_reducible first | exact HB.out | apply below_alloc | apply pw_below_drewN | apply below_drew1) | exact HB.out)⟩⟩
    case round =>
      clear H'
      try clear c1
      try clear p2
      try clear c3
      try clear c3b0
      try clear c3b1
      try clear c4
      obtain ⟨x6_1, x7_1, x25_1, rfl, rfl, rfl, HA, HK1, HB⟩ := hrel
      cases gk with
      | zero => exact absurd HA.out (by simp [climb_Rates.l0])
      | succ k1 =>
        have H := HA.out
        clear HA
        simp only [climb_Rates.l0] at H
        by_cases c5 : x25_1 < (l0.length : Int)
        · rw [if_pos c5] at H
          have c5b0 : decide (x25_1 < (l0.length : Int)) = true := decide_eq_true c5
          clear c5
          by_cases c6 : 0 ≤ x25_1
          · rw [if_pos c6] at H
            have c6b0 : decide (0 ≤ x25_1) = true := decide_eq_true c6
            clear c6
            by_cases c7 : x25_1 < (l0.length : Int)
            · rw [if_pos c7] at H
              have c7b0 : decide (x25_1 < (l0.length : Int)) = true := decide_eq_true c7
              clear c7
              have c8b0 := eq_true (of_decide_eq_true (by first | (with_reducible assumption) | assumption) : 0 ≤ x25_1)
              by_cases c9 : x25_1 ≤ (l0.length : Int)
              · rw [if_pos c9] at H
                have c9b0 := eq_true c9
                have c9b1 : decide (x25_1 ≤ (l0.length : Int)) = true := decide_eq_true c9
                clear c9
                obtain ⟨y109, hy109⟩ : ∃ y_ : List (S31), y_ = (l0.take (x25_1 : Int).toNat) := ⟨_, rfl⟩
                replace H : (climb_Rates.l1 k1 l0 x6_1 x7_1 l0 (l0.length : Int) x25_1 y109 (y109.length : Int) 0 ((rd_T31 l0 x25_1).f0) ((rd_T31 l0 x25_1).f1)) = some (r1, r2, r3) := by first | (rw [hy109]; with_reducible exact H) | (have H2_ := (Option.bind_some _ _).symm.trans H; rw [hy109]; with_reducible exact H2_) | (have H2_ := (Option.bind_some _ _).symm.trans H; with_reducible exact H2_) | with_reducible exact H | (rw [hy109]; exact H) | exact H
                have Ny109 := Aside0.mk hy109
                clear hy109
                have H' := Aside0.mk H
                clear H
                have p107 : 0 ≤ (x25_1 : Int) := of_decide_eq_true (by first | (with_reducible assumption) | assumption)
                have q107 : x25_1 < (l0.length : Int) := of_decide_eq_true (by first | (with_reducible assumption) | assumption)
                obtain ⟨ad107, e107, hx107_0, hx107_1⟩ := at_T31 HR0.out x25_1 p107 q107
                cases e107
                replace hx107_0 := (HB.out.cell (World.block_lt_of_cell? w _ hx107_0)).trans hx107_0
                replace hx107_1 := (HB.out.cell (World.block_lt_of_cell? w _ hx107_1)).trans hx107_1
                replace p107 := eq_true p107
                replace q107 := eq_true q107
                go_wp2_with (first | ((with_reducible refine gate_dst (N := 9) rfl ?_); refine box_event ?hg (N := 9) ?hd (cs := #[.int .i64 0, .int .i64 0]) (t := 31) ?hr ?_; (case hd => rfl); (case hg => rfl); (case hr => first | (go_simp; done) | (go_simp; rfl)); intro gb108 hg w10 hbox hb; have n0_ := Aside0.mk (below_step (by repeat (first | (with_reducible first | exact HB.out | apply below_alloc | apply pw_below_drewN | apply below_drew1) | exact HB.out)) hb); have n1_ := Aside0.mk (hbox); have n2_ := Aside0.mk ((by rw [hg]; exact (below_size (by repeat (first | (with_reducible first | exact HB.out | apply below_alloc | apply pw_below_drewN | apply below_drew1) | exact HB.out))) : w.heap.size ≤ gb108)); have n3_ := Aside0.mk ((by rw [hg]; exact (below_size (by repeat (first | (with_reducible first | exact HB.out | apply below_alloc | apply pw_below_drewN | apply below_drew1) | exact HB.out))) : w.heap.size ≤ gb108)); clear HB; have HB := n0_; have BK108 := n1_; have GW108 := n2_; have GE108 := n3_; clear n0_ n1_ n2_ n3_; clear hb hbox hg) | ((with_reducible refine gate_store (t := 31) (p := 9) rfl ?_); refine st_row rfl rfl 31 9 _ rfl gb108 0 rfl (t := 31) (cs := #[.int .i64 0, .int .i64 0]) [.int .i64 ((rd_T31 l0 x25_1).f0), .int .i64 ((rd_T31 l0 x25_1).f1)] _ rfl rfl isz31 (by (with_reducible repeat (first | refine blk_drewN ?_ _ | refine blk_drew ?_ | refine blk_alloc ?_ _)); exact BK108.out) (Nat.le_of_ble_eq_true rfl) rfl #[.int .i64 ((rd_T31 l0 x25_1).f0), .int .i64 ((rd_T31 l0 x25_1).f1)] rfl ?_; intro w11 hx_ hy_ hz_; have n0_ := Aside0.mk (hx_); have n1_ := Aside0.mk (hz_ _ _ (by repeat (first | (with_reducible first | exact HB.out | apply below_alloc | apply pw_below_drewN | apply below_drew1 | refine below_set ?_ GE108.out) | exact HB.out)) GE108.out); clear BK108; clear HB; have BK108 := n0_; have HB := n1_; clear n0_ n1_; clear hx_ hy_ hz_; have q12 : (x25_1 : Int) ≤ ((l0.length : Int) : Int) := of_decide_eq_true (by first | (with_reducible assumption) | assumption); obtain ⟨i012, hi012, _, hsz12, _⟩ := info_parts info31; have hroom12 : l0.length ≤ c0 := HC0.out; have hC12 : Kd.C k31 _ (some ad107) l0.length l0 := HR0.out; have hcut12 := cut_to (P := Try.prog) 27 31 .i64 Try.underlying27 hi012 (some ad107) l0.length c0 x25_1 (of_decide_eq_true (by first | (with_reducible assumption) | assumption)) q12 hroom12; have hr12 := Kd.C_take (m := (x25_1 : Int).toNat) hC12 (by omega); have hy12 : y109.length = (x25_1 : Int).toNat := (by rw [Ny109.out, List.length_take]; omega); rw [← Ny109.out] at hr12; rw [← hy12] at hcut12; have HR112 := Aside0.mk hr12; have HC112 := Aside0.mk (show y109.length ≤ c0 from by omega); clear hr12 hC12 hroom12 hi012 hsz12; have KY12 := Aside0.mk hy12; clear hy12; replace q12 := eq_true q12))
                go_loopg [6, 7, 34] k1 (fun kq v6 v7 v34 w' => ∃ (x6_2 : Int) (x7_2 : Int) (x34_2 : Int), v6 = .int .i64 x6_2 ∧ v7 = .int .i64 x7_2 ∧ v34 = .int .i64 x34_2 ∧ Aside0 (climb_Rates.l1 kq l0 x6_2 x7_2 l0 (l0.length : Int) x25_1 y109 (y109.length : Int) x34_2 ((rd_T31 l0 x25_1).f0) ((rd_T31 l0 x25_1).f1) = some (r1, r2, r3)) ∧ Aside0 (kq ≤ k1) ∧ Aside0 (w'.heap[gb108]? = some (.cells #[.int .i64 ((rd_T31 l0 x25_1).f0), .int .i64 ((rd_T31 l0 x25_1).f1)] 31 (0, 0))) ∧ Aside0 (Below w.heap.size w w'))
                case atStart => exact ⟨(x6_1), (x7_1), (0), (by first | rfl | (simp; done) | (simp [*]; done)), (by first | rfl | (simp; done) | (simp [*]; done)), (by first | rfl | (simp; done) | (simp [*]; done)), H', ⟨Nat.le_refl _⟩, ⟨by (with_reducible repeat (first | refine blk_drewN ?_ _ | refine blk_drew ?_ | refine blk_alloc ?_ _)); exact BK108.out⟩, ⟨by repeat (first | (with_reducible first | exact HB.out | apply below_alloc | apply pw_below_drewN | apply below_drew1 | refine below_set ?_ GE108.out) | exact HB.out)⟩⟩
                case round =>
                  clear H'
                  try clear c1
                  try clear p1
                  try clear q1
                  try clear hx1
                  try clear p2
                  try clear c3
                  try clear c3b0
                  try clear c3b1
                  try clear c4
                  try clear c5
                  try clear c5b0
                  try clear c6
                  try clear c6b0
                  try clear c7
                  try clear c7b0
                  try clear c8
                  try clear c8b0
                  try clear c9
                  try clear c9b0
                  try clear c9b1
                  try clear p10
                  try clear q10
                  try clear hx10
                  try clear q12
                  try clear hx107_0
                  try clear hx107_1
                  try clear p107
                  try clear p2
                  try clear q107
                  try clear q12
                  obtain ⟨x6_2, x7_2, x34_2, rfl, rfl, rfl, HA, HK2, BK108, HB⟩ := hrel
                  cases gk with
                  | zero => exact absurd HA.out (by simp [climb_Rates.l1])
                  | succ k2 =>
                    have H := HA.out
                    clear HA
                    simp only [climb_Rates.l1] at H
                    by_cases c13 : x34_2 < (y109.length : Int)
                    · rw [if_pos c13] at H
                      have c13b0 : decide (x34_2 < (y109.length : Int)) = true := decide_eq_true c13
                      clear c13
                      by_cases c14 : 0 ≤ x34_2
                      · rw [if_pos c14] at H
                        have c14b0 : decide (0 ≤ x34_2) = true := decide_eq_true c14
                        clear c14
                        by_cases c15 : x34_2 < (y109.length : Int)
                        · rw [if_pos c15] at H
                          have c15b0 : decide (x34_2 < (y109.length : Int)) = true := decide_eq_true c15
                          clear c15
                          replace H := Option.bind_eq_some_iff.mp H
                          obtain ⟨⟨t115, t116⟩, A160, H⟩ := H
                          replace H : ((num_DivUp.f k2 (wrap64 (16 * (wrap64 ((wrap64 ((wrap64 (100 * (wrap64 (((rd_T31 l0 x25_1).f1) - ((rd_T31 y109 x34_2).f1))))) + 100)) - 1)))) (wrap64 (((rd_T31 l0 x25_1).f0) - ((rd_T31 y109 x34_2).f0)))).bind fun bt117 => (climb_Rates.l1 k2 l0 (mx x6_2 t115) (mn x7_2 bt117.1) l0 (l0.length : Int) x25_1 y109 (y109.length : Int) (wrap64 (x34_2 + 1)) ((rd_T31 l0 x25_1).f0) ((rd_T31 l0 x25_1).f1))) = some (r1, r2, r3) := H
                          have A16 := Aside0.mk A160
                          have CA16 := Aside0.mk (fun W_ => num_DivDown.calls k2 (wrap64 (16 * (wrap64 ((wrap64 ((wrap64 (100 * (wrap64 (((rd_T31 l0 x25_1).f1) - ((rd_T31 y109 x34_2).f1))))) - 100)) + 1)))) (wrap64 (((rd_T31 l0 x25_1).f0) - ((rd_T31 y109 x34_2).f0))) t115 t116 W_ A160)
                          clear A160
                          replace H := Option.bind_eq_some_iff.mp H
                          obtain ⟨⟨t117, t118⟩, A170, H⟩ := H
                          replace H : (climb_Rates.l1 k2 l0 (mx x6_2 t115) (mn x7_2 t117) l0 (l0.length : Int) x25_1 y109 (y109.length : Int) (wrap64 (x34_2 + 1)) ((rd_T31 l0 x25_1).f0) ((rd_T31 l0 x25_1).f1)) = some (r1, r2, r3) := H
                          have A17 := Aside0.mk A170
                          have CA17 := Aside0.mk (fun W_ => num_DivUp.calls k2 (wrap64 (16 * (wrap64 ((wrap64 ((wrap64 (100 * (wrap64 (((rd_T31 l0 x25_1).f1) - ((rd_T31 y109 x34_2).f1))))) + 100)) - 1)))) (wrap64 (((rd_T31 l0 x25_1).f0) - ((rd_T31 y109 x34_2).f0))) t117 t118 W_ A170)
                          clear A170
                          obtain ⟨ji18, hji18⟩ : ∃ j_ : Int, (mx x6_2 t115) = j_ := ⟨_, rfl⟩
                          replace H : (climb_Rates.l1 k2 l0 ji18 (mn x7_2 t117) l0 (l0.length : Int) x25_1 y109 (y109.length : Int) (wrap64 (x34_2 + 1)) ((rd_T31 l0 x25_1).f0) ((rd_T31 l0 x25_1).f1)) = some (r1, r2, r3) := by first | (rw [hji18] at H; exact H) | (simp only [hji18] at H ⊢; exact H)
                          (try rw [hji18] at A16)
                          (try rw [hji18] at A17)
                          have hji18_ : (if x6_2 < t115 then t115 else x6_2) = ji18 := hji18
                          obtain ⟨ji19, hji19⟩ : ∃ j_ : Int, (mn x7_2 t117) = j_ := ⟨_, rfl⟩
                          replace H : (climb_Rates.l1 k2 l0 ji18 ji19 l0 (l0.length : Int) x25_1 y109 (y109.length : Int) (wrap64 (x34_2 + 1)) ((rd_T31 l0 x25_1).f0) ((rd_T31 l0 x25_1).f1)) = some (r1, r2, r3) := by first | (rw [hji19] at H; exact H) | (simp only [hji19] at H ⊢; exact H)
                          (try rw [hji19] at A16)
                          (try rw [hji19] at A17)
                          have hji19_ : (if t117 < x7_2 then t117 else x7_2) = ji19 := hji19
                          have H' := Aside0.mk H
                          clear H
                          have p113 : 0 ≤ (x34_2 : Int) := of_decide_eq_true (by first | (with_reducible assumption) | assumption)
                          have q113 : x34_2 < (y109.length : Int) := of_decide_eq_true (by first | (with_reducible assumption) | assumption)
                          obtain ⟨ad113, e113, hx113_0, hx113_1⟩ := at_T31 HR112.out x34_2 p113 q113
                          obtain rfl : ad107 = ad113 := (by injection e113)
                          replace hx113_0 := (HB.out.cell (World.block_lt_of_cell? w _ hx113_0)).trans hx113_0
                          replace hx113_1 := (HB.out.cell (World.block_lt_of_cell? w _ hx113_1)).trans hx113_1
                          replace p113 := eq_true p113
                          replace q113 := eq_true q113
                          go_wp2_with (first | ((with_reducible refine gate_dst (N := 11) rfl ?_); refine box_event ?hg (N := 11) ?hd (cs := #[.int .i64 0, .int .i64 0]) (t := 31) ?hr ?_; (case hd => rfl); (case hg => rfl); (case hr => first | (go_simp; done) | (go_simp; rfl)); intro gb114 hg w20 hbox hb; have n0_ := Aside0.mk (blk_below (g := gb108) (by (with_reducible repeat (first | refine blk_drewN ?_ _ | refine blk_drew ?_ | refine blk_alloc ?_ _)); exact BK108.out) hb); have n1_ := Aside0.mk (below_step (by repeat (first | (with_reducible first | exact HB.out | apply below_alloc | apply pw_below_drewN | apply below_drew1 | refine below_set ?_ GE108.out) | exact HB.out)) hb); have n2_ := Aside0.mk (hbox); have n3_ := Aside0.mk ((by rw [hg]; exact (below_size (by repeat (first | (with_reducible first | exact HB.out | apply below_alloc | apply pw_below_drewN | apply below_drew1 | refine below_set ?_ GE108.out) | exact HB.out))) : w.heap.size ≤ gb114)); have n4_ := Aside0.mk ((by rw [hg]; exact (below_size (by repeat (first | (with_reducible first | exact HB.out | apply below_alloc | apply pw_below_drewN | apply below_drew1 | refine below_set ?_ GE108.out) | exact HB.out))) : w.heap.size ≤ gb114)); have n5_ := Aside0.mk ((by rw [hg]; exact Nat.ne_of_lt (blk_lt (g := gb108) (by (with_reducible repeat (first | refine blk_drewN ?_ _ | refine blk_drew ?_ | refine blk_alloc ?_ _)); exact BK108.out)) : gb108 ≠ gb114)); have n6_ := Aside0.mk ((by rw [hg]; exact Nat.ne_of_gt (blk_lt (g := gb108) (by (with_reducible repeat (first | refine blk_drewN ?_ _ | refine blk_drew ?_ | refine blk_alloc ?_ _)); exact BK108.out)) : gb114 ≠ gb108)); clear BK108; clear HB; have BK108 := n0_; have HB := n1_; have BK114 := n2_; have GW114 := n3_; have GE114 := n4_; have NB108_114 := n5_; have NB114_108 := n6_; clear n0_ n1_ n2_ n3_ n4_ n5_ n6_; clear hb hbox hg) | ((with_reducible refine gate_store (t := 31) (p := 11) rfl ?_); refine st_row rfl rfl 31 11 _ rfl gb114 0 rfl (t := 31) (cs := #[.int .i64 0, .int .i64 0]) [.int .i64 ((rd_T31 y109 x34_2).f0), .int .i64 ((rd_T31 y109 x34_2).f1)] _ rfl rfl isz31 (by (with_reducible repeat (first | refine blk_drewN ?_ _ | refine blk_drew ?_ | refine blk_alloc ?_ _)); exact BK114.out) (Nat.le_of_ble_eq_true rfl) rfl #[.int .i64 ((rd_T31 y109 x34_2).f0), .int .i64 ((rd_T31 y109 x34_2).f1)] rfl ?_; intro w21 hx_ hy_ hz_; have n0_ := Aside0.mk (hx_); have n1_ := Aside0.mk (((hy_ gb108 NB108_114.out).trans (by (with_reducible repeat (first | refine blk_drewN ?_ _ | refine blk_drew ?_ | refine blk_alloc ?_ _)); exact BK108.out) : w21.heap[gb108]? = some (.cells #[.int .i64 ((rd_T31 l0 x25_1).f0), .int .i64 ((rd_T31 l0 x25_1).f1)] 31 (0, 0)))); have n2_ := Aside0.mk (hz_ _ _ (by repeat (first | (with_reducible first | exact HB.out | apply below_alloc | apply pw_below_drewN | apply below_drew1 | refine below_set ?_ GE108.out | refine below_set ?_ GE114.out) | exact HB.out)) GE114.out); clear BK114; clear BK108; clear HB; have BK114 := n0_; have BK108 := n1_; have HB := n2_; clear n0_ n1_ n2_; clear hx_ hy_ hz_) | ((with_reducible refine gate_dst (N := 39) rfl ?_); refine ld_cell rfl (N := 39) rfl 3 _ rfl gb108 0 rfl (t := 31) (cs := #[.int .i64 ((rd_T31 l0 x25_1).f0), .int .i64 ((rd_T31 l0 x25_1).f1)]) (fr := (0, 0)) (.int .i64 ((rd_T31 l0 x25_1).f0)) (by (with_reducible repeat (first | refine blk_drewN ?_ _ | refine blk_drew ?_ | refine blk_alloc ?_ _)); exact BK108.out) Try.underlying3 rfl rfl ?_) | ((with_reducible refine gate_dst (N := 41) rfl ?_); refine ld_cell rfl (N := 41) rfl 3 _ rfl gb114 0 rfl (t := 31) (cs := #[.int .i64 ((rd_T31 y109 x34_2).f0), .int .i64 ((rd_T31 y109 x34_2).f1)]) (fr := (0, 0)) (.int .i64 ((rd_T31 y109 x34_2).f0)) (by (with_reducible repeat (first | refine blk_drewN ?_ _ | refine blk_drew ?_ | refine blk_alloc ?_ _)); exact BK114.out) Try.underlying3 rfl rfl ?_) | ((with_reducible refine gate_dst (N := 44) rfl ?_); refine ld_cell rfl (N := 44) rfl 3 _ rfl gb108 1 rfl (t := 31) (cs := #[.int .i64 ((rd_T31 l0 x25_1).f0), .int .i64 ((rd_T31 l0 x25_1).f1)]) (fr := (0, 0)) (.int .i64 ((rd_T31 l0 x25_1).f1)) (by (with_reducible repeat (first | refine blk_drewN ?_ _ | refine blk_drew ?_ | refine blk_alloc ?_ _)); exact BK108.out) Try.underlying3 rfl rfl ?_) | ((with_reducible refine gate_dst (N := 46) rfl ?_); refine ld_cell rfl (N := 46) rfl 3 _ rfl gb114 1 rfl (t := 31) (cs := #[.int .i64 ((rd_T31 y109 x34_2).f0), .int .i64 ((rd_T31 y109 x34_2).f1)]) (fr := (0, 0)) (.int .i64 ((rd_T31 y109 x34_2).f1)) (by (with_reducible repeat (first | refine blk_drewN ?_ _ | refine blk_drew ?_ | refine blk_alloc ?_ _)); exact BK114.out) Try.underlying3 rfl rfl ?_) | ((with_reducible refine gate_callee (f := 46) rfl ?_); refine goesL_ (some 55) rfl rfl Try.func46 (by kernel_rfl) rfl _ rfl (by (try simp only [List.map_toArray, List.map_cons, List.map_nil]); first | done | rfl) ((CA16.out _).mono ?_); rintro e w' ⟨rfl, ⟨nd, rfl⟩⟩; refine ⟨_, rfl, ?_⟩) | ((with_reducible refine gate_callee (f := 47) rfl ?_); refine goesL_ (some 64) rfl rfl Try.func47 (by kernel_rfl) rfl _ rfl (by (try simp only [List.map_toArray, List.map_cons, List.map_nil]); first | done | rfl) ((CA17.out _).mono ?_); rintro e w' ⟨rfl, ⟨nd, rfl⟩⟩; refine ⟨_, rfl, ?_⟩))
                          go_roundg k2
                          case measure => have := HK1.out; have := HK2.out; omega
                          case rel => exact ⟨(ji18), (ji19), (wrap64 (x34_2 + 1)), (by first | rfl | (simp; done) | (simp only [← hji18] <;> (first | rfl | simp)) | (simp [*]; done)), (by first | rfl | (simp; done) | (simp only [← hji19] <;> (first | rfl | simp)) | (simp [*]; done)), (by first | rfl | (simp; done) | (simp [*]; done)), H', ⟨by have := HK1.out; have := HK2.out; omega⟩, ⟨by (with_reducible repeat (first | refine blk_drewN ?_ _ | refine blk_drew ?_ | refine blk_alloc ?_ _)); exact BK108.out⟩, ⟨by repeat (first | (with_reducible first | exact HB.out | apply below_alloc | apply pw_below_drewN | apply below_drew1 | refine below_set ?_ GE108.out | refine below_set ?_ GE114.out) | exact HB.out)⟩⟩
                        · rw [if_neg c15] at H
                          exact absurd H (by simp)
                      · rw [if_neg c14] at H
                        exact absurd H (by simp)
                    · rw [if_neg c13] at H
                      have c13b0 : decide (x34_2 < (y109.length : Int)) = false := decide_eq_false c13
                      clear c13
                      have H' := Aside0.mk H
                      clear H
                      go_wp2
                      go_roundg k2
                      case measure => have := HK1.out; have := HK2.out; omega
                      case rel => exact ⟨(x6_2), (x7_2), (wrap64 (x25_1 + 1)), (by first | rfl | (simp; done) | (simp [*]; done)), (by first | rfl | (simp; done) | (simp [*]; done)), (by first | rfl | (simp; done) | (simp [*]; done)), H', ⟨by have := HK1.out; have := HK2.out; omega⟩, ⟨by repeat (first | (with_reducible first | exact HB.out | apply below_alloc | apply pw_below_drewN | apply below_drew1 | refine below_set ?_ GE108.out) | exact HB.out)⟩⟩
              · rw [if_neg c9] at H
                exact absurd H (by simp)
            · rw [if_neg c7] at H
              exact absurd H (by simp)
          · rw [if_neg c6] at H
            exact absurd H (by simp)
        · rw [if_neg c5] at H
          have c5b0 : decide (x25_1 < (l0.length : Int)) = false := decide_eq_false c5
          clear c5
          by_cases c22 : x6_1 > x7_1
          · rw [if_pos c22] at H
            have c22b0 : decide (x7_1 < x6_1) = true := decide_eq_true c22
            clear c22
            simp only [Option.some.injEq, Prod.mk.injEq] at H
            obtain ⟨rfl, rfl, rfl⟩ := H
            go_wp2
            go_ret3
            exact ⟨by first | rfl | (simp [errW_none, errW_some] <;> rfl) | (simp [*, errW_none, errW_some] <;> rfl), by repeat (first | (with_reducible first | exact HB.out | apply below_alloc | apply pw_below_drewN | apply below_drew1) | exact HB.out)⟩
          · rw [if_neg c22] at H
            have c22b0 : decide (x7_1 < x6_1) = false := decide_eq_false c22
            clear c22
            simp only [Option.some.injEq, Prod.mk.injEq] at H
            obtain ⟨rfl, rfl, rfl⟩ := H
            go_wp2
            go_ret3
            exact ⟨by first | rfl | (simp [errW_none, errW_some] <;> rfl) | (simp [*, errW_none, errW_some] <;> rfl), by repeat (first | (with_reducible first | exact HB.out | apply below_alloc | apply pw_below_drewN | apply below_drew1) | exact HB.out)⟩
  · rw [if_neg c3] at H
    have c3b0 : (t106 == 0) = false := beq_eq_false_iff_ne.mpr c3
    have c3b1 : (t106 != 0) = true := bne_iff_ne.mpr c3
    simp only [Option.some.injEq, Prod.mk.injEq] at H
    obtain ⟨rfl, rfl, rfl⟩ := H
    go_enter Try.func19, Try.ntmps19
    go_wp2_with (first | ((with_reducible refine gate_callee (f := 45) rfl ?_); refine goesL_ (some 19) rfl rfl Try.func45 (by kernel_rfl) rfl #[.slice A0 l0.length c0] rfl (by (try simp only [List.map_toArray, List.map_cons, List.map_nil]); first | done | rfl | (simp only [List.length_drop, List.length_take]; rfl)) ?_; (with_reducible refine (climb_Check.calls k _ _ l0 t106 _ ?side1 ?side2 A2.out).mono ?_); (case side1 => repeat (first | exact HR0.out | (with_reducible refine Kd.C_alloc ?_ _) | (with_reducible refine Kd.C_drewN ?_ _) | (with_reducible refine Kd.C_drew ?_))); (case side2 => exact HC0.out); rintro e w23 ⟨rfl, hb⟩; refine ⟨_, rfl, ?_⟩; have n0_ := Aside0.mk (below_step (by repeat (first | (with_reducible first | exact HB.out | apply below_alloc | apply pw_below_drewN | apply below_drew1) | exact HB.out)) hb); clear HB; have HB := n0_; clear n0_; (try clear hb); (try clear hb2); (try clear hk); (try clear hi)))
    go_ret3
    exact ⟨by first | rfl | (simp [errW_none, errW_some] <;> rfl) | (simp [*, errW_none, errW_some] <;> rfl), by repeat (first | (with_reducible first | exact HB.out | apply below_alloc | apply pw_below_drewN | apply below_drew1) | exact HB.out)⟩

end Go.Proofs.Ytehgapcmngdcnaa.MClimbThrough
