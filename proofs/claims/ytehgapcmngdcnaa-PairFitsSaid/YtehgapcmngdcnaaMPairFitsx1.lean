-- Written for this claim by a program of this session out of the translation (functions with function values and the like). Lean checks it.
import Derived.Test.YtehgapcmngdcnaaMPairFitsx0
namespace Go.Proofs.Ytehgapcmngdcnaa.MPairFits
open Go.RowKit Go.Proofs.Ytehgapcmngdcnaa.Evt Go.Proofs.YtehgapcmngdcnaaW.PrintWords Go.Proofs.YtehgapcmngdcnaaW.PrintLast Go.Proofs.YtehgapcmngdcnaaW.PrintMore
attribute [local go_sem] max2_int min2_int max_two min_two max_three min_three max_four min_four   -- for this text's walks alone
set_option linter.unusedVariables false
set_option linter.unusedSimpArgs false

/-! ### skywaykeep2_within: function 16 -/
def skywaykeep2_within.f (a0 : Int) (a1 : Int) (a2 : Int) : Option (Int) := if (wrap64 ((wrap64 (a2 - a1)) + 1)) = 0 then (none) else (some (wrap64 (a1 + (Int.tmod (wrap64 ((Int.tmod a0 (wrap64 ((wrap64 (a2 - a1)) + 1))) + (wrap64 ((wrap64 (a2 - a1)) + 1)))) (wrap64 ((wrap64 (a2 - a1)) + 1))))))
set_option maxHeartbeats 80000000 in
set_option maxRecDepth 100000 in
theorem skywaykeep2_within.calls (a0 : Int) (a1 : Int) (a2 : Int) (r : Int) (w : World) (h : skywaykeep2_within.f a0 a1 a2 = some r) :
    Calls Try.prog 16 #[.int .i64 a0, .int .i64 a1, .int .i64 a2] w fun e w' => e = .returned (.int .i64 r) ∧ Drawn0 w w' := by
  have H : (if (wrap64 ((wrap64 (a2 - a1)) + 1)) = 0 then (none) else (some (wrap64 (a1 + (Int.tmod (wrap64 ((Int.tmod a0 (wrap64 ((wrap64 (a2 - a1)) + 1))) + (wrap64 ((wrap64 (a2 - a1)) + 1)))) (wrap64 ((wrap64 (a2 - a1)) + 1))))))) = some r := h
  clear h
  by_cases c4 : (wrap64 ((wrap64 (a2 - a1)) + 1)) = 0
  · rw [if_pos c4] at H
    exact absurd H (by simp)
  · rw [if_neg c4] at H
    have c4b0 : ((wrap64 ((wrap64 (a2 - a1)) + 1)) == 0) = false := beq_eq_false_iff_ne.mpr c4
    have c4b1 : ((wrap64 ((wrap64 (a2 - a1)) + 1)) != 0) = true := bne_iff_ne.mpr c4
    obtain rfl := Option.some.inj H
    go_enter Try.func16, Try.ntmps16
    go_wp2
    go_ret
    exact ⟨by first | rfl | (simp; done) | (simp [*]; done), by repeat (first | exact Drawn0.refl _ | apply Drawn0.step)⟩

/-! ### skywaykeep2_square: function 33 -/
def skywaykeep2_square.f (a0_0 : Int) (a0_1 : Int) (a1_0 : Int) (a1_1 : Int) : Option (Int) := some (wrap64 ((wrap64 ((wrap64 (a0_0 - a1_0)) * (wrap64 (a0_0 - a1_0)))) + (wrap64 ((wrap64 (a0_1 - a1_1)) * (wrap64 (a0_1 - a1_1))))))
set_option maxHeartbeats 80000000 in
set_option maxRecDepth 100000 in
theorem skywaykeep2_square.calls (a0_0 : Int) (a0_1 : Int) (a1_0 : Int) (a1_1 : Int) (r : Int) (w : World) (h : skywaykeep2_square.f a0_0 a0_1 a1_0 a1_1 = some r) :
    Calls Try.prog 33 #[.agg #[.int .i64 a0_0, .int .i64 a0_1], .agg #[.int .i64 a1_0, .int .i64 a1_1]] w fun e w' => e = .returned (.int .i64 r) ∧ Below w.heap.size w w' := by
  have hu45 := Try.underlying45
  have HB := Aside0.mk (Below.refl w.heap.size w)
  have H : (some (wrap64 ((wrap64 ((wrap64 (a0_0 - a1_0)) * (wrap64 (a0_0 - a1_0)))) + (wrap64 ((wrap64 (a0_1 - a1_1)) * (wrap64 (a0_1 - a1_1))))))) = some r := h
  clear h
  obtain rfl := Option.some.inj H
  go_enter Try.func33, Try.ntmps33
  go_wp2_with (first | ((with_reducible refine gate_dst (N := 2) rfl ?_); refine box_event ?hg (N := 2) ?hd (cs := #[.int .i64 a0_0, .int .i64 a0_1]) (t := 45) ?hr ?_; (case hd => rfl); (case hg => rfl); (case hr => first | (go_simp; done) | (go_simp; rfl)); intro gb101 hg w3 hbox hb; have n0_ := Aside0.mk (below_step (by repeat (first | (with_reducible first | exact HB.out | apply below_alloc | apply pw_below_drewN | apply below_drew1) | exact HB.out)) hb); have n1_ := Aside0.mk (hbox); have n2_ := Aside0.mk ((by rw [hg]; exact (below_size (by repeat (first | (with_reducible first | exact HB.out | apply below_alloc | apply pw_below_drewN | apply below_drew1) | exact HB.out))) : w.heap.size ≤ gb101)); have n3_ := Aside0.mk ((by rw [hg]; exact (below_size (by repeat (first | (with_reducible first | exact HB.out | apply below_alloc | apply pw_below_drewN | apply below_drew1) | exact HB.out))) : w.heap.size ≤ gb101)); clear HB; have HB := n0_; have BK101 := n1_; have GW101 := n2_; have GE101 := n3_; clear n0_ n1_ n2_ n3_; clear hb hbox hg) | ((with_reducible refine gate_dst (N := 3) rfl ?_); refine box_event ?hg (N := 3) ?hd (cs := #[.int .i64 a1_0, .int .i64 a1_1]) (t := 45) ?hr ?_; (case hd => rfl); (case hg => rfl); (case hr => first | (go_simp; done) | (go_simp; rfl)); intro gb102 hg w4 hbox hb; have n0_ := Aside0.mk (blk_below (g := gb101) (by (with_reducible repeat (first | refine blk_drewN ?_ _ | refine blk_drew ?_ | refine blk_alloc ?_ _)); exact BK101.out) hb); have n1_ := Aside0.mk (below_step (by repeat (first | (with_reducible first | exact HB.out | apply below_alloc | apply pw_below_drewN | apply below_drew1 | refine below_set ?_ GE101.out) | exact HB.out)) hb); have n2_ := Aside0.mk (hbox); have n3_ := Aside0.mk ((by rw [hg]; exact (below_size (by repeat (first | (with_reducible first | exact HB.out | apply below_alloc | apply pw_below_drewN | apply below_drew1 | refine below_set ?_ GE101.out) | exact HB.out))) : w.heap.size ≤ gb102)); have n4_ := Aside0.mk ((by rw [hg]; exact (below_size (by repeat (first | (with_reducible first | exact HB.out | apply below_alloc | apply pw_below_drewN | apply below_drew1 | refine below_set ?_ GE101.out) | exact HB.out))) : w.heap.size ≤ gb102)); have n5_ := Aside0.mk ((by rw [hg]; exact Nat.ne_of_lt (blk_lt (g := gb101) (by (with_reducible repeat (first | refine blk_drewN ?_ _ | refine blk_drew ?_ | refine blk_alloc ?_ _)); exact BK101.out)) : gb101 ≠ gb102)); have n6_ := Aside0.mk ((by rw [hg]; exact Nat.ne_of_gt (blk_lt (g := gb101) (by (with_reducible repeat (first | refine blk_drewN ?_ _ | refine blk_drew ?_ | refine blk_alloc ?_ _)); exact BK101.out)) : gb102 ≠ gb101)); clear BK101; clear HB; have BK101 := n0_; have HB := n1_; have BK102 := n2_; have GW102 := n3_; have GE102 := n4_; have NB101_102 := n5_; have NB102_101 := n6_; clear n0_ n1_ n2_ n3_ n4_ n5_ n6_; clear hb hbox hg) | ((with_reducible refine gate_dst (N := 6) rfl ?_); refine ld_cell rfl (N := 6) rfl 3 _ rfl gb101 0 rfl (t := 45) (cs := #[.int .i64 a0_0, .int .i64 a0_1]) (fr := (0, 0)) (.int .i64 a0_0) (by (with_reducible repeat (first | refine blk_drewN ?_ _ | refine blk_drew ?_ | refine blk_alloc ?_ _)); exact BK101.out) Try.underlying3 rfl rfl ?_) | ((with_reducible refine gate_dst (N := 8) rfl ?_); refine ld_cell rfl (N := 8) rfl 3 _ rfl gb102 0 rfl (t := 45) (cs := #[.int .i64 a1_0, .int .i64 a1_1]) (fr := (0, 0)) (.int .i64 a1_0) (by (with_reducible repeat (first | refine blk_drewN ?_ _ | refine blk_drew ?_ | refine blk_alloc ?_ _)); exact BK102.out) Try.underlying3 rfl rfl ?_) | ((with_reducible refine gate_dst (N := 11) rfl ?_); refine ld_cell rfl (N := 11) rfl 3 _ rfl gb101 0 rfl (t := 45) (cs := #[.int .i64 a0_0, .int .i64 a0_1]) (fr := (0, 0)) (.int .i64 a0_0) (by (with_reducible repeat (first | refine blk_drewN ?_ _ | refine blk_drew ?_ | refine blk_alloc ?_ _)); exact BK101.out) Try.underlying3 rfl rfl ?_) | ((with_reducible refine gate_dst (N := 13) rfl ?_); refine ld_cell rfl (N := 13) rfl 3 _ rfl gb102 0 rfl (t := 45) (cs := #[.int .i64 a1_0, .int .i64 a1_1]) (fr := (0, 0)) (.int .i64 a1_0) (by (with_reducible repeat (first | refine blk_drewN ?_ _ | refine blk_drew ?_ | refine blk_alloc ?_ _)); exact BK102.out) Try.underlying3 rfl rfl ?_) | ((with_reducible refine gate_dst (N := 17) rfl ?_); refine ld_cell rfl (N := 17) rfl 3 _ rfl gb101 1 rfl (t := 45) (cs := #[.int .i64 a0_0, .int .i64 a0_1]) (fr := (0, 0)) (.int .i64 a0_1) (by (with_reducible repeat (first | refine blk_drewN ?_ _ | refine blk_drew ?_ | refine blk_alloc ?_ _)); exact BK101.out) Try.underlying3 rfl rfl ?_) | ((with_reducible refine gate_dst (N := 19) rfl ?_); refine ld_cell rfl (N := 19) rfl 3 _ rfl gb102 1 rfl (t := 45) (cs := #[.int .i64 a1_0, .int .i64 a1_1]) (fr := (0, 0)) (.int .i64 a1_1) (by (with_reducible repeat (first | refine blk_drewN ?_ _ | refine blk_drew ?_ | refine blk_alloc ?_ _)); exact BK102.out) Try.underlying3 rfl rfl ?_) | ((with_reducible refine gate_dst (N := 22) rfl ?_); refine ld_cell rfl (N := 22) rfl 3 _ rfl gb101 1 rfl (t := 45) (cs := #[.int .i64 a0_0, .int .i64 a0_1]) (fr := (0, 0)) (.int .i64 a0_1) (by (with_reducible repeat (first | refine blk_drewN ?_ _ | refine blk_drew ?_ | refine blk_alloc ?_ _)); exact BK101.out) Try.underlying3 rfl rfl ?_) | ((with_reducible refine gate_dst (N := 24) rfl ?_); refine ld_cell rfl (N := 24) rfl 3 _ rfl gb102 1 rfl (t := 45) (cs := #[.int .i64 a1_0, .int .i64 a1_1]) (fr := (0, 0)) (.int .i64 a1_1) (by (with_reducible repeat (first | refine blk_drewN ?_ _ | refine blk_drew ?_ | refine blk_alloc ?_ _)); exact BK102.out) Try.underlying3 rfl rfl ?_))
  go_ret
  exact ⟨by first | rfl | (simp [errW_none, errW_some] <;> rfl) | (simp [*, errW_none, errW_some] <;> rfl), by repeat (first | (with_reducible first | exact HB.out | apply below_alloc | apply pw_below_drewN | apply below_drew1 | refine below_set ?_ GE101.out | refine below_set ?_ GE102.out) | exact HB.out)⟩

/-! ### plane_Check: function 63 -/
def plane_Check.f (a0_0 : Int) (a0_1 : Int) : Option (Int) := if a0_0 < (-1000000) then (some 4) else (if a0_0 > 1000000 then (some 4) else (if a0_1 < (-1000000) then (some 4) else (if a0_1 > 1000000 then (some 4) else (some 0))))
set_option maxHeartbeats 80000000 in
set_option maxRecDepth 100000 in
theorem plane_Check.calls (a0_0 : Int) (a0_1 : Int) (r : Int) (w : World) (h : plane_Check.f a0_0 a0_1 = some r) :
    Calls Try.prog 63 #[.agg #[.int .i64 a0_0, .int .i64 a0_1]] w fun e w' => e = .returned (.int .i64 r) ∧ Below w.heap.size w w' := by
  have hu45 := Try.underlying45
  have HB := Aside0.mk (Below.refl w.heap.size w)
  have H : (if a0_0 < (-1000000) then (some 4) else (if a0_0 > 1000000 then (some 4) else (if a0_1 < (-1000000) then (some 4) else (if a0_1 > 1000000 then (some 4) else (some 0))))) = some r := h
  clear h
  by_cases c2 : a0_0 < (-1000000)
  · rw [if_pos c2] at H
    have c2b0 : decide (a0_0 < (-1000000)) = true := decide_eq_true c2
    clear c2
    obtain rfl := Option.some.inj H
    go_enter Try.func63, Try.ntmps63
    go_wp2_with (first | ((with_reducible refine gate_dst (N := 1) rfl ?_); refine box_event ?hg (N := 1) ?hd (cs := #[.int .i64 a0_0, .int .i64 a0_1]) (t := 45) ?hr ?_; (case hd => rfl); (case hg => rfl); (case hr => first | (go_simp; done) | (go_simp; rfl)); intro gb103 hg w3 hbox hb; have n0_ := Aside0.mk (below_step (by repeat (first | (with_reducible first | exact HB.out | apply below_alloc | apply pw_below_drewN | apply below_drew1) | exact HB.out)) hb); have n1_ := Aside0.mk (hbox); have n2_ := Aside0.mk ((by rw [hg]; exact (below_size (by repeat (first | (with_reducible first | exact HB.out | apply below_alloc | apply pw_below_drewN | apply below_drew1) | exact HB.out))) : w.heap.size ≤ gb103)); have n3_ := Aside0.mk ((by rw [hg]; exact (below_size (by repeat (first | (with_reducible first | exact HB.out | apply below_alloc | apply pw_below_drewN | apply below_drew1) | exact HB.out))) : w.heap.size ≤ gb103)); clear HB; have HB := n0_; have BK103 := n1_; have GW103 := n2_; have GE103 := n3_; clear n0_ n1_ n2_ n3_; clear hb hbox hg) | ((with_reducible refine gate_dst (N := 4) rfl ?_); refine ld_cell rfl (N := 4) rfl 3 _ rfl gb103 0 rfl (t := 45) (cs := #[.int .i64 a0_0, .int .i64 a0_1]) (fr := (0, 0)) (.int .i64 a0_0) (by (with_reducible repeat (first | refine blk_drewN ?_ _ | refine blk_drew ?_ | refine blk_alloc ?_ _)); exact BK103.out) Try.underlying3 rfl rfl ?_))
    go_ret
    exact ⟨by first | rfl | (simp [errW_none, errW_some] <;> rfl) | (simp [*, errW_none, errW_some] <;> rfl), by repeat (first | (with_reducible first | exact HB.out | apply below_alloc | apply pw_below_drewN | apply below_drew1 | refine below_set ?_ GE103.out) | exact HB.out)⟩
  · rw [if_neg c2] at H
    have c2b0 : decide (a0_0 < (-1000000)) = false := decide_eq_false c2
    clear c2
    by_cases c4 : a0_0 > 1000000
    · rw [if_pos c4] at H
      have c4b0 : decide (1000000 < a0_0) = true := decide_eq_true c4
      clear c4
      obtain rfl := Option.some.inj H
      go_enter Try.func63, Try.ntmps63
      go_wp2_with (first | ((with_reducible refine gate_dst (N := 1) rfl ?_); refine box_event ?hg (N := 1) ?hd (cs := #[.int .i64 a0_0, .int .i64 a0_1]) (t := 45) ?hr ?_; (case hd => rfl); (case hg => rfl); (case hr => first | (go_simp; done) | (go_simp; rfl)); intro gb103 hg w5 hbox hb; have n0_ := Aside0.mk (below_step (by repeat (first | (with_reducible first | exact HB.out | apply below_alloc | apply pw_below_drewN | apply below_drew1) | exact HB.out)) hb); have n1_ := Aside0.mk (hbox); have n2_ := Aside0.mk ((by rw [hg]; exact (below_size (by repeat (first | (with_reducible first | exact HB.out | apply below_alloc | apply pw_below_drewN | apply below_drew1) | exact HB.out))) : w.heap.size ≤ gb103)); have n3_ := Aside0.mk ((by rw [hg]; exact (below_size (by repeat (first | (with_reducible first | exact HB.out | apply below_alloc | apply pw_below_drewN | apply below_drew1) | exact HB.out))) : w.heap.size ≤ gb103)); clear HB; have HB := n0_; have BK103 := n1_; have GW103 := n2_; have GE103 := n3_; clear n0_ n1_ n2_ n3_; clear hb hbox hg; obtain ⟨hcz6_0, hfz6_0⟩ := blkc2 BK103.out) | ((with_reducible refine gate_dst (N := 4) rfl ?_); refine ld_cell rfl (N := 4) rfl 3 _ rfl gb103 0 rfl (t := 45) (cs := #[.int .i64 a0_0, .int .i64 a0_1]) (fr := (0, 0)) (.int .i64 a0_0) (by (with_reducible repeat (first | refine blk_drewN ?_ _ | refine blk_drew ?_ | refine blk_alloc ?_ _)); exact BK103.out) Try.underlying3 rfl rfl ?_))
      go_ret
      exact ⟨by first | rfl | (simp [errW_none, errW_some] <;> rfl) | (simp [*, errW_none, errW_some] <;> rfl), by repeat (first | (with_reducible first | exact HB.out | apply below_alloc | apply pw_below_drewN | apply below_drew1 | refine below_set ?_ GE103.out) | exact HB.out)⟩
    · rw [if_neg c4] at H
      have c4b0 : decide (1000000 < a0_0) = false := decide_eq_false c4
      clear c4
      by_cases c7 : a0_1 < (-1000000)
      · rw [if_pos c7] at H
        have c7b0 : decide (a0_1 < (-1000000)) = true := decide_eq_true c7
        clear c7
        obtain rfl := Option.some.inj H
        go_enter Try.func63, Try.ntmps63
        go_wp2_with (first | ((with_reducible refine gate_dst (N := 1) rfl ?_); refine box_event ?hg (N := 1) ?hd (cs := #[.int .i64 a0_0, .int .i64 a0_1]) (t := 45) ?hr ?_; (case hd => rfl); (case hg => rfl); (case hr => first | (go_simp; done) | (go_simp; rfl)); intro gb103 hg w8 hbox hb; have n0_ := Aside0.mk (below_step (by repeat (first | (with_reducible first | exact HB.out | apply below_alloc | apply pw_below_drewN | apply below_drew1) | exact HB.out)) hb); have n1_ := Aside0.mk (hbox); have n2_ := Aside0.mk ((by rw [hg]; exact (below_size (by repeat (first | (with_reducible first | exact HB.out | apply below_alloc | apply pw_below_drewN | apply below_drew1) | exact HB.out))) : w.heap.size ≤ gb103)); have n3_ := Aside0.mk ((by rw [hg]; exact (below_size (by repeat (first | (with_reducible first | exact HB.out | apply below_alloc | apply pw_below_drewN | apply below_drew1) | exact HB.out))) : w.heap.size ≤ gb103)); clear HB; have HB := n0_; have BK103 := n1_; have GW103 := n2_; have GE103 := n3_; clear n0_ n1_ n2_ n3_; clear hb hbox hg; obtain ⟨hcz9_0, hfz9_0⟩ := blkc2 BK103.out) | ((with_reducible refine gate_dst (N := 4) rfl ?_); refine ld_cell rfl (N := 4) rfl 3 _ rfl gb103 0 rfl (t := 45) (cs := #[.int .i64 a0_0, .int .i64 a0_1]) (fr := (0, 0)) (.int .i64 a0_0) (by (with_reducible repeat (first | refine blk_drewN ?_ _ | refine blk_drew ?_ | refine blk_alloc ?_ _)); exact BK103.out) Try.underlying3 rfl rfl ?_))
        go_ret
        exact ⟨by first | rfl | (simp [errW_none, errW_some] <;> rfl) | (simp [*, errW_none, errW_some] <;> rfl), by repeat (first | (with_reducible first | exact HB.out | apply below_alloc | apply pw_below_drewN | apply below_drew1 | refine below_set ?_ GE103.out) | exact HB.out)⟩
      · rw [if_neg c7] at H
        have c7b0 : decide (a0_1 < (-1000000)) = false := decide_eq_false c7
        clear c7
        by_cases c10 : a0_1 > 1000000
        · rw [if_pos c10] at H
          have c10b0 : decide (1000000 < a0_1) = true := decide_eq_true c10
          clear c10
          obtain rfl := Option.some.inj H
          go_enter Try.func63, Try.ntmps63
          go_wp2_with (first | ((with_reducible refine gate_dst (N := 1) rfl ?_); refine box_event ?hg (N := 1) ?hd (cs := #[.int .i64 a0_0, .int .i64 a0_1]) (t := 45) ?hr ?_; (case hd => rfl); (case hg => rfl); (case hr => first | (go_simp; done) | (go_simp; rfl)); intro gb103 hg w11 hbox hb; have n0_ := Aside0.mk (below_step (by repeat (first | (with_reducible first | exact HB.out | apply below_alloc | apply pw_below_drewN | apply below_drew1) | exact HB.out)) hb); have n1_ := Aside0.mk (hbox); have n2_ := Aside0.mk ((by rw [hg]; exact (below_size (by repeat (first | (with_reducible first | exact HB.out | apply below_alloc | apply pw_below_drewN | apply below_drew1) | exact HB.out))) : w.heap.size ≤ gb103)); have n3_ := Aside0.mk ((by rw [hg]; exact (below_size (by repeat (first | (with_reducible first | exact HB.out | apply below_alloc | apply pw_below_drewN | apply below_drew1) | exact HB.out))) : w.heap.size ≤ gb103)); clear HB; have HB := n0_; have BK103 := n1_; have GW103 := n2_; have GE103 := n3_; clear n0_ n1_ n2_ n3_; clear hb hbox hg; obtain ⟨hcz12_0, hfz12_0⟩ := blkc2 BK103.out) | ((with_reducible refine gate_dst (N := 4) rfl ?_); refine ld_cell rfl (N := 4) rfl 3 _ rfl gb103 0 rfl (t := 45) (cs := #[.int .i64 a0_0, .int .i64 a0_1]) (fr := (0, 0)) (.int .i64 a0_0) (by (with_reducible repeat (first | refine blk_drewN ?_ _ | refine blk_drew ?_ | refine blk_alloc ?_ _)); exact BK103.out) Try.underlying3 rfl rfl ?_))
          go_ret
          exact ⟨by first | rfl | (simp [errW_none, errW_some] <;> rfl) | (simp [*, errW_none, errW_some] <;> rfl), by repeat (first | (with_reducible first | exact HB.out | apply below_alloc | apply pw_below_drewN | apply below_drew1 | refine below_set ?_ GE103.out) | exact HB.out)⟩
        · rw [if_neg c10] at H
          have c10b0 : decide (1000000 < a0_1) = false := decide_eq_false c10
          clear c10
          obtain rfl := Option.some.inj H
          go_enter Try.func63, Try.ntmps63
          go_wp2_with (first | ((with_reducible refine gate_dst (N := 1) rfl ?_); refine box_event ?hg (N := 1) ?hd (cs := #[.int .i64 a0_0, .int .i64 a0_1]) (t := 45) ?hr ?_; (case hd => rfl); (case hg => rfl); (case hr => first | (go_simp; done) | (go_simp; rfl)); intro gb103 hg w13 hbox hb; have n0_ := Aside0.mk (below_step (by repeat (first | (with_reducible first | exact HB.out | apply below_alloc | apply pw_below_drewN | apply below_drew1) | exact HB.out)) hb); have n1_ := Aside0.mk (hbox); have n2_ := Aside0.mk ((by rw [hg]; exact (below_size (by repeat (first | (with_reducible first | exact HB.out | apply below_alloc | apply pw_below_drewN | apply below_drew1) | exact HB.out))) : w.heap.size ≤ gb103)); have n3_ := Aside0.mk ((by rw [hg]; exact (below_size (by repeat (first | (with_reducible first | exact HB.out | apply below_alloc | apply pw_below_drewN | apply below_drew1) | exact HB.out))) : w.heap.size ≤ gb103)); clear HB; have HB := n0_; have BK103 := n1_; have GW103 := n2_; have GE103 := n3_; clear n0_ n1_ n2_ n3_; clear hb hbox hg; obtain ⟨hcz14_0, hfz14_0⟩ := blkc2 BK103.out) | ((with_reducible refine gate_dst (N := 4) rfl ?_); refine ld_cell rfl (N := 4) rfl 3 _ rfl gb103 0 rfl (t := 45) (cs := #[.int .i64 a0_0, .int .i64 a0_1]) (fr := (0, 0)) (.int .i64 a0_0) (by (with_reducible repeat (first | refine blk_drewN ?_ _ | refine blk_drew ?_ | refine blk_alloc ?_ _)); exact BK103.out) Try.underlying3 rfl rfl ?_))
          go_ret
          exact ⟨by first | rfl | (simp [errW_none, errW_some] <;> rfl) | (simp [*, errW_none, errW_some] <;> rfl), by repeat (first | (with_reducible first | exact HB.out | apply below_alloc | apply pw_below_drewN | apply below_drew1 | refine below_set ?_ GE103.out) | exact HB.out)⟩

/-! ### tube_Check: function 38 -/
mutual
def tube_Check.l0 : Nat → List (S82) → List (S82) → Int → Int → Option (Int)
  | 0, _, _, _, _ => none
  | k + 1, x0, x14, x15, x16 => if x16 < x15 then (if 0 ≤ x16 then (if x16 < (x14.length : Int) then (if ((rd_T82 x14 x16).f0.f0) < 0 then (tube_Check.j1 k x0 x14 x15 x16 true ((rd_T82 x14 x16).f0.f0) ((rd_T82 x14 x16).f0.f1.f0) ((rd_T82 x14 x16).f0.f1.f1) ((rd_T82 x14 x16).f0.f2) ((rd_T82 x14 x16).f1) ((rd_T82 x14 x16).f2)) else (if ((rd_T82 x14 x16).f0.f0) > 200000 then (tube_Check.j1 k x0 x14 x15 x16 true ((rd_T82 x14 x16).f0.f0) ((rd_T82 x14 x16).f0.f1.f0) ((rd_T82 x14 x16).f0.f1.f1) ((rd_T82 x14 x16).f0.f2) ((rd_T82 x14 x16).f1) ((rd_T82 x14 x16).f2)) else (if x16 > 0 then (if 0 ≤ (wrap64 (x16 - 1)) then (if (wrap64 (x16 - 1)) < (x0.length : Int) then (tube_Check.j1 k x0 x14 x15 x16 (decide (((rd_T82 x14 x16).f0.f0) ≤ ((rd_T82 x0 (wrap64 (x16 - 1))).f0.f0))) ((rd_T82 x14 x16).f0.f0) ((rd_T82 x14 x16).f0.f1.f0) ((rd_T82 x14 x16).f0.f1.f1) ((rd_T82 x14 x16).f0.f2) ((rd_T82 x14 x16).f1) ((rd_T82 x14 x16).f2)) else (none)) else (none)) else (tube_Check.j1 k x0 x14 x15 x16 false ((rd_T82 x14 x16).f0.f0) ((rd_T82 x14 x16).f0.f1.f0) ((rd_T82 x14 x16).f0.f1.f1) ((rd_T82 x14 x16).f0.f2) ((rd_T82 x14 x16).f1) ((rd_T82 x14 x16).f2))))) else (none)) else (none)) else (some 0)
def tube_Check.j1 : Nat → List (S82) → List (S82) → Int → Int → Bool → Int → Int → Int → Int → Int → Int → Option (Int)
  | 0, _, _, _, _, _, _, _, _, _, _, _ => none
  | k + 1, x0, x14, x15, x16, x47, x106000, x106001, x106002, x106003, x106004, x106005 => if x47 = true then (some 12) else ((plane_Check.f x106001 x106002).bind fun t107 => (if t107 = 0 then (if x106003 < 0 then (some 4) else (if x106003 > 60000 then (some 4) else (if x106004 < 0 then (some 4) else (if x106004 > 1000000 then (some 4) else (if x106005 < 0 then (some 4) else (if x106005 > 60000 then (some 4) else (tube_Check.l0 k x0 x14 x15 (wrap64 (x16 + 1))))))))) else (some t107)))
end
def tube_Check.f (k : Nat) (l0 : List (S82)) : Option (Int) := if (l0.length : Int) > 64 then (some 2) else (if (l0.length : Int) = 0 then (some 3) else (tube_Check.l0 k l0 l0 (l0.length : Int) 0))
theorem tube_Check.mono_l : ∀ k, (∀ y0 y1 y2 y3, LeO (tube_Check.l0 k y0 y1 y2 y3) (tube_Check.l0 (k + 1) y0 y1 y2 y3)) ∧ (∀ y0 y1 y2 y3 y4 y5 y6 y7 y8 y9 y10, LeO (tube_Check.j1 k y0 y1 y2 y3 y4 y5 y6 y7 y8 y9 y10) (tube_Check.j1 (k + 1) y0 y1 y2 y3 y4 y5 y6 y7 y8 y9 y10))
  | 0 => ⟨fun _ _ _ _ r h => by simp [tube_Check.l0] at h, fun _ _ _ _ _ _ _ _ _ _ _ r h => by simp [tube_Check.j1] at h⟩
  | k + 1 => by
    obtain ⟨ih0, ih1⟩ := tube_Check.mono_l k
    refine ⟨?_, ?_⟩
    · intro y0 y1 y2 y3
      unfold tube_Check.l0
      repeat' first
      | (with_reducible exact ih0 _ _ _ _)
      | (with_reducible exact ih1 _ _ _ _ _ _ _ _ _ _ _)
      | (with_reducible exact LeO.refl _)
      | (with_reducible exact LeO.none _)
      | (with_reducible refine LeO.ite ?_ ?_)
      | (with_reducible refine LeO.bind ?_ (fun _ => ?_))
      | exact ih0 _ _ _ _
      | exact ih1 _ _ _ _ _ _ _ _ _ _ _
      | exact LeO.none _
      | refine LeO.ite ?_ ?_
      | refine LeO.bind ?_ (fun _ => ?_)
    · intro y0 y1 y2 y3 y4 y5 y6 y7 y8 y9 y10
      unfold tube_Check.j1
      repeat' first
      | (with_reducible exact ih0 _ _ _ _)
      | (with_reducible exact ih1 _ _ _ _ _ _ _ _ _ _ _)
      | (with_reducible exact LeO.refl _)
      | (with_reducible exact LeO.none _)
      | (with_reducible refine LeO.ite ?_ ?_)
      | (with_reducible refine LeO.bind ?_ (fun _ => ?_))
      | exact ih0 _ _ _ _
      | exact ih1 _ _ _ _ _ _ _ _ _ _ _
      | exact LeO.none _
      | refine LeO.ite ?_ ?_
      | refine LeO.bind ?_ (fun _ => ?_)
theorem tube_Check.mono : ∀ a0 k, LeO (tube_Check.f k a0) (tube_Check.f (k + 1) a0) := by
  intro a0 k
  obtain ⟨ih0, ih1⟩ := tube_Check.mono_l k
  unfold tube_Check.f
  repeat' first
      | (with_reducible exact ih0 _ _ _ _)
      | (with_reducible exact ih1 _ _ _ _ _ _ _ _ _ _ _)
      | (with_reducible exact LeO.refl _)
      | (with_reducible exact LeO.none _)
      | (with_reducible refine LeO.ite ?_ ?_)
      | (with_reducible refine LeO.bind ?_ (fun _ => ?_))
      | exact ih0 _ _ _ _
      | exact ih1 _ _ _ _ _ _ _ _ _ _ _
      | exact LeO.none _
      | refine LeO.ite ?_ ?_
      | refine LeO.bind ?_ (fun _ => ?_)
set_option maxHeartbeats 80000000 in
set_option maxRecDepth 100000 in
theorem tube_Check.calls (k : Nat) (A0 : Option Addr) (c0 : Nat) (l0 : List (S82)) (r : Int) (w : World) (hr0 : Kd.C k82 w A0 l0.length l0) (hc0 : l0.length ≤ c0) (h : tube_Check.f k l0 = some r) :
    Calls Try.prog 38 #[.slice A0 l0.length c0] w fun e w' => e = .returned (.int .i64 r) ∧ Below w.heap.size w w' := by
  have hu82 := Try.underlying82
  have hu45 := Try.underlying45
  have HR0 := Aside0.mk hr0
  have HC0 := Aside0.mk hc0
  clear hr0 hc0
  have HB := Aside0.mk (Below.refl w.heap.size w)
  have H : (if (l0.length : Int) > 64 then (some 2) else (if (l0.length : Int) = 0 then (some 3) else (tube_Check.l0 k l0 l0 (l0.length : Int) 0))) = some r := h
  clear h
  by_cases c2 : (l0.length : Int) > 64
  · rw [if_pos c2] at H
    have c2b0 : decide (64 < (l0.length : Int)) = true := decide_eq_true c2
    have c2b1 : decide (64 < l0.length) = true := decide_eq_true (by omega)
    clear c2
    obtain rfl := Option.some.inj H
    go_enter Try.func38, Try.ntmps38
    go_wp2
    repeat (go_quiet (fail); try go_wp2)
    go_ret
    exact ⟨by first | rfl | (simp [errW_none, errW_some] <;> rfl) | (simp [*, errW_none, errW_some] <;> rfl), by repeat (first | (with_reducible first | exact HB.out | apply below_alloc | apply pw_below_drewN | apply below_drew1) | exact HB.out)⟩
  · rw [if_neg c2] at H
    have c2b0 : decide (64 < (l0.length : Int)) = false := decide_eq_false c2
    have c2b1 : decide (64 < l0.length) = false := decide_eq_false (by omega)
    clear c2
    by_cases c3 : (l0.length : Int) = 0
    · rw [if_pos c3] at H
      have c3b0 : ((l0.length : Int) == 0) = true := beq_iff_eq.mpr c3
      have c3b1 : ((l0.length : Int) != 0) = false := bne_eq_false_iff_eq.mpr c3
      clear c3
      obtain rfl := Option.some.inj H
      go_enter Try.func38, Try.ntmps38
      go_wp2
      repeat (go_quiet (fail); try go_wp2)
      go_ret
      exact ⟨by first | rfl | (simp [errW_none, errW_some] <;> rfl) | (simp [*, errW_none, errW_some] <;> rfl), by repeat (first | (with_reducible first | exact HB.out | apply below_alloc | apply pw_below_drewN | apply below_drew1) | exact HB.out)⟩
    · rw [if_neg c3] at H
      have c3b0 : ((l0.length : Int) == 0) = false := beq_eq_false_iff_ne.mpr c3
      have c3b1 : ((l0.length : Int) != 0) = true := bne_iff_ne.mpr c3
      have c3b2 : ¬ (l0 = []) := fun h_ => c3 (by rw [h_]; rfl)
      have H' := Aside0.mk H
      clear H
      go_enter Try.func38, Try.ntmps38
      go_wp2
      repeat (go_quiet (fail); try go_wp2)
      go_loopg [16] k (fun kq v16 w' => ∃ (x16_1 : Int), v16 = .int .i64 x16_1 ∧ Aside0 (tube_Check.l0 kq l0 l0 (l0.length : Int) x16_1 = some r) ∧ Aside0 (kq ≤ k) ∧ Aside0 (Below w.heap.size w w'))
      case atStart => exact ⟨(0), (by first | rfl | (simp; done) | (simp [*]; done)), H', ⟨Nat.le_refl _⟩, ⟨by repeat (first | (with_reducible first | exact HB.out | apply below_alloc | apply pw_below_drewN | apply below_drew1) | exact HB.out)⟩⟩
      case round =>
        clear H'
        try clear c2
        try clear c2b0
        try clear c2b1
        try clear p2
        try clear c3
        try clear c3b0
        try clear c3b1
        try clear c3b2
        obtain ⟨x16_1, rfl, HA, HK1, HB⟩ := hrel
        cases gk with
        | zero => exact absurd HA.out (by simp [tube_Check.l0])
        | succ k1 =>
          have H := HA.out
          clear HA
          simp only [tube_Check.l0] at H
          by_cases c4 : x16_1 < (l0.length : Int)
          · rw [if_pos c4] at H
            have c4b0 : decide (x16_1 < (l0.length : Int)) = true := decide_eq_true c4
            clear c4
            by_cases c5 : 0 ≤ x16_1
            · rw [if_pos c5] at H
              have c5b0 : decide (0 ≤ x16_1) = true := decide_eq_true c5
              clear c5
              by_cases c6 : x16_1 < (l0.length : Int)
              · rw [if_pos c6] at H
                have c6b0 : decide (x16_1 < (l0.length : Int)) = true := decide_eq_true c6
                clear c6
                have HC7 := Aside0.mk H
                clear H
                have p104 : 0 ≤ (x16_1 : Int) := of_decide_eq_true (by first | (with_reducible assumption) | assumption)
                have q104 : x16_1 < (l0.length : Int) := of_decide_eq_true (by first | (with_reducible assumption) | assumption)
                obtain ⟨ad104, e104, hx104_0, hx104_1, hx104_2, hx104_3, hx104_4, hx104_5⟩ := at_T82 HR0.out x16_1 p104 q104
                cases e104
                replace hx104_0 := (HB.out.cell (World.block_lt_of_cell? w _ hx104_0)).trans hx104_0
                replace hx104_1 := (HB.out.cell (World.block_lt_of_cell? w _ hx104_1)).trans hx104_1
                replace hx104_2 := (HB.out.cell (World.block_lt_of_cell? w _ hx104_2)).trans hx104_2
                replace hx104_3 := (HB.out.cell (World.block_lt_of_cell? w _ hx104_3)).trans hx104_3
                replace hx104_4 := (HB.out.cell (World.block_lt_of_cell? w _ hx104_4)).trans hx104_4
                replace hx104_5 := (HB.out.cell (World.block_lt_of_cell? w _ hx104_5)).trans hx104_5
                replace p104 := eq_true p104
                replace q104 := eq_true q104
                go_upto_region 8 with (first | ((with_reducible refine gate_dst (N := 4) rfl ?_); refine box_event ?hg (N := 4) ?hd (cs := #[.int .i64 0, .int .i64 0, .int .i64 0, .int .i64 0, .int .i64 0, .int .i64 0]) (t := 82) ?hr ?_; (case hd => rfl); (case hg => rfl); (case hr => first | (go_simp; done) | (go_simp; rfl)); intro gb105 hg w8 hbox hb; have n0_ := Aside0.mk (below_step (by repeat (first | (with_reducible first | exact HB.out | apply below_alloc | apply pw_below_drewN | apply below_drew1) | exact HB.out)) hb); have n1_ := Aside0.mk (hbox); have n2_ := Aside0.mk ((by rw [hg]; exact (below_size (by repeat (first | (with_reducible first | exact HB.out | apply below_alloc | apply pw_below_drewN | apply below_drew1) | exact HB.out))) : w.heap.size ≤ gb105)); have n3_ := Aside0.mk ((by rw [hg]; exact (below_size (by repeat (first | (with_reducible first | exact HB.out | apply below_alloc | apply pw_below_drewN | apply below_drew1) | exact HB.out))) : w.heap.size ≤ gb105)); clear HB; have HB := n0_; have BK105 := n1_; have GW105 := n2_; have GE105 := n3_; clear n0_ n1_ n2_ n3_; clear hb hbox hg) | ((with_reducible refine gate_store (t := 82) (p := 4) rfl ?_); (try (rw [drewN_self w8]; generalize hq_ : World.drewN w8 _ = w8; have n0_ := Aside0.mk (blk_at hq_ BK105.out); have n1_ := Aside0.mk (below_at hq_ HB.out); clear hq_ BK105 HB; have BK105 := n0_; have HB := n1_; clear n0_ n1_)); refine st_row rfl rfl 82 4 _ rfl gb105 0 rfl (t := 82) (cs := #[.int .i64 0, .int .i64 0, .int .i64 0, .int .i64 0, .int .i64 0, .int .i64 0]) [.int .i64 ((rd_T82 l0 x16_1).f0.f0), .int .i64 ((rd_T82 l0 x16_1).f0.f1.f0), .int .i64 ((rd_T82 l0 x16_1).f0.f1.f1), .int .i64 ((rd_T82 l0 x16_1).f0.f2), .int .i64 ((rd_T82 l0 x16_1).f1), .int .i64 ((rd_T82 l0 x16_1).f2)] _ rfl rfl isz82 (by (with_reducible repeat (first | refine blk_drewN ?_ _ | refine blk_drew ?_ | refine blk_alloc ?_ _)); exact BK105.out) (Nat.le_of_ble_eq_true rfl) rfl #[.int .i64 ((rd_T82 l0 x16_1).f0.f0), .int .i64 ((rd_T82 l0 x16_1).f0.f1.f0), .int .i64 ((rd_T82 l0 x16_1).f0.f1.f1), .int .i64 ((rd_T82 l0 x16_1).f0.f2), .int .i64 ((rd_T82 l0 x16_1).f1), .int .i64 ((rd_T82 l0 x16_1).f2)] rfl ?_; intro w9 hx_ hy_ hz_; have n0_ := Aside0.mk (hx_); have n1_ := Aside0.mk (hz_ _ _ (by repeat (first | (with_reducible first | exact HB.out | apply below_alloc | apply pw_below_drewN | apply below_drew1 | refine below_set ?_ GE105.out) | exact HB.out)) GE105.out); clear BK105; clear HB; have BK105 := n0_; have HB := n1_; clear n0_ n1_; clear hx_ hy_ hz_))
                repeat (go_quiet (first | ((with_reducible refine gate_dst (N := 4) rfl ?_); refine box_event ?hg (N := 4) ?hd (cs := #[.int .i64 0, .int .i64 0, .int .i64 0, .int .i64 0, .int .i64 0, .int .i64 0]) (t := 82) ?hr ?_; (case hd => rfl); (case hg => rfl); (case hr => first | (go_simp; done) | (go_simp; rfl)); intro gb105 hg w8 hbox hb; have n0_ := Aside0.mk (below_step (by repeat (first | (with_reducible first | exact HB.out | apply below_alloc | apply pw_below_drewN | apply below_drew1) | exact HB.out)) hb); have n1_ := Aside0.mk (hbox); have n2_ := Aside0.mk ((by rw [hg]; exact (below_size (by repeat (first | (with_reducible first | exact HB.out | apply below_alloc | apply pw_below_drewN | apply below_drew1) | exact HB.out))) : w.heap.size ≤ gb105)); have n3_ := Aside0.mk ((by rw [hg]; exact (below_size (by repeat (first | (with_reducible first | exact HB.out | apply below_alloc | apply pw_below_drewN | apply below_drew1) | exact HB.out))) : w.heap.size ≤ gb105)); clear HB; have HB := n0_; have BK105 := n1_; have GW105 := n2_; have GE105 := n3_; clear n0_ n1_ n2_ n3_; clear hb hbox hg) | ((with_reducible refine gate_store (t := 82) (p := 4) rfl ?_); (try (rw [drewN_self w8]; generalize hq_ : World.drewN w8 _ = w8; have n0_ := Aside0.mk (blk_at hq_ BK105.out); have n1_ := Aside0.mk (below_at hq_ HB.out); clear hq_ BK105 HB; have BK105 := n0_; have HB := n1_; clear n0_ n1_)); refine st_row rfl rfl 82 4 _ rfl gb105 0 rfl (t := 82) (cs := #[.int .i64 0, .int .i64 0, .int .i64 0, .int .i64 0, .int .i64 0, .int .i64 0]) [.int .i64 ((rd_T82 l0 x16_1).f0.f0), .int .i64 ((rd_T82 l0 x16_1).f0.f1.f0), .int .i64 ((rd_T82 l0 x16_1).f0.f1.f1), .int .i64 ((rd_T82 l0 x16_1).f0.f2), .int .i64 ((rd_T82 l0 x16_1).f1), .int .i64 ((rd_T82 l0 x16_1).f2)] _ rfl rfl isz82 (by (with_reducible repeat (first | refine blk_drewN ?_ _ | refine blk_drew ?_ | refine blk_alloc ?_ _)); exact BK105.out) (Nat.le_of_ble_eq_true rfl) rfl #[.int .i64 ((rd_T82 l0 x16_1).f0.f0), .int .i64 ((rd_T82 l0 x16_1).f0.f1.f0), .int .i64 ((rd_T82 l0 x16_1).f0.f1.f1), .int .i64 ((rd_T82 l0 x16_1).f0.f2), .int .i64 ((rd_T82 l0 x16_1).f1), .int .i64 ((rd_T82 l0 x16_1).f2)] rfl ?_; intro w9 hx_ hy_ hz_; have n0_ := Aside0.mk (hx_); have n1_ := Aside0.mk (hz_ _ _ (by repeat (first | (with_reducible first | exact HB.out | apply below_alloc | apply pw_below_drewN | apply below_drew1 | refine below_set ?_ GE105.out) | exact HB.out)) GE105.out); clear BK105; clear HB; have BK105 := n0_; have HB := n1_; clear n0_ n1_; clear hx_ hy_ hz_)); go_upto_region 8 with (first | ((with_reducible refine gate_dst (N := 4) rfl ?_); refine box_event ?hg (N := 4) ?hd (cs := #[.int .i64 0, .int .i64 0, .int .i64 0, .int .i64 0, .int .i64 0, .int .i64 0]) (t := 82) ?hr ?_; (case hd => rfl); (case hg => rfl); (case hr => first | (go_simp; done) | (go_simp; rfl)); intro gb105 hg w8 hbox hb; have n0_ := Aside0.mk (below_step (by repeat (first | (with_reducible first | exact HB.out | apply below_alloc | apply pw_below_drewN | apply below_drew1) | exact HB.out)) hb); have n1_ := Aside0.mk (hbox); have n2_ := Aside0.mk ((by rw [hg]; exact (below_size (by repeat (first | (with_reducible first | exact HB.out | apply below_alloc | apply pw_below_drewN | apply below_drew1) | exact HB.out))) : w.heap.size ≤ gb105)); have n3_ := Aside0.mk ((by rw [hg]; exact (below_size (by repeat (first | (with_reducible first | exact HB.out | apply below_alloc | apply pw_below_drewN | apply below_drew1) | exact HB.out))) : w.heap.size ≤ gb105)); clear HB; have HB := n0_; have BK105 := n1_; have GW105 := n2_; have GE105 := n3_; clear n0_ n1_ n2_ n3_; clear hb hbox hg) | ((with_reducible refine gate_store (t := 82) (p := 4) rfl ?_); (try (rw [drewN_self w8]; generalize hq_ : World.drewN w8 _ = w8; have n0_ := Aside0.mk (blk_at hq_ BK105.out); have n1_ := Aside0.mk (below_at hq_ HB.out); clear hq_ BK105 HB; have BK105 := n0_; have HB := n1_; clear n0_ n1_)); refine st_row rfl rfl 82 4 _ rfl gb105 0 rfl (t := 82) (cs := #[.int .i64 0, .int .i64 0, .int .i64 0, .int .i64 0, .int .i64 0, .int .i64 0]) [.int .i64 ((rd_T82 l0 x16_1).f0.f0), .int .i64 ((rd_T82 l0 x16_1).f0.f1.f0), .int .i64 ((rd_T82 l0 x16_1).f0.f1.f1), .int .i64 ((rd_T82 l0 x16_1).f0.f2), .int .i64 ((rd_T82 l0 x16_1).f1), .int .i64 ((rd_T82 l0 x16_1).f2)] _ rfl rfl isz82 (by (with_reducible repeat (first | refine blk_drewN ?_ _ | refine blk_drew ?_ | refine blk_alloc ?_ _)); exact BK105.out) (Nat.le_of_ble_eq_true rfl) rfl #[.int .i64 ((rd_T82 l0 x16_1).f0.f0), .int .i64 ((rd_T82 l0 x16_1).f0.f1.f0), .int .i64 ((rd_T82 l0 x16_1).f0.f1.f1), .int .i64 ((rd_T82 l0 x16_1).f0.f2), .int .i64 ((rd_T82 l0 x16_1).f1), .int .i64 ((rd_T82 l0 x16_1).f2)] rfl ?_; intro w9 hx_ hy_ hz_; have n0_ := Aside0.mk (hx_); have n1_ := Aside0.mk (hz_ _ _ (by repeat (first | (with_reducible first | exact HB.out | apply below_alloc | apply pw_below_drewN | apply below_drew1 | refine below_set ?_ GE105.out) | exact HB.out)) GE105.out); clear BK105; clear HB; have BK105 := n0_; have HB := n1_; clear n0_ n1_; clear hx_ hy_ hz_)))
                (try simp only [Act.put, List.setIfInBounds_toArray, List.set_cons_zero, List.set_cons_succ])
                go_cut [47] (fun v47 wc => ∃ (kq : Nat) (x47_6 : Bool), v47 = .bool x47_6 ∧ Aside0 (tube_Check.j1 kq l0 l0 (l0.length : Int) x16_1 x47_6 ((rd_T82 l0 x16_1).f0.f0) ((rd_T82 l0 x16_1).f0.f1.f0) ((rd_T82 l0 x16_1).f0.f1.f1) ((rd_T82 l0 x16_1).f0.f2) ((rd_T82 l0 x16_1).f1) ((rd_T82 l0 x16_1).f2) = some r) ∧ Aside0 (kq ≤ k1) ∧ Aside0 (wc.heap[gb105]? = some (.cells #[.int .i64 ((rd_T82 l0 x16_1).f0.f0), .int .i64 ((rd_T82 l0 x16_1).f0.f1.f0), .int .i64 ((rd_T82 l0 x16_1).f0.f1.f1), .int .i64 ((rd_T82 l0 x16_1).f0.f2), .int .i64 ((rd_T82 l0 x16_1).f1), .int .i64 ((rd_T82 l0 x16_1).f2)] 82 (0, 0))) ∧ Aside0 (Below w.heap.size w wc))
                case first =>
                  have H := HC7.out
                  clear HC7
                  by_cases c10 : ((rd_T82 l0 x16_1).f0.f0) < 0
                  · rw [if_pos c10] at H
                    have c10b0 : decide (((rd_T82 l0 x16_1).f0.f0) < 0) = true := decide_eq_true c10
                    clear c10
                    (first | rw [c10b0] | (simp only [i64_w, i32_w]; rw [c10b0]) | skip)
                    have H' := Aside0.mk H
                    clear H
                    obtain ⟨hcz11_0, hfz11_0⟩ := blkc6 BK105.out
                    go_wp2
                    repeat (go_quiet (fail); try go_wp2)
                    go_meet
                    case rel => exact ⟨_, (true), (by first | rfl | (simp; done) | (simp [*]; done)), H', ⟨by have := HK1.out; first | omega | exact Nat.le_refl _⟩, ⟨by (with_reducible repeat (first | refine blk_drewN ?_ _ | refine blk_drew ?_ | refine blk_alloc ?_ _)); exact BK105.out⟩, ⟨by repeat (first | (with_reducible first | exact HB.out | apply below_alloc | apply pw_below_drewN | apply below_drew1 | refine below_set ?_ GE105.out) | exact HB.out)⟩⟩
                  · rw [if_neg c10] at H
                    have c10b0 : decide (((rd_T82 l0 x16_1).f0.f0) < 0) = false := decide_eq_false c10
                    clear c10
                    (first | rw [c10b0] | (simp only [i64_w, i32_w]; rw [c10b0]) | skip)
                    by_cases c12 : ((rd_T82 l0 x16_1).f0.f0) > 200000
                    · rw [if_pos c12] at H
                      have c12b0 : decide (200000 < ((rd_T82 l0 x16_1).f0.f0)) = true := decide_eq_true c12
                      clear c12
                      have H' := Aside0.mk H
                      clear H
                      obtain ⟨hcz13_0, hfz13_0⟩ := blkc6 BK105.out
                      go_wp2
                      repeat (go_quiet (fail); try go_wp2)
                      go_meet
                      case rel => exact ⟨_, (true), (by first | rfl | (simp; done) | (simp [*]; done)), H', ⟨by have := HK1.out; first | omega | exact Nat.le_refl _⟩, ⟨by (with_reducible repeat (first | refine blk_drewN ?_ _ | refine blk_drew ?_ | refine blk_alloc ?_ _)); exact BK105.out⟩, ⟨by repeat (first | (with_reducible first | exact HB.out | apply below_alloc | apply pw_below_drewN | apply below_drew1 | refine below_set ?_ GE105.out) | exact HB.out)⟩⟩
                    · rw [if_neg c12] at H
                      have c12b0 : decide (200000 < ((rd_T82 l0 x16_1).f0.f0)) = false := decide_eq_false c12
                      clear c12
                      by_cases c14 : x16_1 > 0
                      · rw [if_pos c14] at H
                        have c14b0 : decide (0 < x16_1) = true := decide_eq_true c14
                        clear c14
                        obtain ⟨ji15, hji15⟩ : ∃ j_ : Int, (wrap64 (x16_1 - 1)) = j_ := ⟨_, rfl⟩
                        replace H : (if 0 ≤ (ji15) then (if (ji15) < (l0.length : Int) then (tube_Check.j1 k1 l0 l0 (l0.length : Int) x16_1 (decide (((rd_T82 l0 x16_1).f0.f0) ≤ ((rd_T82 l0 (ji15)).f0.f0))) ((rd_T82 l0 x16_1).f0.f0) ((rd_T82 l0 x16_1).f0.f1.f0) ((rd_T82 l0 x16_1).f0.f1.f1) ((rd_T82 l0 x16_1).f0.f2) ((rd_T82 l0 x16_1).f1) ((rd_T82 l0 x16_1).f2)) else (none)) else (none)) = some r := by first | (rw [hji15] at H; exact H) | (simp only [hji15] at H ⊢; exact H)
                        have hji15w : (IntKind.i64.wrap (x16_1 - 1)) = ji15 := (i64_w _).trans hji15
                        by_cases c16 : 0 ≤ (ji15)
                        · rw [if_pos c16] at H
                          have c16b0 : decide (0 ≤ (ji15)) = true := decide_eq_true c16
                          clear c16
                          by_cases c17 : (ji15) < (l0.length : Int)
                          · rw [if_pos c17] at H
                            have c17b0 : decide ((ji15) < (l0.length : Int)) = true := decide_eq_true c17
                            clear c17
                            have H' := Aside0.mk H
                            clear H
                            obtain ⟨hcz18_0, hfz18_0⟩ := blkc6 BK105.out
                            have p106 : 0 ≤ ((ji15) : Int) := of_decide_eq_true (by first | (with_reducible assumption) | assumption)
                            have q106 : (ji15) < (l0.length : Int) := of_decide_eq_true (by first | (with_reducible assumption) | assumption)
                            obtain ⟨ad106, e106, hx106_0, hx106_1, hx106_2, hx106_3, hx106_4, hx106_5⟩ := at_T82 HR0.out (ji15) p106 q106
                            obtain rfl : ad104 = ad106 := (by injection e106)
                            replace hx106_0 := (HB.out.cell (World.block_lt_of_cell? w _ hx106_0)).trans hx106_0
                            replace hx106_1 := (HB.out.cell (World.block_lt_of_cell? w _ hx106_1)).trans hx106_1
                            replace hx106_2 := (HB.out.cell (World.block_lt_of_cell? w _ hx106_2)).trans hx106_2
                            replace hx106_3 := (HB.out.cell (World.block_lt_of_cell? w _ hx106_3)).trans hx106_3
                            replace hx106_4 := (HB.out.cell (World.block_lt_of_cell? w _ hx106_4)).trans hx106_4
                            replace hx106_5 := (HB.out.cell (World.block_lt_of_cell? w _ hx106_5)).trans hx106_5
                            replace p106 := eq_true p106
                            replace q106 := eq_true q106
                            go_wp2
                            repeat (go_quiet (fail); try go_wp2)
                            go_meet
                            case rel => exact ⟨_, (decide (((rd_T82 l0 x16_1).f0.f0) ≤ ((rd_T82 l0 (ji15)).f0.f0))), (by first | rfl | (simp; done) | (simp only [← hji15] <;> (first | rfl | simp)) | (simp [*]; done)), H', ⟨by have := HK1.out; first | omega | exact Nat.le_refl _⟩, ⟨by (with_reducible repeat (first | refine blk_drewN ?_ _ | refine blk_drew ?_ | refine blk_alloc ?_ _)); exact BK105.out⟩, ⟨by repeat (first | (with_reducible first | exact HB.out | apply below_alloc | apply pw_below_drewN | apply below_drew1 | refine below_set ?_ GE105.out) | exact HB.out)⟩⟩
                          · rw [if_neg c17] at H
                            exact absurd H (by simp)
                        · rw [if_neg c16] at H
                          exact absurd H (by simp)
                      · rw [if_neg c14] at H
                        have c14b0 : decide (0 < x16_1) = false := decide_eq_false c14
                        clear c14
                        have H' := Aside0.mk H
                        clear H
                        obtain ⟨hcz19_0, hfz19_0⟩ := blkc6 BK105.out
                        go_wp2
                        repeat (go_quiet (fail); try go_wp2)
                        go_meet
                        case rel => exact ⟨_, (false), (by first | rfl | (simp; done) | (simp [*]; done)), H', ⟨by have := HK1.out; first | omega | exact Nat.le_refl _⟩, ⟨by (with_reducible repeat (first | refine blk_drewN ?_ _ | refine blk_drew ?_ | refine blk_alloc ?_ _)); exact BK105.out⟩, ⟨by repeat (first | (with_reducible first | exact HB.out | apply below_alloc | apply pw_below_drewN | apply below_drew1 | refine below_set ?_ GE105.out) | exact HB.out)⟩⟩
                case rest =>
                  clear HC7
                  try clear c1
                  try clear p1
                  try clear q1
                  try clear hx1
                  try clear c2
                  try clear c2b0
                  try clear c2b1
                  try clear p2
                  try clear c3
                  try clear c3b0
                  try clear c3b1
                  try clear c3b2
                  try clear c4
                  try clear c4b0
                  try clear c5
                  try clear c5b0
                  try clear c6
                  try clear c6b0
                  try clear p6
                  try clear c10
                  try clear c10b0
                  try clear p10
                  try clear q10
                  try clear hx10
                  try clear c12
                  try clear c12b0
                  try clear c14
                  try clear c14b0
                  try clear c16
                  try clear c16b0
                  try clear c17
                  try clear c17b0
                  try clear hcz11_0
                  try clear hcz13_0
                  try clear hcz18_0
                  try clear hcz19_0
                  try clear hfz11_0
                  try clear hfz13_0
                  try clear hfz18_0
                  try clear hfz19_0
                  try clear hx104_0
                  try clear hx104_1
                  try clear hx104_2
                  try clear hx104_3
                  try clear hx104_4
                  try clear hx104_5
                  try clear hx106_0
                  try clear hx106_1
                  try clear hx106_2
                  try clear hx106_3
                  try clear hx106_4
                  try clear hx106_5
                  try clear p104
                  try clear p106
                  try clear p2
                  try clear q104
                  try clear q106
                  obtain ⟨kq, x47_6, rfl, HA, HJ6, BK105, HB⟩ := hcut
                  cases kq with
                  | zero => exact absurd HA.out (by simp [tube_Check.j1])
                  | succ kj6 =>
                    have H := HA.out
                    clear HA
                    simp only [tube_Check.j1] at H
                    by_cases c20 : x47_6 = true
                    · subst c20
                      have H1 : (some 12) = some r := by rw [if_pos rfl] at H; exact H
                      clear H
                      have H := H1
                      clear H1
                      obtain rfl := Option.some.inj H
                      go_wp2
                      repeat (go_quiet (fail); try go_wp2)
                      go_ret
                      exact ⟨by first | rfl | (simp [errW_none, errW_some] <;> rfl) | (simp [*, errW_none, errW_some] <;> rfl), by repeat (first | (with_reducible first | exact HB.out | apply below_alloc | apply pw_below_drewN | apply below_drew1 | refine below_set ?_ GE105.out) | exact HB.out)⟩
                    · replace c20 := Bool.eq_false_iff.mpr c20
                      subst c20
                      have H1 : ((plane_Check.f ((rd_T82 l0 x16_1).f0.f1.f0) ((rd_T82 l0 x16_1).f0.f1.f1)).bind fun t107 => (if t107 = 0 then (if ((rd_T82 l0 x16_1).f0.f2) < 0 then (some 4) else (if ((rd_T82 l0 x16_1).f0.f2) > 60000 then (some 4) else (if ((rd_T82 l0 x16_1).f1) < 0 then (some 4) else (if ((rd_T82 l0 x16_1).f1) > 1000000 then (some 4) else (if ((rd_T82 l0 x16_1).f2) < 0 then (some 4) else (if ((rd_T82 l0 x16_1).f2) > 60000 then (some 4) else (tube_Check.l0 kj6 l0 l0 (l0.length : Int) (wrap64 (x16_1 + 1))))))))) else (some t107))) = some r := by rw [if_neg (show ¬ (false = true) by decide)] at H; exact H
                      clear H
                      have H := H1
                      clear H1
                      replace H := Option.bind_eq_some_iff.mp H
                      obtain ⟨t107, A210, H⟩ := H
                      replace H : (if t107 = 0 then (if ((rd_T82 l0 x16_1).f0.f2) < 0 then (some 4) else (if ((rd_T82 l0 x16_1).f0.f2) > 60000 then (some 4) else (if ((rd_T82 l0 x16_1).f1) < 0 then (some 4) else (if ((rd_T82 l0 x16_1).f1) > 1000000 then (some 4) else (if ((rd_T82 l0 x16_1).f2) < 0 then (some 4) else (if ((rd_T82 l0 x16_1).f2) > 60000 then (some 4) else (tube_Check.l0 kj6 l0 l0 (l0.length : Int) (wrap64 (x16_1 + 1))))))))) else (some t107)) = some r := H
                      have A21 := Aside0.mk A210
                      have CA21 := Aside0.mk (fun W_ => plane_Check.calls ((rd_T82 l0 x16_1).f0.f1.f0) ((rd_T82 l0 x16_1).f0.f1.f1) t107 W_ A210)
                      clear A210
                      by_cases c22 : t107 = 0
                      · rw [if_pos c22] at H
                        have c22b0 : (t107 == 0) = true := beq_iff_eq.mpr c22
                        have c22b1 : (t107 != 0) = false := bne_eq_false_iff_eq.mpr c22
                        clear c22
                        by_cases c23 : ((rd_T82 l0 x16_1).f0.f2) < 0
                        · rw [if_pos c23] at H
                          have c23b0 : decide (((rd_T82 l0 x16_1).f0.f2) < 0) = true := decide_eq_true c23
                          clear c23
                          obtain rfl := Option.some.inj H
                          go_wp2_with (first | ((with_reducible refine gate_dst (N := 50) rfl ?_); refine ld_row rfl (N := 50) rfl 45 _ rfl gb105 1 rfl (t := 82) (cs := #[.int .i64 ((rd_T82 l0 x16_1).f0.f0), .int .i64 ((rd_T82 l0 x16_1).f0.f1.f0), .int .i64 ((rd_T82 l0 x16_1).f0.f1.f1), .int .i64 ((rd_T82 l0 x16_1).f0.f2), .int .i64 ((rd_T82 l0 x16_1).f1), .int .i64 ((rd_T82 l0 x16_1).f2)]) (fr := (0, 0)) [.int .i64 ((rd_T82 l0 x16_1).f0.f1.f0), .int .i64 ((rd_T82 l0 x16_1).f0.f1.f1)] (by (with_reducible repeat (first | refine blk_drewN ?_ _ | refine blk_drew ?_ | refine blk_alloc ?_ _)); exact BK105.out) Try.underlying45 rfl isz45 rfl ?_) | (go_at_call 63; (with_reducible refine (CA21.out _).mono ?_); rintro e w24 ⟨rfl, hb⟩; have n0_ := Aside0.mk (blk_below (g := gb105) (by (with_reducible repeat (first | refine blk_drewN ?_ _ | refine blk_drew ?_ | refine blk_alloc ?_ _)); exact BK105.out) hb); have n1_ := Aside0.mk (below_step (by repeat (first | (with_reducible first | exact HB.out | apply below_alloc | apply pw_below_drewN | apply below_drew1 | refine below_set ?_ GE105.out) | exact HB.out)) hb); clear BK105; clear HB; have BK105 := n0_; have HB := n1_; clear n0_ n1_; (try clear hb); (try clear hb2); (try clear hk); (try clear hi)) | ((with_reducible refine gate_dst (N := 57) rfl ?_); refine ld_cell rfl (N := 57) rfl 3 _ rfl gb105 3 rfl (t := 82) (cs := #[.int .i64 ((rd_T82 l0 x16_1).f0.f0), .int .i64 ((rd_T82 l0 x16_1).f0.f1.f0), .int .i64 ((rd_T82 l0 x16_1).f0.f1.f1), .int .i64 ((rd_T82 l0 x16_1).f0.f2), .int .i64 ((rd_T82 l0 x16_1).f1), .int .i64 ((rd_T82 l0 x16_1).f2)]) (fr := (0, 0)) (.int .i64 ((rd_T82 l0 x16_1).f0.f2)) (by (with_reducible repeat (first | refine blk_drewN ?_ _ | refine blk_drew ?_ | refine blk_alloc ?_ _)); exact BK105.out) Try.underlying3 rfl rfl ?_))
                          repeat (go_quiet (first | ((with_reducible refine gate_dst (N := 50) rfl ?_); refine ld_row rfl (N := 50) rfl 45 _ rfl gb105 1 rfl (t := 82) (cs := #[.int .i64 ((rd_T82 l0 x16_1).f0.f0), .int .i64 ((rd_T82 l0 x16_1).f0.f1.f0), .int .i64 ((rd_T82 l0 x16_1).f0.f1.f1), .int .i64 ((rd_T82 l0 x16_1).f0.f2), .int .i64 ((rd_T82 l0 x16_1).f1), .int .i64 ((rd_T82 l0 x16_1).f2)]) (fr := (0, 0)) [.int .i64 ((rd_T82 l0 x16_1).f0.f1.f0), .int .i64 ((rd_T82 l0 x16_1).f0.f1.f1)] (by (with_reducible repeat (first | refine blk_drewN ?_ _ | refine blk_drew ?_ | refine blk_alloc ?_ _)); exact BK105.out) Try.underlying45 rfl isz45 rfl ?_) | (go_at_call 63; (with_reducible refine (CA21.out _).mono ?_); rintro e w24 ⟨rfl, hb⟩; have n0_ := Aside0.mk (blk_below (g := gb105) (by (with_reducible repeat (first | refine blk_drewN ?_ _ | refine blk_drew ?_ | refine blk_alloc ?_ _)); exact BK105.out) hb); have n1_ := Aside0.mk (below_step (by repeat (first | (with_reducible first | exact HB.out | apply below_alloc | apply pw_below_drewN | apply below_drew1 | refine below_set ?_ GE105.out) | exact HB.out)) hb); clear BK105; clear HB; have BK105 := n0_; have HB := n1_; clear n0_ n1_; (try clear hb); (try clear hb2); (try clear hk); (try clear hi)) | ((with_reducible refine gate_dst (N := 57) rfl ?_); refine ld_cell rfl (N := 57) rfl 3 _ rfl gb105 3 rfl (t := 82) (cs := #[.int .i64 ((rd_T82 l0 x16_1).f0.f0), .int .i64 ((rd_T82 l0 x16_1).f0.f1.f0), .int .i64 ((rd_T82 l0 x16_1).f0.f1.f1), .int .i64 ((rd_T82 l0 x16_1).f0.f2), .int .i64 ((rd_T82 l0 x16_1).f1), .int .i64 ((rd_T82 l0 x16_1).f2)]) (fr := (0, 0)) (.int .i64 ((rd_T82 l0 x16_1).f0.f2)) (by (with_reducible repeat (first | refine blk_drewN ?_ _ | refine blk_drew ?_ | refine blk_alloc ?_ _)); exact BK105.out) Try.underlying3 rfl rfl ?_)); try go_wp2_with (first | ((with_reducible refine gate_dst (N := 50) rfl ?_); refine ld_row rfl (N := 50) rfl 45 _ rfl gb105 1 rfl (t := 82) (cs := #[.int .i64 ((rd_T82 l0 x16_1).f0.f0), .int .i64 ((rd_T82 l0 x16_1).f0.f1.f0), .int .i64 ((rd_T82 l0 x16_1).f0.f1.f1), .int .i64 ((rd_T82 l0 x16_1).f0.f2), .int .i64 ((rd_T82 l0 x16_1).f1), .int .i64 ((rd_T82 l0 x16_1).f2)]) (fr := (0, 0)) [.int .i64 ((rd_T82 l0 x16_1).f0.f1.f0), .int .i64 ((rd_T82 l0 x16_1).f0.f1.f1)] (by (with_reducible repeat (first | refine blk_drewN ?_ _ | refine blk_drew ?_ | refine blk_alloc ?_ _)); exact BK105.out) Try.underlying45 rfl isz45 rfl ?_) | (go_at_call 63; (with_reducible refine (CA21.out _).mono ?_); rintro e w24 ⟨rfl, hb⟩; have n0_ := Aside0.mk (blk_below (g := gb105) (by (with_reducible repeat (first | refine blk_drewN ?_ _ | refine blk_drew ?_ | refine blk_alloc ?_ _)); exact BK105.out) hb); have n1_ := Aside0.mk (below_step (by repeat (first | (with_reducible first | exact HB.out | apply below_alloc | apply pw_below_drewN | apply below_drew1 | refine below_set ?_ GE105.out) | exact HB.out)) hb); clear BK105; clear HB; have BK105 := n0_; have HB := n1_; clear n0_ n1_; (try clear hb); (try clear hb2); (try clear hk); (try clear hi)) | ((with_reducible refine gate_dst (N := 57) rfl ?_); refine ld_cell rfl (N := 57) rfl 3 _ rfl gb105 3 rfl (t := 82) (cs := #[.int .i64 ((rd_T82 l0 x16_1).f0.f0), .int .i64 ((rd_T82 l0 x16_1).f0.f1.f0), .int .i64 ((rd_T82 l0 x16_1).f0.f1.f1), .int .i64 ((rd_T82 l0 x16_1).f0.f2), .int .i64 ((rd_T82 l0 x16_1).f1), .int .i64 ((rd_T82 l0 x16_1).f2)]) (fr := (0, 0)) (.int .i64 ((rd_T82 l0 x16_1).f0.f2)) (by (with_reducible repeat (first | refine blk_drewN ?_ _ | refine blk_drew ?_ | refine blk_alloc ?_ _)); exact BK105.out) Try.underlying3 rfl rfl ?_)))
                          go_ret
                          exact ⟨by first | rfl | (simp [errW_none, errW_some] <;> rfl) | (simp [*, errW_none, errW_some] <;> rfl), by repeat (first | (with_reducible first | exact HB.out | apply below_alloc | apply pw_below_drewN | apply below_drew1 | refine below_set ?_ GE105.out) | exact HB.out)⟩
                        · rw [if_neg c23] at H
                          have c23b0 : decide (((rd_T82 l0 x16_1).f0.f2) < 0) = false := decide_eq_false c23
                          clear c23
                          by_cases c25 : ((rd_T82 l0 x16_1).f0.f2) > 60000
                          · rw [if_pos c25] at H
                            have c25b0 : decide (60000 < ((rd_T82 l0 x16_1).f0.f2)) = true := decide_eq_true c25
                            clear c25
                            obtain rfl := Option.some.inj H
                            go_wp2_with (first | ((with_reducible refine gate_dst (N := 50) rfl ?_); refine ld_row rfl (N := 50) rfl 45 _ rfl gb105 1 rfl (t := 82) (cs := #[.int .i64 ((rd_T82 l0 x16_1).f0.f0), .int .i64 ((rd_T82 l0 x16_1).f0.f1.f0), .int .i64 ((rd_T82 l0 x16_1).f0.f1.f1), .int .i64 ((rd_T82 l0 x16_1).f0.f2), .int .i64 ((rd_T82 l0 x16_1).f1), .int .i64 ((rd_T82 l0 x16_1).f2)]) (fr := (0, 0)) [.int .i64 ((rd_T82 l0 x16_1).f0.f1.f0), .int .i64 ((rd_T82 l0 x16_1).f0.f1.f1)] (by (with_reducible repeat (first | refine blk_drewN ?_ _ | refine blk_drew ?_ | refine blk_alloc ?_ _)); exact BK105.out) Try.underlying45 rfl isz45 rfl ?_) | (go_at_call 63; (with_reducible refine (CA21.out _).mono ?_); rintro e w26 ⟨rfl, hb⟩; have n0_ := Aside0.mk (blk_below (g := gb105) (by (with_reducible repeat (first | refine blk_drewN ?_ _ | refine blk_drew ?_ | refine blk_alloc ?_ _)); exact BK105.out) hb); have n1_ := Aside0.mk (below_step (by repeat (first | (with_reducible first | exact HB.out | apply below_alloc | apply pw_below_drewN | apply below_drew1 | refine below_set ?_ GE105.out) | exact HB.out)) hb); clear BK105; clear HB; have BK105 := n0_; have HB := n1_; clear n0_ n1_; (try clear hb); (try clear hb2); (try clear hk); (try clear hi); obtain ⟨hcz27_0, hfz27_0⟩ := blkc6 BK105.out) | ((with_reducible refine gate_dst (N := 57) rfl ?_); refine ld_cell rfl (N := 57) rfl 3 _ rfl gb105 3 rfl (t := 82) (cs := #[.int .i64 ((rd_T82 l0 x16_1).f0.f0), .int .i64 ((rd_T82 l0 x16_1).f0.f1.f0), .int .i64 ((rd_T82 l0 x16_1).f0.f1.f1), .int .i64 ((rd_T82 l0 x16_1).f0.f2), .int .i64 ((rd_T82 l0 x16_1).f1), .int .i64 ((rd_T82 l0 x16_1).f2)]) (fr := (0, 0)) (.int .i64 ((rd_T82 l0 x16_1).f0.f2)) (by (with_reducible repeat (first | refine blk_drewN ?_ _ | refine blk_drew ?_ | refine blk_alloc ?_ _)); exact BK105.out) Try.underlying3 rfl rfl ?_))
                            repeat (go_quiet (first | ((with_reducible refine gate_dst (N := 50) rfl ?_); refine ld_row rfl (N := 50) rfl 45 _ rfl gb105 1 rfl (t := 82) (cs := #[.int .i64 ((rd_T82 l0 x16_1).f0.f0), .int .i64 ((rd_T82 l0 x16_1).f0.f1.f0), .int .i64 ((rd_T82 l0 x16_1).f0.f1.f1), .int .i64 ((rd_T82 l0 x16_1).f0.f2), .int .i64 ((rd_T82 l0 x16_1).f1), .int .i64 ((rd_T82 l0 x16_1).f2)]) (fr := (0, 0)) [.int .i64 ((rd_T82 l0 x16_1).f0.f1.f0), .int .i64 ((rd_T82 l0 x16_1).f0.f1.f1)] (by (with_reducible repeat (first | refine blk_drewN ?_ _ | refine blk_drew ?_ | refine blk_alloc ?_ _)); exact BK105.out) Try.underlying45 rfl isz45 rfl ?_) | (go_at_call 63; (with_reducible refine (CA21.out _).mono ?_); rintro e w26 ⟨rfl, hb⟩; have n0_ := Aside0.mk (blk_below (g := gb105) (by (with_reducible repeat (first | refine blk_drewN ?_ _ | refine blk_drew ?_ | refine blk_alloc ?_ _)); exact BK105.out) hb); have n1_ := Aside0.mk (below_step (by repeat (first | (with_reducible first | exact HB.out | apply below_alloc | apply pw_below_drewN | apply below_drew1 | refine below_set ?_ GE105.out) | exact HB.out)) hb); clear BK105; clear HB; have BK105 := n0_; have HB := n1_; clear n0_ n1_; (try clear hb); (try clear hb2); (try clear hk); (try clear hi); obtain ⟨hcz27_0, hfz27_0⟩ := blkc6 BK105.out) | ((with_reducible refine gate_dst (N := 57) rfl ?_); refine ld_cell rfl (N := 57) rfl 3 _ rfl gb105 3 rfl (t := 82) (cs := #[.int .i64 ((rd_T82 l0 x16_1).f0.f0), .int .i64 ((rd_T82 l0 x16_1).f0.f1.f0), .int .i64 ((rd_T82 l0 x16_1).f0.f1.f1), .int .i64 ((rd_T82 l0 x16_1).f0.f2), .int .i64 ((rd_T82 l0 x16_1).f1), .int .i64 ((rd_T82 l0 x16_1).f2)]) (fr := (0, 0)) (.int .i64 ((rd_T82 l0 x16_1).f0.f2)) (by (with_reducible repeat (first | refine blk_drewN ?_ _ | refine blk_drew ?_ | refine blk_alloc ?_ _)); exact BK105.out) Try.underlying3 rfl rfl ?_)); try go_wp2_with (first | ((with_reducible refine gate_dst (N := 50) rfl ?_); refine ld_row rfl (N := 50) rfl 45 _ rfl gb105 1 rfl (t := 82) (cs := #[.int .i64 ((rd_T82 l0 x16_1).f0.f0), .int .i64 ((rd_T82 l0 x16_1).f0.f1.f0), .int .i64 ((rd_T82 l0 x16_1).f0.f1.f1), .int .i64 ((rd_T82 l0 x16_1).f0.f2), .int .i64 ((rd_T82 l0 x16_1).f1), .int .i64 ((rd_T82 l0 x16_1).f2)]) (fr := (0, 0)) [.int .i64 ((rd_T82 l0 x16_1).f0.f1.f0), .int .i64 ((rd_T82 l0 x16_1).f0.f1.f1)] (by (with_reducible repeat (first | refine blk_drewN ?_ _ | refine blk_drew ?_ | refine blk_alloc ?_ _)); exact BK105.out) Try.underlying45 rfl isz45 rfl ?_) | (go_at_call 63; (with_reducible refine (CA21.out _).mono ?_); rintro e w26 ⟨rfl, hb⟩; have n0_ := Aside0.mk (blk_below (g := gb105) (by (with_reducible repeat (first | refine blk_drewN ?_ _ | refine blk_drew ?_ | refine blk_alloc ?_ _)); exact BK105.out) hb); have n1_ := Aside0.mk (below_step (by repeat (first | (with_reducible first | exact HB.out | apply below_alloc | apply pw_below_drewN | apply below_drew1 | refine below_set ?_ GE105.out) | exact HB.out)) hb); clear BK105; clear HB; have BK105 := n0_; have HB := n1_; clear n0_ n1_; (try clear hb); (try clear hb2); (try clear hk); (try clear hi); obtain ⟨hcz27_0, hfz27_0⟩ := blkc6 BK105.out) | ((with_reducible refine gate_dst (N := 57) rfl ?_); refine ld_cell rfl (N := 57) rfl 3 _ rfl gb105 3 rfl (t := 82) (cs := #[.int .i64 ((rd_T82 l0 x16_1).f0.f0), .int .i64 ((rd_T82 l0 x16_1).f0.f1.f0), .int .i64 ((rd_T82 l0 x16_1).f0.f1.f1), .int .i64 ((rd_T82 l0 x16_1).f0.f2), .int .i64 ((rd_T82 l0 x16_1).f1), .int .i64 ((rd_T82 l0 x16_1).f2)]) (fr := (0, 0)) (.int .i64 ((rd_T82 l0 x16_1).f0.f2)) (by (with_reducible repeat (first | refine blk_drewN ?_ _ | refine blk_drew ?_ | refine blk_alloc ?_ _)); exact BK105.out) Try.underlying3 rfl rfl ?_)))
                            go_ret
                            exact ⟨by first | rfl | (simp [errW_none, errW_some] <;> rfl) | (simp [*, errW_none, errW_some] <;> rfl), by repeat (first | (with_reducible first | exact HB.out | apply below_alloc | apply pw_below_drewN | apply below_drew1 | refine below_set ?_ GE105.out) | exact HB.out)⟩
                          · rw [if_neg c25] at H
                            have c25b0 : decide (60000 < ((rd_T82 l0 x16_1).f0.f2)) = false := decide_eq_false c25
                            clear c25
                            by_cases c28 : ((rd_T82 l0 x16_1).f1) < 0
                            · rw [if_pos c28] at H
                              have c28b0 : decide (((rd_T82 l0 x16_1).f1) < 0) = true := decide_eq_true c28
                              clear c28
                              obtain rfl := Option.some.inj H
                              go_wp2_with (first | ((with_reducible refine gate_dst (N := 50) rfl ?_); refine ld_row rfl (N := 50) rfl 45 _ rfl gb105 1 rfl (t := 82) (cs := #[.int .i64 ((rd_T82 l0 x16_1).f0.f0), .int .i64 ((rd_T82 l0 x16_1).f0.f1.f0), .int .i64 ((rd_T82 l0 x16_1).f0.f1.f1), .int .i64 ((rd_T82 l0 x16_1).f0.f2), .int .i64 ((rd_T82 l0 x16_1).f1), .int .i64 ((rd_T82 l0 x16_1).f2)]) (fr := (0, 0)) [.int .i64 ((rd_T82 l0 x16_1).f0.f1.f0), .int .i64 ((rd_T82 l0 x16_1).f0.f1.f1)] (by (with_reducible repeat (first | refine blk_drewN ?_ _ | refine blk_drew ?_ | refine blk_alloc ?_ _)); exact BK105.out) Try.underlying45 rfl isz45 rfl ?_) | (go_at_call 63; (with_reducible refine (CA21.out _).mono ?_); rintro e w29 ⟨rfl, hb⟩; have n0_ := Aside0.mk (blk_below (g := gb105) (by (with_reducible repeat (first | refine blk_drewN ?_ _ | refine blk_drew ?_ | refine blk_alloc ?_ _)); exact BK105.out) hb); have n1_ := Aside0.mk (below_step (by repeat (first | (with_reducible first | exact HB.out | apply below_alloc | apply pw_below_drewN | apply below_drew1 | refine below_set ?_ GE105.out) | exact HB.out)) hb); clear BK105; clear HB; have BK105 := n0_; have HB := n1_; clear n0_ n1_; (try clear hb); (try clear hb2); (try clear hk); (try clear hi); obtain ⟨hcz30_0, hfz30_0⟩ := blkc6 BK105.out) | ((with_reducible refine gate_dst (N := 57) rfl ?_); refine ld_cell rfl (N := 57) rfl 3 _ rfl gb105 3 rfl (t := 82) (cs := #[.int .i64 ((rd_T82 l0 x16_1).f0.f0), .int .i64 ((rd_T82 l0 x16_1).f0.f1.f0), .int .i64 ((rd_T82 l0 x16_1).f0.f1.f1), .int .i64 ((rd_T82 l0 x16_1).f0.f2), .int .i64 ((rd_T82 l0 x16_1).f1), .int .i64 ((rd_T82 l0 x16_1).f2)]) (fr := (0, 0)) (.int .i64 ((rd_T82 l0 x16_1).f0.f2)) (by (with_reducible repeat (first | refine blk_drewN ?_ _ | refine blk_drew ?_ | refine blk_alloc ?_ _)); exact BK105.out) Try.underlying3 rfl rfl ?_))
                              repeat (go_quiet (first | ((with_reducible refine gate_dst (N := 50) rfl ?_); refine ld_row rfl (N := 50) rfl 45 _ rfl gb105 1 rfl (t := 82) (cs := #[.int .i64 ((rd_T82 l0 x16_1).f0.f0), .int .i64 ((rd_T82 l0 x16_1).f0.f1.f0), .int .i64 ((rd_T82 l0 x16_1).f0.f1.f1), .int .i64 ((rd_T82 l0 x16_1).f0.f2), .int .i64 ((rd_T82 l0 x16_1).f1), .int .i64 ((rd_T82 l0 x16_1).f2)]) (fr := (0, 0)) [.int .i64 ((rd_T82 l0 x16_1).f0.f1.f0), .int .i64 ((rd_T82 l0 x16_1).f0.f1.f1)] (by (with_reducible repeat (first | refine blk_drewN ?_ _ | refine blk_drew ?_ | refine blk_alloc ?_ _)); exact BK105.out) Try.underlying45 rfl isz45 rfl ?_) | (go_at_call 63; (with_reducible refine (CA21.out _).mono ?_); rintro e w29 ⟨rfl, hb⟩; have n0_ := Aside0.mk (blk_below (g := gb105) (by (with_reducible repeat (first | refine blk_drewN ?_ _ | refine blk_drew ?_ | refine blk_alloc ?_ _)); exact BK105.out) hb); have n1_ := Aside0.mk (below_step (by repeat (first | (with_reducible first | exact HB.out | apply below_alloc | apply pw_below_drewN | apply below_drew1 | refine below_set ?_ GE105.out) | exact HB.out)) hb); clear BK105; clear HB; have BK105 := n0_; have HB := n1_; clear n0_ n1_; (try clear hb); (try clear hb2); (try clear hk); (try clear hi); obtain ⟨hcz30_0, hfz30_0⟩ := blkc6 BK105.out) | ((with_reducible refine gate_dst (N := 57) rfl ?_); refine ld_cell rfl (N := 57) rfl 3 _ rfl gb105 3 rfl (t := 82) (cs := #[.int .i64 ((rd_T82 l0 x16_1).f0.f0), .int .i64 ((rd_T82 l0 x16_1).f0.f1.f0), .int .i64 ((rd_T82 l0 x16_1).f0.f1.f1), .int .i64 ((rd_T82 l0 x16_1).f0.f2), .int .i64 ((rd_T82 l0 x16_1).f1), .int .i64 ((rd_T82 l0 x16_1).f2)]) (fr := (0, 0)) (.int .i64 ((rd_T82 l0 x16_1).f0.f2)) (by (with_reducible repeat (first | refine blk_drewN ?_ _ | refine blk_drew ?_ | refine blk_alloc ?_ _)); exact BK105.out) Try.underlying3 rfl rfl ?_)); try go_wp2_with (first | ((with_reducible refine gate_dst (N := 50) rfl ?_); refine ld_row rfl (N := 50) rfl 45 _ rfl gb105 1 rfl (t := 82) (cs := #[.int .i64 ((rd_T82 l0 x16_1).f0.f0), .int .i64 ((rd_T82 l0 x16_1).f0.f1.f0), .int .i64 ((rd_T82 l0 x16_1).f0.f1.f1), .int .i64 ((rd_T82 l0 x16_1).f0.f2), .int .i64 ((rd_T82 l0 x16_1).f1), .int .i64 ((rd_T82 l0 x16_1).f2)]) (fr := (0, 0)) [.int .i64 ((rd_T82 l0 x16_1).f0.f1.f0), .int .i64 ((rd_T82 l0 x16_1).f0.f1.f1)] (by (with_reducible repeat (first | refine blk_drewN ?_ _ | refine blk_drew ?_ | refine blk_alloc ?_ _)); exact BK105.out) Try.underlying45 rfl isz45 rfl ?_) | (go_at_call 63; (with_reducible refine (CA21.out _).mono ?_); rintro e w29 ⟨rfl, hb⟩; have n0_ := Aside0.mk (blk_below (g := gb105) (by (with_reducible repeat (first | refine blk_drewN ?_ _ | refine blk_drew ?_ | refine blk_alloc ?_ _)); exact BK105.out) hb); have n1_ := Aside0.mk (below_step (by repeat (first | (with_reducible first | exact HB.out | apply below_alloc | apply pw_below_drewN | apply below_drew1 | refine below_set ?_ GE105.out) | exact HB.out)) hb); clear BK105; clear HB; have BK105 := n0_; have HB := n1_; clear n0_ n1_; (try clear hb); (try clear hb2); (try clear hk); (try clear hi); obtain ⟨hcz30_0, hfz30_0⟩ := blkc6 BK105.out) | ((with_reducible refine gate_dst (N := 57) rfl ?_); refine ld_cell rfl (N := 57) rfl 3 _ rfl gb105 3 rfl (t := 82) (cs := #[.int .i64 ((rd_T82 l0 x16_1).f0.f0), .int .i64 ((rd_T82 l0 x16_1).f0.f1.f0), .int .i64 ((rd_T82 l0 x16_1).f0.f1.f1), .int .i64 ((rd_T82 l0 x16_1).f0.f2), .int .i64 ((rd_T82 l0 x16_1).f1), .int .i64 ((rd_T82 l0 x16_1).f2)]) (fr := (0, 0)) (.int .i64 ((rd_T82 l0 x16_1).f0.f2)) (by (with_reducible repeat (first | refine blk_drewN ?_ _ | refine blk_drew ?_ | refine blk_alloc ?_ _)); exact BK105.out) Try.underlying3 rfl rfl ?_)))
                              go_ret
                              exact ⟨by first | rfl | (simp [errW_none, errW_some] <;> rfl) | (simp [*, errW_none, errW_some] <;> rfl), by repeat (first | (with_reducible first | exact HB.out | apply below_alloc | apply pw_below_drewN | apply below_drew1 | refine below_set ?_ GE105.out) | exact HB.out)⟩
                            · rw [if_neg c28] at H
                              have c28b0 : decide (((rd_T82 l0 x16_1).f1) < 0) = false := decide_eq_false c28
                              clear c28
                              by_cases c31 : ((rd_T82 l0 x16_1).f1) > 1000000
                              · rw [if_pos c31] at H
                                have c31b0 : decide (1000000 < ((rd_T82 l0 x16_1).f1)) = true := decide_eq_true c31
                                clear c31
                                obtain rfl := Option.some.inj H
                                go_wp2_with (first | ((with_reducible refine gate_dst (N := 50) rfl ?_); refine ld_row rfl (N := 50) rfl 45 _ rfl gb105 1 rfl (t := 82) (cs := #[.int .i64 ((rd_T82 l0 x16_1).f0.f0), .int .i64 ((rd_T82 l0 x16_1).f0.f1.f0), .int .i64 ((rd_T82 l0 x16_1).f0.f1.f1), .int .i64 ((rd_T82 l0 x16_1).f0.f2), .int .i64 ((rd_T82 l0 x16_1).f1), .int .i64 ((rd_T82 l0 x16_1).f2)]) (fr := (0, 0)) [.int .i64 ((rd_T82 l0 x16_1).f0.f1.f0), .int .i64 ((rd_T82 l0 x16_1).f0.f1.f1)] (by (with_reducible repeat (first | refine blk_drewN ?_ _ | refine blk_drew ?_ | refine blk_alloc ?_ _)); exact BK105.out) Try.underlying45 rfl isz45 rfl ?_) | (go_at_call 63; (with_reducible refine (CA21.out _).mono ?_); rintro e w32 ⟨rfl, hb⟩; have n0_ := Aside0.mk (blk_below (g := gb105) (by (with_reducible repeat (first | refine blk_drewN ?_ _ | refine blk_drew ?_ | refine blk_alloc ?_ _)); exact BK105.out) hb); have n1_ := Aside0.mk (below_step (by repeat (first | (with_reducible first | exact HB.out | apply below_alloc | apply pw_below_drewN | apply below_drew1 | refine below_set ?_ GE105.out) | exact HB.out)) hb); clear BK105; clear HB; have BK105 := n0_; have HB := n1_; clear n0_ n1_; (try clear hb); (try clear hb2); (try clear hk); (try clear hi); obtain ⟨hcz33_0, hfz33_0⟩ := blkc6 BK105.out) | ((with_reducible refine gate_dst (N := 57) rfl ?_); refine ld_cell rfl (N := 57) rfl 3 _ rfl gb105 3 rfl (t := 82) (cs := #[.int .i64 ((rd_T82 l0 x16_1).f0.f0), .int .i64 ((rd_T82 l0 x16_1).f0.f1.f0), .int .i64 ((rd_T82 l0 x16_1).f0.f1.f1), .int .i64 ((rd_T82 l0 x16_1).f0.f2), .int .i64 ((rd_T82 l0 x16_1).f1), .int .i64 ((rd_T82 l0 x16_1).f2)]) (fr := (0, 0)) (.int .i64 ((rd_T82 l0 x16_1).f0.f2)) (by (with_reducible repeat (first | refine blk_drewN ?_ _ | refine blk_drew ?_ | refine blk_alloc ?_ _)); exact BK105.out) Try.underlying3 rfl rfl ?_))
                                repeat (go_quiet (first | ((with_reducible refine gate_dst (N := 50) rfl ?_); refine ld_row rfl (N := 50) rfl 45 _ rfl gb105 1 rfl (t := 82) (cs := #[.int .i64 ((rd_T82 l0 x16_1).f0.f0), .int .i64 ((rd_T82 l0 x16_1).f0.f1.f0), .int .i64 ((rd_T82 l0 x16_1).f0.f1.f1), .int .i64 ((rd_T82 l0 x16_1).f0.f2), .int .i64 ((rd_T82 l0 x16_1).f1), .int .i64 ((rd_T82 l0 x16_1).f2)]) (fr := (0, 0)) [.int .i64 ((rd_T82 l0 x16_1).f0.f1.f0), .int .i64 ((rd_T82 l0 x16_1).f0.f1.f1)] (by (with_reducible repeat (first | refine blk_drewN ?_ _ | refine blk_drew ?_ | refine blk_alloc ?_ _)); exact BK105.out) Try.underlying45 rfl isz45 rfl ?_) | (go_at_call 63; (with_reducible refine (CA21.out _).mono ?_); rintro e w32 ⟨rfl, hb⟩; have n0_ := Aside0.mk (blk_below (g := gb105) (by (with_reducible repeat (first | refine blk_drewN ?_ _ | refine blk_drew ?_ | refine blk_alloc ?_ _)); exact BK105.out) hb); have n1_ := Aside0.mk (below_step (by repeat (first | (with_reducible first | exact HB.out | apply below_alloc | apply pw_below_drewN | apply below_drew1 | refine below_set ?_ GE105.out) | exact HB.out)) hb); clear BK105; clear HB; have BK105 := n0_; have HB := n1_; clear n0_ n1_; (try clear hb); (try clear hb2); (try clear hk); (try clear hi); obtain ⟨hcz33_0, hfz33_0⟩ := blkc6 BK105.out) | ((with_reducible refine gate_dst (N := 57) rfl ?_); refine ld_cell rfl (N := 57) rfl 3 _ rfl gb105 3 rfl (t := 82) (cs := #[.int .i64 ((rd_T82 l0 x16_1).f0.f0), .int .i64 ((rd_T82 l0 x16_1).f0.f1.f0), .int .i64 ((rd_T82 l0 x16_1).f0.f1.f1), .int .i64 ((rd_T82 l0 x16_1).f0.f2), .int .i64 ((rd_T82 l0 x16_1).f1), .int .i64 ((rd_T82 l0 x16_1).f2)]) (fr := (0, 0)) (.int .i64 ((rd_T82 l0 x16_1).f0.f2)) (by (with_reducible repeat (first | refine blk_drewN ?_ _ | refine blk_drew ?_ | refine blk_alloc ?_ _)); exact BK105.out) Try.underlying3 rfl rfl ?_)); try go_wp2_with (first | ((with_reducible refine gate_dst (N := 50) rfl ?_); refine ld_row rfl (N := 50) rfl 45 _ rfl gb105 1 rfl (t := 82) (cs := #[.int .i64 ((rd_T82 l0 x16_1).f0.f0), .int .i64 ((rd_T82 l0 x16_1).f0.f1.f0), .int .i64 ((rd_T82 l0 x16_1).f0.f1.f1), .int .i64 ((rd_T82 l0 x16_1).f0.f2), .int .i64 ((rd_T82 l0 x16_1).f1), .int .i64 ((rd_T82 l0 x16_1).f2)]) (fr := (0, 0)) [.int .i64 ((rd_T82 l0 x16_1).f0.f1.f0), .int .i64 ((rd_T82 l0 x16_1).f0.f1.f1)] (by (with_reducible repeat (first | refine blk_drewN ?_ _ | refine blk_drew ?_ | refine blk_alloc ?_ _)); exact BK105.out) Try.underlying45 rfl isz45 rfl ?_) | (go_at_call 63; (with_reducible refine (CA21.out _).mono ?_); rintro e w32 ⟨rfl, hb⟩; have n0_ := Aside0.mk (blk_below (g := gb105) (by (with_reducible repeat (first | refine blk_drewN ?_ _ | refine blk_drew ?_ | refine blk_alloc ?_ _)); exact BK105.out) hb); have n1_ := Aside0.mk (below_step (by repeat (first | (with_reducible first | exact HB.out | apply below_alloc | apply pw_below_drewN | apply below_drew1 | refine below_set ?_ GE105.out) | exact HB.out)) hb); clear BK105; clear HB; have BK105 := n0_; have HB := n1_; clear n0_ n1_; (try clear hb); (try clear hb2); (try clear hk); (try clear hi); obtain ⟨hcz33_0, hfz33_0⟩ := blkc6 BK105.out) | ((with_reducible refine gate_dst (N := 57) rfl ?_); refine ld_cell rfl (N := 57) rfl 3 _ rfl gb105 3 rfl (t := 82) (cs := #[.int .i64 ((rd_T82 l0 x16_1).f0.f0), .int .i64 ((rd_T82 l0 x16_1).f0.f1.f0), .int .i64 ((rd_T82 l0 x16_1).f0.f1.f1), .int .i64 ((rd_T82 l0 x16_1).f0.f2), .int .i64 ((rd_T82 l0 x16_1).f1), .int .i64 ((rd_T82 l0 x16_1).f2)]) (fr := (0, 0)) (.int .i64 ((rd_T82 l0 x16_1).f0.f2)) (by (with_reducible repeat (first | refine blk_drewN ?_ _ | refine blk_drew ?_ | refine blk_alloc ?_ _)); exact BK105.out) Try.underlying3 rfl rfl ?_)))
                                go_ret
                                exact ⟨by first | rfl | (simp [errW_none, errW_some] <;> rfl) | (simp [*, errW_none, errW_some] <;> rfl), by repeat (first | (with_reducible first | exact HB.out | apply below_alloc | apply pw_below_drewN | apply below_drew1 | refine below_set ?_ GE105.out) | exact HB.out)⟩
                              · rw [if_neg c31] at H
                                have c31b0 : decide (1000000 < ((rd_T82 l0 x16_1).f1)) = false := decide_eq_false c31
                                clear c31
                                by_cases c34 : ((rd_T82 l0 x16_1).f2) < 0
                                · rw [if_pos c34] at H
                                  have c34b0 : decide (((rd_T82 l0 x16_1).f2) < 0) = true := decide_eq_true c34
                                  clear c34
                                  obtain rfl := Option.some.inj H
                                  go_wp2_with (first | ((with_reducible refine gate_dst (N := 50) rfl ?_); refine ld_row rfl (N := 50) rfl 45 _ rfl gb105 1 rfl (t := 82) (cs := #[.int .i64 ((rd_T82 l0 x16_1).f0.f0), .int .i64 ((rd_T82 l0 x16_1).f0.f1.f0), .int .i64 ((rd_T82 l0 x16_1).f0.f1.f1), .int .i64 ((rd_T82 l0 x16_1).f0.f2), .int .i64 ((rd_T82 l0 x16_1).f1), .int .i64 ((rd_T82 l0 x16_1).f2)]) (fr := (0, 0)) [.int .i64 ((rd_T82 l0 x16_1).f0.f1.f0), .int .i64 ((rd_T82 l0 x16_1).f0.f1.f1)] (by (with_reducible repeat (first | refine blk_drewN ?_ _ | refine blk_drew ?_ | refine blk_alloc ?_ _)); exact BK105.out) Try.underlying45 rfl isz45 rfl ?_) | (go_at_call 63; (with_reducible refine (CA21.out _).mono ?_); rintro e w35 ⟨rfl, hb⟩; have n0_ := Aside0.mk (blk_below (g := gb105) (by (with_reducible repeat (first | refine blk_drewN ?_ _ | refine blk_drew ?_ | refine blk_alloc ?_ _)); exact BK105.out) hb); have n1_ := Aside0.mk (below_step (by repeat (first | (with_reducible first | exact HB.out | apply below_alloc | apply pw_below_drewN | apply below_drew1 | refine below_set ?_ GE105.out) | exact HB.out)) hb); clear BK105; clear HB; have BK105 := n0_; have HB := n1_; clear n0_ n1_; (try clear hb); (try clear hb2); (try clear hk); (try clear hi); obtain ⟨hcz36_0, hfz36_0⟩ := blkc6 BK105.out) | ((with_reducible refine gate_dst (N := 57) rfl ?_); refine ld_cell rfl (N := 57) rfl 3 _ rfl gb105 3 rfl (t := 82) (cs := #[.int .i64 ((rd_T82 l0 x16_1).f0.f0), .int .i64 ((rd_T82 l0 x16_1).f0.f1.f0), .int .i64 ((rd_T82 l0 x16_1).f0.f1.f1), .int .i64 ((rd_T82 l0 x16_1).f0.f2), .int .i64 ((rd_T82 l0 x16_1).f1), .int .i64 ((rd_T82 l0 x16_1).f2)]) (fr := (0, 0)) (.int .i64 ((rd_T82 l0 x16_1).f0.f2)) (by (with_reducible repeat (first | refine blk_drewN ?_ _ | refine blk_drew ?_ | refine blk_alloc ?_ _)); exact BK105.out) Try.underlying3 rfl rfl ?_))
                                  repeat (go_quiet (first | ((with_reducible refine gate_dst (N := 50) rfl ?_); refine ld_row rfl (N := 50) rfl 45 _ rfl gb105 1 rfl (t := 82) (cs := #[.int .i64 ((rd_T82 l0 x16_1).f0.f0), .int .i64 ((rd_T82 l0 x16_1).f0.f1.f0), .int .i64 ((rd_T82 l0 x16_1).f0.f1.f1), .int .i64 ((rd_T82 l0 x16_1).f0.f2), .int .i64 ((rd_T82 l0 x16_1).f1), .int .i64 ((rd_T82 l0 x16_1).f2)]) (fr := (0, 0)) [.int .i64 ((rd_T82 l0 x16_1).f0.f1.f0), .int .i64 ((rd_T82 l0 x16_1).f0.f1.f1)] (by (with_reducible repeat (first | refine blk_drewN ?_ _ | refine blk_drew ?_ | refine blk_alloc ?_ _)); exact BK105.out) Try.underlying45 rfl isz45 rfl ?_) | (go_at_call 63; (with_reducible refine (CA21.out _).mono ?_); rintro e w35 ⟨rfl, hb⟩; have n0_ := Aside0.mk (blk_below (g := gb105) (by (with_reducible repeat (first | refine blk_drewN ?_ _ | refine blk_drew ?_ | refine blk_alloc ?_ _)); exact BK105.out) hb); have n1_ := Aside0.mk (below_step (by repeat (first | (with_reducible first | exact HB.out | apply below_alloc | apply pw_below_drewN | apply below_drew1 | refine below_set ?_ GE105.out) | exact HB.out)) hb); clear BK105; clear HB; have BK105 := n0_; have HB := n1_; clear n0_ n1_; (try clear hb); (try clear hb2); (try clear hk); (try clear hi); obtain ⟨hcz36_0, hfz36_0⟩ := blkc6 BK105.out) | ((with_reducible refine gate_dst (N := 57) rfl ?_); refine ld_cell rfl (N := 57) rfl 3 _ rfl gb105 3 rfl (t := 82) (cs := #[.int .i64 ((rd_T82 l0 x16_1).f0.f0), .int .i64 ((rd_T82 l0 x16_1).f0.f1.f0), .int .i64 ((rd_T82 l0 x16_1).f0.f1.f1), .int .i64 ((rd_T82 l0 x16_1).f0.f2), .int .i64 ((rd_T82 l0 x16_1).f1), .int .i64 ((rd_T82 l0 x16_1).f2)]) (fr := (0, 0)) (.int .i64 ((rd_T82 l0 x16_1).f0.f2)) (by (with_reducible repeat (first | refine blk_drewN ?_ _ | refine blk_drew ?_ | refine blk_alloc ?_ _)); exact BK105.out) Try.underlying3 rfl rfl ?_)); try go_wp2_with (first | ((with_reducible refine gate_dst (N := 50) rfl ?_); refine ld_row rfl (N := 50) rfl 45 _ rfl gb105 1 rfl (t := 82) (cs := #[.int .i64 ((rd_T82 l0 x16_1).f0.f0), .int .i64 ((rd_T82 l0 x16_1).f0.f1.f0), .int .i64 ((rd_T82 l0 x16_1).f0.f1.f1), .int .i64 ((rd_T82 l0 x16_1).f0.f2), .int .i64 ((rd_T82 l0 x16_1).f1), .int .i64 ((rd_T82 l0 x16_1).f2)]) (fr := (0, 0)) [.int .i64 ((rd_T82 l0 x16_1).f0.f1.f0), .int .i64 ((rd_T82 l0 x16_1).f0.f1.f1)] (by (with_reducible repeat (first | refine blk_drewN ?_ _ | refine blk_drew ?_ | refine blk_alloc ?_ _)); exact BK105.out) Try.underlying45 rfl isz45 rfl ?_) | (go_at_call 63; (with_reducible refine (CA21.out _).mono ?_); rintro e w35 ⟨rfl, hb⟩; have n0_ := Aside0.mk (blk_below (g := gb105) (by (with_reducible repeat (first | refine blk_drewN ?_ _ | refine blk_drew ?_ | refine blk_alloc ?_ _)); exact BK105.out) hb); have n1_ := Aside0.mk (below_step (by repeat (first | (with_reducible first | exact HB.out | apply below_alloc | apply pw_below_drewN | apply below_drew1 | refine below_set ?_ GE105.out) | exact HB.out)) hb); clear BK105; clear HB; have BK105 := n0_; have HB := n1_; clear n0_ n1_; (try clear hb); (try clear hb2); (try clear hk); (try clear hi); obtain ⟨hcz36_0, hfz36_0⟩ := blkc6 BK105.out) | ((with_reducible refine gate_dst (N := 57) rfl ?_); refine ld_cell rfl (N := 57) rfl 3 _ rfl gb105 3 rfl (t := 82) (cs := #[.int .i64 ((rd_T82 l0 x16_1).f0.f0), .int .i64 ((rd_T82 l0 x16_1).f0.f1.f0), .int .i64 ((rd_T82 l0 x16_1).f0.f1.f1), .int .i64 ((rd_T82 l0 x16_1).f0.f2), .int .i64 ((rd_T82 l0 x16_1).f1), .int .i64 ((rd_T82 l0 x16_1).f2)]) (fr := (0, 0)) (.int .i64 ((rd_T82 l0 x16_1).f0.f2)) (by (with_reducible repeat (first | refine blk_drewN ?_ _ | refine blk_drew ?_ | refine blk_alloc ?_ _)); exact BK105.out) Try.underlying3 rfl rfl ?_)))
                                  go_ret
                                  exact ⟨by first | rfl | (simp [errW_none, errW_some] <;> rfl) | (simp [*, errW_none, errW_some] <;> rfl), by repeat (first | (with_reducible first | exact HB.out | apply below_alloc | apply pw_below_drewN | apply below_drew1 | refine below_set ?_ GE105.out) | exact HB.out)⟩
                                · rw [if_neg c34] at H
                                  have c34b0 : decide (((rd_T82 l0 x16_1).f2) < 0) = false := decide_eq_false c34
                                  clear c34
                                  by_cases c37 : ((rd_T82 l0 x16_1).f2) > 60000
                                  · rw [if_pos c37] at H
                                    have c37b0 : decide (60000 < ((rd_T82 l0 x16_1).f2)) = true := decide_eq_true c37
                                    clear c37
                                    obtain rfl := Option.some.inj H
                                    go_wp2_with (first | ((with_reducible refine gate_dst (N := 50) rfl ?_); refine ld_row rfl (N := 50) rfl 45 _ rfl gb105 1 rfl (t := 82) (cs := #[.int .i64 ((rd_T82 l0 x16_1).f0.f0), .int .i64 ((rd_T82 l0 x16_1).f0.f1.f0), .int .i64 ((rd_T82 l0 x16_1).f0.f1.f1), .int .i64 ((rd_T82 l0 x16_1).f0.f2), .int .i64 ((rd_T82 l0 x16_1).f1), .int .i64 ((rd_T82 l0 x16_1).f2)]) (fr := (0, 0)) [.int .i64 ((rd_T82 l0 x16_1).f0.f1.f0), .int .i64 ((rd_T82 l0 x16_1).f0.f1.f1)] (by (with_reducible repeat (first | refine blk_drewN ?_ _ | refine blk_drew ?_ | refine blk_alloc ?_ _)); exact BK105.out) Try.underlying45 rfl isz45 rfl ?_) | (go_at_call 63; (with_reducible refine (CA21.out _).mono ?_); rintro e w38 ⟨rfl, hb⟩; have n0_ := Aside0.mk (blk_below (g := gb105) (by (with_reducible repeat (first | refine blk_drewN ?_ _ | refine blk_drew ?_ | refine blk_alloc ?_ _)); exact BK105.out) hb); have n1_ := Aside0.mk (below_step (by repeat (first | (with_reducible first | exact HB.out | apply below_alloc | apply pw_below_drewN | apply below_drew1 | refine below_set ?_ GE105.out) | exact HB.out)) hb); clear BK105; clear HB; have BK105 := n0_; have HB := n1_; clear n0_ n1_; (try clear hb); (try clear hb2); (try clear hk); (try clear hi); obtain ⟨hcz39_0, hfz39_0⟩ := blkc6 BK105.out) | ((with_reducible refine gate_dst (N := 57) rfl ?_); refine ld_cell rfl (N := 57) rfl 3 _ rfl gb105 3 rfl (t := 82) (cs := #[.int .i64 ((rd_T82 l0 x16_1).f0.f0), .int .i64 ((rd_T82 l0 x16_1).f0.f1.f0), .int .i64 ((rd_T82 l0 x16_1).f0.f1.f1), .int .i64 ((rd_T82 l0 x16_1).f0.f2), .int .i64 ((rd_T82 l0 x16_1).f1), .int .i64 ((rd_T82 l0 x16_1).f2)]) (fr := (0, 0)) (.int .i64 ((rd_T82 l0 x16_1).f0.f2)) (by (with_reducible repeat (first | refine blk_drewN ?_ _ | refine blk_drew ?_ | refine blk_alloc ?_ _)); exact BK105.out) Try.underlying3 rfl rfl ?_))
                                    repeat (go_quiet (first | ((with_reducible refine gate_dst (N := 50) rfl ?_); refine ld_row rfl (N := 50) rfl 45 _ rfl gb105 1 rfl (t := 82) (cs := #[.int .i64 ((rd_T82 l0 x16_1).f0.f0), .int .i64 ((rd_T82 l0 x16_1).f0.f1.f0), .int .i64 ((rd_T82 l0 x16_1).f0.f1.f1), .int .i64 ((rd_T82 l0 x16_1).f0.f2), .int .i64 ((rd_T82 l0 x16_1).f1), .int .i64 ((rd_T82 l0 x16_1).f2)]) (fr := (0, 0)) [.int .i64 ((rd_T82 l0 x16_1).f0.f1.f0), .int .i64 ((rd_T82 l0 x16_1).f0.f1.f1)] (by (with_reducible repeat (first | refine blk_drewN ?_ _ | refine blk_drew ?_ | refine blk_alloc ?_ _)); exact BK105.out) Try.underlying45 rfl isz45 rfl ?_) | (go_at_call 63; (with_reducible refine (CA21.out _).mono ?_); rintro e w38 ⟨rfl, hb⟩; have n0_ := Aside0.mk (blk_below (g := gb105) (by (with_reducible repeat (first | refine blk_drewN ?_ _ | refine blk_drew ?_ | refine blk_alloc ?_ _)); exact BK105.out) hb); have n1_ := Aside0.mk (below_step (by repeat (first | (with_reducible first | exact HB.out | apply below_alloc | apply pw_below_drewN | apply below_drew1 | refine below_set ?_ GE105.out) | exact HB.out)) hb); clear BK105; clear HB; have BK105 := n0_; have HB := n1_; clear n0_ n1_; (try clear hb); (try clear hb2); (try clear hk); (try clear hi); obtain ⟨hcz39_0, hfz39_0⟩ := blkc6 BK105.out) | ((with_reducible refine gate_dst (N := 57) rfl ?_); refine ld_cell rfl (N := 57) rfl 3 _ rfl gb105 3 rfl (t := 82) (cs := #[.int .i64 ((rd_T82 l0 x16_1).f0.f0), .int .i64 ((rd_T82 l0 x16_1).f0.f1.f0), .int .i64 ((rd_T82 l0 x16_1).f0.f1.f1), .int .i64 ((rd_T82 l0 x16_1).f0.f2), .int .i64 ((rd_T82 l0 x16_1).f1), .int .i64 ((rd_T82 l0 x16_1).f2)]) (fr := (0, 0)) (.int .i64 ((rd_T82 l0 x16_1).f0.f2)) (by (with_reducible repeat (first | refine blk_drewN ?_ _ | refine blk_drew ?_ | refine blk_alloc ?_ _)); exact BK105.out) Try.underlying3 rfl rfl ?_)); try go_wp2_with (first | ((with_reducible refine gate_dst (N := 50) rfl ?_); refine ld_row rfl (N := 50) rfl 45 _ rfl gb105 1 rfl (t := 82) (cs := #[.int .i64 ((rd_T82 l0 x16_1).f0.f0), .int .i64 ((rd_T82 l0 x16_1).f0.f1.f0), .int .i64 ((rd_T82 l0 x16_1).f0.f1.f1), .int .i64 ((rd_T82 l0 x16_1).f0.f2), .int .i64 ((rd_T82 l0 x16_1).f1), .int .i64 ((rd_T82 l0 x16_1).f2)]) (fr := (0, 0)) [.int .i64 ((rd_T82 l0 x16_1).f0.f1.f0), .int .i64 ((rd_T82 l0 x16_1).f0.f1.f1)] (by (with_reducible repeat (first | refine blk_drewN ?_ _ | refine blk_drew ?_ | refine blk_alloc ?_ _)); exact BK105.out) Try.underlying45 rfl isz45 rfl ?_) | (go_at_call 63; (with_reducible refine (CA21.out _).mono ?_); rintro e w38 ⟨rfl, hb⟩; have n0_ := Aside0.mk (blk_below (g := gb105) (by (with_reducible repeat (first | refine blk_drewN ?_ _ | refine blk_drew ?_ | refine blk_alloc ?_ _)); exact BK105.out) hb); have n1_ := Aside0.mk (below_step (by repeat (first | (with_reducible first | exact HB.out | apply below_alloc | apply pw_below_drewN | apply below_drew1 | refine below_set ?_ GE105.out) | exact HB.out)) hb); clear BK105; clear HB; have BK105 := n0_; have HB := n1_; clear n0_ n1_; (try clear hb); (try clear hb2); (try clear hk); (try clear hi); obtain ⟨hcz39_0, hfz39_0⟩ := blkc6 BK105.out) | ((with_reducible refine gate_dst (N := 57) rfl ?_); refine ld_cell rfl (N := 57) rfl 3 _ rfl gb105 3 rfl (t := 82) (cs := #[.int .i64 ((rd_T82 l0 x16_1).f0.f0), .int .i64 ((rd_T82 l0 x16_1).f0.f1.f0), .int .i64 ((rd_T82 l0 x16_1).f0.f1.f1), .int .i64 ((rd_T82 l0 x16_1).f0.f2), .int .i64 ((rd_T82 l0 x16_1).f1), .int .i64 ((rd_T82 l0 x16_1).f2)]) (fr := (0, 0)) (.int .i64 ((rd_T82 l0 x16_1).f0.f2)) (by (with_reducible repeat (first | refine blk_drewN ?_ _ | refine blk_drew ?_ | refine blk_alloc ?_ _)); exact BK105.out) Try.underlying3 rfl rfl ?_)))
                                    go_ret
                                    exact ⟨by first | rfl | (simp [errW_none, errW_some] <;> rfl) | (simp [*, errW_none, errW_some] <;> rfl), by repeat (first | (with_reducible first | exact HB.out | apply below_alloc | apply pw_below_drewN | apply below_drew1 | refine below_set ?_ GE105.out) | exact HB.out)⟩
                                  · rw [if_neg c37] at H
                                    have c37b0 : decide (60000 < ((rd_T82 l0 x16_1).f2)) = false := decide_eq_false c37
                                    clear c37
                                    have H' := Aside0.mk H
                                    clear H
                                    go_wp2_with (first | ((with_reducible refine gate_dst (N := 50) rfl ?_); refine ld_row rfl (N := 50) rfl 45 _ rfl gb105 1 rfl (t := 82) (cs := #[.int .i64 ((rd_T82 l0 x16_1).f0.f0), .int .i64 ((rd_T82 l0 x16_1).f0.f1.f0), .int .i64 ((rd_T82 l0 x16_1).f0.f1.f1), .int .i64 ((rd_T82 l0 x16_1).f0.f2), .int .i64 ((rd_T82 l0 x16_1).f1), .int .i64 ((rd_T82 l0 x16_1).f2)]) (fr := (0, 0)) [.int .i64 ((rd_T82 l0 x16_1).f0.f1.f0), .int .i64 ((rd_T82 l0 x16_1).f0.f1.f1)] (by (with_reducible repeat (first | refine blk_drewN ?_ _ | refine blk_drew ?_ | refine blk_alloc ?_ _)); exact BK105.out) Try.underlying45 rfl isz45 rfl ?_) | (go_at_call 63; (with_reducible refine (CA21.out _).mono ?_); rintro e w40 ⟨rfl, hb⟩; have n0_ := Aside0.mk (blk_below (g := gb105) (by (with_reducible repeat (first | refine blk_drewN ?_ _ | refine blk_drew ?_ | refine blk_alloc ?_ _)); exact BK105.out) hb); have n1_ := Aside0.mk (below_step (by repeat (first | (with_reducible first | exact HB.out | apply below_alloc | apply pw_below_drewN | apply below_drew1 | refine below_set ?_ GE105.out) | exact HB.out)) hb); clear BK105; clear HB; have BK105 := n0_; have HB := n1_; clear n0_ n1_; (try clear hb); (try clear hb2); (try clear hk); (try clear hi); obtain ⟨hcz41_0, hfz41_0⟩ := blkc6 BK105.out) | ((with_reducible refine gate_dst (N := 57) rfl ?_); refine ld_cell rfl (N := 57) rfl 3 _ rfl gb105 3 rfl (t := 82) (cs := #[.int .i64 ((rd_T82 l0 x16_1).f0.f0), .int .i64 ((rd_T82 l0 x16_1).f0.f1.f0), .int .i64 ((rd_T82 l0 x16_1).f0.f1.f1), .int .i64 ((rd_T82 l0 x16_1).f0.f2), .int .i64 ((rd_T82 l0 x16_1).f1), .int .i64 ((rd_T82 l0 x16_1).f2)]) (fr := (0, 0)) (.int .i64 ((rd_T82 l0 x16_1).f0.f2)) (by (with_reducible repeat (first | refine blk_drewN ?_ _ | refine blk_drew ?_ | refine blk_alloc ?_ _)); exact BK105.out) Try.underlying3 rfl rfl ?_))
                                    repeat (go_quiet (first | ((with_reducible refine gate_dst (N := 50) rfl ?_); refine ld_row rfl (N := 50) rfl 45 _ rfl gb105 1 rfl (t := 82) (cs := #[.int .i64 ((rd_T82 l0 x16_1).f0.f0), .int .i64 ((rd_T82 l0 x16_1).f0.f1.f0), .int .i64 ((rd_T82 l0 x16_1).f0.f1.f1), .int .i64 ((rd_T82 l0 x16_1).f0.f2), .int .i64 ((rd_T82 l0 x16_1).f1), .int .i64 ((rd_T82 l0 x16_1).f2)]) (fr := (0, 0)) [.int .i64 ((rd_T82 l0 x16_1).f0.f1.f0), .int .i64 ((rd_T82 l0 x16_1).f0.f1.f1)] (by (with_reducible repeat (first | refine blk_drewN ?_ _ | refine blk_drew ?_ | refine blk_alloc ?_ _)); exact BK105.out) Try.underlying45 rfl isz45 rfl ?_) | (go_at_call 63; (with_reducible refine (CA21.out _).mono ?_); rintro e w40 ⟨rfl, hb⟩; have n0_ := Aside0.mk (blk_below (g := gb105) (by (with_reducible repeat (first | refine blk_drewN ?_ _ | refine blk_drew ?_ | refine blk_alloc ?_ _)); exact BK105.out) hb); have n1_ := Aside0.mk (below_step (by repeat (first | (with_reducible first | exact HB.out | apply below_alloc | apply pw_below_drewN | apply below_drew1 | refine below_set ?_ GE105.out) | exact HB.out)) hb); clear BK105; clear HB; have BK105 := n0_; have HB := n1_; clear n0_ n1_; (try clear hb); (try clear hb2); (try clear hk); (try clear hi); obtain ⟨hcz41_0, hfz41_0⟩ := blkc6 BK105.out) | ((with_reducible refine gate_dst (N := 57) rfl ?_); refine ld_cell rfl (N := 57) rfl 3 _ rfl gb105 3 rfl (t := 82) (cs := #[.int .i64 ((rd_T82 l0 x16_1).f0.f0), .int .i64 ((rd_T82 l0 x16_1).f0.f1.f0), .int .i64 ((rd_T82 l0 x16_1).f0.f1.f1), .int .i64 ((rd_T82 l0 x16_1).f0.f2), .int .i64 ((rd_T82 l0 x16_1).f1), .int .i64 ((rd_T82 l0 x16_1).f2)]) (fr := (0, 0)) (.int .i64 ((rd_T82 l0 x16_1).f0.f2)) (by (with_reducible repeat (first | refine blk_drewN ?_ _ | refine blk_drew ?_ | refine blk_alloc ?_ _)); exact BK105.out) Try.underlying3 rfl rfl ?_)); try go_wp2_with (first | ((with_reducible refine gate_dst (N := 50) rfl ?_); refine ld_row rfl (N := 50) rfl 45 _ rfl gb105 1 rfl (t := 82) (cs := #[.int .i64 ((rd_T82 l0 x16_1).f0.f0), .int .i64 ((rd_T82 l0 x16_1).f0.f1.f0), .int .i64 ((rd_T82 l0 x16_1).f0.f1.f1), .int .i64 ((rd_T82 l0 x16_1).f0.f2), .int .i64 ((rd_T82 l0 x16_1).f1), .int .i64 ((rd_T82 l0 x16_1).f2)]) (fr := (0, 0)) [.int .i64 ((rd_T82 l0 x16_1).f0.f1.f0), .int .i64 ((rd_T82 l0 x16_1).f0.f1.f1)] (by (with_reducible repeat (first | refine blk_drewN ?_ _ | refine blk_drew ?_ | refine blk_alloc ?_ _)); exact BK105.out) Try.underlying45 rfl isz45 rfl ?_) | (go_at_call 63; (with_reducible refine (CA21.out _).mono ?_); rintro e w40 ⟨rfl, hb⟩; have n0_ := Aside0.mk (blk_below (g := gb105) (by (with_reducible repeat (first | refine blk_drewN ?_ _ | refine blk_drew ?_ | refine blk_alloc ?_ _)); exact BK105.out) hb); have n1_ := Aside0.mk (below_step (by repeat (first | (with_reducible first | exact HB.out | apply below_alloc | apply pw_below_drewN | apply below_drew1 | refine below_set ?_ GE105.out) | exact HB.out)) hb); clear BK105; clear HB; have BK105 := n0_; have HB := n1_; clear n0_ n1_; (try clear hb); (try clear hb2); (try clear hk); (try clear hi); obtain ⟨hcz41_0, hfz41_0⟩ := blkc6 BK105.out) | ((with_reducible refine gate_dst (N := 57) rfl ?_); refine ld_cell rfl (N := 57) rfl 3 _ rfl gb105 3 rfl (t := 82) (cs := #[.int .i64 ((rd_T82 l0 x16_1).f0.f0), .int .i64 ((rd_T82 l0 x16_1).f0.f1.f0), .int .i64 ((rd_T82 l0 x16_1).f0.f1.f1), .int .i64 ((rd_T82 l0 x16_1).f0.f2), .int .i64 ((rd_T82 l0 x16_1).f1), .int .i64 ((rd_T82 l0 x16_1).f2)]) (fr := (0, 0)) (.int .i64 ((rd_T82 l0 x16_1).f0.f2)) (by (with_reducible repeat (first | refine blk_drewN ?_ _ | refine blk_drew ?_ | refine blk_alloc ?_ _)); exact BK105.out) Try.underlying3 rfl rfl ?_)))
                                    go_roundg kj6
                                    case measure => have := HK1.out; have := HJ6.out; omega
                                    case rel => exact ⟨(wrap64 (x16_1 + 1)), (by first | rfl | (simp; done) | (simp [*]; done)), H', ⟨by have := HK1.out; have := HJ6.out; omega⟩, ⟨by repeat (first | (with_reducible first | exact HB.out | apply below_alloc | apply pw_below_drewN | apply below_drew1 | refine below_set ?_ GE105.out) | exact HB.out)⟩⟩
                      · rw [if_neg c22] at H
                        have c22b0 : (t107 == 0) = false := beq_eq_false_iff_ne.mpr c22
                        have c22b1 : (t107 != 0) = true := bne_iff_ne.mpr c22
                        obtain rfl := Option.some.inj H
                        go_wp2_with (first | ((with_reducible refine gate_dst (N := 50) rfl ?_); refine ld_row rfl (N := 50) rfl 45 _ rfl gb105 1 rfl (t := 82) (cs := #[.int .i64 ((rd_T82 l0 x16_1).f0.f0), .int .i64 ((rd_T82 l0 x16_1).f0.f1.f0), .int .i64 ((rd_T82 l0 x16_1).f0.f1.f1), .int .i64 ((rd_T82 l0 x16_1).f0.f2), .int .i64 ((rd_T82 l0 x16_1).f1), .int .i64 ((rd_T82 l0 x16_1).f2)]) (fr := (0, 0)) [.int .i64 ((rd_T82 l0 x16_1).f0.f1.f0), .int .i64 ((rd_T82 l0 x16_1).f0.f1.f1)] (by (with_reducible repeat (first | refine blk_drewN ?_ _ | refine blk_drew ?_ | refine blk_alloc ?_ _)); exact BK105.out) Try.underlying45 rfl isz45 rfl ?_) | (go_at_call 63; (with_reducible refine (CA21.out _).mono ?_); rintro e w42 ⟨rfl, hb⟩; have n0_ := Aside0.mk (blk_below (g := gb105) (by (with_reducible repeat (first | refine blk_drewN ?_ _ | refine blk_drew ?_ | refine blk_alloc ?_ _)); exact BK105.out) hb); have n1_ := Aside0.mk (below_step (by repeat (first | (with_reducible first | exact HB.out | apply below_alloc | apply pw_below_drewN | apply below_drew1 | refine below_set ?_ GE105.out) | exact HB.out)) hb); clear BK105; clear HB; have BK105 := n0_; have HB := n1_; clear n0_ n1_; (try clear hb); (try clear hb2); (try clear hk); (try clear hi)))
                        repeat (go_quiet (first | ((with_reducible refine gate_dst (N := 50) rfl ?_); refine ld_row rfl (N := 50) rfl 45 _ rfl gb105 1 rfl (t := 82) (cs := #[.int .i64 ((rd_T82 l0 x16_1).f0.f0), .int .i64 ((rd_T82 l0 x16_1).f0.f1.f0), .int .i64 ((rd_T82 l0 x16_1).f0.f1.f1), .int .i64 ((rd_T82 l0 x16_1).f0.f2), .int .i64 ((rd_T82 l0 x16_1).f1), .int .i64 ((rd_T82 l0 x16_1).f2)]) (fr := (0, 0)) [.int .i64 ((rd_T82 l0 x16_1).f0.f1.f0), .int .i64 ((rd_T82 l0 x16_1).f0.f1.f1)] (by (with_reducible repeat (first | refine blk_drewN ?_ _ | refine blk_drew ?_ | refine blk_alloc ?_ _)); exact BK105.out) Try.underlying45 rfl isz45 rfl ?_) | (go_at_call 63; (with_reducible refine (CA21.out _).mono ?_); rintro e w42 ⟨rfl, hb⟩; have n0_ := Aside0.mk (blk_below (g := gb105) (by (with_reducible repeat (first | refine blk_drewN ?_ _ | refine blk_drew ?_ | refine blk_alloc ?_ _)); exact BK105.out) hb); have n1_ := Aside0.mk (below_step (by repeat (first | (with_reducible first | exact HB.out | apply below_alloc | apply pw_below_drewN | apply below_drew1 | refine below_set ?_ GE105.out) | exact HB.out)) hb); clear BK105; clear HB; have BK105 := n0_; have HB := n1_; clear n0_ n1_; (try clear hb); (try clear hb2); (try clear hk); (try clear hi))); try go_wp2_with (first | ((with_reducible refine gate_dst (N := 50) rfl ?_); refine ld_row rfl (N := 50) rfl 45 _ rfl gb105 1 rfl (t := 82) (cs := #[.int .i64 ((rd_T82 l0 x16_1).f0.f0), .int .i64 ((rd_T82 l0 x16_1).f0.f1.f0), .int .i64 ((rd_T82 l0 x16_1).f0.f1.f1), .int .i64 ((rd_T82 l0 x16_1).f0.f2), .int .i64 ((rd_T82 l0 x16_1).f1), .int .i64 ((rd_T82 l0 x16_1).f2)]) (fr := (0, 0)) [.int .i64 ((rd_T82 l0 x16_1).f0.f1.f0), .int .i64 ((rd_T82 l0 x16_1).f0.f1.f1)] (by (with_reducible repeat (first | refine blk_drewN ?_ _ | refine blk_drew ?_ | refine blk_alloc ?_ _)); exact BK105.out) Try.underlying45 rfl isz45 rfl ?_) | (go_at_call 63; (with_reducible refine (CA21.out _).mono ?_); rintro e w42 ⟨rfl, hb⟩; have n0_ := Aside0.mk (blk_below (g := gb105) (by (with_reducible repeat (first | refine blk_drewN ?_ _ | refine blk_drew ?_ | refine blk_alloc ?_ _)); exact BK105.out) hb); have n1_ := Aside0.mk (below_step (by repeat (first | (with_reducible first | exact HB.out | apply below_alloc | apply pw_below_drewN | apply below_drew1 | refine below_set ?_ GE105.out) | exact HB.out)) hb); clear BK105; clear HB; have BK105 := n0_; have HB := n1_; clear n0_ n1_; (try clear hb); (try clear hb2); (try clear hk); (try clear hi))))
                        go_ret
                        exact ⟨by first | rfl | (simp [errW_none, errW_some] <;> rfl) | (simp [*, errW_none, errW_some] <;> rfl), by repeat (first | (with_reducible first | exact HB.out | apply below_alloc | apply pw_below_drewN | apply below_drew1 | refine below_set ?_ GE105.out) | exact HB.out)⟩
              · rw [if_neg c6] at H
                exact absurd H (by simp)
            · rw [if_neg c5] at H
              exact absurd H (by simp)
          · rw [if_neg c4] at H
            have c4b0 : decide (x16_1 < (l0.length : Int)) = false := decide_eq_false c4
            clear c4
            obtain rfl := Option.some.inj H
            go_wp2
            repeat (go_quiet (fail); try go_wp2)
            go_ret
            exact ⟨by first | rfl | (simp [errW_none, errW_some] <;> rfl) | (simp [*, errW_none, errW_some] <;> rfl), by repeat (first | (with_reducible first | exact HB.out | apply below_alloc | apply pw_below_drewN | apply below_drew1) | exact HB.out)⟩

/-! ### num_DivDown: function 46 -/
def num_DivDown.j0 : Nat → Int → Int → Bool → Option (Int × Int)
  | 0, _, _, _ => none
  | k + 1, x0, x1, x10 => if x10 = true then (some (0, 2)) else (if x1 = 0 then (none) else (if (Int.tmod x0 x1) = 0 then (some (wrap64 (Int.tdiv x0 x1), 0)) else (if ((decide (x0 < 0)) != (decide (x1 < 0))) = true then (some (wrap64 ((wrap64 (Int.tdiv x0 x1)) - 1), 0)) else (some (wrap64 (Int.tdiv x0 x1), 0)))))
def num_DivDown.f (k : Nat) (a0 : Int) (a1 : Int) : Option (Int × Int) := if a1 = 0 then (some (0, 10)) else (if a0 = (-9223372036854775808) then (num_DivDown.j0 k a0 a1 (a1 == (-1))) else (num_DivDown.j0 k a0 a1 false))
theorem num_DivDown.mono_l : ∀ k, (∀ y0 y1 y2, LeO (num_DivDown.j0 k y0 y1 y2) (num_DivDown.j0 (k + 1) y0 y1 y2))
  | 0 => fun _ _ _ r h => by simp [num_DivDown.j0] at h
  | k + 1 => by
    have ih0 := num_DivDown.mono_l k
    · intro y0 y1 y2
      unfold num_DivDown.j0
      repeat' first
      | (with_reducible exact ih0 _ _ _)
      | (with_reducible exact LeO.refl _)
      | (with_reducible exact LeO.none _)
      | (with_reducible refine LeO.ite ?_ ?_)
      | (with_reducible refine LeO.bind ?_ (fun _ => ?_))
      | exact ih0 _ _ _
      | exact LeO.none _
      | refine LeO.ite ?_ ?_
      | refine LeO.bind ?_ (fun _ => ?_)
theorem num_DivDown.mono : ∀ a0 a1 k, LeO (num_DivDown.f k a0 a1) (num_DivDown.f (k + 1) a0 a1) := by
  intro a0 a1 k
  have ih0 := num_DivDown.mono_l k
  unfold num_DivDown.f
  repeat' first
      | (with_reducible exact ih0 _ _ _)
      | (with_reducible exact LeO.refl _)
      | (with_reducible exact LeO.none _)
      | (with_reducible refine LeO.ite ?_ ?_)
      | (with_reducible refine LeO.bind ?_ (fun _ => ?_))
      | exact ih0 _ _ _
      | exact LeO.none _
      | refine LeO.ite ?_ ?_
      | refine LeO.bind ?_ (fun _ => ?_)
set_option maxHeartbeats 80000000 in
set_option maxRecDepth 100000 in
theorem num_DivDown.calls (k : Nat) (a0 : Int) (a1 : Int) (r1 : Int) (r2 : Int) (w : World) (h : num_DivDown.f k a0 a1 = some (r1, r2)) :
    Calls Try.prog 46 #[.int .i64 a0, .int .i64 a1] w fun e w' => e = .returned (.tuple #[.int .i64 r1, .int .i64 r2]) ∧ Drawn0 w w' := by
  have H : (if a1 = 0 then (some (0, 10)) else (if a0 = (-9223372036854775808) then (num_DivDown.j0 k a0 a1 (a1 == (-1))) else (num_DivDown.j0 k a0 a1 false))) = some (r1, r2) := h
  clear h
  by_cases c3 : a1 = 0
  · rw [if_pos c3] at H
    have c3b0 : (a1 == 0) = true := beq_iff_eq.mpr c3
    have c3b1 : (a1 != 0) = false := bne_eq_false_iff_eq.mpr c3
    clear c3
    simp only [Option.some.injEq, Prod.mk.injEq] at H
    obtain ⟨rfl, rfl⟩ := H
    go_enter Try.func46, Try.ntmps46
    go_wp2
    go_ret2
    exact ⟨by first | rfl | (simp; done) | (simp [*]; done), by repeat (first | exact Drawn0.refl _ | apply Drawn0.step)⟩
  · rw [if_neg c3] at H
    have c3b0 : (a1 == 0) = false := beq_eq_false_iff_ne.mpr c3
    have c3b1 : (a1 != 0) = true := bne_iff_ne.mpr c3
    have HC4 := Aside0.mk H
    clear H
    go_enter Try.func46, Try.ntmps46
    go_upto_region 3 with (fail)
    go_cut [10] (fun v10 wc => ∃ (kq : Nat) (x10_3 : Bool), v10 = .bool x10_3 ∧ Aside0 (num_DivDown.j0 kq a0 a1 x10_3 = some (r1, r2)) ∧ Aside0 (kq ≤ k) ∧ Drawn0 w wc)
    case first =>
      have H := HC4.out
      clear HC4
      by_cases c5 : a0 = (-9223372036854775808)
      · rw [if_pos c5] at H
        have c5b0 : (a0 == (-9223372036854775808)) = true := beq_iff_eq.mpr c5
        have c5b1 : (a0 != (-9223372036854775808)) = false := bne_eq_false_iff_eq.mpr c5
        clear c5
        (first | rw [c5b0] | (simp only [i64_w, i32_w]; rw [c5b0]) | skip)
        have H' := Aside0.mk H
        clear H
        go_wp2
        go_meet
        case rel => exact ⟨_, ((a1 == (-1))), (by first | rfl | (simp; done) | (simp [*]; done)), H', ⟨by first | omega | exact Nat.le_refl _⟩, by repeat (first | exact Drawn0.refl _ | apply Drawn0.step)⟩
      · rw [if_neg c5] at H
        have c5b0 : (a0 == (-9223372036854775808)) = false := beq_eq_false_iff_ne.mpr c5
        have c5b1 : (a0 != (-9223372036854775808)) = true := bne_iff_ne.mpr c5
        (first | rw [c5b0] | (simp only [i64_w, i32_w]; rw [c5b0]) | skip)
        have H' := Aside0.mk H
        clear H
        go_wp2
        go_meet
        case rel => exact ⟨_, (false), (by first | rfl | (simp; done) | (simp [*]; done)), H', ⟨by first | omega | exact Nat.le_refl _⟩, by repeat (first | exact Drawn0.refl _ | apply Drawn0.step)⟩
    case rest =>
      clear HC4
      try clear p2
      try clear c3
      try clear c3b0
      try clear c3b1
      try clear c4
      try clear c5
      try clear c5b0
      try clear c5b1
      obtain ⟨kq, x10_3, rfl, HA, HJ3, ⟨mc3, rfl⟩⟩ := hcut
      cases kq with
      | zero => exact absurd HA.out (by simp [num_DivDown.j0])
      | succ kj3 =>
        have H := HA.out
        clear HA
        simp only [num_DivDown.j0] at H
        by_cases c6 : x10_3 = true
        · subst c6
          have H1 : (some (0, 2)) = some (r1, r2) := by rw [if_pos rfl] at H; exact H
          clear H
          have H := H1
          clear H1
          simp only [Option.some.injEq, Prod.mk.injEq] at H
          obtain ⟨rfl, rfl⟩ := H
          go_wp2
          go_ret2
          exact ⟨by first | rfl | (simp; done) | (simp [*]; done), by repeat (first | exact Drawn0.refl _ | apply Drawn0.step)⟩
        · replace c6 := Bool.eq_false_iff.mpr c6
          subst c6
          have H1 : (if a1 = 0 then (none) else (if (Int.tmod a0 a1) = 0 then (some (wrap64 (Int.tdiv a0 a1), 0)) else (if ((decide (a0 < 0)) != (decide (a1 < 0))) = true then (some (wrap64 ((wrap64 (Int.tdiv a0 a1)) - 1), 0)) else (some (wrap64 (Int.tdiv a0 a1), 0))))) = some (r1, r2) := by rw [if_neg (show ¬ (false = true) by decide)] at H; exact H
          clear H
          have H := H1
          clear H1
          by_cases c7 : a1 = 0
          · rw [if_pos c7] at H
            exact absurd H (by simp)
          · rw [if_neg c7] at H
            have c7b0 : (a1 == 0) = false := beq_eq_false_iff_ne.mpr c7
            have c7b1 : (a1 != 0) = true := bne_iff_ne.mpr c7
            by_cases c8 : (Int.tmod a0 a1) = 0
            · rw [if_pos c8] at H
              have c8b0 : ((Int.tmod a0 a1) == 0) = true := beq_iff_eq.mpr c8
              have c8b1 : ((Int.tmod a0 a1) != 0) = false := bne_eq_false_iff_eq.mpr c8
              clear c8
              simp only [Option.some.injEq, Prod.mk.injEq] at H
              obtain ⟨rfl, rfl⟩ := H
              go_wp2
              go_ret2
              exact ⟨by first | rfl | (simp; done) | (simp [*]; done), by repeat (first | exact Drawn0.refl _ | apply Drawn0.step)⟩
            · rw [if_neg c8] at H
              have c8b0 : ((Int.tmod a0 a1) == 0) = false := beq_eq_false_iff_ne.mpr c8
              have c8b1 : ((Int.tmod a0 a1) != 0) = true := bne_iff_ne.mpr c8
              by_cases c9 : ((decide (a0 < 0)) != (decide (a1 < 0))) = true
              · rw [if_pos c9] at H
                have c9b0 : ((decide (a0 < 0)) != (decide (a1 < 0))) = true := c9
                (try (have c9b1 : decide ((decide (a0 < 0)) = (decide (a1 < 0))) = false := by simpa using c9))
                (try (have c9b2 : ((decide (a0 < 0)) == (decide (a1 < 0))) = false := by simpa using c9))
                (try (have c9b3 : ¬ ((decide (a0 < 0)) = (decide (a1 < 0))) := by simpa using c9))
                clear c9
                simp only [Option.some.injEq, Prod.mk.injEq] at H
                obtain ⟨rfl, rfl⟩ := H
                go_wp2
                go_ret2
                exact ⟨by first | rfl | (simp; done) | (simp [*]; done), by repeat (first | exact Drawn0.refl _ | apply Drawn0.step)⟩
              · rw [if_neg c9] at H
                have c9b0 : ((decide (a0 < 0)) != (decide (a1 < 0))) = false := by simpa using c9
                (try (have c9b1 : decide ((decide (a0 < 0)) = (decide (a1 < 0))) = true := by simpa using c9))
                (try (have c9b2 : ((decide (a0 < 0)) == (decide (a1 < 0))) = true := by simpa using c9))
                clear c9
                simp only [Option.some.injEq, Prod.mk.injEq] at H
                obtain ⟨rfl, rfl⟩ := H
                go_wp2
                go_ret2
                exact ⟨by first | rfl | (simp; done) | (simp [*]; done), by repeat (first | exact Drawn0.refl _ | apply Drawn0.step)⟩

/-! ### plane_Toward: function 77 -/
def plane_Toward.j0 : Nat → Int → Int → Bool → Int → Int → Int → Int → Option (Int × Int × Int)
  | 0, _, _, _, _, _, _, _ => none
  | k + 1, x2, x3, x18, x109000, x109001, x110000, x110001 => if x18 = true then (some (0, 0, 4)) else ((num_DivDown.f k (wrap64 ((wrap64 (x110000 - x109000)) * x2)) x3).bind fun bt113 => ((num_DivDown.f k (wrap64 ((wrap64 (x110001 - x109001)) * x2)) x3).bind fun bt115 => (some (wrap64 (x109000 + bt113.1), wrap64 (x109001 + bt115.1), 0))))
def plane_Toward.f (k : Nat) (a0_0 : Int) (a0_1 : Int) (a1_0 : Int) (a1_1 : Int) (a2 : Int) (a3 : Int) : Option (Int × Int × Int) := if a3 ≤ 0 then (some (0, 0, 10)) else (if a3 > 200000 then (plane_Toward.j0 k a2 a3 true a0_0 a0_1 a1_0 a1_1) else (if a2 < 0 then (plane_Toward.j0 k a2 a3 true a0_0 a0_1 a1_0 a1_1) else (if a2 > a3 then (plane_Toward.j0 k a2 a3 true a0_0 a0_1 a1_0 a1_1) else ((plane_Check.f a0_0 a0_1).bind fun t111 => (if t111 = 0 then ((plane_Check.f a1_0 a1_1).bind fun t112 => (plane_Toward.j0 k a2 a3 (t112 != 0) a0_0 a0_1 a1_0 a1_1)) else (plane_Toward.j0 k a2 a3 true a0_0 a0_1 a1_0 a1_1))))))
theorem plane_Toward.mono_l : ∀ k, (∀ y0 y1 y2 y3 y4 y5 y6, LeO (plane_Toward.j0 k y0 y1 y2 y3 y4 y5 y6) (plane_Toward.j0 (k + 1) y0 y1 y2 y3 y4 y5 y6))
  | 0 => fun _ _ _ _ _ _ _ r h => by simp [plane_Toward.j0] at h
  | k + 1 => by
    have ih0 := plane_Toward.mono_l k
    · intro y0 y1 y2 y3 y4 y5 y6
      unfold plane_Toward.j0
      repeat' first
      | (with_reducible exact ih0 _ _ _ _ _ _ _)
      | (with_reducible exact num_DivDown.mono _ _ _)
      | (with_reducible exact LeO.refl _)
      | (with_reducible exact LeO.none _)
      | (with_reducible refine LeO.ite ?_ ?_)
      | (with_reducible refine LeO.bind ?_ (fun _ => ?_))
      | exact ih0 _ _ _ _ _ _ _
      | exact num_DivDown.mono _ _ _
      | exact LeO.none _
      | refine LeO.ite ?_ ?_
      | refine LeO.bind ?_ (fun _ => ?_)
theorem plane_Toward.mono : ∀ a0 a1 a2 a3 a4 a5 k, LeO (plane_Toward.f k a0 a1 a2 a3 a4 a5) (plane_Toward.f (k + 1) a0 a1 a2 a3 a4 a5) := by
  intro a0 a1 a2 a3 a4 a5 k
  have ih0 := plane_Toward.mono_l k
  unfold plane_Toward.f
  repeat' first
      | (with_reducible exact ih0 _ _ _ _ _ _ _)
      | (with_reducible exact num_DivDown.mono _ _ _)
      | (with_reducible exact LeO.refl _)
      | (with_reducible exact LeO.none _)
      | (with_reducible refine LeO.ite ?_ ?_)
      | (with_reducible refine LeO.bind ?_ (fun _ => ?_))
      | exact ih0 _ _ _ _ _ _ _
      | exact num_DivDown.mono _ _ _
      | exact LeO.none _
      | refine LeO.ite ?_ ?_
      | refine LeO.bind ?_ (fun _ => ?_)
set_option maxHeartbeats 80000000 in
set_option maxRecDepth 100000 in
theorem plane_Toward.calls (k : Nat) (a0_0 : Int) (a0_1 : Int) (a1_0 : Int) (a1_1 : Int) (a2 : Int) (a3 : Int) (r1 : Int) (r2 : Int) (r3 : Int) (w : World) (h : plane_Toward.f k a0_0 a0_1 a1_0 a1_1 a2 a3 = some (r1, r2, r3)) :
    Calls Try.prog 77 #[.agg #[.int .i64 a0_0, .int .i64 a0_1], .agg #[.int .i64 a1_0, .int .i64 a1_1], .int .i64 a2, .int .i64 a3] w fun e w' => e = .returned (.tuple #[.agg #[.int .i64 r1, .int .i64 r2], .int .i64 r3]) ∧ Below w.heap.size w w' := by
  have hu45 := Try.underlying45
  have HB := Aside0.mk (Below.refl w.heap.size w)
  have H : (if a3 ≤ 0 then (some (0, 0, 10)) else (if a3 > 200000 then (plane_Toward.j0 k a2 a3 true a0_0 a0_1 a1_0 a1_1) else (if a2 < 0 then (plane_Toward.j0 k a2 a3 true a0_0 a0_1 a1_0 a1_1) else (if a2 > a3 then (plane_Toward.j0 k a2 a3 true a0_0 a0_1 a1_0 a1_1) else ((plane_Check.f a0_0 a0_1).bind fun t111 => (if t111 = 0 then ((plane_Check.f a1_0 a1_1).bind fun t112 => (plane_Toward.j0 k a2 a3 (t112 != 0) a0_0 a0_1 a1_0 a1_1)) else (plane_Toward.j0 k a2 a3 true a0_0 a0_1 a1_0 a1_1))))))) = some (r1, r2, r3) := h
  clear h
  by_cases c5 : a3 ≤ 0
  · rw [if_pos c5] at H
    have c5b0 : decide (a3 ≤ 0) = true := decide_eq_true c5
    clear c5
    simp only [Option.some.injEq, Prod.mk.injEq] at H
    obtain ⟨rfl, rfl, rfl⟩ := H
    go_enter Try.func77, Try.ntmps77
    go_wp2_with (first | ((with_reducible refine gate_dst (N := 4) rfl ?_); refine box_event ?hg (N := 4) ?hd (cs := #[.int .i64 a0_0, .int .i64 a0_1]) (t := 45) ?hr ?_; (case hd => rfl); (case hg => rfl); (case hr => first | (go_simp; done) | (go_simp; rfl)); intro gb108 hg w6 hbox hb; have n0_ := Aside0.mk (below_step (by repeat (first | (with_reducible first | exact HB.out | apply below_alloc | apply pw_below_drewN | apply below_drew1) | exact HB.out)) hb); have n1_ := Aside0.mk (hbox); have n2_ := Aside0.mk ((by rw [hg]; exact (below_size (by repeat (first | (with_reducible first | exact HB.out | apply below_alloc | apply pw_below_drewN | apply below_drew1) | exact HB.out))) : w.heap.size ≤ gb108)); have n3_ := Aside0.mk ((by rw [hg]; exact (below_size (by repeat (first | (with_reducible first | exact HB.out | apply below_alloc | apply pw_below_drewN | apply below_drew1) | exact HB.out))) : w.heap.size ≤ gb108)); clear HB; have HB := n0_; have BK108 := n1_; have GW108 := n2_; have GE108 := n3_; clear n0_ n1_ n2_ n3_; clear hb hbox hg) | ((with_reducible refine gate_dst (N := 5) rfl ?_); refine box_event ?hg (N := 5) ?hd (cs := #[.int .i64 a1_0, .int .i64 a1_1]) (t := 45) ?hr ?_; (case hd => rfl); (case hg => rfl); (case hr => first | (go_simp; done) | (go_simp; rfl)); intro gb109 hg w7 hbox hb; have n0_ := Aside0.mk (blk_below (g := gb108) (by (with_reducible repeat (first | refine blk_drewN ?_ _ | refine blk_drew ?_ | refine blk_alloc ?_ _)); exact BK108.out) hb); have n1_ := Aside0.mk (below_step (by repeat (first | (with_reducible first | exact HB.out | apply below_alloc | apply pw_below_drewN | apply below_drew1 | refine below_set ?_ GE108.out) | exact HB.out)) hb); have n2_ := Aside0.mk (hbox); have n3_ := Aside0.mk ((by rw [hg]; exact (below_size (by repeat (first | (with_reducible first | exact HB.out | apply below_alloc | apply pw_below_drewN | apply below_drew1 | refine below_set ?_ GE108.out) | exact HB.out))) : w.heap.size ≤ gb109)); have n4_ := Aside0.mk ((by rw [hg]; exact (below_size (by repeat (first | (with_reducible first | exact HB.out | apply below_alloc | apply pw_below_drewN | apply below_drew1 | refine below_set ?_ GE108.out) | exact HB.out))) : w.heap.size ≤ gb109)); have n5_ := Aside0.mk ((by rw [hg]; exact Nat.ne_of_lt (blk_lt (g := gb108) (by (with_reducible repeat (first | refine blk_drewN ?_ _ | refine blk_drew ?_ | refine blk_alloc ?_ _)); exact BK108.out)) : gb108 ≠ gb109)); have n6_ := Aside0.mk ((by rw [hg]; exact Nat.ne_of_gt (blk_lt (g := gb108) (by (with_reducible repeat (first | refine blk_drewN ?_ _ | refine blk_drew ?_ | refine blk_alloc ?_ _)); exact BK108.out)) : gb109 ≠ gb108)); clear BK108; clear HB; have BK108 := n0_; have HB := n1_; have BK109 := n2_; have GW109 := n3_; have GE109 := n4_; have NB108_109 := n5_; have NB109_108 := n6_; clear n0_ n1_ n2_ n3_ n4_ n5_ n6_; clear hb hbox hg) | ((with_reducible refine gate_dst (N := 8) rfl ?_); refine box_event ?hg (N := 8) ?hd (cs := #[.int .i64 0, .int .i64 0]) (t := 45) ?hr ?_; (case hd => rfl); (case hg => rfl); (case hr => first | (go_simp; done) | (go_simp; rfl)); intro gb110 hg w8 hbox hb; have n0_ := Aside0.mk (blk_below (g := gb108) (by (with_reducible repeat (first | refine blk_drewN ?_ _ | refine blk_drew ?_ | refine blk_alloc ?_ _)); exact BK108.out) hb); have n1_ := Aside0.mk (blk_below (g := gb109) (by (with_reducible repeat (first | refine blk_drewN ?_ _ | refine blk_drew ?_ | refine blk_alloc ?_ _)); exact BK109.out) hb); have n2_ := Aside0.mk (below_step (by repeat (first | (with_reducible first | exact HB.out | apply below_alloc | apply pw_below_drewN | apply below_drew1 | refine below_set ?_ GE108.out | refine below_set ?_ GE109.out) | exact HB.out)) hb); have n3_ := Aside0.mk (hbox); have n4_ := Aside0.mk ((by rw [hg]; exact (below_size (by repeat (first | (with_reducible first | exact HB.out | apply below_alloc | apply pw_below_drewN | apply below_drew1 | refine below_set ?_ GE108.out | refine below_set ?_ GE109.out) | exact HB.out))) : w.heap.size ≤ gb110)); have n5_ := Aside0.mk ((by rw [hg]; exact (below_size (by repeat (first | (with_reducible first | exact HB.out | apply below_alloc | apply pw_below_drewN | apply below_drew1 | refine below_set ?_ GE108.out | refine below_set ?_ GE109.out) | exact HB.out))) : w.heap.size ≤ gb110)); have n6_ := Aside0.mk ((by rw [hg]; exact Nat.ne_of_lt (blk_lt (g := gb108) (by (with_reducible repeat (first | refine blk_drewN ?_ _ | refine blk_drew ?_ | refine blk_alloc ?_ _)); exact BK108.out)) : gb108 ≠ gb110)); have n7_ := Aside0.mk ((by rw [hg]; exact Nat.ne_of_gt (blk_lt (g := gb108) (by (with_reducible repeat (first | refine blk_drewN ?_ _ | refine blk_drew ?_ | refine blk_alloc ?_ _)); exact BK108.out)) : gb110 ≠ gb108)); have n8_ := Aside0.mk ((by rw [hg]; exact Nat.ne_of_lt (blk_lt (g := gb109) (by (with_reducible repeat (first | refine blk_drewN ?_ _ | refine blk_drew ?_ | refine blk_alloc ?_ _)); exact BK109.out)) : gb109 ≠ gb110)); have n9_ := Aside0.mk ((by rw [hg]; exact Nat.ne_of_gt (blk_lt (g := gb109) (by (with_reducible repeat (first | refine blk_drewN ?_ _ | refine blk_drew ?_ | refine blk_alloc ?_ _)); exact BK109.out)) : gb110 ≠ gb109)); clear BK108; clear BK109; clear HB; have BK108 := n0_; have BK109 := n1_; have HB := n2_; have BK110 := n3_; have GW110 := n4_; have GE110 := n5_; have NB108_110 := n6_; have NB110_108 := n7_; have NB109_110 := n8_; have NB110_109 := n9_; clear n0_ n1_ n2_ n3_ n4_ n5_ n6_ n7_ n8_ n9_; clear hb hbox hg) | ((with_reducible refine gate_store (t := 45) (p := 8) rfl ?_); refine st_row rfl rfl 45 8 _ rfl gb110 0 rfl (t := 45) (cs := #[.int .i64 0, .int .i64 0]) [.int .i64 0, .int .i64 0] _ rfl rfl isz45 (by (with_reducible repeat (first | refine blk_drewN ?_ _ | refine blk_drew ?_ | refine blk_alloc ?_ _)); exact BK110.out) (Nat.le_of_ble_eq_true rfl) rfl #[.int .i64 0, .int .i64 0] rfl ?_; intro w9 hx_ hy_ hz_; have n0_ := Aside0.mk (hx_); have n1_ := Aside0.mk (((hy_ gb108 NB108_110.out).trans (by (with_reducible repeat (first | refine blk_drewN ?_ _ | refine blk_drew ?_ | refine blk_alloc ?_ _)); exact BK108.out) : w9.heap[gb108]? = some (.cells #[.int .i64 a0_0, .int .i64 a0_1] 45 (0, 0)))); have n2_ := Aside0.mk (((hy_ gb109 NB109_110.out).trans (by (with_reducible repeat (first | refine blk_drewN ?_ _ | refine blk_drew ?_ | refine blk_alloc ?_ _)); exact BK109.out) : w9.heap[gb109]? = some (.cells #[.int .i64 a1_0, .int .i64 a1_1] 45 (0, 0)))); have n3_ := Aside0.mk (hz_ _ _ (by repeat (first | (with_reducible first | exact HB.out | apply below_alloc | apply pw_below_drewN | apply below_drew1 | refine below_set ?_ GE108.out | refine below_set ?_ GE109.out | refine below_set ?_ GE110.out) | exact HB.out)) GE110.out); clear BK110; clear BK108; clear BK109; clear HB; have BK110 := n0_; have BK108 := n1_; have BK109 := n2_; have HB := n3_; clear n0_ n1_ n2_ n3_; clear hx_ hy_ hz_))
    refine bodyPost_ret (results_ct rfl _ _ gb110 45 #[.int .i64 0, .int .i64 0] (0, 0) _ rfl (by (with_reducible repeat (first | refine blk_drewN ?_ _ | refine blk_drew ?_ | refine blk_alloc ?_ _)); exact BK110.out) Try.underlying45 rfl (by kernel_rfl)) rfl ?_
    exact ⟨by first | rfl | (simp [errW_none, errW_some] <;> rfl) | (simp [*, errW_none, errW_some] <;> rfl), by repeat (first | (with_reducible first | exact HB.out | apply below_alloc | apply pw_below_drewN | apply below_drew1 | refine below_set ?_ GE108.out | refine below_set ?_ GE109.out | refine below_set ?_ GE110.out) | exact HB.out)⟩
  · rw [if_neg c5] at H
    have c5b0 : decide (a3 ≤ 0) = false := decide_eq_false c5
    clear c5
    have HC10 := Aside0.mk H
    clear H
    go_enter Try.func77, Try.ntmps77
    go_upto_region 3 with (first | ((with_reducible refine gate_dst (N := 4) rfl ?_); refine box_event ?hg (N := 4) ?hd (cs := #[.int .i64 a0_0, .int .i64 a0_1]) (t := 45) ?hr ?_; (case hd => rfl); (case hg => rfl); (case hr => first | (go_simp; done) | (go_simp; rfl)); intro gb108 hg w11 hbox hb; have n0_ := Aside0.mk (below_step (by repeat (first | (with_reducible first | exact HB.out | apply below_alloc | apply pw_below_drewN | apply below_drew1) | exact HB.out)) hb); have n1_ := Aside0.mk (hbox); have n2_ := Aside0.mk ((by rw [hg]; exact (below_size (by repeat (first | (with_reducible first | exact HB.out | apply below_alloc | apply pw_below_drewN | apply below_drew1) | exact HB.out))) : w.heap.size ≤ gb108)); have n3_ := Aside0.mk ((by rw [hg]; exact (below_size (by repeat (first | (with_reducible first | exact HB.out | apply below_alloc | apply pw_below_drewN | apply below_drew1) | exact HB.out))) : w.heap.size ≤ gb108)); clear HB; have HB := n0_; have BK108 := n1_; have GW108 := n2_; have GE108 := n3_; clear n0_ n1_ n2_ n3_; clear hb hbox hg) | ((with_reducible refine gate_dst (N := 5) rfl ?_); refine box_event ?hg (N := 5) ?hd (cs := #[.int .i64 a1_0, .int .i64 a1_1]) (t := 45) ?hr ?_; (case hd => rfl); (case hg => rfl); (case hr => first | (go_simp; done) | (go_simp; rfl)); intro gb109 hg w12 hbox hb; have n0_ := Aside0.mk (blk_below (g := gb108) (by (with_reducible repeat (first | refine blk_drewN ?_ _ | refine blk_drew ?_ | refine blk_alloc ?_ _)); exact BK108.out) hb); have n1_ := Aside0.mk (below_step (by repeat (first | (with_reducible first | exact HB.out | apply below_alloc | apply pw_below_drewN | apply below_drew1 | refine below_set ?_ GE108.out) | exact HB.out)) hb); have n2_ := Aside0.mk (hbox); have n3_ := Aside0.mk ((by rw [hg]; exact (below_size (by repeat (first | (with_reducible first | exact HB.out | apply below_alloc | apply pw_below_drewN | apply below_drew1 | refine below_set ?_ GE108.out) | exact HB.out))) : w.heap.size ≤ gb109)); have n4_ := Aside0.mk ((by rw [hg]; exact (below_size (by repeat (first | (with_reducible first | exact HB.out | apply below_alloc | apply pw_below_drewN | apply below_drew1 | refine below_set ?_ GE108.out) | exact HB.out))) : w.heap.size ≤ gb109)); have n5_ := Aside0.mk ((by rw [hg]; exact Nat.ne_of_lt (blk_lt (g := gb108) (by (with_reducible repeat (first | refine blk_drewN ?_ _ | refine blk_drew ?_ | refine blk_alloc ?_ _)); exact BK108.out)) : gb108 ≠ gb109)); have n6_ := Aside0.mk ((by rw [hg]; exact Nat.ne_of_gt (blk_lt (g := gb108) (by (with_reducible repeat (first | refine blk_drewN ?_ _ | refine blk_drew ?_ | refine blk_alloc ?_ _)); exact BK108.out)) : gb109 ≠ gb108)); clear BK108; clear HB; have BK108 := n0_; have HB := n1_; have BK109 := n2_; have GW109 := n3_; have GE109 := n4_; have NB108_109 := n5_; have NB109_108 := n6_; clear n0_ n1_ n2_ n3_ n4_ n5_ n6_; clear hb hbox hg) | ((with_reducible refine gate_dst (N := 8) rfl ?_); refine box_event ?hg (N := 8) ?hd (cs := #[.int .i64 0, .int .i64 0]) (t := 45) ?hr ?_; (case hd => rfl); (case hg => rfl); (case hr => first | (go_simp; done) | (go_simp; rfl)); intro gb110 hg w13 hbox hb; have n0_ := Aside0.mk (blk_below (g := gb108) (by (with_reducible repeat (first | refine blk_drewN ?_ _ | refine blk_drew ?_ | refine blk_alloc ?_ _)); exact BK108.out) hb); have n1_ := Aside0.mk (blk_below (g := gb109) (by (with_reducible repeat (first | refine blk_drewN ?_ _ | refine blk_drew ?_ | refine blk_alloc ?_ _)); exact BK109.out) hb); have n2_ := Aside0.mk (below_step (by repeat (first | (with_reducible first | exact HB.out | apply below_alloc | apply pw_below_drewN | apply below_drew1 | refine below_set ?_ GE108.out | refine below_set ?_ GE109.out) | exact HB.out)) hb); have n3_ := Aside0.mk (hbox); have n4_ := Aside0.mk ((by rw [hg]; exact (below_size (by repeat (first | (with_reducible first | exact HB.out | apply below_alloc | apply pw_below_drewN | apply below_drew1 | refine below_set ?_ GE108.out | refine below_set ?_ GE109.out) | exact HB.out))) : w.heap.size ≤ gb110)); have n5_ := Aside0.mk ((by rw [hg]; exact (below_size (by repeat (first | (with_reducible first | exact HB.out | apply below_alloc | apply pw_below_drewN | apply below_drew1 | refine below_set ?_ GE108.out | refine below_set ?_ GE109.out) | exact HB.out))) : w.heap.size ≤ gb110)); have n6_ := Aside0.mk ((by rw [hg]; exact Nat.ne_of_lt (blk_lt (g := gb108) (by (with_reducible repeat (first | refine blk_drewN ?_ _ | refine blk_drew ?_ | refine blk_alloc ?_ _)); exact BK108.out)) : gb108 ≠ gb110)); have n7_ := Aside0.mk ((by rw [hg]; exact Nat.ne_of_gt (blk_lt (g := gb108) (by (with_reducible repeat (first | refine blk_drewN ?_ _ | refine blk_drew ?_ | refine blk_alloc ?_ _)); exact BK108.out)) : gb110 ≠ gb108)); have n8_ := Aside0.mk ((by rw [hg]; exact Nat.ne_of_lt (blk_lt (g := gb109) (by (with_reducible repeat (first | refine blk_drewN ?_ _ | refine blk_drew ?_ | refine blk_alloc ?_ _)); exact BK109.out)) : gb109 ≠ gb110)); have n9_ := Aside0.mk ((by rw [hg]; exact Nat.ne_of_gt (blk_lt (g := gb109) (by (with_reducible repeat (first | refine blk_drewN ?_ _ | refine blk_drew ?_ | refine blk_alloc ?_ _)); exact BK109.out)) : gb110 ≠ gb109)); clear BK108; clear BK109; clear HB; have BK108 := n0_; have BK109 := n1_; have HB := n2_; have BK110 := n3_; have GW110 := n4_; have GE110 := n5_; have NB108_110 := n6_; have NB110_108 := n7_; have NB109_110 := n8_; have NB110_109 := n9_; clear n0_ n1_ n2_ n3_ n4_ n5_ n6_ n7_ n8_ n9_; clear hb hbox hg))
    (try simp only [Act.put, List.setIfInBounds_toArray, List.set_cons_zero, List.set_cons_succ])
    go_cut [18] (fun v18 wc => ∃ (kq : Nat) (x18_9 : Bool), v18 = .bool x18_9 ∧ Aside0 (plane_Toward.j0 kq a2 a3 x18_9 a0_0 a0_1 a1_0 a1_1 = some (r1, r2, r3)) ∧ Aside0 (kq ≤ k) ∧ Aside0 (wc.heap[gb108]? = some (.cells #[.int .i64 a0_0, .int .i64 a0_1] 45 (0, 0))) ∧ Aside0 (wc.heap[gb109]? = some (.cells #[.int .i64 a1_0, .int .i64 a1_1] 45 (0, 0))) ∧ Aside0 (wc.heap[gb110]? = some (.cells #[.int .i64 0, .int .i64 0] 45 (0, 0))) ∧ Aside0 (Below w.heap.size w wc))
    case first =>
      have H := HC10.out
      clear HC10
      by_cases c14 : a3 > 200000
      · rw [if_pos c14] at H
        have c14b0 : decide (200000 < a3) = true := decide_eq_true c14
        clear c14
        (first | rw [c14b0] | (simp only [i64_w, i32_w]; rw [c14b0]) | skip)
        have H' := Aside0.mk H
        clear H
        go_wp2
        go_meet
        case rel => exact ⟨_, (true), (by first | rfl | (simp; done) | (simp [*]; done)), H', ⟨by first | omega | exact Nat.le_refl _⟩, ⟨by (with_reducible repeat (first | refine blk_drewN ?_ _ | refine blk_drew ?_ | refine blk_alloc ?_ _)); exact BK108.out⟩, ⟨by (with_reducible repeat (first | refine blk_drewN ?_ _ | refine blk_drew ?_ | refine blk_alloc ?_ _)); exact BK109.out⟩, ⟨by (with_reducible repeat (first | refine blk_drewN ?_ _ | refine blk_drew ?_ | refine blk_alloc ?_ _)); exact BK110.out⟩, ⟨by repeat (first | (with_reducible first | exact HB.out | apply below_alloc | apply pw_below_drewN | apply below_drew1 | refine below_set ?_ GE108.out | refine below_set ?_ GE109.out | refine below_set ?_ GE110.out) | exact HB.out)⟩⟩
      · rw [if_neg c14] at H
        have c14b0 : decide (200000 < a3) = false := decide_eq_false c14
        clear c14
        (first | rw [c14b0] | (simp only [i64_w, i32_w]; rw [c14b0]) | skip)
        by_cases c15 : a2 < 0
        · rw [if_pos c15] at H
          have c15b0 : decide (a2 < 0) = true := decide_eq_true c15
          clear c15
          have H' := Aside0.mk H
          clear H
          go_wp2
          go_meet
          case rel => exact ⟨_, (true), (by first | rfl | (simp; done) | (simp [*]; done)), H', ⟨by first | omega | exact Nat.le_refl _⟩, ⟨by (with_reducible repeat (first | refine blk_drewN ?_ _ | refine blk_drew ?_ | refine blk_alloc ?_ _)); exact BK108.out⟩, ⟨by (with_reducible repeat (first | refine blk_drewN ?_ _ | refine blk_drew ?_ | refine blk_alloc ?_ _)); exact BK109.out⟩, ⟨by (with_reducible repeat (first | refine blk_drewN ?_ _ | refine blk_drew ?_ | refine blk_alloc ?_ _)); exact BK110.out⟩, ⟨by repeat (first | (with_reducible first | exact HB.out | apply below_alloc | apply pw_below_drewN | apply below_drew1 | refine below_set ?_ GE108.out | refine below_set ?_ GE109.out | refine below_set ?_ GE110.out) | exact HB.out)⟩⟩
        · rw [if_neg c15] at H
          have c15b0 : decide (a2 < 0) = false := decide_eq_false c15
          clear c15
          by_cases c16 : a2 > a3
          · rw [if_pos c16] at H
            have c16b0 : decide (a3 < a2) = true := decide_eq_true c16
            clear c16
            have H' := Aside0.mk H
            clear H
            go_wp2
            go_meet
            case rel => exact ⟨_, (true), (by first | rfl | (simp; done) | (simp [*]; done)), H', ⟨by first | omega | exact Nat.le_refl _⟩, ⟨by (with_reducible repeat (first | refine blk_drewN ?_ _ | refine blk_drew ?_ | refine blk_alloc ?_ _)); exact BK108.out⟩, ⟨by (with_reducible repeat (first | refine blk_drewN ?_ _ | refine blk_drew ?_ | refine blk_alloc ?_ _)); exact BK109.out⟩, ⟨by (with_reducible repeat (first | refine blk_drewN ?_ _ | refine blk_drew ?_ | refine blk_alloc ?_ _)); exact BK110.out⟩, ⟨by repeat (first | (with_reducible first | exact HB.out | apply below_alloc | apply pw_below_drewN | apply below_drew1 | refine below_set ?_ GE108.out | refine below_set ?_ GE109.out | refine below_set ?_ GE110.out) | exact HB.out)⟩⟩
          · rw [if_neg c16] at H
            have c16b0 : decide (a3 < a2) = false := decide_eq_false c16
            clear c16
            replace H := Option.bind_eq_some_iff.mp H
            obtain ⟨t111, A170, H⟩ := H
            replace H : (if t111 = 0 then ((plane_Check.f a1_0 a1_1).bind fun t112 => (plane_Toward.j0 k a2 a3 (t112 != 0) a0_0 a0_1 a1_0 a1_1)) else (plane_Toward.j0 k a2 a3 true a0_0 a0_1 a1_0 a1_1)) = some (r1, r2, r3) := H
            have A17 := Aside0.mk A170
            have CA17 := Aside0.mk (fun W_ => plane_Check.calls a0_0 a0_1 t111 W_ A170)
            clear A170
            by_cases c18 : t111 = 0
            · rw [if_pos c18] at H
              have c18b0 : (t111 == 0) = true := beq_iff_eq.mpr c18
              have c18b1 : (t111 != 0) = false := bne_eq_false_iff_eq.mpr c18
              clear c18
              replace H := Option.bind_eq_some_iff.mp H
              obtain ⟨t112, A190, H⟩ := H
              replace H : (plane_Toward.j0 k a2 a3 (t112 != 0) a0_0 a0_1 a1_0 a1_1) = some (r1, r2, r3) := H
              have A19 := Aside0.mk A190
              have CA19 := Aside0.mk (fun W_ => plane_Check.calls a1_0 a1_1 t112 W_ A190)
              clear A190
              have H' := Aside0.mk H
              clear H
              have hnb20 := NB108_109.out
              have hnc20 := NB109_108.out
              have hnb21 := NB108_110.out
              have hnc21 := NB110_108.out
              obtain ⟨hcz22_0, hfz22_0⟩ := blkc2 BK108.out
              go_wp2_with (first | (go_at_call 63; (with_reducible refine (CA17.out _).mono ?_); rintro e w23 ⟨rfl, hb⟩; have n0_ := Aside0.mk (blk_below (g := gb108) (by (with_reducible repeat (first | refine blk_drewN ?_ _ | refine blk_drew ?_ | refine blk_alloc ?_ _)); exact BK108.out) hb); have n1_ := Aside0.mk (blk_below (g := gb109) (by (with_reducible repeat (first | refine blk_drewN ?_ _ | refine blk_drew ?_ | refine blk_alloc ?_ _)); exact BK109.out) hb); have n2_ := Aside0.mk (blk_below (g := gb110) (by (with_reducible repeat (first | refine blk_drewN ?_ _ | refine blk_drew ?_ | refine blk_alloc ?_ _)); exact BK110.out) hb); have n3_ := Aside0.mk (below_step (by repeat (first | (with_reducible first | exact HB.out | apply below_alloc | apply pw_below_drewN | apply below_drew1 | refine below_set ?_ GE108.out | refine below_set ?_ GE109.out | refine below_set ?_ GE110.out) | exact HB.out)) hb); clear BK108; clear BK109; clear BK110; clear HB; have BK108 := n0_; have BK109 := n1_; have BK110 := n2_; have HB := n3_; clear n0_ n1_ n2_ n3_; (try clear hb); (try clear hb2); (try clear hk); (try clear hi); have hnb24 := NB109_110.out; have hnc24 := NB110_109.out; obtain ⟨hcz25_0, hfz25_0⟩ := blkc2 BK109.out) | (go_at_call 63; (with_reducible refine (CA19.out _).mono ?_); rintro e w26 ⟨rfl, hb⟩; have n0_ := Aside0.mk (blk_below (g := gb108) (by (with_reducible repeat (first | refine blk_drewN ?_ _ | refine blk_drew ?_ | refine blk_alloc ?_ _)); exact BK108.out) hb); have n1_ := Aside0.mk (blk_below (g := gb109) (by (with_reducible repeat (first | refine blk_drewN ?_ _ | refine blk_drew ?_ | refine blk_alloc ?_ _)); exact BK109.out) hb); have n2_ := Aside0.mk (blk_below (g := gb110) (by (with_reducible repeat (first | refine blk_drewN ?_ _ | refine blk_drew ?_ | refine blk_alloc ?_ _)); exact BK110.out) hb); have n3_ := Aside0.mk (below_step (by repeat (first | (with_reducible first | exact HB.out | apply below_alloc | apply pw_below_drewN | apply below_drew1 | refine below_set ?_ GE108.out | refine below_set ?_ GE109.out | refine below_set ?_ GE110.out) | exact HB.out)) hb); clear BK108; clear BK109; clear BK110; clear HB; have BK108 := n0_; have BK109 := n1_; have BK110 := n2_; have HB := n3_; clear n0_ n1_ n2_ n3_; (try clear hb); (try clear hb2); (try clear hk); (try clear hi)))
              go_meet
              case rel => exact ⟨_, ((t112 != 0)), (by first | rfl | (simp; done) | (simp [*]; done)), H', ⟨by first | omega | exact Nat.le_refl _⟩, ⟨by (with_reducible repeat (first | refine blk_drewN ?_ _ | refine blk_drew ?_ | refine blk_alloc ?_ _)); exact BK108.out⟩, ⟨by (with_reducible repeat (first | refine blk_drewN ?_ _ | refine blk_drew ?_ | refine blk_alloc ?_ _)); exact BK109.out⟩, ⟨by (with_reducible repeat (first | refine blk_drewN ?_ _ | refine blk_drew ?_ | refine blk_alloc ?_ _)); exact BK110.out⟩, ⟨by repeat (first | (with_reducible first | exact HB.out | apply below_alloc | apply pw_below_drewN | apply below_drew1 | refine below_set ?_ GE108.out | refine below_set ?_ GE109.out | refine below_set ?_ GE110.out) | exact HB.out)⟩⟩
            · rw [if_neg c18] at H
              have c18b0 : (t111 == 0) = false := beq_eq_false_iff_ne.mpr c18
              have c18b1 : (t111 != 0) = true := bne_iff_ne.mpr c18
              have H' := Aside0.mk H
              clear H
              have hnb27 := NB108_109.out
              have hnc27 := NB109_108.out
              have hnb28 := NB108_110.out
              have hnc28 := NB110_108.out
              obtain ⟨hcz29_0, hfz29_0⟩ := blkc2 BK108.out
              go_wp2_with (first | (go_at_call 63; (with_reducible refine (CA17.out _).mono ?_); rintro e w30 ⟨rfl, hb⟩; have n0_ := Aside0.mk (blk_below (g := gb108) (by (with_reducible repeat (first | refine blk_drewN ?_ _ | refine blk_drew ?_ | refine blk_alloc ?_ _)); exact BK108.out) hb); have n1_ := Aside0.mk (blk_below (g := gb109) (by (with_reducible repeat (first | refine blk_drewN ?_ _ | refine blk_drew ?_ | refine blk_alloc ?_ _)); exact BK109.out) hb); have n2_ := Aside0.mk (blk_below (g := gb110) (by (with_reducible repeat (first | refine blk_drewN ?_ _ | refine blk_drew ?_ | refine blk_alloc ?_ _)); exact BK110.out) hb); have n3_ := Aside0.mk (below_step (by repeat (first | (with_reducible first | exact HB.out | apply below_alloc | apply pw_below_drewN | apply below_drew1 | refine below_set ?_ GE108.out | refine below_set ?_ GE109.out | refine below_set ?_ GE110.out) | exact HB.out)) hb); clear BK108; clear BK109; clear BK110; clear HB; have BK108 := n0_; have BK109 := n1_; have BK110 := n2_; have HB := n3_; clear n0_ n1_ n2_ n3_; (try clear hb); (try clear hb2); (try clear hk); (try clear hi)))
              go_meet
              case rel => exact ⟨_, (true), (by first | rfl | (simp; done) | (simp [*]; done)), H', ⟨by first | omega | exact Nat.le_refl _⟩, ⟨by (with_reducible repeat (first | refine blk_drewN ?_ _ | refine blk_drew ?_ | refine blk_alloc ?_ _)); exact BK108.out⟩, ⟨by (with_reducible repeat (first | refine blk_drewN ?_ _ | refine blk_drew ?_ | refine blk_alloc ?_ _)); exact BK109.out⟩, ⟨by (with_reducible repeat (first | refine blk_drewN ?_ _ | refine blk_drew ?_ | refine blk_alloc ?_ _)); exact BK110.out⟩, ⟨by repeat (first | (with_reducible first | exact HB.out | apply below_alloc | apply pw_below_drewN | apply below_drew1 | refine below_set ?_ GE108.out | refine below_set ?_ GE109.out | refine below_set ?_ GE110.out) | exact HB.out)⟩⟩
    case rest =>
      clear HC10
      try clear c1
      try clear c2
      try clear p2
      try clear c5
      try clear c5b0
      try clear c7
      try clear c14
      try clear c14b0
      try clear c15
      try clear c15b0
      try clear c16
      try clear c16b0
      try clear c18
      try clear c18b0
      try clear c18b1
      try clear c20
      try clear c21
      try clear c24
      try clear c27
      try clear c28
      try clear hcz22_0
      try clear hcz25_0
      try clear hcz29_0
      try clear hfz22_0
      try clear hfz25_0
      try clear hfz29_0
      obtain ⟨kq, x18_9, rfl, HA, HJ9, BK108, BK109, BK110, HB⟩ := hcut
      cases kq with
      | zero => exact absurd HA.out (by simp [plane_Toward.j0])
      | succ kj9 =>
        have H := HA.out
        clear HA
        simp only [plane_Toward.j0] at H
        by_cases c31 : x18_9 = true
        · subst c31
          have H1 : (some (0, 0, 4)) = some (r1, r2, r3) := by rw [if_pos rfl] at H; exact H
          clear H
          have H := H1
          clear H1
          simp only [Option.some.injEq, Prod.mk.injEq] at H
          obtain ⟨rfl, rfl, rfl⟩ := H
          go_wp2_with (first | ((with_reducible refine gate_store (t := 45) (p := 8) rfl ?_); refine st_row rfl rfl 45 8 _ rfl gb110 0 rfl (t := 45) (cs := #[.int .i64 0, .int .i64 0]) [.int .i64 0, .int .i64 0] _ rfl rfl isz45 (by (with_reducible repeat (first | refine blk_drewN ?_ _ | refine blk_drew ?_ | refine blk_alloc ?_ _)); exact BK110.out) (Nat.le_of_ble_eq_true rfl) rfl #[.int .i64 0, .int .i64 0] rfl ?_; intro w32 hx_ hy_ hz_; have n0_ := Aside0.mk (hx_); have n1_ := Aside0.mk (((hy_ gb108 NB108_110.out).trans (by (with_reducible repeat (first | refine blk_drewN ?_ _ | refine blk_drew ?_ | refine blk_alloc ?_ _)); exact BK108.out) : w32.heap[gb108]? = some (.cells #[.int .i64 a0_0, .int .i64 a0_1] 45 (0, 0)))); have n2_ := Aside0.mk (((hy_ gb109 NB109_110.out).trans (by (with_reducible repeat (first | refine blk_drewN ?_ _ | refine blk_drew ?_ | refine blk_alloc ?_ _)); exact BK109.out) : w32.heap[gb109]? = some (.cells #[.int .i64 a1_0, .int .i64 a1_1] 45 (0, 0)))); have n3_ := Aside0.mk (hz_ _ _ (by repeat (first | (with_reducible first | exact HB.out | apply below_alloc | apply pw_below_drewN | apply below_drew1 | refine below_set ?_ GE108.out | refine below_set ?_ GE109.out | refine below_set ?_ GE110.out) | exact HB.out)) GE110.out); clear BK110; clear BK108; clear BK109; clear HB; have BK110 := n0_; have BK108 := n1_; have BK109 := n2_; have HB := n3_; clear n0_ n1_ n2_ n3_; clear hx_ hy_ hz_))
          refine bodyPost_ret (results_ct rfl _ _ gb110 45 #[.int .i64 0, .int .i64 0] (0, 0) _ rfl (by (with_reducible repeat (first | refine blk_drewN ?_ _ | refine blk_drew ?_ | refine blk_alloc ?_ _)); exact BK110.out) Try.underlying45 rfl (by kernel_rfl)) rfl ?_
          exact ⟨by first | rfl | (simp [errW_none, errW_some] <;> rfl) | (simp [*, errW_none, errW_some] <;> rfl), by repeat (first | (with_reducible first | exact HB.out | apply below_alloc | apply pw_below_drewN | apply below_drew1 | refine below_set ?_ GE108.out | refine below_set ?_ GE109.out | refine below_set ?_ GE110.out) | exact HB.out)⟩
        · replace c31 := Bool.eq_false_iff.mpr c31
          subst c31
          have H1 : ((num_DivDown.f kj9 (wrap64 ((wrap64 (a1_0 - a0_0)) * a2)) a3).bind fun bt113 => ((num_DivDown.f kj9 (wrap64 ((wrap64 (a1_1 - a0_1)) * a2)) a3).bind fun bt115 => (some (wrap64 (a0_0 + bt113.1), wrap64 (a0_1 + bt115.1), 0)))) = some (r1, r2, r3) := by rw [if_neg (show ¬ (false = true) by decide)] at H; exact H
          clear H
          have H := H1
          clear H1
          replace H := Option.bind_eq_some_iff.mp H
          obtain ⟨⟨t113, t114⟩, A330, H⟩ := H
          replace H : ((num_DivDown.f kj9 (wrap64 ((wrap64 (a1_1 - a0_1)) * a2)) a3).bind fun bt115 => (some (wrap64 (a0_0 + t113), wrap64 (a0_1 + bt115.1), 0))) = some (r1, r2, r3) := H
          have A33 := Aside0.mk A330
          have CA33 := Aside0.mk (fun W_ => num_DivDown.calls kj9 (wrap64 ((wrap64 (a1_0 - a0_0)) * a2)) a3 t113 t114 W_ A330)
          clear A330
          replace H := Option.bind_eq_some_iff.mp H
          obtain ⟨⟨t115, t116⟩, A340, H⟩ := H
          replace H : (some (wrap64 (a0_0 + t113), wrap64 (a0_1 + t115), 0)) = some (r1, r2, r3) := H
          have A34 := Aside0.mk A340
          have CA34 := Aside0.mk (fun W_ => num_DivDown.calls kj9 (wrap64 ((wrap64 (a1_1 - a0_1)) * a2)) a3 t115 t116 W_ A340)
          clear A340
          simp only [Option.some.injEq, Prod.mk.injEq] at H
          obtain ⟨rfl, rfl, rfl⟩ := H
          go_wp2_with (first | ((with_reducible refine gate_dst (N := 43) rfl ?_); refine ld_cell rfl (N := 43) rfl 3 _ rfl gb109 0 rfl (t := 45) (cs := #[.int .i64 a1_0, .int .i64 a1_1]) (fr := (0, 0)) (.int .i64 a1_0) (by (with_reducible repeat (first | refine blk_drewN ?_ _ | refine blk_drew ?_ | refine blk_alloc ?_ _)); exact BK109.out) Try.underlying3 rfl rfl ?_) | ((with_reducible refine gate_dst (N := 45) rfl ?_); refine ld_cell rfl (N := 45) rfl 3 _ rfl gb108 0 rfl (t := 45) (cs := #[.int .i64 a0_0, .int .i64 a0_1]) (fr := (0, 0)) (.int .i64 a0_0) (by (with_reducible repeat (first | refine blk_drewN ?_ _ | refine blk_drew ?_ | refine blk_alloc ?_ _)); exact BK108.out) Try.underlying3 rfl rfl ?_) | ((with_reducible refine gate_callee (f := 46) rfl ?_); refine goesL_ (some 50) rfl rfl Try.func46 (by kernel_rfl) rfl _ rfl (by (try simp only [List.map_toArray, List.map_cons, List.map_nil]); first | done | rfl) ((CA33.out _).mono ?_); rintro e w' ⟨rfl, ⟨nd, rfl⟩⟩; refine ⟨_, rfl, ?_⟩; (try (rw [drewN_self wc]; generalize hq_ : World.drewN wc _ = wc; have n0_ : Aside0 (wc.heap[gb108]? = some (.cells #[.int .i64 a0_0, .int .i64 a0_1] 45 (0, 0))) := ⟨by rw [← hq_]; exact (by (with_reducible repeat (first | refine blk_drewN ?_ _ | refine blk_drew ?_ | refine blk_alloc ?_ _)); exact BK108.out)⟩; have n1_ : Aside0 (wc.heap[gb109]? = some (.cells #[.int .i64 a1_0, .int .i64 a1_1] 45 (0, 0))) := ⟨by rw [← hq_]; exact (by (with_reducible repeat (first | refine blk_drewN ?_ _ | refine blk_drew ?_ | refine blk_alloc ?_ _)); exact BK109.out)⟩; have n2_ : Aside0 (wc.heap[gb110]? = some (.cells #[.int .i64 0, .int .i64 0] 45 (0, 0))) := ⟨by rw [← hq_]; exact (by (with_reducible repeat (first | refine blk_drewN ?_ _ | refine blk_drew ?_ | refine blk_alloc ?_ _)); exact BK110.out)⟩; have n3_ : Aside0 (Below w.heap.size w wc) := ⟨by rw [← hq_]; exact (by repeat (first | (with_reducible first | exact HB.out | apply below_alloc | apply pw_below_drewN | apply below_drew1 | refine below_set ?_ GE108.out | refine below_set ?_ GE109.out | refine below_set ?_ GE110.out) | exact HB.out))⟩; clear BK108 BK109 BK110 HB hq_; have BK108 := n0_; have BK109 := n1_; have BK110 := n2_; have HB := n3_; clear n0_ n1_ n2_ n3_))) | ((with_reducible refine gate_dst (N := 55) rfl ?_); refine ld_cell rfl (N := 55) rfl 3 _ rfl gb109 1 rfl (t := 45) (cs := #[.int .i64 a1_0, .int .i64 a1_1]) (fr := (0, 0)) (.int .i64 a1_1) (by (with_reducible repeat (first | refine blk_drewN ?_ _ | refine blk_drew ?_ | refine blk_alloc ?_ _)); exact BK109.out) Try.underlying3 rfl rfl ?_) | ((with_reducible refine gate_dst (N := 57) rfl ?_); refine ld_cell rfl (N := 57) rfl 3 _ rfl gb108 1 rfl (t := 45) (cs := #[.int .i64 a0_0, .int .i64 a0_1]) (fr := (0, 0)) (.int .i64 a0_1) (by (with_reducible repeat (first | refine blk_drewN ?_ _ | refine blk_drew ?_ | refine blk_alloc ?_ _)); exact BK108.out) Try.underlying3 rfl rfl ?_) | ((with_reducible refine gate_callee (f := 46) rfl ?_); refine goesL_ (some 62) rfl rfl Try.func46 (by kernel_rfl) rfl _ rfl (by (try simp only [List.map_toArray, List.map_cons, List.map_nil]); first | done | rfl) ((CA34.out _).mono ?_); rintro e w' ⟨rfl, ⟨nd, rfl⟩⟩; refine ⟨_, rfl, ?_⟩; (try (rw [drewN_self wc]; generalize hq_ : World.drewN wc _ = wc; have n0_ : Aside0 (wc.heap[gb108]? = some (.cells #[.int .i64 a0_0, .int .i64 a0_1] 45 (0, 0))) := ⟨by rw [← hq_]; exact (by (with_reducible repeat (first | refine blk_drewN ?_ _ | refine blk_drew ?_ | refine blk_alloc ?_ _)); exact BK108.out)⟩; have n1_ : Aside0 (wc.heap[gb109]? = some (.cells #[.int .i64 a1_0, .int .i64 a1_1] 45 (0, 0))) := ⟨by rw [← hq_]; exact (by (with_reducible repeat (first | refine blk_drewN ?_ _ | refine blk_drew ?_ | refine blk_alloc ?_ _)); exact BK109.out)⟩; have n2_ : Aside0 (wc.heap[gb110]? = some (.cells #[.int .i64 0, .int .i64 0] 45 (0, 0))) := ⟨by rw [← hq_]; exact (by (with_reducible repeat (first | refine blk_drewN ?_ _ | refine blk_drew ?_ | refine blk_alloc ?_ _)); exact BK110.out)⟩; have n3_ : Aside0 (Below w.heap.size w wc) := ⟨by rw [← hq_]; exact (by repeat (first | (with_reducible first | exact HB.out | apply below_alloc | apply pw_below_drewN | apply below_drew1 | refine below_set ?_ GE108.out | refine below_set ?_ GE109.out | refine below_set ?_ GE110.out) | exact HB.out))⟩; clear BK108 BK109 BK110 HB hq_; have BK108 := n0_; have BK109 := n1_; have BK110 := n2_; have HB := n3_; clear n0_ n1_ n2_ n3_))) | ((with_reducible refine gate_dst (N := 66) rfl ?_); refine ld_cell rfl (N := 66) rfl 3 _ rfl gb108 0 rfl (t := 45) (cs := #[.int .i64 a0_0, .int .i64 a0_1]) (fr := (0, 0)) (.int .i64 a0_0) (by (with_reducible repeat (first | refine blk_drewN ?_ _ | refine blk_drew ?_ | refine blk_alloc ?_ _)); exact BK108.out) Try.underlying3 rfl rfl ?_) | ((with_reducible refine gate_dst (N := 70) rfl ?_); refine ld_cell rfl (N := 70) rfl 3 _ rfl gb108 1 rfl (t := 45) (cs := #[.int .i64 a0_0, .int .i64 a0_1]) (fr := (0, 0)) (.int .i64 a0_1) (by (with_reducible repeat (first | refine blk_drewN ?_ _ | refine blk_drew ?_ | refine blk_alloc ?_ _)); exact BK108.out) Try.underlying3 rfl rfl ?_) | ((with_reducible refine gate_store (t := 45) (p := 8) rfl ?_); refine st_row rfl rfl 45 8 _ rfl gb110 0 rfl (t := 45) (cs := #[.int .i64 0, .int .i64 0]) [.int .i64 (wrap64 (a0_0 + t113)), .int .i64 (wrap64 (a0_1 + t115))] _ rfl rfl isz45 (by (with_reducible repeat (first | refine blk_drewN ?_ _ | refine blk_drew ?_ | refine blk_alloc ?_ _)); exact BK110.out) (Nat.le_of_ble_eq_true rfl) rfl #[.int .i64 (wrap64 (a0_0 + t113)), .int .i64 (wrap64 (a0_1 + t115))] rfl ?_; intro w35 hx_ hy_ hz_; have n0_ := Aside0.mk (hx_); have n1_ := Aside0.mk (((hy_ gb108 NB108_110.out).trans (by (with_reducible repeat (first | refine blk_drewN ?_ _ | refine blk_drew ?_ | refine blk_alloc ?_ _)); exact BK108.out) : w35.heap[gb108]? = some (.cells #[.int .i64 a0_0, .int .i64 a0_1] 45 (0, 0)))); have n2_ := Aside0.mk (((hy_ gb109 NB109_110.out).trans (by (with_reducible repeat (first | refine blk_drewN ?_ _ | refine blk_drew ?_ | refine blk_alloc ?_ _)); exact BK109.out) : w35.heap[gb109]? = some (.cells #[.int .i64 a1_0, .int .i64 a1_1] 45 (0, 0)))); have n3_ := Aside0.mk (hz_ _ _ (by repeat (first | (with_reducible first | exact HB.out | apply below_alloc | apply pw_below_drewN | apply below_drew1 | refine below_set ?_ GE108.out | refine below_set ?_ GE109.out | refine below_set ?_ GE110.out) | exact HB.out)) GE110.out); clear BK110; clear BK108; clear BK109; clear HB; have BK110 := n0_; have BK108 := n1_; have BK109 := n2_; have HB := n3_; clear n0_ n1_ n2_ n3_; clear hx_ hy_ hz_))
          refine bodyPost_ret (results_ct rfl _ _ gb110 45 #[.int .i64 (wrap64 (a0_0 + t113)), .int .i64 (wrap64 (a0_1 + t115))] (0, 0) _ rfl (by (with_reducible repeat (first | refine blk_drewN ?_ _ | refine blk_drew ?_ | refine blk_alloc ?_ _)); exact BK110.out) Try.underlying45 rfl (by kernel_rfl)) rfl ?_
          exact ⟨by first | rfl | (simp [errW_none, errW_some] <;> rfl) | (simp [*, errW_none, errW_some] <;> rfl), by repeat (first | (with_reducible first | exact HB.out | apply below_alloc | apply pw_below_drewN | apply below_drew1 | refine below_set ?_ GE108.out | refine below_set ?_ GE109.out | refine below_set ?_ GE110.out) | exact HB.out)⟩

end Go.Proofs.Ytehgapcmngdcnaa.MPairFits
