-- Written for this claim by a program of this session out of the translation (functions with function values and the like). Lean checks it.
import Derived.Test.YtehgapcmngdcnaaMConformSoundx0
namespace Go.Proofs.Ytehgapcmngdcnaa.MConformSound
open Go.RowKit Go.Proofs.Ytehgapcmngdcnaa.Evt Go.Proofs.YtehgapcmngdcnaaW.PrintWords Go.Proofs.YtehgapcmngdcnaaW.PrintLast Go.Proofs.YtehgapcmngdcnaaW.PrintMore
attribute [local go_sem] max2_int min2_int max_two min_two max_three min_three max_four min_four   -- for this text's walks alone
set_option linter.unusedVariables false
set_option linter.unusedSimpArgs false

/-! ### skywaykeep2_within: function 16 -/
def skywaykeep2_within.f (a0 : Int) (a1 : Int) (a2 : Int) : Option (Int) := if (wrap64 ((wrap64 (a2 - a1)) + 1)) = 0 then (none) else (some (wrap64 (a1 + (Int.tmod (wrap64 ((Int.tmod a0 (wrap64 ((wrap64 (a2 - a1)) + 1))) + (wrap64 ((wrap64 (a2 - a1)) + 1)))) (wrap64 ((wrap64 (a2 - a1)) + 1))))))
set_option maxHeartbeats 80000000 in
set_option maxRecDepth 100000 in
theorem skywaykeep2_within.calls (a0 : Int) (a1 : Int) (a2 : Int) (r : Int) (w : World) (h : skywaykeep2_within.f a0 a1 a2 = some r) :
    Calls Try.prog 16 #[.int .i64 a0, .int .i64 a1, .int .i64 a2] w fun e w' => e = .returned (.int .i64 r) ∧ Drawn0 w w' := by
  have H : (if (wrap64 ((wrap64 (a2 - a1)) + 1)) = 0 then (none) else (some (wrap64 (a1 + (Int.tmod (wrap64 ((Int.tmod a0 (wrap64 ((wrap64 (a2 - a1)) + 1))) + (wrap64 ((wrap64 (a2 - a1)) + 1)))) (wrap64 ((wrap64 (a2 - a1)) + 1))))))) = some r := h
  clear h
  by_cases c4 : (wrap64 ((wrap64 (a2 - a1)) + 1)) = 0
  · rw [if_pos c4] at H
    exact absurd H (by simp)
  · rw [if_neg c4] at H
    have c4b0 : ((wrap64 ((wrap64 (a2 - a1)) + 1)) == 0) = false := beq_eq_false_iff_ne.mpr c4
    have c4b1 : ((wrap64 ((wrap64 (a2 - a1)) + 1)) != 0) = true := bne_iff_ne.mpr c4
    obtain rfl := Option.some.inj H
    go_enter Try.func16, Try.ntmps16
    go_wp2
    go_ret
    exact ⟨by first | rfl | (simp; done) | (simp [*]; done), by repeat (first | exact Drawn0.refl _ | apply Drawn0.step)⟩

/-! ### skywaykeep2_square: function 33 -/
def skywaykeep2_square.f (a0_0 : Int) (a0_1 : Int) (a1_0 : Int) (a1_1 : Int) : Option (Int) := some (wrap64 ((wrap64 ((wrap64 (a0_0 - a1_0)) * (wrap64 (a0_0 - a1_0)))) + (wrap64 ((wrap64 (a0_1 - a1_1)) * (wrap64 (a0_1 - a1_1))))))
set_option maxHeartbeats 80000000 in
set_option maxRecDepth 100000 in
theorem skywaykeep2_square.calls (a0_0 : Int) (a0_1 : Int) (a1_0 : Int) (a1_1 : Int) (r : Int) (w : World) (h : skywaykeep2_square.f a0_0 a0_1 a1_0 a1_1 = some r) :
    Calls Try.prog 33 #[.agg #[.int .i64 a0_0, .int .i64 a0_1], .agg #[.int .i64 a1_0, .int .i64 a1_1]] w fun e w' => e = .returned (.int .i64 r) ∧ Below w.heap.size w w' := by
  have hu45 := Try.underlying45
  have HB := Aside0.mk (Below.refl w.heap.size w)
  have H : (some (wrap64 ((wrap64 ((wrap64 (a0_0 - a1_0)) * (wrap64 (a0_0 - a1_0)))) + (wrap64 ((wrap64 (a0_1 - a1_1)) * (wrap64 (a0_1 - a1_1))))))) = some r := h
  clear h
  obtain rfl := Option.some.inj H
  go_enter Try.func33, Try.ntmps33
  go_wp2_with (first | ((with_reducible refine gate_dst (N := 2) rfl ?_); refine box_event ?hg (N := 2) ?hd (cs := #[.int .i64 a0_0, .int .i64 a0_1]) (t := 45) ?hr ?_; (case hd => rfl); (case hg => rfl); (case hr => first | (go_simp; done) | (go_simp; rfl)); intro gb101 hg w3 hbox hb; have n0_ := Aside0.mk (below_step (by repeat (first | (with_reducible first | exact HB.out | apply below_alloc | apply pw_below_drewN | apply below_drew1) | exact HB.out)) hb); have n1_ := Aside0.mk (hbox); have n2_ := Aside0.mk ((by rw [hg]; exact (below_size (by repeat (first | (with_reducible first | exact HB.out | apply below_alloc | apply pw_below_drewN | apply below_drew1) | exact HB.out))) : w.heap.size ≤ gb101)); have n3_ := Aside0.mk ((by rw [hg]; exact (below_size (by repeat (first | (with_reducible first | exact HB.out | apply below_alloc | apply pw_below_drewN | apply below_drew1) | exact HB.out))) : w.heap.size ≤ gb101)); clear HB; have HB := n0_; have BK101 := n1_; have GW101 := n2_; have GE101 := n3_; clear n0_ n1_ n2_ n3_; clear hb hbox hg) | ((with_reducible refine gate_dst (N := 3) rfl ?_); refine box_event ?hg (N := 3) ?hd (cs := #[.int .i64 a1_0, .int .i64 a1_1]) (t := 45) ?hr ?_; (case hd => rfl); (case hg => rfl); (case hr => first | (go_simp; done) | (go_simp; rfl)); intro gb102 hg w4 hbox hb; have n0_ := Aside0.mk (blk_below (g := gb101) (by (with_reducible repeat (first | refine blk_drewN ?_ _ | refine blk_drew ?_ | refine blk_alloc ?_ _)); exact BK101.out) hb); have n1_ := Aside0.mk (below_step (by repeat (first | (with_reducible first | exact HB.out | apply below_alloc | apply pw_below_drewN | apply below_drew1 | refine below_set ?_ GE101.out) | exact HB.out)) hb); have n2_ := Aside0.mk (hbox); have n3_ := Aside0.mk ((by rw [hg]; exact (below_size (by repeat (first | (with_reducible first | exact HB.out | apply below_alloc | apply pw_below_drewN | apply below_drew1 | refine below_set ?_ GE101.out) | exact HB.out))) : w.heap.size ≤ gb102)); have n4_ := Aside0.mk ((by rw [hg]; exact (below_size (by repeat (first | (with_reducible first | exact HB.out | apply below_alloc | apply pw_below_drewN | apply below_drew1 | refine below_set ?_ GE101.out) | exact HB.out))) : w.heap.size ≤ gb102)); have n5_ := Aside0.mk ((by rw [hg]; exact Nat.ne_of_lt (blk_lt (g := gb101) (by (with_reducible repeat (first | refine blk_drewN ?_ _ | refine blk_drew ?_ | refine blk_alloc ?_ _)); exact BK101.out)) : gb101 ≠ gb102)); have n6_ := Aside0.mk ((by rw [hg]; exact Nat.ne_of_gt (blk_lt (g := gb101) (by (with_reducible repeat (first | refine blk_drewN ?_ _ | refine blk_drew ?_ | refine blk_alloc ?_ _)); exact BK101.out)) : gb102 ≠ gb101)); clear BK101; clear HB; have BK101 := n0_; have HB := n1_; have BK102 := n2_; have GW102 := n3_; have GE102 := n4_; have NB101_102 := n5_; have NB102_101 := n6_; clear n0_ n1_ n2_ n3_ n4_ n5_ n6_; clear hb hbox hg) | ((with_reducible refine gate_dst (N := 6) rfl ?_); refine ld_cell rfl (N := 6) rfl 3 _ rfl gb101 0 rfl (t := 45) (cs := #[.int .i64 a0_0, .int .i64 a0_1]) (fr := (0, 0)) (.int .i64 a0_0) (by (with_reducible repeat (first | refine blk_drewN ?_ _ | refine blk_drew ?_ | refine blk_alloc ?_ _)); exact BK101.out) Try.underlying3 rfl rfl ?_) | ((with_reducible refine gate_dst (N := 8) rfl ?_); refine ld_cell rfl (N := 8) rfl 3 _ rfl gb102 0 rfl (t := 45) (cs := #[.int .i64 a1_0, .int .i64 a1_1]) (fr := (0, 0)) (.int .i64 a1_0) (by (with_reducible repeat (first | refine blk_drewN ?_ _ | refine blk_drew ?_ | refine blk_alloc ?_ _)); exact BK102.out) Try.underlying3 rfl rfl ?_) | ((with_reducible refine gate_dst (N := 11) rfl ?_); refine ld_cell rfl (N := 11) rfl 3 _ rfl gb101 0 rfl (t := 45) (cs := #[.int .i64 a0_0, .int .i64 a0_1]) (fr := (0, 0)) (.int .i64 a0_0) (by (with_reducible repeat (first | refine blk_drewN ?_ _ | refine blk_drew ?_ | refine blk_alloc ?_ _)); exact BK101.out) Try.underlying3 rfl rfl ?_) | ((with_reducible refine gate_dst (N := 13) rfl ?_); refine ld_cell rfl (N := 13) rfl 3 _ rfl gb102 0 rfl (t := 45) (cs := #[.int .i64 a1_0, .int .i64 a1_1]) (fr := (0, 0)) (.int .i64 a1_0) (by (with_reducible repeat (first | refine blk_drewN ?_ _ | refine blk_drew ?_ | refine blk_alloc ?_ _)); exact BK102.out) Try.underlying3 rfl rfl ?_) | ((with_reducible refine gate_dst (N := 17) rfl ?_); refine ld_cell rfl (N := 17) rfl 3 _ rfl gb101 1 rfl (t := 45) (cs := #[.int .i64 a0_0, .int .i64 a0_1]) (fr := (0, 0)) (.int .i64 a0_1) (by (with_reducible repeat (first | refine blk_drewN ?_ _ | refine blk_drew ?_ | refine blk_alloc ?_ _)); exact BK101.out) Try.underlying3 rfl rfl ?_) | ((with_reducible refine gate_dst (N := 19) rfl ?_); refine ld_cell rfl (N := 19) rfl 3 _ rfl gb102 1 rfl (t := 45) (cs := #[.int .i64 a1_0, .int .i64 a1_1]) (fr := (0, 0)) (.int .i64 a1_1) (by (with_reducible repeat (first | refine blk_drewN ?_ _ | refine blk_drew ?_ | refine blk_alloc ?_ _)); exact BK102.out) Try.underlying3 rfl rfl ?_) | ((with_reducible refine gate_dst (N := 22) rfl ?_); refine ld_cell rfl (N := 22) rfl 3 _ rfl gb101 1 rfl (t := 45) (cs := #[.int .i64 a0_0, .int .i64 a0_1]) (fr := (0, 0)) (.int .i64 a0_1) (by (with_reducible repeat (first | refine blk_drewN ?_ _ | refine blk_drew ?_ | refine blk_alloc ?_ _)); exact BK101.out) Try.underlying3 rfl rfl ?_) | ((with_reducible refine gate_dst (N := 24) rfl ?_); refine ld_cell rfl (N := 24) rfl 3 _ rfl gb102 1 rfl (t := 45) (cs := #[.int .i64 a1_0, .int .i64 a1_1]) (fr := (0, 0)) (.int .i64 a1_1) (by (with_reducible repeat (first | refine blk_drewN ?_ _ | refine blk_drew ?_ | refine blk_alloc ?_ _)); exact BK102.out) Try.underlying3 rfl rfl ?_))
  go_ret
  exact ⟨by first | rfl | (simp [errW_none, errW_some] <;> rfl) | (simp [*, errW_none, errW_some] <;> rfl), by repeat (first | (with_reducible first | exact HB.out | apply below_alloc | apply pw_below_drewN | apply below_drew1 | refine below_set ?_ GE101.out | refine below_set ?_ GE102.out) | exact HB.out)⟩

/-! ### skywaykeep2_line: function 35 -/
def skywaykeep2_line.f (a0 : Int) (a1 : Int) : Option ((List (S82))) := some (([(⟨(⟨0, (⟨0, 0⟩ : S45), 5000⟩ : S80), a0, a1⟩ : S82), (⟨(⟨100, (⟨20000, 0⟩ : S45), 5000⟩ : S80), a0, a1⟩ : S82)] : List (S82)))
set_option maxHeartbeats 80000000 in
set_option maxRecDepth 100000 in
theorem skywaykeep2_line.calls (a0 : Int) (a1 : Int) (r : List (S82)) (w : World) (h : skywaykeep2_line.f a0 a1 = some r) :
    Calls Try.prog 35 #[.int .i64 a0, .int .i64 a1] w fun e w' => ∃ v0_ : Value, e = .returned (v0_) ∧ Kd.R k82 82 w' w.heap.size (fun _ => True) v0_ r ∧ Below w.heap.size w w' := by
  have hu80 := Try.underlying80
  have hu82 := Try.underlying82
  have hu45 := Try.underlying45
  have HB := Aside0.mk (Below.refl w.heap.size w)
  have H : (some (([(⟨(⟨0, (⟨0, 0⟩ : S45), 5000⟩ : S80), a0, a1⟩ : S82), (⟨(⟨100, (⟨20000, 0⟩ : S45), 5000⟩ : S80), a0, a1⟩ : S82)] : List (S82)))) = some r := h
  clear h
  obtain ⟨y103, hy103⟩ : ∃ y_ : List (S82), y_ = (([(⟨(⟨0, (⟨0, 0⟩ : S45), 5000⟩ : S80), a0, a1⟩ : S82), (⟨(⟨100, (⟨20000, 0⟩ : S45), 5000⟩ : S80), a0, a1⟩ : S82)] : List (S82))) := ⟨_, rfl⟩
  replace H : (some y103) = some r := by first | (rw [hy103]; with_reducible exact H) | (have H2_ := (Option.bind_some _ _).symm.trans H; rw [hy103]; with_reducible exact H2_) | (have H2_ := (Option.bind_some _ _).symm.trans H; with_reducible exact H2_) | with_reducible exact H | (rw [hy103]; exact H) | exact H
  have Ny103 := Aside0.mk hy103
  clear hy103
  obtain rfl := Option.some.inj H
  go_enter Try.func35, Try.ntmps35
  go_wp2_with (first | ((with_reducible refine gate_dst (N := 14) rfl ?_); refine Kd.R_lit k82 _ 82 ?hg (N := 14) ?hd (xs := ([(⟨(⟨0, (⟨0, 0⟩ : S45), 5000⟩ : S80), a0, a1⟩ : S82), (⟨(⟨100, (⟨20000, 0⟩ : S45), 5000⟩ : S80), a0, a1⟩ : S82)] : List (S82))) (inner := [.int .i64 0, .int .i64 0, .int .i64 0, .int .i64 5000, .int .i64 a0, .int .i64 a1, .int .i64 100, .int .i64 20000, .int .i64 0, .int .i64 5000, .int .i64 a0, .int .i64 a1]) (ok := fun _ => True) (okp := fun _ => True) ?hr ?hp (fun _ hk => hk) trivial (Below.refl _ _) (Nat.le_refl _) (by simp) ?_; (case hd => rfl); (case hg => rfl); (case hr => first | (go_simp; done) | (go_simp; rfl)); (case hp => exact (Reps.c6 (show Kd.M k82 _ _ _ (⟨(⟨0, (⟨0, 0⟩ : S45), 5000⟩ : S80), a0, a1⟩ : S82) [.int .i64 0, .int .i64 0, .int .i64 0, .int .i64 5000, .int .i64 a0, .int .i64 a1] from (k82_mkM _ _ _ (⟨(⟨0, (⟨0, 0⟩ : S45), 5000⟩ : S80), a0, a1⟩ : S82) )) (Reps.c6 (show Kd.M k82 _ _ _ (⟨(⟨100, (⟨20000, 0⟩ : S45), 5000⟩ : S80), a0, a1⟩ : S82) [.int .i64 100, .int .i64 20000, .int .i64 0, .int .i64 5000, .int .i64 a0, .int .i64 a1] from (k82_mkM _ _ _ (⟨(⟨100, (⟨20000, 0⟩ : S45), 5000⟩ : S80), a0, a1⟩ : S82) )) (Reps.none _ _)))); intro v104 w3 ho4 hb hg_ hnew_; clear hg_ hnew_; (first | rw [← Ny103.out] at ho4 | (simp only [Int.reduceToNat] at ho4; rw [← Ny103.out] at ho4)); have n0_ := Aside0.mk (Kd.R_lower ho4 (below_size (by repeat (first | (with_reducible first | exact HB.out | apply below_alloc | apply pw_below_drewN | apply below_drew1) | exact HB.out)))); have n1_ := Aside0.mk (below_step (by repeat (first | (with_reducible first | exact HB.out | apply below_alloc | apply pw_below_drewN | apply below_drew1) | exact HB.out)) hb); clear HB; have HO105 := n0_; have HB := n1_; clear n0_ n1_; clear hb ho4))
  go_ret
  exact ⟨_, by first | rfl | (simp [errW_none, errW_some] <;> rfl) | (simp [*, errW_none, errW_some] <;> rfl), by (with_reducible repeat (first | apply Kd.R_alloc | apply Kd.R_drewN | apply Kd.R_drew)); exact HO105.out, by repeat (first | (with_reducible first | exact HB.out | apply below_alloc | apply pw_below_drewN | apply below_drew1) | exact HB.out)⟩

/-! ### plane_Check: function 63 -/
def plane_Check.f (a0_0 : Int) (a0_1 : Int) : Option (Int) := if a0_0 < (-1000000) then (some 4) else (if a0_0 > 1000000 then (some 4) else (if a0_1 < (-1000000) then (some 4) else (if a0_1 > 1000000 then (some 4) else (some 0))))
set_option maxHeartbeats 80000000 in
set_option maxRecDepth 100000 in
theorem plane_Check.calls (a0_0 : Int) (a0_1 : Int) (r : Int) (w : World) (h : plane_Check.f a0_0 a0_1 = some r) :
    Calls Try.prog 63 #[.agg #[.int .i64 a0_0, .int .i64 a0_1]] w fun e w' => e = .returned (.int .i64 r) ∧ Below w.heap.size w w' := by
  have hu45 := Try.underlying45
  have HB := Aside0.mk (Below.refl w.heap.size w)
  have H : (if a0_0 < (-1000000) then (some 4) else (if a0_0 > 1000000 then (some 4) else (if a0_1 < (-1000000) then (some 4) else (if a0_1 > 1000000 then (some 4) else (some 0))))) = some r := h
  clear h
  by_cases c2 : a0_0 < (-1000000)
  · rw [if_pos c2] at H
    have c2b0 : decide (a0_0 < (-1000000)) = true := decide_eq_true c2
    clear c2
    obtain rfl := Option.some.inj H
    go_enter Try.func63, Try.ntmps63
    go_wp2_with (first | ((with_reducible refine gate_dst (N := 1) rfl ?_); refine box_event ?hg (N := 1) ?hd (cs := #[.int .i64 a0_0, .int .i64 a0_1]) (t := 45) ?hr ?_; (case hd => rfl); (case hg => rfl); (case hr => first | (go_simp; done) | (go_simp; rfl)); intro gb106 hg w3 hbox hb; have n0_ := Aside0.mk (below_step (by repeat (first | (with_reducible first | exact HB.out | apply below_alloc | apply pw_below_drewN | apply below_drew1) | exact HB.out)) hb); have n1_ := Aside0.mk (hbox); have n2_ := Aside0.mk ((by rw [hg]; exact (below_size (by repeat (first | (with_reducible first | exact HB.out | apply below_alloc | apply pw_below_drewN | apply below_drew1) | exact HB.out))) : w.heap.size ≤ gb106)); have n3_ := Aside0.mk ((by rw [hg]; exact (below_size (by repeat (first | (with_reducible first | exact HB.out | apply below_alloc | apply pw_below_drewN | apply below_drew1) | exact HB.out))) : w.heap.size ≤ gb106)); clear HB; have HB := n0_; have BK106 := n1_; have GW106 := n2_; have GE106 := n3_; clear n0_ n1_ n2_ n3_; clear hb hbox hg) | ((with_reducible refine gate_dst (N := 4) rfl ?_); refine ld_cell rfl (N := 4) rfl 3 _ rfl gb106 0 rfl (t := 45) (cs := #[.int .i64 a0_0, .int .i64 a0_1]) (fr := (0, 0)) (.int .i64 a0_0) (by (with_reducible repeat (first | refine blk_drewN ?_ _ | refine blk_drew ?_ | refine blk_alloc ?_ _)); exact BK106.out) Try.underlying3 rfl rfl ?_))
    go_ret
    exact ⟨by first | rfl | (simp [errW_none, errW_some] <;> rfl) | (simp [*, errW_none, errW_some] <;> rfl), by repeat (first | (with_reducible first | exact HB.out | apply below_alloc | apply pw_below_drewN | apply below_drew1 | refine below_set ?_ GE106.out) | exact HB.out)⟩
  · rw [if_neg c2] at H
    have c2b0 : decide (a0_0 < (-1000000)) = false := decide_eq_false c2
    clear c2
    by_cases c4 : a0_0 > 1000000
    · rw [if_pos c4] at H
      have c4b0 : decide (1000000 < a0_0) = true := decide_eq_true c4
      clear c4
      obtain rfl := Option.some.inj H
      go_enter Try.func63, Try.ntmps63
      go_wp2_with (first | ((with_reducible refine gate_dst (N := 1) rfl ?_); refine box_event ?hg (N := 1) ?hd (cs := #[.int .i64 a0_0, .int .i64 a0_1]) (t := 45) ?hr ?_; (case hd => rfl); (case hg => rfl); (case hr => first | (go_simp; done) | (go_simp; rfl)); intro gb106 hg w5 hbox hb; have n0_ := Aside0.mk (below_step (by repeat (first | (with_reducible first | exact HB.out | apply below_alloc | apply pw_below_drewN | apply below_drew1) | exact HB.out)) hb); have n1_ := Aside0.mk (hbox); have n2_ := Aside0.mk ((by rw [hg]; exact (below_size (by repeat (first | (with_reducible first | exact HB.out | apply below_alloc | apply pw_below_drewN | apply below_drew1) | exact HB.out))) : w.heap.size ≤ gb106)); have n3_ := Aside0.mk ((by rw [hg]; exact (below_size (by repeat (first | (with_reducible first | exact HB.out | apply below_alloc | apply pw_below_drewN | apply below_drew1) | exact HB.out))) : w.heap.size ≤ gb106)); clear HB; have HB := n0_; have BK106 := n1_; have GW106 := n2_; have GE106 := n3_; clear n0_ n1_ n2_ n3_; clear hb hbox hg; obtain ⟨hcz6_0, hfz6_0⟩ := blkc2 BK106.out) | ((with_reducible refine gate_dst (N := 4) rfl ?_); refine ld_cell rfl (N := 4) rfl 3 _ rfl gb106 0 rfl (t := 45) (cs := #[.int .i64 a0_0, .int .i64 a0_1]) (fr := (0, 0)) (.int .i64 a0_0) (by (with_reducible repeat (first | refine blk_drewN ?_ _ | refine blk_drew ?_ | refine blk_alloc ?_ _)); exact BK106.out) Try.underlying3 rfl rfl ?_))
      go_ret
      exact ⟨by first | rfl | (simp [errW_none, errW_some] <;> rfl) | (simp [*, errW_none, errW_some] <;> rfl), by repeat (first | (with_reducible first | exact HB.out | apply below_alloc | apply pw_below_drewN | apply below_drew1 | refine below_set ?_ GE106.out) | exact HB.out)⟩
    · rw [if_neg c4] at H
      have c4b0 : decide (1000000 < a0_0) = false := decide_eq_false c4
      clear c4
      by_cases c7 : a0_1 < (-1000000)
      · rw [if_pos c7] at H
        have c7b0 : decide (a0_1 < (-1000000)) = true := decide_eq_true c7
        clear c7
        obtain rfl := Option.some.inj H
        go_enter Try.func63, Try.ntmps63
        go_wp2_with (first | ((with_reducible refine gate_dst (N := 1) rfl ?_); refine box_event ?hg (N := 1) ?hd (cs := #[.int .i64 a0_0, .int .i64 a0_1]) (t := 45) ?hr ?_; (case hd => rfl); (case hg => rfl); (case hr => first | (go_simp; done) | (go_simp; rfl)); intro gb106 hg w8 hbox hb; have n0_ := Aside0.mk (below_step (by repeat (first | (with_reducible first | exact HB.out | apply below_alloc | apply pw_below_drewN | apply below_drew1) | exact HB.out)) hb); have n1_ := Aside0.mk (hbox); have n2_ := Aside0.mk ((by rw [hg]; exact (below_size (by repeat (first | (with_reducible first | exact HB.out | apply below_alloc | apply pw_below_drewN | apply below_drew1) | exact HB.out))) : w.heap.size ≤ gb106)); have n3_ := Aside0.mk ((by rw [hg]; exact (below_size (by repeat (first | (with_reducible first | exact HB.out | apply below_alloc | apply pw_below_drewN | apply below_drew1) | exact HB.out))) : w.heap.size ≤ gb106)); clear HB; have HB := n0_; have BK106 := n1_; have GW106 := n2_; have GE106 := n3_; clear n0_ n1_ n2_ n3_; clear hb hbox hg; obtain ⟨hcz9_0, hfz9_0⟩ := blkc2 BK106.out) | ((with_reducible refine gate_dst (N := 4) rfl ?_); refine ld_cell rfl (N := 4) rfl 3 _ rfl gb106 0 rfl (t := 45) (cs := #[.int .i64 a0_0, .int .i64 a0_1]) (fr := (0, 0)) (.int .i64 a0_0) (by (with_reducible repeat (first | refine blk_drewN ?_ _ | refine blk_drew ?_ | refine blk_alloc ?_ _)); exact BK106.out) Try.underlying3 rfl rfl ?_))
        go_ret
        exact ⟨by first | rfl | (simp [errW_none, errW_some] <;> rfl) | (simp [*, errW_none, errW_some] <;> rfl), by repeat (first | (with_reducible first | exact HB.out | apply below_alloc | apply pw_below_drewN | apply below_drew1 | refine below_set ?_ GE106.out) | exact HB.out)⟩
      · rw [if_neg c7] at H
        have c7b0 : decide (a0_1 < (-1000000)) = false := decide_eq_false c7
        clear c7
        by_cases c10 : a0_1 > 1000000
        · rw [if_pos c10] at H
          have c10b0 : decide (1000000 < a0_1) = true := decide_eq_true c10
          clear c10
          obtain rfl := Option.some.inj H
          go_enter Try.func63, Try.ntmps63
          go_wp2_with (first | ((with_reducible refine gate_dst (N := 1) rfl ?_); refine box_event ?hg (N := 1) ?hd (cs := #[.int .i64 a0_0, .int .i64 a0_1]) (t := 45) ?hr ?_; (case hd => rfl); (case hg => rfl); (case hr => first | (go_simp; done) | (go_simp; rfl)); intro gb106 hg w11 hbox hb; have n0_ := Aside0.mk (below_step (by repeat (first | (with_reducible first | exact HB.out | apply below_alloc | apply pw_below_drewN | apply below_drew1) | exact HB.out)) hb); have n1_ := Aside0.mk (hbox); have n2_ := Aside0.mk ((by rw [hg]; exact (below_size (by repeat (first | (with_reducible first | exact HB.out | apply below_alloc | apply pw_below_drewN | apply below_drew1) | exact HB.out))) : w.heap.size ≤ gb106)); have n3_ := Aside0.mk ((by rw [hg]; exact (below_size (by repeat (first | (with_reducible first | exact HB.out | apply below_alloc | apply pw_below_drewN | apply below_drew1) | exact HB.out))) : w.heap.size ≤ gb106)); clear HB; have HB := n0_; have BK106 := n1_; have GW106 := n2_; have GE106 := n3_; clear n0_ n1_ n2_ n3_; clear hb hbox hg; obtain ⟨hcz12_0, hfz12_0⟩ := blkc2 BK106.out) | ((with_reducible refine gate_dst (N := 4) rfl ?_); refine ld_cell rfl (N := 4) rfl 3 _ rfl gb106 0 rfl (t := 45) (cs := #[.int .i64 a0_0, .int .i64 a0_1]) (fr := (0, 0)) (.int .i64 a0_0) (by (with_reducible repeat (first | refine blk_drewN ?_ _ | refine blk_drew ?_ | refine blk_alloc ?_ _)); exact BK106.out) Try.underlying3 rfl rfl ?_))
          go_ret
          exact ⟨by first | rfl | (simp [errW_none, errW_some] <;> rfl) | (simp [*, errW_none, errW_some] <;> rfl), by repeat (first | (with_reducible first | exact HB.out | apply below_alloc | apply pw_below_drewN | apply below_drew1 | refine below_set ?_ GE106.out) | exact HB.out)⟩
        · rw [if_neg c10] at H
          have c10b0 : decide (1000000 < a0_1) = false := decide_eq_false c10
          clear c10
          obtain rfl := Option.some.inj H
          go_enter Try.func63, Try.ntmps63
          go_wp2_with (first | ((with_reducible refine gate_dst (N := 1) rfl ?_); refine box_event ?hg (N := 1) ?hd (cs := #[.int .i64 a0_0, .int .i64 a0_1]) (t := 45) ?hr ?_; (case hd => rfl); (case hg => rfl); (case hr => first | (go_simp; done) | (go_simp; rfl)); intro gb106 hg w13 hbox hb; have n0_ := Aside0.mk (below_step (by repeat (first | (with_reducible first | exact HB.out | apply below_alloc | apply pw_below_drewN | apply below_drew1) | exact HB.out)) hb); have n1_ := Aside0.mk (hbox); have n2_ := Aside0.mk ((by rw [hg]; exact (below_size (by repeat (first | (with_reducible first | exact HB.out | apply below_alloc | apply pw_below_drewN | apply below_drew1) | exact HB.out))) : w.heap.size ≤ gb106)); have n3_ := Aside0.mk ((by rw [hg]; exact (below_size (by repeat (first | (with_reducible first | exact HB.out | apply below_alloc | apply pw_below_drewN | apply below_drew1) | exact HB.out))) : w.heap.size ≤ gb106)); clear HB; have HB := n0_; have BK106 := n1_; have GW106 := n2_; have GE106 := n3_; clear n0_ n1_ n2_ n3_; clear hb hbox hg; obtain ⟨hcz14_0, hfz14_0⟩ := blkc2 BK106.out) | ((with_reducible refine gate_dst (N := 4) rfl ?_); refine ld_cell rfl (N := 4) rfl 3 _ rfl gb106 0 rfl (t := 45) (cs := #[.int .i64 a0_0, .int .i64 a0_1]) (fr := (0, 0)) (.int .i64 a0_0) (by (with_reducible repeat (first | refine blk_drewN ?_ _ | refine blk_drew ?_ | refine blk_alloc ?_ _)); exact BK106.out) Try.underlying3 rfl rfl ?_))
          go_ret
          exact ⟨by first | rfl | (simp [errW_none, errW_some] <;> rfl) | (simp [*, errW_none, errW_some] <;> rfl), by repeat (first | (with_reducible first | exact HB.out | apply below_alloc | apply pw_below_drewN | apply below_drew1 | refine below_set ?_ GE106.out) | exact HB.out)⟩

/-! ### tube_Check: function 38 -/
mutual
def tube_Check.l0 : Nat → List (S82) → List (S82) → Int → Int → Option (Int)
  | 0, _, _, _, _ => none
  | k + 1, x0, x14, x15, x16 => if x16 < x15 then (if 0 ≤ x16 then (if x16 < (x14.length : Int) then (if ((rd_T82 x14 x16).f0.f0) < 0 then (tube_Check.j1 k x0 x14 x15 x16 true ((rd_T82 x14 x16).f0.f0) ((rd_T82 x14 x16).f0.f1.f0) ((rd_T82 x14 x16).f0.f1.f1) ((rd_T82 x14 x16).f0.f2) ((rd_T82 x14 x16).f1) ((rd_T82 x14 x16).f2)) else (if ((rd_T82 x14 x16).f0.f0) > 200000 then (tube_Check.j1 k x0 x14 x15 x16 true ((rd_T82 x14 x16).f0.f0) ((rd_T82 x14 x16).f0.f1.f0) ((rd_T82 x14 x16).f0.f1.f1) ((rd_T82 x14 x16).f0.f2) ((rd_T82 x14 x16).f1) ((rd_T82 x14 x16).f2)) else (if x16 > 0 then (if 0 ≤ (wrap64 (x16 - 1)) then (if (wrap64 (x16 - 1)) < (x0.length : Int) then (tube_Check.j1 k x0 x14 x15 x16 (decide (((rd_T82 x14 x16).f0.f0) ≤ ((rd_T82 x0 (wrap64 (x16 - 1))).f0.f0))) ((rd_T82 x14 x16).f0.f0) ((rd_T82 x14 x16).f0.f1.f0) ((rd_T82 x14 x16).f0.f1.f1) ((rd_T82 x14 x16).f0.f2) ((rd_T82 x14 x16).f1) ((rd_T82 x14 x16).f2)) else (none)) else (none)) else (tube_Check.j1 k x0 x14 x15 x16 false ((rd_T82 x14 x16).f0.f0) ((rd_T82 x14 x16).f0.f1.f0) ((rd_T82 x14 x16).f0.f1.f1) ((rd_T82 x14 x16).f0.f2) ((rd_T82 x14 x16).f1) ((rd_T82 x14 x16).f2))))) else (none)) else (none)) else (some 0)
def tube_Check.j1 : Nat → List (S82) → List (S82) → Int → Int → Bool → Int → Int → Int → Int → Int → Int → Option (Int)
  | 0, _, _, _, _, _, _, _, _, _, _, _ => none
  | k + 1, x0, x14, x15, x16, x47, x109000, x109001, x109002, x109003, x109004, x109005 => if x47 = true then (some 12) else ((plane_Check.f x109001 x109002).bind fun t110 => (if t110 = 0 then (if x109003 < 0 then (some 4) else (if x109003 > 60000 then (some 4) else (if x109004 < 0 then (some 4) else (if x109004 > 1000000 then (some 4) else (if x109005 < 0 then (some 4) else (if x109005 > 60000 then (some 4) else (tube_Check.l0 k x0 x14 x15 (wrap64 (x16 + 1))))))))) else (some t110)))
end
def tube_Check.f (k : Nat) (l0 : List (S82)) : Option (Int) := if (l0.length : Int) > 64 then (some 2) else (if (l0.length : Int) = 0 then (some 3) else (tube_Check.l0 k l0 l0 (l0.length : Int) 0))
theorem tube_Check.mono_l : ∀ k, (∀ y0 y1 y2 y3, LeO (tube_Check.l0 k y0 y1 y2 y3) (tube_Check.l0 (k + 1) y0 y1 y2 y3)) ∧ (∀ y0 y1 y2 y3 y4 y5 y6 y7 y8 y9 y10, LeO (tube_Check.j1 k y0 y1 y2 y3 y4 y5 y6 y7 y8 y9 y10) (tube_Check.j1 (k + 1) y0 y1 y2 y3 y4 y5 y6 y7 y8 y9 y10))
  | 0 => ⟨fun _ _ _ _ r h => by simp [tube_Check.l0] at h, fun _ _ _ _ _ _ _ _ _ _ _ r h => by simp [tube_Check.j1] at h⟩
  | k + 1 => by
    obtain ⟨ih0, ih1⟩ := tube_Check.mono_l k
    refine ⟨?_, ?_⟩
    · intro y0 y1 y2 y3
      unfold tube_Check.l0
      repeat' first
      | (with_reducible exact ih0 _ _ _ _)
      | (with_reducible exact ih1 _ _ _ _ _ _ _ _ _ _ _)
      | (with_reducible exact LeO.refl _)
      | (with_reducible exact LeO.none _)
      | (with_reducible refine LeO.ite ?_ ?_)
      | (with_reducible refine LeO.bind ?_ (fun _ => ?_))
      | exact ih0 _ _ _ _
      | exact ih1 _ _ _ _ _ _ _ _ _ _ _
      | exact LeO.none _
      | refine LeO.ite ?_ ?_
      | refine LeO.bind ?_ (fun _ => ?_)
    · intro y0 y1 y2 y3 y4 y5 y6 y7 y8 y9 y10
      unfold tube_Check.j1
      repeat' first
      | (with_reducible exact ih0 _ _ _ _)
      | (with_reducible exact ih1 _ _ _ _ _ _ _ _ _ _ _)
      | (with_reducible exact LeO.refl _)
      | (with_reducible exact LeO.none _)
      | (with_reducible refine LeO.ite ?_ ?_)
      | (with_reducible refine LeO.bind ?_ (fun _ => ?_))
      | exact ih0 _ _ _ _
      | exact ih1 _ _ _ _ _ _ _ _ _ _ _
      | exact LeO.none _
      | refine LeO.ite ?_ ?_
      | refine LeO.bind ?_ (fun _ => ?_)
theorem tube_Check.mono : ∀ a0 k, LeO (tube_Check.f k a0) (tube_Check.f (k + 1) a0) := by
  intro a0 k
  obtain ⟨ih0, ih1⟩ := tube_Check.mono_l k
  unfold tube_Check.f
  repeat' first
      | (with_reducible exact ih0 _ _ _ _)
      | (with_reducible exact ih1 _ _ _ _ _ _ _ _ _ _ _)
      | (with_reducible exact LeO.refl _)
      | (with_reducible exact LeO.none _)
      | (with_reducible refine LeO.ite ?_ ?_)
      | (with_reducible refine LeO.bind ?_ (fun _ => ?_))
      | exact ih0 _ _ _ _
      | exact ih1 _ _ _ _ _ _ _ _ _ _ _
      | exact LeO.none _
      | refine LeO.ite ?_ ?_
      | refine LeO.bind ?_ (fun _ => ?_)
set_option maxHeartbeats 80000000 in
set_option maxRecDepth 100000 in
theorem tube_Check.calls (k : Nat) (A0 : Option Addr) (c0 : Nat) (l0 : List (S82)) (r : Int) (w : World) (hr0 : Kd.C k82 w A0 l0.length l0) (hc0 : l0.length ≤ c0) (h : tube_Check.f k l0 = some r) :
    Calls Try.prog 38 #[.slice A0 l0.length c0] w fun e w' => e = .returned (.int .i64 r) ∧ Below w.heap.size w w' := by
  have hu82 := Try.underlying82
  have hu45 := Try.underlying45
  have HR0 := Aside0.mk hr0
  have HC0 := Aside0.mk hc0
  clear hr0 hc0
  have HB := Aside0.mk (Below.refl w.heap.size w)
  have H : (if (l0.length : Int) > 64 then (some 2) else (if (l0.length : Int) = 0 then (some 3) else (tube_Check.l0 k l0 l0 (l0.length : Int) 0))) = some r := h
  clear h
  by_cases c2 : (l0.length : Int) > 64
  · rw [if_pos c2] at H
    have c2b0 : decide (64 < (l0.length : Int)) = true := decide_eq_true c2
    have c2b1 : decide (64 < l0.length) = true := decide_eq_true (by omega)
    clear c2
    obtain rfl := Option.some.inj H
    go_enter Try.func38, Try.ntmps38
    go_wp2
    repeat (go_quiet (fail); try go_wp2)
    go_ret
    exact ⟨by first | rfl | (simp [errW_none, errW_some] <;> rfl) | (simp [*, errW_none, errW_some] <;> rfl), by repeat (first | (with_reducible first | exact HB.out | apply below_alloc | apply pw_below_drewN | apply below_drew1) | exact HB.out)⟩
  · rw [if_neg c2] at H
    have c2b0 : decide (64 < (l0.length : Int)) = false := decide_eq_false c2
    have c2b1 : decide (64 < l0.length) = false := decide_eq_false (by omega)
    clear c2
    by_cases c3 : (l0.length : Int) = 0
    · rw [if_pos c3] at H
      have c3b0 : ((l0.length : Int) == 0) = true := beq_iff_eq.mpr c3
      have c3b1 : ((l0.length : Int) != 0) = false := bne_eq_false_iff_eq.mpr c3
      clear c3
      obtain rfl := Option.some.inj H
      go_enter Try.func38, Try.ntmps38
      go_wp2
      repeat (go_quiet (fail); try go_wp2)
      go_ret
      exact ⟨by first | rfl | (simp [errW_none, errW_some] <;> rfl) | (simp [*, errW_none, errW_some] <;> rfl), by repeat (first | (with_reducible first | exact HB.out | apply below_alloc | apply pw_below_drewN | apply below_drew1) | exact HB.out)⟩
    · rw [if_neg c3] at H
      have c3b0 : ((l0.length : Int) == 0) = false := beq_eq_false_iff_ne.mpr c3
      have c3b1 : ((l0.length : Int) != 0) = true := bne_iff_ne.mpr c3
      have c3b2 : ¬ (l0 = []) := fun h_ => c3 (by rw [h_]; rfl)
      have H' := Aside0.mk H
      clear H
      go_enter Try.func38, Try.ntmps38
      go_wp2
      repeat (go_quiet (fail); try go_wp2)
      go_loopg [16] k (fun kq v16 w' => ∃ (x16_1 : Int), v16 = .int .i64 x16_1 ∧ Aside0 (tube_Check.l0 kq l0 l0 (l0.length : Int) x16_1 = some r) ∧ Aside0 (kq ≤ k) ∧ Aside0 (Below w.heap.size w w'))
      case atStart => exact ⟨(0), (by first | rfl | (simp; done) | (simp [*]; done)), H', ⟨Nat.le_refl _⟩, ⟨by repeat (first | (with_reducible first | exact HB.out | apply below_alloc | apply pw_below_drewN | apply below_drew1) | exact HB.out)⟩⟩
      case round =>
        clear H'
        try clear c2
        try clear c2b0
        try clear c2b1
        try clear p2
        try clear c3
        try clear c3b0
        try clear c3b1
        try clear c3b2
        obtain ⟨x16_1, rfl, HA, HK1, HB⟩ := hrel
        cases gk with
        | zero => exact absurd HA.out (by simp [tube_Check.l0])
        | succ k1 =>
          have H := HA.out
          clear HA
          simp only [tube_Check.l0] at H
          by_cases c4 : x16_1 < (l0.length : Int)
          · rw [if_pos c4] at H
            have c4b0 : decide (x16_1 < (l0.length : Int)) = true := decide_eq_true c4
            clear c4
            by_cases c5 : 0 ≤ x16_1
            · rw [if_pos c5] at H
              have c5b0 : decide (0 ≤ x16_1) = true := decide_eq_true c5
              clear c5
              by_cases c6 : x16_1 < (l0.length : Int)
              · rw [if_pos c6] at H
                have c6b0 : decide (x16_1 < (l0.length : Int)) = true := decide_eq_true c6
                clear c6
                have HC7 := Aside0.mk H
                clear H
                have p107 : 0 ≤ (x16_1 : Int) := of_decide_eq_true (by first | (with_reducible assumption) | assumption)
                have q107 : x16_1 < (l0.length : Int) := of_decide_eq_true (by first | (with_reducible assumption) | assumption)
                obtain ⟨ad107, e107, hx107_0, hx107_1, hx107_2, hx107_3, hx107_4, hx107_5⟩ := at_T82 HR0.out x16_1 p107 q107
                cases e107
                replace hx107_0 := (HB.out.cell (World.block_lt_of_cell? w _ hx107_0)).trans hx107_0
                replace hx107_1 := (HB.out.cell (World.block_lt_of_cell? w _ hx107_1)).trans hx107_1
                replace hx107_2 := (HB.out.cell (World.block_lt_of_cell? w _ hx107_2)).trans hx107_2
                replace hx107_3 := (HB.out.cell (World.block_lt_of_cell? w _ hx107_3)).trans hx107_3
                replace hx107_4 := (HB.out.cell (World.block_lt_of_cell? w _ hx107_4)).trans hx107_4
                replace hx107_5 := (HB.out.cell (World.block_lt_of_cell? w _ hx107_5)).trans hx107_5
                replace p107 := eq_true p107
                replace q107 := eq_true q107
                go_upto_region 8 with (first | ((with_reducible refine gate_dst (N := 4) rfl ?_); refine box_event ?hg (N := 4) ?hd (cs := #[.int .i64 0, .int .i64 0, .int .i64 0, .int .i64 0, .int .i64 0, .int .i64 0]) (t := 82) ?hr ?_; (case hd => rfl); (case hg => rfl); (case hr => first | (go_simp; done) | (go_simp; rfl)); intro gb108 hg w8 hbox hb; have n0_ := Aside0.mk (below_step (by repeat (first | (with_reducible first | exact HB.out | apply below_alloc | apply pw_below_drewN | apply below_drew1) | exact HB.out)) hb); have n1_ := Aside0.mk (hbox); have n2_ := Aside0.mk ((by rw [hg]; exact (below_size (by repeat (first | (with_reducible first | exact HB.out | apply below_alloc | apply pw_below_drewN | apply below_drew1) | exact HB.out))) : w.heap.size ≤ gb108)); have n3_ := Aside0.mk ((by rw [hg]; exact (below_size (by repeat (first | (with_reducible first | exact HB.out | apply below_alloc | apply pw_below_drewN | apply below_drew1) | exact HB.out))) : w.heap.size ≤ gb108)); clear HB; have HB := n0_; have BK108 := n1_; have GW108 := n2_; have GE108 := n3_; clear n0_ n1_ n2_ n3_; clear hb hbox hg) | ((with_reducible refine gate_store (t := 82) (p := 4) rfl ?_); (try (rw [drewN_self w8]; generalize hq_ : World.drewN w8 _ = w8; have n0_ := Aside0.mk (blk_at hq_ BK108.out); have n1_ := Aside0.mk (below_at hq_ HB.out); clear hq_ BK108 HB; have BK108 := n0_; have HB := n1_; clear n0_ n1_)); refine st_row rfl rfl 82 4 _ rfl gb108 0 rfl (t := 82) (cs := #[.int .i64 0, .int .i64 0, .int .i64 0, .int .i64 0, .int .i64 0, .int .i64 0]) [.int .i64 ((rd_T82 l0 x16_1).f0.f0), .int .i64 ((rd_T82 l0 x16_1).f0.f1.f0), .int .i64 ((rd_T82 l0 x16_1).f0.f1.f1), .int .i64 ((rd_T82 l0 x16_1).f0.f2), .int .i64 ((rd_T82 l0 x16_1).f1), .int .i64 ((rd_T82 l0 x16_1).f2)] _ rfl rfl isz82 (by (with_reducible repeat (first | refine blk_drewN ?_ _ | refine blk_drew ?_ | refine blk_alloc ?_ _)); exact BK108.out) (Nat.le_of_ble_eq_true rfl) rfl #[.int .i64 ((rd_T82 l0 x16_1).f0.f0), .int .i64 ((rd_T82 l0 x16_1).f0.f1.f0), .int .i64 ((rd_T82 l0 x16_1).f0.f1.f1), .int .i64 ((rd_T82 l0 x16_1).f0.f2), .int .i64 ((rd_T82 l0 x16_1).f1), .int .i64 ((rd_T82 l0 x16_1).f2)] rfl ?_; intro w9 hx_ hy_ hz_; have n0_ := Aside0.mk (hx_); have n1_ := Aside0.mk (hz_ _ _ (by repeat (first | (with_reducible first | exact HB.out | apply below_alloc | apply pw_below_drewN | apply below_drew1 | refine below_set ?_ GE108.out) | exact HB.out)) GE108.out); clear BK108; clear HB; have BK108 := n0_; have HB := n1_; clear n0_ n1_; clear hx_ hy_ hz_))
                repeat (go_quiet (first | ((with_reducible refine gate_dst (N := 4) rfl ?_); refine box_event ?hg (N := 4) ?hd (cs := #[.int .i64 0, .int .i64 0, .int .i64 0, .int .i64 0, .int .i64 0, .int .i64 0]) (t := 82) ?hr ?_; (case hd => rfl); (case hg => rfl); (case hr => first | (go_simp; done) | (go_simp; rfl)); intro gb108 hg w8 hbox hb; have n0_ := Aside0.mk (below_step (by repeat (first | (with_reducible first | exact HB.out | apply below_alloc | apply pw_below_drewN | apply below_drew1) | exact HB.out)) hb); have n1_ := Aside0.mk (hbox); have n2_ := Aside0.mk ((by rw [hg]; exact (below_size (by repeat (first | (with_reducible first | exact HB.out | apply below_alloc | apply pw_below_drewN | apply below_drew1) | exact HB.out))) : w.heap.size ≤ gb108)); have n3_ := Aside0.mk ((by rw [hg]; exact (below_size (by repeat (first | (with_reducible first | exact HB.out | apply below_alloc | apply pw_below_drewN | apply below_drew1) | exact HB.out))) : w.heap.size ≤ gb108)); clear HB; have HB := n0_; have BK108 := n1_; have GW108 := n2_; have GE108 := n3_; clear n0_ n1_ n2_ n3_; clear hb hbox hg) | ((with_reducible refine gate_store (t := 82) (p := 4) rfl ?_); (try (rw [drewN_self w8]; generalize hq_ : World.drewN w8 _ = w8; have n0_ := Aside0.mk (blk_at hq_ BK108.out); have n1_ := Aside0.mk (below_at hq_ HB.out); clear hq_ BK108 HB; have BK108 := n0_; have HB := n1_; clear n0_ n1_)); refine st_row rfl rfl 82 4 _ rfl gb108 0 rfl (t := 82) (cs := #[.int .i64 0, .int .i64 0, .int .i64 0, .int .i64 0, .int .i64 0, .int .i64 0]) [.int .i64 ((rd_T82 l0 x16_1).f0.f0), .int .i64 ((rd_T82 l0 x16_1).f0.f1.f0), .int .i64 ((rd_T82 l0 x16_1).f0.f1.f1), .int .i64 ((rd_T82 l0 x16_1).f0.f2), .int .i64 ((rd_T82 l0 x16_1).f1), .int .i64 ((rd_T82 l0 x16_1).f2)] _ rfl rfl isz82 (by (with_reducible repeat (first | refine blk_drewN ?_ _ | refine blk_drew ?_ | refine blk_alloc ?_ _)); exact BK108.out) (Nat.le_of_ble_eq_true rfl) rfl #[.int .i64 ((rd_T82 l0 x16_1).f0.f0), .int .i64 ((rd_T82 l0 x16_1).f0.f1.f0), .int .i64 ((rd_T82 l0 x16_1).f0.f1.f1), .int .i64 ((rd_T82 l0 x16_1).f0.f2), .int .i64 ((rd_T82 l0 x16_1).f1), .int .i64 ((rd_T82 l0 x16_1).f2)] rfl ?_; intro w9 hx_ hy_ hz_; have n0_ := Aside0.mk (hx_); have n1_ := Aside0.mk (hz_ _ _ (by repeat (first | (with_reducible first | exact HB.out | apply below_alloc | apply pw_below_drewN | apply below_drew1 | refine below_set ?_ GE108.out) | exact HB.out)) GE108.out); clear BK108; clear HB; have BK108 := n0_; have HB := n1_; clear n0_ n1_; clear hx_ hy_ hz_)); go_upto_region 8 with (first | ((with_reducible refine gate_dst (N := 4) rfl ?_); refine box_event ?hg (N := 4) ?hd (cs := #[.int .i64 0, .int .i64 0, .int .i64 0, .int .i64 0, .int .i64 0, .int .i64 0]) (t := 82) ?hr ?_; (case hd => rfl); (case hg => rfl); (case hr => first | (go_simp; done) | (go_simp; rfl)); intro gb108 hg w8 hbox hb; have n0_ := Aside0.mk (below_step (by repeat (first | (with_reducible first | exact HB.out | apply below_alloc | apply pw_below_drewN | apply below_drew1) | exact HB.out)) hb); have n1_ := Aside0.mk (hbox); have n2_ := Aside0.mk ((by rw [hg]; exact (below_size (by repeat (first | (with_reducible first | exact HB.out | apply below_alloc | apply pw_below_drewN | apply below_drew1) | exact HB.out))) : w.heap.size ≤ gb108)); have n3_ := Aside0.mk ((by rw [hg]; exact (below_size (by repeat (first | (with_reducible first | exact HB.out | apply below_alloc | apply pw_below_drewN | apply below_drew1) | exact HB.out))) : w.heap.size ≤ gb108)); clear HB; have HB := n0_; have BK108 := n1_; have GW108 := n2_; have GE108 := n3_; clear n0_ n1_ n2_ n3_; clear hb hbox hg) | ((with_reducible refine gate_store (t := 82) (p := 4) rfl ?_); (try (rw [drewN_self w8]; generalize hq_ : World.drewN w8 _ = w8; have n0_ := Aside0.mk (blk_at hq_ BK108.out); have n1_ := Aside0.mk (below_at hq_ HB.out); clear hq_ BK108 HB; have BK108 := n0_; have HB := n1_; clear n0_ n1_)); refine st_row rfl rfl 82 4 _ rfl gb108 0 rfl (t := 82) (cs := #[.int .i64 0, .int .i64 0, .int .i64 0, .int .i64 0, .int .i64 0, .int .i64 0]) [.int .i64 ((rd_T82 l0 x16_1).f0.f0), .int .i64 ((rd_T82 l0 x16_1).f0.f1.f0), .int .i64 ((rd_T82 l0 x16_1).f0.f1.f1), .int .i64 ((rd_T82 l0 x16_1).f0.f2), .int .i64 ((rd_T82 l0 x16_1).f1), .int .i64 ((rd_T82 l0 x16_1).f2)] _ rfl rfl isz82 (by (with_reducible repeat (first | refine blk_drewN ?_ _ | refine blk_drew ?_ | refine blk_alloc ?_ _)); exact BK108.out) (Nat.le_of_ble_eq_true rfl) rfl #[.int .i64 ((rd_T82 l0 x16_1).f0.f0), .int .i64 ((rd_T82 l0 x16_1).f0.f1.f0), .int .i64 ((rd_T82 l0 x16_1).f0.f1.f1), .int .i64 ((rd_T82 l0 x16_1).f0.f2), .int .i64 ((rd_T82 l0 x16_1).f1), .int .i64 ((rd_T82 l0 x16_1).f2)] rfl ?_; intro w9 hx_ hy_ hz_; have n0_ := Aside0.mk (hx_); have n1_ := Aside0.mk (hz_ _ _ (by repeat (first | (with_reducible first | exact HB.out | apply below_alloc | apply pw_below_drewN | apply below_drew1 | refine below_set ?_ GE108.out) | exact HB.out)) GE108.out); clear BK108; clear HB; have BK108 := n0_; have HB := n1_; clear n0_ n1_; clear hx_ hy_ hz_)))
                (try simp only [Act.put, List.setIfInBounds_toArray, List.set_cons_zero, List.set_cons_succ])
                go_cut [47] (fun v47 wc => ∃ (kq : Nat) (x47_6 : Bool), v47 = .bool x47_6 ∧ Aside0 (tube_Check.j1 kq l0 l0 (l0.length : Int) x16_1 x47_6 ((rd_T82 l0 x16_1).f0.f0) ((rd_T82 l0 x16_1).f0.f1.f0) ((rd_T82 l0 x16_1).f0.f1.f1) ((rd_T82 l0 x16_1).f0.f2) ((rd_T82 l0 x16_1).f1) ((rd_T82 l0 x16_1).f2) = some r) ∧ Aside0 (kq ≤ k1) ∧ Aside0 (wc.heap[gb108]? = some (.cells #[.int .i64 ((rd_T82 l0 x16_1).f0.f0), .int .i64 ((rd_T82 l0 x16_1).f0.f1.f0), .int .i64 ((rd_T82 l0 x16_1).f0.f1.f1), .int .i64 ((rd_T82 l0 x16_1).f0.f2), .int .i64 ((rd_T82 l0 x16_1).f1), .int .i64 ((rd_T82 l0 x16_1).f2)] 82 (0, 0))) ∧ Aside0 (Below w.heap.size w wc))
                case first =>
                  have H := HC7.out
                  clear HC7
                  by_cases c10 : ((rd_T82 l0 x16_1).f0.f0) < 0
                  · rw [if_pos c10] at H
                    have c10b0 : decide (((rd_T82 l0 x16_1).f0.f0) < 0) = true := decide_eq_true c10
                    clear c10
                    (first | rw [c10b0] | (simp only [i64_w, i32_w]; rw [c10b0]) | skip)
                    have H' := Aside0.mk H
                    clear H
                    obtain ⟨hcz11_0, hfz11_0⟩ := blkc6 BK108.out
                    go_wp2
                    repeat (go_quiet (fail); try go_wp2)
                    go_meet
                    case rel => exact ⟨_, (true), (by first | rfl | (simp; done) | (simp [*]; done)), H', ⟨by have := HK1.out; first | omega | exact Nat.le_refl _⟩, ⟨by (with_reducible repeat (first | refine blk_drewN ?_ _ | refine blk_drew ?_ | refine blk_alloc ?_ _)); exact BK108.out⟩, ⟨by repeat (first | (with_reducible first | exact HB.out | apply below_alloc | apply pw_below_drewN | apply below_drew1 | refine below_set ?_ GE108.out) | exact HB.out)⟩⟩
                  · rw [if_neg c10] at H
                    have c10b0 : decide (((rd_T82 l0 x16_1).f0.f0) < 0) = false := decide_eq_false c10
                    clear c10
                    (first | rw [c10b0] | (simp only [i64_w, i32_w]; rw [c10b0]) | skip)
                    by_cases c12 : ((rd_T82 l0 x16_1).f0.f0) > 200000
                    · rw [if_pos c12] at H
                      have c12b0 : decide (200000 < ((rd_T82 l0 x16_1).f0.f0)) = true := decide_eq_true c12
                      clear c12
                      have H' := Aside0.mk H
                      clear H
                      obtain ⟨hcz13_0, hfz13_0⟩ := blkc6 BK108.out
                      go_wp2
                      repeat (go_quiet (fail); try go_wp2)
                      go_meet
                      case rel => exact ⟨_, (true), (by first | rfl | (simp; done) | (simp [*]; done)), H', ⟨by have := HK1.out; first | omega | exact Nat.le_refl _⟩, ⟨by (with_reducible repeat (first | refine blk_drewN ?_ _ | refine blk_drew ?_ | refine blk_alloc ?_ _)); exact BK108.out⟩, ⟨by repeat (first | (with_reducible first | exact HB.out | apply below_alloc | apply pw_below_drewN | apply below_drew1 | refine below_set ?_ GE108.out) | exact HB.out)⟩⟩
                    · rw [if_neg c12] at H
                      have c12b0 : decide (200000 < ((rd_T82 l0 x16_1).f0.f0)) = false := decide_eq_false c12
                      clear c12
                      by_cases c14 : x16_1 > 0
                      · rw [if_pos c14] at H
                        have c14b0 : decide (0 < x16_1) = true := decide_eq_true c14
                        clear c14
                        obtain ⟨ji15, hji15⟩ : ∃ j_ : Int, (wrap64 (x16_1 - 1)) = j_ := ⟨_, rfl⟩
                        replace H : (if 0 ≤ (ji15) then (if (ji15) < (l0.length : Int) then (tube_Check.j1 k1 l0 l0 (l0.length : Int) x16_1 (decide (((rd_T82 l0 x16_1).f0.f0) ≤ ((rd_T82 l0 (ji15)).f0.f0))) ((rd_T82 l0 x16_1).f0.f0) ((rd_T82 l0 x16_1).f0.f1.f0) ((rd_T82 l0 x16_1).f0.f1.f1) ((rd_T82 l0 x16_1).f0.f2) ((rd_T82 l0 x16_1).f1) ((rd_T82 l0 x16_1).f2)) else (none)) else (none)) = some r := by first | (rw [hji15] at H; exact H) | (simp only [hji15] at H ⊢; exact H)
                        have hji15w : (IntKind.i64.wrap (x16_1 - 1)) = ji15 := (i64_w _).trans hji15
                        by_cases c16 : 0 ≤ (ji15)
                        · rw [if_pos c16] at H
                          have c16b0 : decide (0 ≤ (ji15)) = true := decide_eq_true c16
                          clear c16
                          by_cases c17 : (ji15) < (l0.length : Int)
                          · rw [if_pos c17] at H
                            have c17b0 : decide ((ji15) < (l0.length : Int)) = true := decide_eq_true c17
                            clear c17
                            have H' := Aside0.mk H
                            clear H
                            obtain ⟨hcz18_0, hfz18_0⟩ := blkc6 BK108.out
                            have p109 : 0 ≤ ((ji15) : Int) := of_decide_eq_true (by first | (with_reducible assumption) | assumption)
                            have q109 : (ji15) < (l0.length : Int) := of_decide_eq_true (by first | (with_reducible assumption) | assumption)
                            obtain ⟨ad109, e109, hx109_0, hx109_1, hx109_2, hx109_3, hx109_4, hx109_5⟩ := at_T82 HR0.out (ji15) p109 q109
                            obtain rfl : ad107 = ad109 := (by injection e109)
                            replace hx109_0 := (HB.out.cell (World.block_lt_of_cell? w _ hx109_0)).trans hx109_0
                            replace hx109_1 := (HB.out.cell (World.block_lt_of_cell? w _ hx109_1)).trans hx109_1
                            replace hx109_2 := (HB.out.cell (World.block_lt_of_cell? w _ hx109_2)).trans hx109_2
                            replace hx109_3 := (HB.out.cell (World.block_lt_of_cell? w _ hx109_3)).trans hx109_3
                            replace hx109_4 := (HB.out.cell (World.block_lt_of_cell? w _ hx109_4)).trans hx109_4
                            replace hx109_5 := (HB.out.cell (World.block_lt_of_cell? w _ hx109_5)).trans hx109_5
                            replace p109 := eq_true p109
                            replace q109 := eq_true q109
                            go_wp2
                            repeat (go_quiet (fail); try go_wp2)
                            go_meet
                            case rel => exact ⟨_, (decide (((rd_T82 l0 x16_1).f0.f0) ≤ ((rd_T82 l0 (ji15)).f0.f0))), (by first | rfl | (simp; done) | (simp only [← hji15] <;> (first | rfl | simp)) | (simp [*]; done)), H', ⟨by have := HK1.out; first | omega | exact Nat.le_refl _⟩, ⟨by (with_reducible repeat (first | refine blk_drewN ?_ _ | refine blk_drew ?_ | refine blk_alloc ?_ _)); exact BK108.out⟩, ⟨by repeat (first | (with_reducible first | exact HB.out | apply below_alloc | apply pw_below_drewN | apply below_drew1 | refine below_set ?_ GE108.out) | exact HB.out)⟩⟩
                          · rw [if_neg c17] at H
                            exact absurd H (by simp)
                        · rw [if_neg c16] at H
                          exact absurd H (by simp)
                      · rw [if_neg c14] at H
                        have c14b0 : decide (0 < x16_1) = false := decide_eq_false c14
                        clear c14
                        have H' := Aside0.mk H
                        clear H
                        obtain ⟨hcz19_0, hfz19_0⟩ := blkc6 BK108.out
                        go_wp2
                        repeat (go_quiet (fail); try go_wp2)
                        go_meet
                        case rel => exact ⟨_, (false), (by first | rfl | (simp; done) | (simp [*]; done)), H', ⟨by have := HK1.out; first | omega | exact Nat.le_refl _⟩, ⟨by (with_reducible repeat (first | refine blk_drewN ?_ _ | refine blk_drew ?_ | refine blk_alloc ?_ _)); exact BK108.out⟩, ⟨by repeat (first | (with_reducible first | exact HB.out | apply below_alloc | apply pw_below_drewN | apply below_drew1 | refine below_set ?_ GE108.out) | exact HB.out)⟩⟩
                case rest =>
                  clear HC7
                  try clear c1
                  try clear p1
                  try clear q1
                  try clear hx1
                  try clear c2
                  try clear c2b0
                  try clear c2b1
                  try clear p2
                  try clear c3
                  try clear c3b0
                  try clear c3b1
                  try clear c3b2
                  try clear c4
                  try clear c4b0
                  try clear c5
                  try clear c5b0
                  try clear c6
                  try clear c6b0
                  try clear p6
                  try clear c10
                  try clear c10b0
                  try clear p10
                  try clear q10
                  try clear hx10
                  try clear c12
                  try clear c12b0
                  try clear c14
                  try clear c14b0
                  try clear c16
                  try clear c16b0
                  try clear c17
                  try clear c17b0
                  try clear hcz11_0
                  try clear hcz13_0
                  try clear hcz18_0
                  try clear hcz19_0
                  try clear hfz11_0
                  try clear hfz13_0
                  try clear hfz18_0
                  try clear hfz19_0
                  try clear hx107_0
                  try clear hx107_1
                  try clear hx107_2
                  try clear hx107_3
                  try clear hx107_4
                  try clear hx107_5
                  try clear hx109_0
                  try clear hx109_1
                  try clear hx109_2
                  try clear hx109_3
                  try clear hx109_4
                  try clear hx109_5
                  try clear p107
                  try clear p109
                  try clear p2
                  try clear q107
                  try clear q109
                  obtain ⟨kq, x47_6, rfl, HA, HJ6, BK108, HB⟩ := hcut
                  cases kq with
                  | zero => exact absurd HA.out (by simp [tube_Check.j1])
                  | succ kj6 =>
                    have H := HA.out
                    clear HA
                    simp only [tube_Check.j1] at H
                    by_cases c20 : x47_6 = true
                    · subst c20
                      have H1 : (some 12) = some r := by rw [if_pos rfl] at H; exact H
                      clear H
                      have H := H1
                      clear H1
                      obtain rfl := Option.some.inj H
                      go_wp2
                      repeat (go_quiet (fail); try go_wp2)
                      go_ret
                      exact ⟨by first | rfl | (simp [errW_none, errW_some] <;> rfl) | (simp [*, errW_none, errW_some] <;> rfl), by repeat (first | (with_reducible first | exact HB.out | apply below_alloc | apply pw_below_drewN | apply below_drew1 | refine below_set ?_ GE108.out) | exact HB.out)⟩
                    · replace c20 := Bool.eq_false_iff.mpr c20
                      subst c20
                      have H1 : ((plane_Check.f ((rd_T82 l0 x16_1).f0.f1.f0) ((rd_T82 l0 x16_1).f0.f1.f1)).bind fun t110 => (if t110 = 0 then (if ((rd_T82 l0 x16_1).f0.f2) < 0 then (some 4) else (if ((rd_T82 l0 x16_1).f0.f2) > 60000 then (some 4) else (if ((rd_T82 l0 x16_1).f1) < 0 then (some 4) else (if ((rd_T82 l0 x16_1).f1) > 1000000 then (some 4) else (if ((rd_T82 l0 x16_1).f2) < 0 then (some 4) else (if ((rd_T82 l0 x16_1).f2) > 60000 then (some 4) else (tube_Check.l0 kj6 l0 l0 (l0.length : Int) (wrap64 (x16_1 + 1))))))))) else (some t110))) = some r := by rw [if_neg (show ¬ (false = true) by decide)] at H; exact H
                      clear H
                      have H := H1
                      clear H1
                      replace H := Option.bind_eq_some_iff.mp H
                      obtain ⟨t110, A210, H⟩ := H
                      replace H : (if t110 = 0 then (if ((rd_T82 l0 x16_1).f0.f2) < 0 then (some 4) else (if ((rd_T82 l0 x16_1).f0.f2) > 60000 then (some 4) else (if ((rd_T82 l0 x16_1).f1) < 0 then (some 4) else (if ((rd_T82 l0 x16_1).f1) > 1000000 then (some 4) else (if ((rd_T82 l0 x16_1).f2) < 0 then (some 4) else (if ((rd_T82 l0 x16_1).f2) > 60000 then (some 4) else (tube_Check.l0 kj6 l0 l0 (l0.length : Int) (wrap64 (x16_1 + 1))))))))) else (some t110)) = some r := H
                      have A21 := Aside0.mk A210
                      have CA21 := Aside0.mk (fun W_ => plane_Check.calls ((rd_T82 l0 x16_1).f0.f1.f0) ((rd_T82 l0 x16_1).f0.f1.f1) t110 W_ A210)
                      clear A210
                      by_cases c22 : t110 = 0
                      · rw [if_pos c22] at H
                        have c22b0 : (t110 == 0) = true := beq_iff_eq.mpr c22
                        have c22b1 : (t110 != 0) = false := bne_eq_false_iff_eq.mpr c22
                        clear c22
                        by_cases c23 : ((rd_T82 l0 x16_1).f0.f2) < 0
                        · rw [if_pos c23] at H
                          have c23b0 : decide (((rd_T82 l0 x16_1).f0.f2) < 0) = true := decide_eq_true c23
                          clear c23
                          obtain rfl := Option.some.inj H
                          go_wp2_with (first | ((with_reducible refine gate_dst (N := 50) rfl ?_); refine ld_row rfl (N := 50) rfl 45 _ rfl gb108 1 rfl (t := 82) (cs := #[.int .i64 ((rd_T82 l0 x16_1).f0.f0), .int .i64 ((rd_T82 l0 x16_1).f0.f1.f0), .int .i64 ((rd_T82 l0 x16_1).f0.f1.f1), .int .i64 ((rd_T82 l0 x16_1).f0.f2), .int .i64 ((rd_T82 l0 x16_1).f1), .int .i64 ((rd_T82 l0 x16_1).f2)]) (fr := (0, 0)) [.int .i64 ((rd_T82 l0 x16_1).f0.f1.f0), .int .i64 ((rd_T82 l0 x16_1).f0.f1.f1)] (by (with_reducible repeat (first | refine blk_drewN ?_ _ | refine blk_drew ?_ | refine blk_alloc ?_ _)); exact BK108.out) Try.underlying45 rfl isz45 rfl ?_) | (go_at_call 63; (with_reducible refine (CA21.out _).mono ?_); rintro e w24 ⟨rfl, hb⟩; have n0_ := Aside0.mk (blk_below (g := gb108) (by (with_reducible repeat (first | refine blk_drewN ?_ _ | refine blk_drew ?_ | refine blk_alloc ?_ _)); exact BK108.out) hb); have n1_ := Aside0.mk (below_step (by repeat (first | (with_reducible first | exact HB.out | apply below_alloc | apply pw_below_drewN | apply below_drew1 | refine below_set ?_ GE108.out) | exact HB.out)) hb); clear BK108; clear HB; have BK108 := n0_; have HB := n1_; clear n0_ n1_; (try clear hb); (try clear hb2); (try clear hk); (try clear hi)) | ((with_reducible refine gate_dst (N := 57) rfl ?_); refine ld_cell rfl (N := 57) rfl 3 _ rfl gb108 3 rfl (t := 82) (cs := #[.int .i64 ((rd_T82 l0 x16_1).f0.f0), .int .i64 ((rd_T82 l0 x16_1).f0.f1.f0), .int .i64 ((rd_T82 l0 x16_1).f0.f1.f1), .int .i64 ((rd_T82 l0 x16_1).f0.f2), .int .i64 ((rd_T82 l0 x16_1).f1), .int .i64 ((rd_T82 l0 x16_1).f2)]) (fr := (0, 0)) (.int .i64 ((rd_T82 l0 x16_1).f0.f2)) (by (with_reducible repeat (first | refine blk_drewN ?_ _ | refine blk_drew ?_ | refine blk_alloc ?_ _)); exact BK108.out) Try.underlying3 rfl rfl ?_))
                          repeat (go_quiet (first | ((with_reducible refine gate_dst (N := 50) rfl ?_); refine ld_row rfl (N := 50) rfl 45 _ rfl gb108 1 rfl (t := 82) (cs := #[.int .i64 ((rd_T82 l0 x16_1).f0.f0), .int .i64 ((rd_T82 l0 x16_1).f0.f1.f0), .int .i64 ((rd_T82 l0 x16_1).f0.f1.f1), .int .i64 ((rd_T82 l0 x16_1).f0.f2), .int .i64 ((rd_T82 l0 x16_1).f1), .int .i64 ((rd_T82 l0 x16_1).f2)]) (fr := (0, 0)) [.int .i64 ((rd_T82 l0 x16_1).f0.f1.f0), .int .i64 ((rd_T82 l0 x16_1).f0.f1.f1)] (by (with_reducible repeat (first | refine blk_drewN ?_ _ | refine blk_drew ?_ | refine blk_alloc ?_ _)); exact BK108.out) Try.underlying45 rfl isz45 rfl ?_) | (go_at_call 63; (with_reducible refine (CA21.out _).mono ?_); rintro e w24 ⟨rfl, hb⟩; have n0_ := Aside0.mk (blk_below (g := gb108) (by (with_reducible repeat (first | refine blk_drewN ?_ _ | refine blk_drew ?_ | refine blk_alloc ?_ _)); exact BK108.out) hb); have n1_ := Aside0.mk (below_step (by repeat (first | (with_reducible first | exact HB.out | apply below_alloc | apply pw_below_drewN | apply below_drew1 | refine below_set ?_ GE108.out) | exact HB.out)) hb); clear BK108; clear HB; have BK108 := n0_; have HB := n1_; clear n0_ n1_; (try clear hb); (try clear hb2); (try clear hk); (try clear hi)) | ((with_reducible refine gate_dst (N := 57) rfl ?_); refine ld_cell rfl (N := 57) rfl 3 _ rfl gb108 3 rfl (t := 82) (cs := #[.int .i64 ((rd_T82 l0 x16_1).f0.f0), .int .i64 ((rd_T82 l0 x16_1).f0.f1.f0), .int .i64 ((rd_T82 l0 x16_1).f0.f1.f1), .int .i64 ((rd_T82 l0 x16_1).f0.f2), .int .i64 ((rd_T82 l0 x16_1).f1), .int .i64 ((rd_T82 l0 x16_1).f2)]) (fr := (0, 0)) (.int .i64 ((rd_T82 l0 x16_1).f0.f2)) (by (with_reducible repeat (first | refine blk_drewN ?_ _ | refine blk_drew ?_ | refine blk_alloc ?_ _)); exact BK108.out) Try.underlying3 rfl rfl ?_)); try go_wp2_with (first | ((with_reducible refine gate_dst (N := 50) rfl ?_); refine ld_row rfl (N := 50) rfl 45 _ rfl gb108 1 rfl (t := 82) (cs := #[.int .i64 ((rd_T82 l0 x16_1).f0.f0), .int .i64 ((rd_T82 l0 x16_1).f0.f1.f0), .int .i64 ((rd_T82 l0 x16_1).f0.f1.f1), .int .i64 ((rd_T82 l0 x16_1).f0.f2), .int .i64 ((rd_T82 l0 x16_1).f1), .int .i64 ((rd_T82 l0 x16_1).f2)]) (fr := (0, 0)) [.int .i64 ((rd_T82 l0 x16_1).f0.f1.f0), .int .i64 ((rd_T82 l0 x16_1).f0.f1.f1)] (by (with_reducible repeat (first | refine blk_drewN ?_ _ | refine blk_drew ?_ | refine blk_alloc ?_ _)); exact BK108.out) Try.underlying45 rfl isz45 rfl ?_) | (go_at_call 63; (with_reducible refine (CA21.out _).mono ?_); rintro e w24 ⟨rfl, hb⟩; have n0_ := Aside0.mk (blk_below (g := gb108) (by (with_reducible repeat (first | refine blk_drewN ?_ _ | refine blk_drew ?_ | refine blk_alloc ?_ _)); exact BK108.out) hb); have n1_ := Aside0.mk (below_step (by repeat (first | (with_reducible first | exact HB.out | apply below_alloc | apply pw_below_drewN | apply below_drew1 | refine below_set ?_ GE108.out) | exact HB.out)) hb); clear BK108; clear HB; have BK108 := n0_; have HB := n1_; clear n0_ n1_; (try clear hb); (try clear hb2); (try clear hk); (try clear hi)) | ((with_reducible refine gate_dst (N := 57) rfl ?_); refine ld_cell rfl (N := 57) rfl 3 _ rfl gb108 3 rfl (t := 82) (cs := #[.int .i64 ((rd_T82 l0 x16_1).f0.f0), .int .i64 ((rd_T82 l0 x16_1).f0.f1.f0), .int .i64 ((rd_T82 l0 x16_1).f0.f1.f1), .int .i64 ((rd_T82 l0 x16_1).f0.f2), .int .i64 ((rd_T82 l0 x16_1).f1), .int .i64 ((rd_T82 l0 x16_1).f2)]) (fr := (0, 0)) (.int .i64 ((rd_T82 l0 x16_1).f0.f2)) (by (with_reducible repeat (first | refine blk_drewN ?_ _ | refine blk_drew ?_ | refine blk_alloc ?_ _)); exact BK108.out) Try.underlying3 rfl rfl ?_)))
                          go_ret
                          exact ⟨by first | rfl | (simp [errW_none, errW_some] <;> rfl) | (simp [*, errW_none, errW_some] <;> rfl), by repeat (first | (with_reducible first | exact HB.out | apply below_alloc | apply pw_below_drewN | apply below_drew1 | refine below_set ?_ GE108.out) | exact HB.out)⟩
                        · rw [if_neg c23] at H
                          have c23b0 : decide (((rd_T82 l0 x16_1).f0.f2) < 0) = false := decide_eq_false c23
                          clear c23
                          by_cases c25 : ((rd_T82 l0 x16_1).f0.f2) > 60000
                          · rw [if_pos c25] at H
                            have c25b0 : decide (60000 < ((rd_T82 l0 x16_1).f0.f2)) = true := decide_eq_true c25
                            clear c25
                            obtain rfl := Option.some.inj H
                            go_wp2_with (first | ((with_reducible refine gate_dst (N := 50) rfl ?_); refine ld_row rfl (N := 50) rfl 45 _ rfl gb108 1 rfl (t := 82) (cs := #[.int .i64 ((rd_T82 l0 x16_1).f0.f0), .int .i64 ((rd_T82 l0 x16_1).f0.f1.f0), .int .i64 ((rd_T82 l0 x16_1).f0.f1.f1), .int .i64 ((rd_T82 l0 x16_1).f0.f2), .int .i64 ((rd_T82 l0 x16_1).f1), .int .i64 ((rd_T82 l0 x16_1).f2)]) (fr := (0, 0)) [.int .i64 ((rd_T82 l0 x16_1).f0.f1.f0), .int .i64 ((rd_T82 l0 x16_1).f0.f1.f1)] (by (with_reducible repeat (first | refine blk_drewN ?_ _ | refine blk_drew ?_ | refine blk_alloc ?_ _)); exact BK108.out) Try.underlying45 rfl isz45 rfl ?_) | (go_at_call 63; (with_reducible refine (CA21.out _).mono ?_); rintro e w26 ⟨rfl, hb⟩; have n0_ := Aside0.mk (blk_below (g := gb108) (by (with_reducible repeat (first | refine blk_drewN ?_ _ | refine blk_drew ?_ | refine blk_alloc ?_ _)); exact BK108.out) hb); have n1_ := Aside0.mk (below_step (by repeat (first | (with_reducible first | exact HB.out | apply below_alloc | apply pw_below_drewN | apply below_drew1 | refine below_set ?_ GE108.out) | exact HB.out)) hb); clear BK108; clear HB; have BK108 := n0_; have HB := n1_; clear n0_ n1_; (try clear hb); (try clear hb2); (try clear hk); (try clear hi); obtain ⟨hcz27_0, hfz27_0⟩ := blkc6 BK108.out) | ((with_reducible refine gate_dst (N := 57) rfl ?_); refine ld_cell rfl (N := 57) rfl 3 _ rfl gb108 3 rfl (t := 82) (cs := #[.int .i64 ((rd_T82 l0 x16_1).f0.f0), .int .i64 ((rd_T82 l0 x16_1).f0.f1.f0), .int .i64 ((rd_T82 l0 x16_1).f0.f1.f1), .int .i64 ((rd_T82 l0 x16_1).f0.f2), .int .i64 ((rd_T82 l0 x16_1).f1), .int .i64 ((rd_T82 l0 x16_1).f2)]) (fr := (0, 0)) (.int .i64 ((rd_T82 l0 x16_1).f0.f2)) (by (with_reducible repeat (first | refine blk_drewN ?_ _ | refine blk_drew ?_ | refine blk_alloc ?_ _)); exact BK108.out) Try.underlying3 rfl rfl ?_))
                            repeat (go_quiet (first | ((with_reducible refine gate_dst (N := 50) rfl ?_); refine ld_row rfl (N := 50) rfl 45 _ rfl gb108 1 rfl (t := 82) (cs := #[.int .i64 ((rd_T82 l0 x16_1).f0.f0), .int .i64 ((rd_T82 l0 x16_1).f0.f1.f0), .int .i64 ((rd_T82 l0 x16_1).f0.f1.f1), .int .i64 ((rd_T82 l0 x16_1).f0.f2), .int .i64 ((rd_T82 l0 x16_1).f1), .int .i64 ((rd_T82 l0 x16_1).f2)]) (fr := (0, 0)) [.int .i64 ((rd_T82 l0 x16_1).f0.f1.f0), .int .i64 ((rd_T82 l0 x16_1).f0.f1.f1)] (by (with_reducible repeat (first | refine blk_drewN ?_ _ | refine blk_drew ?_ | refine blk_alloc ?_ _)); exact BK108.out) Try.underlying45 rfl isz45 rfl ?_) | (go_at_call 63; (with_reducible refine (CA21.out _).mono ?_); rintro e w26 ⟨rfl, hb⟩; have n0_ := Aside0.mk (blk_below (g := gb108) (by (with_reducible repeat (first | refine blk_drewN ?_ _ | refine blk_drew ?_ | refine blk_alloc ?_ _)); exact BK108.out) hb); have n1_ := Aside0.mk (below_step (by repeat (first | (with_reducible first | exact HB.out | apply below_alloc | apply pw_below_drewN | apply below_drew1 | refine below_set ?_ GE108.out) | exact HB.out)) hb); clear BK108; clear HB; have BK108 := n0_; have HB := n1_; clear n0_ n1_; (try clear hb); (try clear hb2); (try clear hk); (try clear hi); obtain ⟨hcz27_0, hfz27_0⟩ := blkc6 BK108.out) | ((with_reducible refine gate_dst (N := 57) rfl ?_); refine ld_cell rfl (N := 57) rfl 3 _ rfl gb108 3 rfl (t := 82) (cs := #[.int .i64 ((rd_T82 l0 x16_1).f0.f0), .int .i64 ((rd_T82 l0 x16_1).f0.f1.f0), .int .i64 ((rd_T82 l0 x16_1).f0.f1.f1), .int .i64 ((rd_T82 l0 x16_1).f0.f2), .int .i64 ((rd_T82 l0 x16_1).f1), .int .i64 ((rd_T82 l0 x16_1).f2)]) (fr := (0, 0)) (.int .i64 ((rd_T82 l0 x16_1).f0.f2)) (by (with_reducible repeat (first | refine blk_drewN ?_ _ | refine blk_drew ?_ | refine blk_alloc ?_ _)); exact BK108.out) Try.underlying3 rfl rfl ?_)); try go_wp2_with (first | ((with_reducible refine gate_dst (N := 50) rfl ?_); refine ld_row rfl (N := 50) rfl 45 _ rfl gb108 1 rfl (t := 82) (cs := #[.int .i64 ((rd_T82 l0 x16_1).f0.f0), .int .i64 ((rd_T82 l0 x16_1).f0.f1.f0), .int .i64 ((rd_T82 l0 x16_1).f0.f1.f1), .int .i64 ((rd_T82 l0 x16_1).f0.f2), .int .i64 ((rd_T82 l0 x16_1).f1), .int .i64 ((rd_T82 l0 x16_1).f2)]) (fr := (0, 0)) [.int .i64 ((rd_T82 l0 x16_1).f0.f1.f0), .int .i64 ((rd_T82 l0 x16_1).f0.f1.f1)] (by (with_reducible repeat (first | refine blk_drewN ?_ _ | refine blk_drew ?_ | refine blk_alloc ?_ _)); exact BK108.out) Try.underlying45 rfl isz45 rfl ?_) | (go_at_call 63; (with_reducible refine (CA21.out _).mono ?_); rintro e w26 ⟨rfl, hb⟩; have n0_ := Aside0.mk (blk_below (g := gb108) (by (with_reducible repeat (first | refine blk_drewN ?_ _ | refine blk_drew ?_ | refine blk_alloc ?_ _)); exact BK108.out) hb); have n1_ := Aside0.mk (below_step (by repeat (first | (with_reducible first | exact HB.out | apply below_alloc | apply pw_below_drewN | apply below_drew1 | refine below_set ?_ GE108.out) | exact HB.out)) hb); clear BK108; clear HB; have BK108 := n0_; have HB := n1_; clear n0_ n1_; (try clear hb); (try clear hb2); (try clear hk); (try clear hi); obtain ⟨hcz27_0, hfz27_0⟩ := blkc6 BK108.out) | ((with_reducible refine gate_dst (N := 57) rfl ?_); refine ld_cell rfl (N := 57) rfl 3 _ rfl gb108 3 rfl (t := 82) (cs := #[.int .i64 ((rd_T82 l0 x16_1).f0.f0), .int .i64 ((rd_T82 l0 x16_1).f0.f1.f0), .int .i64 ((rd_T82 l0 x16_1).f0.f1.f1), .int .i64 ((rd_T82 l0 x16_1).f0.f2), .int .i64 ((rd_T82 l0 x16_1).f1), .int .i64 ((rd_T82 l0 x16_1).f2)]) (fr := (0, 0)) (.int .i64 ((rd_T82 l0 x16_1).f0.f2)) (by (with_reducible repeat (first | refine blk_drewN ?_ _ | refine blk_drew ?_ | refine blk_alloc ?_ _)); exact BK108.out) Try.underlying3 rfl rfl ?_)))
                            go_ret
                            exact ⟨by first | rfl | (simp [errW_none, errW_some] <;> rfl) | (simp [*, errW_none, errW_some] <;> rfl), by repeat (first | (with_reducible first | exact HB.out | apply below_alloc | apply pw_below_drewN | apply below_drew1 | refine below_set ?_ GE108.out) | exact HB.out)⟩
                          · rw [if_neg c25] at H
                            have c25b0 : decide (60000 < ((rd_T82 l0 x16_1).f0.f2)) = false := decide_eq_false c25
                            clear c25
                            by_cases c28 : ((rd_T82 l0 x16_1).f1) < 0
                            · rw [if_pos c28] at H
                              have c28b0 : decide (((rd_T82 l0 x16_1).f1) < 0) = true := decide_eq_true c28
                              clear c28
                              obtain rfl := Option.some.inj H
                              go_wp2_with (first | ((with_reducible refine gate_dst (N := 50) rfl ?_); refine ld_row rfl (N := 50) rfl 45 _ rfl gb108 1 rfl (t := 82) (cs := #[.int .i64 ((rd_T82 l0 x16_1).f0.f0), .int .i64 ((rd_T82 l0 x16_1).f0.f1.f0), .int .i64 ((rd_T82 l0 x16_1).f0.f1.f1), .int .i64 ((rd_T82 l0 x16_1).f0.f2), .int .i64 ((rd_T82 l0 x16_1).f1), .int .i64 ((rd_T82 l0 x16_1).f2)]) (fr := (0, 0)) [.int .i64 ((rd_T82 l0 x16_1).f0.f1.f0), .int .i64 ((rd_T82 l0 x16_1).f0.f1.f1)] (by (with_reducible repeat (first | refine blk_drewN ?_ _ | refine blk_drew ?_ | refine blk_alloc ?_ _)); exact BK108.out) Try.underlying45 rfl isz45 rfl ?_) | (go_at_call 63; (with_reducible refine (CA21.out _).mono ?_); rintro e w29 ⟨rfl, hb⟩; have n0_ := Aside0.mk (blk_below (g := gb108) (by (with_reducible repeat (first | refine blk_drewN ?_ _ | refine blk_drew ?_ | refine blk_alloc ?_ _)); exact BK108.out) hb); have n1_ := Aside0.mk (below_step (by repeat (first | (with_reducible first | exact HB.out | apply below_alloc | apply pw_below_drewN | apply below_drew1 | refine below_set ?_ GE108.out) | exact HB.out)) hb); clear BK108; clear HB; have BK108 := n0_; have HB := n1_; clear n0_ n1_; (try clear hb); (try clear hb2); (try clear hk); (try clear hi); obtain ⟨hcz30_0, hfz30_0⟩ := blkc6 BK108.out) | ((with_reducible refine gate_dst (N := 57) rfl ?_); refine ld_cell rfl (N := 57) rfl 3 _ rfl gb108 3 rfl (t := 82) (cs := #[.int .i64 ((rd_T82 l0 x16_1).f0.f0), .int .i64 ((rd_T82 l0 x16_1).f0.f1.f0), .int .i64 ((rd_T82 l0 x16_1).f0.f1.f1), .int .i64 ((rd_T82 l0 x16_1).f0.f2), .int .i64 ((rd_T82 l0 x16_1).f1), .int .i64 ((rd_T82 l0 x16_1).f2)]) (fr := (0, 0)) (.int .i64 ((rd_T82 l0 x16_1).f0.f2)) (by (with_reducible repeat (first | refine blk_drewN ?_ _ | refine blk_drew ?_ | refine blk_alloc ?_ _)); exact BK108.out) Try.underlying3 rfl rfl ?_))
                              repeat (go_quiet (first | ((with_reducible refine gate_dst (N := 50) rfl ?_); refine ld_row rfl (N := 50) rfl 45 _ rfl gb108 1 rfl (t := 82) (cs := #[.int .i64 ((rd_T82 l0 x16_1).f0.f0), .int .i64 ((rd_T82 l0 x16_1).f0.f1.f0), .int .i64 ((rd_T82 l0 x16_1).f0.f1.f1), .int .i64 ((rd_T82 l0 x16_1).f0.f2), .int .i64 ((rd_T82 l0 x16_1).f1), .int .i64 ((rd_T82 l0 x16_1).f2)]) (fr := (0, 0)) [.int .i64 ((rd_T82 l0 x16_1).f0.f1.f0), .int .i64 ((rd_T82 l0 x16_1).f0.f1.f1)] (by (with_reducible repeat (first | refine blk_drewN ?_ _ | refine blk_drew ?_ | refine blk_alloc ?_ _)); exact BK108.out) Try.underlying45 rfl isz45 rfl ?_) | (go_at_call 63; (with_reducible refine (CA21.out _).mono ?_); rintro e w29 ⟨rfl, hb⟩; have n0_ := Aside0.mk (blk_below (g := gb108) (by (with_reducible repeat (first | refine blk_drewN ?_ _ | refine blk_drew ?_ | refine blk_alloc ?_ _)); exact BK108.out) hb); have n1_ := Aside0.mk (below_step (by repeat (first | (with_reducible first | exact HB.out | apply below_alloc | apply pw_below_drewN | apply below_drew1 | refine below_set ?_ GE108.out) | exact HB.out)) hb); clear BK108; clear HB; have BK108 := n0_; have HB := n1_; clear n0_ n1_; (try clear hb); (try clear hb2); (try clear hk); (try clear hi); obtain ⟨hcz30_0, hfz30_0⟩ := blkc6 BK108.out) | ((with_reducible refine gate_dst (N := 57) rfl ?_); refine ld_cell rfl (N := 57) rfl 3 _ rfl gb108 3 rfl (t := 82) (cs := #[.int .i64 ((rd_T82 l0 x16_1).f0.f0), .int .i64 ((rd_T82 l0 x16_1).f0.f1.f0), .int .i64 ((rd_T82 l0 x16_1).f0.f1.f1), .int .i64 ((rd_T82 l0 x16_1).f0.f2), .int .i64 ((rd_T82 l0 x16_1).f1), .int .i64 ((rd_T82 l0 x16_1).f2)]) (fr := (0, 0)) (.int .i64 ((rd_T82 l0 x16_1).f0.f2)) (by (with_reducible repeat (first | refine blk_drewN ?_ _ | refine blk_drew ?_ | refine blk_alloc ?_ _)); exact BK108.out) Try.underlying3 rfl rfl ?_)); try go_wp2_with (first | ((with_reducible refine gate_dst (N := 50) rfl ?_); refine ld_row rfl (N := 50) rfl 45 _ rfl gb108 1 rfl (t := 82) (cs := #[.int .i64 ((rd_T82 l0 x16_1).f0.f0), .int .i64 ((rd_T82 l0 x16_1).f0.f1.f0), .int .i64 ((rd_T82 l0 x16_1).f0.f1.f1), .int .i64 ((rd_T82 l0 x16_1).f0.f2), .int .i64 ((rd_T82 l0 x16_1).f1), .int .i64 ((rd_T82 l0 x16_1).f2)]) (fr := (0, 0)) [.int .i64 ((rd_T82 l0 x16_1).f0.f1.f0), .int .i64 ((rd_T82 l0 x16_1).f0.f1.f1)] (by (with_reducible repeat (first | refine blk_drewN ?_ _ | refine blk_drew ?_ | refine blk_alloc ?_ _)); exact BK108.out) Try.underlying45 rfl isz45 rfl ?_) | (go_at_call 63; (with_reducible refine (CA21.out _).mono ?_); rintro e w29 ⟨rfl, hb⟩; have n0_ := Aside0.mk (blk_below (g := gb108) (by (with_reducible repeat (first | refine blk_drewN ?_ _ | refine blk_drew ?_ | refine blk_alloc ?_ _)); exact BK108.out) hb); have n1_ := Aside0.mk (below_step (by repeat (first | (with_reducible first | exact HB.out | apply below_alloc | apply pw_below_drewN | apply below_drew1 | refine below_set ?_ GE108.out) | exact HB.out)) hb); clear BK108; clear HB; have BK108 := n0_; have HB := n1_; clear n0_ n1_; (try clear hb); (try clear hb2); (try clear hk); (try clear hi); obtain ⟨hcz30_0, hfz30_0⟩ := blkc6 BK108.out) | ((with_reducible refine gate_dst (N := 57) rfl ?_); refine ld_cell rfl (N := 57) rfl 3 _ rfl gb108 3 rfl (t := 82) (cs := #[.int .i64 ((rd_T82 l0 x16_1).f0.f0), .int .i64 ((rd_T82 l0 x16_1).f0.f1.f0), .int .i64 ((rd_T82 l0 x16_1).f0.f1.f1), .int .i64 ((rd_T82 l0 x16_1).f0.f2), .int .i64 ((rd_T82 l0 x16_1).f1), .int .i64 ((rd_T82 l0 x16_1).f2)]) (fr := (0, 0)) (.int .i64 ((rd_T82 l0 x16_1).f0.f2)) (by (with_reducible repeat (first | refine blk_drewN ?_ _ | refine blk_drew ?_ | refine blk_alloc ?_ _)); exact BK108.out) Try.underlying3 rfl rfl ?_)))
                              go_ret
                              exact ⟨by first | rfl | (simp [errW_none, errW_some] <;> rfl) | (simp [*, errW_none, errW_some] <;> rfl), by repeat (first | (with_reducible first | exact HB.out | apply below_alloc | apply pw_below_drewN | apply below_drew1 | refine below_set ?_ GE108.out) | exact HB.out)⟩
                            · rw [if_neg c28] at H
                              have c28b0 : decide (((rd_T82 l0 x16_1).f1) < 0) = false := decide_eq_false c28
                              clear c28
                              by_cases c31 : ((rd_T82 l0 x16_1).f1) > 1000000
                              · rw [if_pos c31] at H
                                have c31b0 : decide (1000000 < ((rd_T82 l0 x16_1).f1)) = true := decide_eq_true c31
                                clear c31
                                obtain rfl := Option.some.inj H
                                go_wp2_with (first | ((with_reducible refine gate_dst (N := 50) rfl ?_); refine ld_row rfl (N := 50) rfl 45 _ rfl gb108 1 rfl (t := 82) (cs := #[.int .i64 ((rd_T82 l0 x16_1).f0.f0), .int .i64 ((rd_T82 l0 x16_1).f0.f1.f0), .int .i64 ((rd_T82 l0 x16_1).f0.f1.f1), .int .i64 ((rd_T82 l0 x16_1).f0.f2), .int .i64 ((rd_T82 l0 x16_1).f1), .int .i64 ((rd_T82 l0 x16_1).f2)]) (fr := (0, 0)) [.int .i64 ((rd_T82 l0 x16_1).f0.f1.f0), .int .i64 ((rd_T82 l0 x16_1).f0.f1.f1)] (by (with_reducible repeat (first | refine blk_drewN ?_ _ | refine blk_drew ?_ | refine blk_alloc ?_ _)); exact BK108.out) Try.underlying45 rfl isz45 rfl ?_) | (go_at_call 63; (with_reducible refine (CA21.out _).mono ?_); rintro e w32 ⟨rfl, hb⟩; have n0_ := Aside0.mk (blk_below (g := gb108) (by (with_reducible repeat (first | refine blk_drewN ?_ _ | refine blk_drew ?_ | refine blk_alloc ?_ _)); exact BK108.out) hb); have n1_ := Aside0.mk (below_step (by repeat (first | (with_reducible first | exact HB.out | apply below_alloc | apply pw_below_drewN | apply below_drew1 | refine below_set ?_ GE108.out) | exact HB.out)) hb); clear BK108; clear HB; have BK108 := n0_; have HB := n1_; clear n0_ n1_; (try clear hb); (try clear hb2); (try clear hk); (try clear hi); obtain ⟨hcz33_0, hfz33_0⟩ := blkc6 BK108.out) | ((with_reducible refine gate_dst (N := 57) rfl ?_); refine ld_cell rfl (N := 57) rfl 3 _ rfl gb108 3 rfl (t := 82) (cs := #[.int .i64 ((rd_T82 l0 x16_1).f0.f0), .int .i64 ((rd_T82 l0 x16_1).f0.f1.f0), .int .i64 ((rd_T82 l0 x16_1).f0.f1.f1), .int .i64 ((rd_T82 l0 x16_1).f0.f2), .int .i64 ((rd_T82 l0 x16_1).f1), .int .i64 ((rd_T82 l0 x16_1).f2)]) (fr := (0, 0)) (.int .i64 ((rd_T82 l0 x16_1).f0.f2)) (by (with_reducible repeat (first | refine blk_drewN ?_ _ | refine blk_drew ?_ | refine blk_alloc ?_ _)); exact BK108.out) Try.underlying3 rfl rfl ?_))
                                repeat (go_quiet (first | ((with_reducible refine gate_dst (N := 50) rfl ?_); refine ld_row rfl (N := 50) rfl 45 _ rfl gb108 1 rfl (t := 82) (cs := #[.int .i64 ((rd_T82 l0 x16_1).f0.f0), .int .i64 ((rd_T82 l0 x16_1).f0.f1.f0), .int .i64 ((rd_T82 l0 x16_1).f0.f1.f1), .int .i64 ((rd_T82 l0 x16_1).f0.f2), .int .i64 ((rd_T82 l0 x16_1).f1), .int .i64 ((rd_T82 l0 x16_1).f2)]) (fr := (0, 0)) [.int .i64 ((rd_T82 l0 x16_1).f0.f1.f0), .int .i64 ((rd_T82 l0 x16_1).f0.f1.f1)] (by (with_reducible repeat (first | refine blk_drewN ?_ _ | refine blk_drew ?_ | refine blk_alloc ?_ _)); exact BK108.out) Try.underlying45 rfl isz45 rfl ?_) | (go_at_call 63; (with_reducible refine (CA21.out _).mono ?_); rintro e w32 ⟨rfl, hb⟩; have n0_ := Aside0.mk (blk_below (g := gb108) (by (with_reducible repeat (first | refine blk_drewN ?_ _ | refine blk_drew ?_ | refine blk_alloc ?_ _)); exact BK108.out) hb); have n1_ := Aside0.mk (below_step (by repeat (first | (with_reducible first | exact HB.out | apply below_alloc | apply pw_below_drewN | apply below_drew1 | refine below_set ?_ GE108.out) | exact HB.out)) hb); clear BK108; clear HB; have BK108 := n0_; have HB := n1_; clear n0_ n1_; (try clear hb); (try clear hb2); (try clear hk); (try clear hi); obtain ⟨hcz33_0, hfz33_0⟩ := blkc6 BK108.out) | ((with_reducible refine gate_dst (N := 57) rfl ?_); refine ld_cell rfl (N := 57) rfl 3 _ rfl gb108 3 rfl (t := 82) (cs := #[.int .i64 ((rd_T82 l0 x16_1).f0.f0), .int .i64 ((rd_T82 l0 x16_1).f0.f1.f0), .int .i64 ((rd_T82 l0 x16_1).f0.f1.f1), .int .i64 ((rd_T82 l0 x16_1).f0.f2), .int .i64 ((rd_T82 l0 x16_1).f1), .int .i64 ((rd_T82 l0 x16_1).f2)]) (fr := (0, 0)) (.int .i64 ((rd_T82 l0 x16_1).f0.f2)) (by (with_reducible repeat (first | refine blk_drewN ?_ _ | refine blk_drew ?_ | refine blk_alloc ?_ _)); exact BK108.out) Try.underlying3 rfl rfl ?_)); try go_wp2_with (first | ((with_reducible refine gate_dst (N := 50) rfl ?_); refine ld_row rfl (N := 50) rfl 45 _ rfl gb108 1 rfl (t := 82) (cs := #[.int .i64 ((rd_T82 l0 x16_1).f0.f0), .int .i64 ((rd_T82 l0 x16_1).f0.f1.f0), .int .i64 ((rd_T82 l0 x16_1).f0.f1.f1), .int .i64 ((rd_T82 l0 x16_1).f0.f2), .int .i64 ((rd_T82 l0 x16_1).f1), .int .i64 ((rd_T82 l0 x16_1).f2)]) (fr := (0, 0)) [.int .i64 ((rd_T82 l0 x16_1).f0.f1.f0), .int .i64 ((rd_T82 l0 x16_1).f0.f1.f1)] (by (with_reducible repeat (first | refine blk_drewN ?_ _ | refine blk_drew ?_ | refine blk_alloc ?_ _)); exact BK108.out) Try.underlying45 rfl isz45 rfl ?_) | (go_at_call 63; (with_reducible refine (CA21.out _).mono ?_); rintro e w32 ⟨rfl, hb⟩; have n0_ := Aside0.mk (blk_below (g := gb108) (by (with_reducible repeat (first | refine blk_drewN ?_ _ | refine blk_drew ?_ | refine blk_alloc ?_ _)); exact BK108.out) hb); have n1_ := Aside0.mk (below_step (by repeat (first | (with_reducible first | exact HB.out | apply below_alloc | apply pw_below_drewN | apply below_drew1 | refine below_set ?_ GE108.out) | exact HB.out)) hb); clear BK108; clear HB; have BK108 := n0_; have HB := n1_; clear n0_ n1_; (try clear hb); (try clear hb2); (try clear hk); (try clear hi); obtain ⟨hcz33_0, hfz33_0⟩ := blkc6 BK108.out) | ((with_reducible refine gate_dst (N := 57) rfl ?_); refine ld_cell rfl (N := 57) rfl 3 _ rfl gb108 3 rfl (t := 82) (cs := #[.int .i64 ((rd_T82 l0 x16_1).f0.f0), .int .i64 ((rd_T82 l0 x16_1).f0.f1.f0), .int .i64 ((rd_T82 l0 x16_1).f0.f1.f1), .int .i64 ((rd_T82 l0 x16_1).f0.f2), .int .i64 ((rd_T82 l0 x16_1).f1), .int .i64 ((rd_T82 l0 x16_1).f2)]) (fr := (0, 0)) (.int .i64 ((rd_T82 l0 x16_1).f0.f2)) (by (with_reducible repeat (first | refine blk_drewN ?_ _ | refine blk_drew ?_ | refine blk_alloc ?_ _)); exact BK108.out) Try.underlying3 rfl rfl ?_)))
                                go_ret
                                exact ⟨by first | rfl | (simp [errW_none, errW_some] <;> rfl) | (simp [*, errW_none, errW_some] <;> rfl), by repeat (first | (with_reducible first | exact HB.out | apply below_alloc | apply pw_below_drewN | apply below_drew1 | refine below_set ?_ GE108.out) | exact HB.out)⟩
                              · rw [if_neg c31] at H
                                have c31b0 : decide (1000000 < ((rd_T82 l0 x16_1).f1)) = false := decide_eq_false c31
                                clear c31
                                by_cases c34 : ((rd_T82 l0 x16_1).f2) < 0
                                · rw [if_pos c34] at H
                                  have c34b0 : decide (((rd_T82 l0 x16_1).f2) < 0) = true := decide_eq_true c34
                                  clear c34
                                  obtain rfl := Option.some.inj H
                                  go_wp2_with (first | ((with_reducible refine gate_dst (N := 50) rfl ?_); refine ld_row rfl (N := 50) rfl 45 _ rfl gb108 1 rfl (t := 82) (cs := #[.int .i64 ((rd_T82 l0 x16_1).f0.f0), .int .i64 ((rd_T82 l0 x16_1).f0.f1.f0), .int .i64 ((rd_T82 l0 x16_1).f0.f1.f1), .int .i64 ((rd_T82 l0 x16_1).f0.f2), .int .i64 ((rd_T82 l0 x16_1).f1), .int .i64 ((rd_T82 l0 x16_1).f2)]) (fr := (0, 0)) [.int .i64 ((rd_T82 l0 x16_1).f0.f1.f0), .int .i64 ((rd_T82 l0 x16_1).f0.f1.f1)] (by (with_reducible repeat (first | refine blk_drewN ?_ _ | refine blk_drew ?_ | refine blk_alloc ?_ _)); exact BK108.out) Try.underlying45 rfl isz45 rfl ?_) | (go_at_call 63; (with_reducible refine (CA21.out _).mono ?_); rintro e w35 ⟨rfl, hb⟩; have n0_ := Aside0.mk (blk_below (g := gb108) (by (with_reducible repeat (first | refine blk_drewN ?_ _ | refine blk_drew ?_ | refine blk_alloc ?_ _)); exact BK108.out) hb); have n1_ := Aside0.mk (below_step (by repeat (first | (with_reducible first | exact HB.out | apply below_alloc | apply pw_below_drewN | apply below_drew1 | refine below_set ?_ GE108.out) | exact HB.out)) hb); clear BK108; clear HB; have BK108 := n0_; have HB := n1_; clear n0_ n1_; (try clear hb); (try clear hb2); (try clear hk); (try clear hi); obtain ⟨hcz36_0, hfz36_0⟩ := blkc6 BK108.out) | ((with_reducible refine gate_dst (N := 57) rfl ?_); refine ld_cell rfl (N := 57) rfl 3 _ rfl gb108 3 rfl (t := 82) (cs := #[.int .i64 ((rd_T82 l0 x16_1).f0.f0), .int .i64 ((rd_T82 l0 x16_1).f0.f1.f0), .int .i64 ((rd_T82 l0 x16_1).f0.f1.f1), .int .i64 ((rd_T82 l0 x16_1).f0.f2), .int .i64 ((rd_T82 l0 x16_1).f1), .int .i64 ((rd_T82 l0 x16_1).f2)]) (fr := (0, 0)) (.int .i64 ((rd_T82 l0 x16_1).f0.f2)) (by (with_reducible repeat (first | refine blk_drewN ?_ _ | refine blk_drew ?_ | refine blk_alloc ?_ _)); exact BK108.out) Try.underlying3 rfl rfl ?_))
                                  repeat (go_quiet (first | ((with_reducible refine gate_dst (N := 50) rfl ?_); refine ld_row rfl (N := 50) rfl 45 _ rfl gb108 1 rfl (t := 82) (cs := #[.int .i64 ((rd_T82 l0 x16_1).f0.f0), .int .i64 ((rd_T82 l0 x16_1).f0.f1.f0), .int .i64 ((rd_T82 l0 x16_1).f0.f1.f1), .int .i64 ((rd_T82 l0 x16_1).f0.f2), .int .i64 ((rd_T82 l0 x16_1).f1), .int .i64 ((rd_T82 l0 x16_1).f2)]) (fr := (0, 0)) [.int .i64 ((rd_T82 l0 x16_1).f0.f1.f0), .int .i64 ((rd_T82 l0 x16_1).f0.f1.f1)] (by (with_reducible repeat (first | refine blk_drewN ?_ _ | refine blk_drew ?_ | refine blk_alloc ?_ _)); exact BK108.out) Try.underlying45 rfl isz45 rfl ?_) | (go_at_call 63; (with_reducible refine (CA21.out _).mono ?_); rintro e w35 ⟨rfl, hb⟩; have n0_ := Aside0.mk (blk_below (g := gb108) (by (with_reducible repeat (first | refine blk_drewN ?_ _ | refine blk_drew ?_ | refine blk_alloc ?_ _)); exact BK108.out) hb); have n1_ := Aside0.mk (below_step (by repeat (first | (with_reducible first | exact HB.out | apply below_alloc | apply pw_below_drewN | apply below_drew1 | refine below_set ?_ GE108.out) | exact HB.out)) hb); clear BK108; clear HB; have BK108 := n0_; have HB := n1_; clear n0_ n1_; (try clear hb); (try clear hb2); (try clear hk); (try clear hi); obtain ⟨hcz36_0, hfz36_0⟩ := blkc6 BK108.out) | ((with_reducible refine gate_dst (N := 57) rfl ?_); refine ld_cell rfl (N := 57) rfl 3 _ rfl gb108 3 rfl (t := 82) (cs := #[.int .i64 ((rd_T82 l0 x16_1).f0.f0), .int .i64 ((rd_T82 l0 x16_1).f0.f1.f0), .int .i64 ((rd_T82 l0 x16_1).f0.f1.f1), .int .i64 ((rd_T82 l0 x16_1).f0.f2), .int .i64 ((rd_T82 l0 x16_1).f1), .int .i64 ((rd_T82 l0 x16_1).f2)]) (fr := (0, 0)) (.int .i64 ((rd_T82 l0 x16_1).f0.f2)) (by (with_reducible repeat (first | refine blk_drewN ?_ _ | refine blk_drew ?_ | refine blk_alloc ?_ _)); exact BK108.out) Try.underlying3 rfl rfl ?_)); try go_wp2_with (first | ((with_reducible refine gate_dst (N := 50) rfl ?_); refine ld_row rfl (N := 50) rfl 45 _ rfl gb108 1 rfl (t := 82) (cs := #[.int .i64 ((rd_T82 l0 x16_1).f0.f0), .int .i64 ((rd_T82 l0 x16_1).f0.f1.f0), .int .i64 ((rd_T82 l0 x16_1).f0.f1.f1), .int .i64 ((rd_T82 l0 x16_1).f0.f2), .int .i64 ((rd_T82 l0 x16_1).f1), .int .i64 ((rd_T82 l0 x16_1).f2)]) (fr := (0, 0)) [.int .i64 ((rd_T82 l0 x16_1).f0.f1.f0), .int .i64 ((rd_T82 l0 x16_1).f0.f1.f1)] (by (with_reducible repeat (first | refine blk_drewN ?_ _ | refine blk_drew ?_ | refine blk_alloc ?_ _)); exact BK108.out) Try.underlying45 rfl isz45 rfl ?_) | (go_at_call 63; (with_reducible refine (CA21.out _).mono ?_); rintro e w35 ⟨rfl, hb⟩; have n0_ := Aside0.mk (blk_below (g := gb108) (by (with_reducible repeat (first | refine blk_drewN ?_ _ | refine blk_drew ?_ | refine blk_alloc ?_ _)); exact BK108.out) hb); have n1_ := Aside0.mk (below_step (by repeat (first | (with_reducible first | exact HB.out | apply below_alloc | apply pw_below_drewN | apply below_drew1 | refine below_set ?_ GE108.out) | exact HB.out)) hb); clear BK108; clear HB; have BK108 := n0_; have HB := n1_; clear n0_ n1_; (try clear hb); (try clear hb2); (try clear hk); (try clear hi); obtain ⟨hcz36_0, hfz36_0⟩ := blkc6 BK108.out) | ((with_reducible refine gate_dst (N := 57) rfl ?_); refine ld_cell rfl (N := 57) rfl 3 _ rfl gb108 3 rfl (t := 82) (cs := #[.int .i64 ((rd_T82 l0 x16_1).f0.f0), .int .i64 ((rd_T82 l0 x16_1).f0.f1.f0), .int .i64 ((rd_T82 l0 x16_1).f0.f1.f1), .int .i64 ((rd_T82 l0 x16_1).f0.f2), .int .i64 ((rd_T82 l0 x16_1).f1), .int .i64 ((rd_T82 l0 x16_1).f2)]) (fr := (0, 0)) (.int .i64 ((rd_T82 l0 x16_1).f0.f2)) (by (with_reducible repeat (first | refine blk_drewN ?_ _ | refine blk_drew ?_ | refine blk_alloc ?_ _)); exact BK108.out) Try.underlying3 rfl rfl ?_)))
                                  go_ret
                                  exact ⟨by first | rfl | (simp [errW_none, errW_some] <;> rfl) | (simp [*, errW_none, errW_some] <;> rfl), by repeat (first | (with_reducible first | exact HB.out | apply below_alloc | apply pw_below_drewN | apply below_drew1 | refine below_set ?_ GE108.out) | exact HB.out)⟩
                                · rw [if_neg c34] at H
                                  have c34b0 : decide (((rd_T82 l0 x16_1).f2) < 0) = false := decide_eq_false c34
                                  clear c34
                                  by_cases c37 : ((rd_T82 l0 x16_1).f2) > 60000
                                  · rw [if_pos c37] at H
                                    have c37b0 : decide (60000 < ((rd_T82 l0 x16_1).f2)) = true := decide_eq_true c37
                                    clear c37
                                    obtain rfl := Option.some.inj H
                                    go_wp2_with (first | ((with_reducible refine gate_dst (N := 50) rfl ?_); refine ld_row rfl (N := 50) rfl 45 _ rfl gb108 1 rfl (t := 82) (cs := #[.int .i64 ((rd_T82 l0 x16_1).f0.f0), .int .i64 ((rd_T82 l0 x16_1).f0.f1.f0), .int .i64 ((rd_T82 l0 x16_1).f0.f1.f1), .int .i64 ((rd_T82 l0 x16_1).f0.f2), .int .i64 ((rd_T82 l0 x16_1).f1), .int .i64 ((rd_T82 l0 x16_1).f2)]) (fr := (0, 0)) [.int .i64 ((rd_T82 l0 x16_1).f0.f1.f0), .int .i64 ((rd_T82 l0 x16_1).f0.f1.f1)] (by (with_reducible repeat (first | refine blk_drewN ?_ _ | refine blk_drew ?_ | refine blk_alloc ?_ _)); exact BK108.out) Try.underlying45 rfl isz45 rfl ?_) | (go_at_call 63; (with_reducible refine (CA21.out _).mono ?_); rintro e w38 ⟨rfl, hb⟩; have n0_ := Aside0.mk (blk_below (g := gb108) (by (with_reducible repeat (first | refine blk_drewN ?_ _ | refine blk_drew ?_ | refine blk_alloc ?_ _)); exact BK108.out) hb); have n1_ := Aside0.mk (below_step (by repeat (first | (with_reducible first | exact HB.out | apply below_alloc | apply pw_below_drewN | apply below_drew1 | refine below_set ?_ GE108.out) | exact HB.out)) hb); clear BK108; clear HB; have BK108 := n0_; have HB := n1_; clear n0_ n1_; (try clear hb); (try clear hb2); (try clear hk); (try clear hi); obtain ⟨hcz39_0, hfz39_0⟩ := blkc6 BK108.out) | ((with_reducible refine gate_dst (N := 57) rfl ?_); refine ld_cell rfl (N := 57) rfl 3 _ rfl gb108 3 rfl (t := 82) (cs := #[.int .i64 ((rd_T82 l0 x16_1).f0.f0), .int .i64 ((rd_T82 l0 x16_1).f0.f1.f0), .int .i64 ((rd_T82 l0 x16_1).f0.f1.f1), .int .i64 ((rd_T82 l0 x16_1).f0.f2), .int .i64 ((rd_T82 l0 x16_1).f1), .int .i64 ((rd_T82 l0 x16_1).f2)]) (fr := (0, 0)) (.int .i64 ((rd_T82 l0 x16_1).f0.f2)) (by (with_reducible repeat (first | refine blk_drewN ?_ _ | refine blk_drew ?_ | refine blk_alloc ?_ _)); exact BK108.out) Try.underlying3 rfl rfl ?_))
                                    repeat (go_quiet (first | ((with_reducible refine gate_dst (N := 50) rfl ?_); refine ld_row rfl (N := 50) rfl 45 _ rfl gb108 1 rfl (t := 82) (cs := #[.int .i64 ((rd_T82 l0 x16_1).f0.f0), .int .i64 ((rd_T82 l0 x16_1).f0.f1.f0), .int .i64 ((rd_T82 l0 x16_1).f0.f1.f1), .int .i64 ((rd_T82 l0 x16_1).f0.f2), .int .i64 ((rd_T82 l0 x16_1).f1), .int .i64 ((rd_T82 l0 x16_1).f2)]) (fr := (0, 0)) [.int .i64 ((rd_T82 l0 x16_1).f0.f1.f0), .int .i64 ((rd_T82 l0 x16_1).f0.f1.f1)] (by (with_reducible repeat (first | refine blk_drewN ?_ _ | refine blk_drew ?_ | refine blk_alloc ?_ _)); exact BK108.out) Try.underlying45 rfl isz45 rfl ?_) | (go_at_call 63; (with_reducible refine (CA21.out _).mono ?_); rintro e w38 ⟨rfl, hb⟩; have n0_ := Aside0.mk (blk_below (g := gb108) (by (with_reducible repeat (first | refine blk_drewN ?_ _ | refine blk_drew ?_ | refine blk_alloc ?_ _)); exact BK108.out) hb); have n1_ := Aside0.mk (below_step (by repeat (first | (with_reducible first | exact HB.out | apply below_alloc | apply pw_below_drewN | apply below_drew1 | refine below_set ?_ GE108.out) | exact HB.out)) hb); clear BK108; clear HB; have BK108 := n0_; have HB := n1_; clear n0_ n1_; (try clear hb); (try clear hb2); (try clear hk); (try clear hi); obtain ⟨hcz39_0, hfz39_0⟩ := blkc6 BK108.out) | ((with_reducible refine gate_dst (N := 57) rfl ?_); refine ld_cell rfl (N := 57) rfl 3 _ rfl gb108 3 rfl (t := 82) (cs := #[.int .i64 ((rd_T82 l0 x16_1).f0.f0), .int .i64 ((rd_T82 l0 x16_1).f0.f1.f0), .int .i64 ((rd_T82 l0 x16_1).f0.f1.f1), .int .i64 ((rd_T82 l0 x16_1).f0.f2), .int .i64 ((rd_T82 l0 x16_1).f1), .int .i64 ((rd_T82 l0 x16_1).f2)]) (fr := (0, 0)) (.int .i64 ((rd_T82 l0 x16_1).f0.f2)) (by (with_reducible repeat (first | refine blk_drewN ?_ _ | refine blk_drew ?_ | refine blk_alloc ?_ _)); exact BK108.out) Try.underlying3 rfl rfl ?_)); try go_wp2_with (first | ((with_reducible refine gate_dst (N := 50) rfl ?_); refine ld_row rfl (N := 50) rfl 45 _ rfl gb108 1 rfl (t := 82) (cs := #[.int .i64 ((rd_T82 l0 x16_1).f0.f0), .int .i64 ((rd_T82 l0 x16_1).f0.f1.f0), .int .i64 ((rd_T82 l0 x16_1).f0.f1.f1), .int .i64 ((rd_T82 l0 x16_1).f0.f2), .int .i64 ((rd_T82 l0 x16_1).f1), .int .i64 ((rd_T82 l0 x16_1).f2)]) (fr := (0, 0)) [.int .i64 ((rd_T82 l0 x16_1).f0.f1.f0), .int .i64 ((rd_T82 l0 x16_1).f0.f1.f1)] (by (with_reducible repeat (first | refine blk_drewN ?_ _ | refine blk_drew ?_ | refine blk_alloc ?_ _)); exact BK108.out) Try.underlying45 rfl isz45 rfl ?_) | (go_at_call 63; (with_reducible refine (CA21.out _).mono ?_); rintro e w38 ⟨rfl, hb⟩; have n0_ := Aside0.mk (blk_below (g := gb108) (by (with_reducible repeat (first | refine blk_drewN ?_ _ | refine blk_drew ?_ | refine blk_alloc ?_ _)); exact BK108.out) hb); have n1_ := Aside0.mk (below_step (by repeat (first | (with_reducible first | exact HB.out | apply below_alloc | apply pw_below_drewN | apply below_drew1 | refine below_set ?_ GE108.out) | exact HB.out)) hb); clear BK108; clear HB; have BK108 := n0_; have HB := n1_; clear n0_ n1_; (try clear hb); (try clear hb2); (try clear hk); (try clear hi); obtain ⟨hcz39_0, hfz39_0⟩ := blkc6 BK108.out) | ((with_reducible refine gate_dst (N := 57) rfl ?_); refine ld_cell rfl (N := 57) rfl 3 _ rfl gb108 3 rfl (t := 82) (cs := #[.int .i64 ((rd_T82 l0 x16_1).f0.f0), .int .i64 ((rd_T82 l0 x16_1).f0.f1.f0), .int .i64 ((rd_T82 l0 x16_1).f0.f1.f1), .int .i64 ((rd_T82 l0 x16_1).f0.f2), .int .i64 ((rd_T82 l0 x16_1).f1), .int .i64 ((rd_T82 l0 x16_1).f2)]) (fr := (0, 0)) (.int .i64 ((rd_T82 l0 x16_1).f0.f2)) (by (with_reducible repeat (first | refine blk_drewN ?_ _ | refine blk_drew ?_ | refine blk_alloc ?_ _)); exact BK108.out) Try.underlying3 rfl rfl ?_)))
                                    go_ret
                                    exact ⟨by first | rfl | (simp [errW_none, errW_some] <;> rfl) | (simp [*, errW_none, errW_some] <;> rfl), by repeat (first | (with_reducible first | exact HB.out | apply below_alloc | apply pw_below_drewN | apply below_drew1 | refine below_set ?_ GE108.out) | exact HB.out)⟩
                                  · rw [if_neg c37] at H
                                    have c37b0 : decide (60000 < ((rd_T82 l0 x16_1).f2)) = false := decide_eq_false c37
                                    clear c37
                                    have H' := Aside0.mk H
                                    clear H
                                    go_wp2_with (first | ((with_reducible refine gate_dst (N := 50) rfl ?_); refine ld_row rfl (N := 50) rfl 45 _ rfl gb108 1 rfl (t := 82) (cs := #[.int .i64 ((rd_T82 l0 x16_1).f0.f0), .int .i64 ((rd_T82 l0 x16_1).f0.f1.f0), .int .i64 ((rd_T82 l0 x16_1).f0.f1.f1), .int .i64 ((rd_T82 l0 x16_1).f0.f2), .int .i64 ((rd_T82 l0 x16_1).f1), .int .i64 ((rd_T82 l0 x16_1).f2)]) (fr := (0, 0)) [.int .i64 ((rd_T82 l0 x16_1).f0.f1.f0), .int .i64 ((rd_T82 l0 x16_1).f0.f1.f1)] (by (with_reducible repeat (first | refine blk_drewN ?_ _ | refine blk_drew ?_ | refine blk_alloc ?_ _)); exact BK108.out) Try.underlying45 rfl isz45 rfl ?_) | (go_at_call 63; (with_reducible refine (CA21.out _).mono ?_); rintro e w40 ⟨rfl, hb⟩; have n0_ := Aside0.mk (blk_below (g := gb108) (by (with_reducible repeat (first | refine blk_drewN ?_ _ | refine blk_drew ?_ | refine blk_alloc ?_ _)); exact BK108.out) hb); have n1_ := Aside0.mk (below_step (by repeat (first | (with_reducible first | exact HB.out | apply below_alloc | apply pw_below_drewN | apply below_drew1 | refine below_set ?_ GE108.out) | exact HB.out)) hb); clear BK108; clear HB; have BK108 := n0_; have HB := n1_; clear n0_ n1_; (try clear hb); (try clear hb2); (try clear hk); (try clear hi); obtain ⟨hcz41_0, hfz41_0⟩ := blkc6 BK108.out) | ((with_reducible refine gate_dst (N := 57) rfl ?_); refine ld_cell rfl (N := 57) rfl 3 _ rfl gb108 3 rfl (t := 82) (cs := #[.int .i64 ((rd_T82 l0 x16_1).f0.f0), .int .i64 ((rd_T82 l0 x16_1).f0.f1.f0), .int .i64 ((rd_T82 l0 x16_1).f0.f1.f1), .int .i64 ((rd_T82 l0 x16_1).f0.f2), .int .i64 ((rd_T82 l0 x16_1).f1), .int .i64 ((rd_T82 l0 x16_1).f2)]) (fr := (0, 0)) (.int .i64 ((rd_T82 l0 x16_1).f0.f2)) (by (with_reducible repeat (first | refine blk_drewN ?_ _ | refine blk_drew ?_ | refine blk_alloc ?_ _)); exact BK108.out) Try.underlying3 rfl rfl ?_))
                                    repeat (go_quiet (first | ((with_reducible refine gate_dst (N := 50) rfl ?_); refine ld_row rfl (N := 50) rfl 45 _ rfl gb108 1 rfl (t := 82) (cs := #[.int .i64 ((rd_T82 l0 x16_1).f0.f0), .int .i64 ((rd_T82 l0 x16_1).f0.f1.f0), .int .i64 ((rd_T82 l0 x16_1).f0.f1.f1), .int .i64 ((rd_T82 l0 x16_1).f0.f2), .int .i64 ((rd_T82 l0 x16_1).f1), .int .i64 ((rd_T82 l0 x16_1).f2)]) (fr := (0, 0)) [.int .i64 ((rd_T82 l0 x16_1).f0.f1.f0), .int .i64 ((rd_T82 l0 x16_1).f0.f1.f1)] (by (with_reducible repeat (first | refine blk_drewN ?_ _ | refine blk_drew ?_ | refine blk_alloc ?_ _)); exact BK108.out) Try.underlying45 rfl isz45 rfl ?_) | (go_at_call 63; (with_reducible refine (CA21.out _).mono ?_); rintro e w40 ⟨rfl, hb⟩; have n0_ := Aside0.mk (blk_below (g := gb108) (by (with_reducible repeat (first | refine blk_drewN ?_ _ | refine blk_drew ?_ | refine blk_alloc ?_ _)); exact BK108.out) hb); have n1_ := Aside0.mk (below_step (by repeat (first | (with_reducible first | exact HB.out | apply below_alloc | apply pw_below_drewN | apply below_drew1 | refine below_set ?_ GE108.out) | exact HB.out)) hb); clear BK108; clear HB; have BK108 := n0_; have HB := n1_; clear n0_ n1_; (try clear hb); (try clear hb2); (try clear hk); (try clear hi); obtain ⟨hcz41_0, hfz41_0⟩ := blkc6 BK108.out) | ((with_reducible refine gate_dst (N := 57) rfl ?_); refine ld_cell rfl (N := 57) rfl 3 _ rfl gb108 3 rfl (t := 82) (cs := #[.int .i64 ((rd_T82 l0 x16_1).f0.f0), .int .i64 ((rd_T82 l0 x16_1).f0.f1.f0), .int .i64 ((rd_T82 l0 x16_1).f0.f1.f1), .int .i64 ((rd_T82 l0 x16_1).f0.f2), .int .i64 ((rd_T82 l0 x16_1).f1), .int .i64 ((rd_T82 l0 x16_1).f2)]) (fr := (0, 0)) (.int .i64 ((rd_T82 l0 x16_1).f0.f2)) (by (with_reducible repeat (first | refine blk_drewN ?_ _ | refine blk_drew ?_ | refine blk_alloc ?_ _)); exact BK108.out) Try.underlying3 rfl rfl ?_)); try go_wp2_with (first | ((with_reducible refine gate_dst (N := 50) rfl ?_); refine ld_row rfl (N := 50) rfl 45 _ rfl gb108 1 rfl (t := 82) (cs := #[.int .i64 ((rd_T82 l0 x16_1).f0.f0), .int .i64 ((rd_T82 l0 x16_1).f0.f1.f0), .int .i64 ((rd_T82 l0 x16_1).f0.f1.f1), .int .i64 ((rd_T82 l0 x16_1).f0.f2), .int .i64 ((rd_T82 l0 x16_1).f1), .int .i64 ((rd_T82 l0 x16_1).f2)]) (fr := (0, 0)) [.int .i64 ((rd_T82 l0 x16_1).f0.f1.f0), .int .i64 ((rd_T82 l0 x16_1).f0.f1.f1)] (by (with_reducible repeat (first | refine blk_drewN ?_ _ | refine blk_drew ?_ | refine blk_alloc ?_ _)); exact BK108.out) Try.underlying45 rfl isz45 rfl ?_) | (go_at_call 63; (with_reducible refine (CA21.out _).mono ?_); rintro e w40 ⟨rfl, hb⟩; have n0_ := Aside0.mk (blk_below (g := gb108) (by (with_reducible repeat (first | refine blk_drewN ?_ _ | refine blk_drew ?_ | refine blk_alloc ?_ _)); exact BK108.out) hb); have n1_ := Aside0.mk (below_step (by repeat (first | (with_reducible first | exact HB.out | apply below_alloc | apply pw_below_drewN | apply below_drew1 | refine below_set ?_ GE108.out) | exact HB.out)) hb); clear BK108; clear HB; have BK108 := n0_; have HB := n1_; clear n0_ n1_; (try clear hb); (try clear hb2); (try clear hk); (try clear hi); obtain ⟨hcz41_0, hfz41_0⟩ := blkc6 BK108.out) | ((with_reducible refine gate_dst (N := 57) rfl ?_); refine ld_cell rfl (N := 57) rfl 3 _ rfl gb108 3 rfl (t := 82) (cs := #[.int .i64 ((rd_T82 l0 x16_1).f0.f0), .int .i64 ((rd_T82 l0 x16_1).f0.f1.f0), .int .i64 ((rd_T82 l0 x16_1).f0.f1.f1), .int .i64 ((rd_T82 l0 x16_1).f0.f2), .int .i64 ((rd_T82 l0 x16_1).f1), .int .i64 ((rd_T82 l0 x16_1).f2)]) (fr := (0, 0)) (.int .i64 ((rd_T82 l0 x16_1).f0.f2)) (by (with_reducible repeat (first | refine blk_drewN ?_ _ | refine blk_drew ?_ | refine blk_alloc ?_ _)); exact BK108.out) Try.underlying3 rfl rfl ?_)))
                                    go_roundg kj6
                                    case measure => have := HK1.out; have := HJ6.out; omega
                                    case rel => exact ⟨(wrap64 (x16_1 + 1)), (by first | rfl | (simp; done) | (simp [*]; done)), H', ⟨by have := HK1.out; have := HJ6.out; omega⟩, ⟨by repeat (first | (with_reducible first | exact HB.out | apply below_alloc | apply pw_below_drewN | apply below_drew1 | refine below_set ?_ GE108.out) | exact HB.out)⟩⟩
                      · rw [if_neg c22] at H
                        have c22b0 : (t110 == 0) = false := beq_eq_false_iff_ne.mpr c22
                        have c22b1 : (t110 != 0) = true := bne_iff_ne.mpr c22
                        obtain rfl := Option.some.inj H
                        go_wp2_with (first | ((with_reducible refine gate_dst (N := 50) rfl ?_); refine ld_row rfl (N := 50) rfl 45 _ rfl gb108 1 rfl (t := 82) (cs := #[.int .i64 ((rd_T82 l0 x16_1).f0.f0), .int .i64 ((rd_T82 l0 x16_1).f0.f1.f0), .int .i64 ((rd_T82 l0 x16_1).f0.f1.f1), .int .i64 ((rd_T82 l0 x16_1).f0.f2), .int .i64 ((rd_T82 l0 x16_1).f1), .int .i64 ((rd_T82 l0 x16_1).f2)]) (fr := (0, 0)) [.int .i64 ((rd_T82 l0 x16_1).f0.f1.f0), .int .i64 ((rd_T82 l0 x16_1).f0.f1.f1)] (by (with_reducible repeat (first | refine blk_drewN ?_ _ | refine blk_drew ?_ | refine blk_alloc ?_ _)); exact BK108.out) Try.underlying45 rfl isz45 rfl ?_) | (go_at_call 63; (with_reducible refine (CA21.out _).mono ?_); rintro e w42 ⟨rfl, hb⟩; have n0_ := Aside0.mk (blk_below (g := gb108) (by (with_reducible repeat (first | refine blk_drewN ?_ _ | refine blk_drew ?_ | refine blk_alloc ?_ _)); exact BK108.out) hb); have n1_ := Aside0.mk (below_step (by repeat (first | (with_reducible first | exact HB.out | apply below_alloc | apply pw_below_drewN | apply below_drew1 | refine below_set ?_ GE108.out) | exact HB.out)) hb); clear BK108; clear HB; have BK108 := n0_; have HB := n1_; clear n0_ n1_; (try clear hb); (try clear hb2); (try clear hk); (try clear hi)))
                        repeat (go_quiet (first | ((with_reducible refine gate_dst (N := 50) rfl ?_); refine ld_row rfl (N := 50) rfl 45 _ rfl gb108 1 rfl (t := 82) (cs := #[.int .i64 ((rd_T82 l0 x16_1).f0.f0), .int .i64 ((rd_T82 l0 x16_1).f0.f1.f0), .int .i64 ((rd_T82 l0 x16_1).f0.f1.f1), .int .i64 ((rd_T82 l0 x16_1).f0.f2), .int .i64 ((rd_T82 l0 x16_1).f1), .int .i64 ((rd_T82 l0 x16_1).f2)]) (fr := (0, 0)) [.int .i64 ((rd_T82 l0 x16_1).f0.f1.f0), .int .i64 ((rd_T82 l0 x16_1).f0.f1.f1)] (by (with_reducible repeat (first | refine blk_drewN ?_ _ | refine blk_drew ?_ | refine blk_alloc ?_ _)); exact BK108.out) Try.underlying45 rfl isz45 rfl ?_) | (go_at_call 63; (with_reducible refine (CA21.out _).mono ?_); rintro e w42 ⟨rfl, hb⟩; have n0_ := Aside0.mk (blk_below (g := gb108) (by (with_reducible repeat (first | refine blk_drewN ?_ _ | refine blk_drew ?_ | refine blk_alloc ?_ _)); exact BK108.out) hb); have n1_ := Aside0.mk (below_step (by repeat (first | (with_reducible first | exact HB.out | apply below_alloc | apply pw_below_drewN | apply below_drew1 | refine below_set ?_ GE108.out) | exact HB.out)) hb); clear BK108; clear HB; have BK108 := n0_; have HB := n1_; clear n0_ n1_; (try clear hb); (try clear hb2); (try clear hk); (try clear hi))); try go_wp2_with (first | ((with_reducible refine gate_dst (N := 50) rfl ?_); refine ld_row rfl (N := 50) rfl 45 _ rfl gb108 1 rfl (t := 82) (cs := #[.int .i64 ((rd_T82 l0 x16_1).f0.f0), .int .i64 ((rd_T82 l0 x16_1).f0.f1.f0), .int .i64 ((rd_T82 l0 x16_1).f0.f1.f1), .int .i64 ((rd_T82 l0 x16_1).f0.f2), .int .i64 ((rd_T82 l0 x16_1).f1), .int .i64 ((rd_T82 l0 x16_1).f2)]) (fr := (0, 0)) [.int .i64 ((rd_T82 l0 x16_1).f0.f1.f0), .int .i64 ((rd_T82 l0 x16_1).f0.f1.f1)] (by (with_reducible repeat (first | refine blk_drewN ?_ _ | refine blk_drew ?_ | refine blk_alloc ?_ _)); exact BK108.out) Try.underlying45 rfl isz45 rfl ?_) | (go_at_call 63; (with_reducible refine (CA21.out _).mono ?_); rintro e w42 ⟨rfl, hb⟩; have n0_ := Aside0.mk (blk_below (g := gb108) (by (with_reducible repeat (first | refine blk_drewN ?_ _ | refine blk_drew ?_ | refine blk_alloc ?_ _)); exact BK108.out) hb); have n1_ := Aside0.mk (below_step (by repeat (first | (with_reducible first | exact HB.out | apply below_alloc | apply pw_below_drewN | apply below_drew1 | refine below_set ?_ GE108.out) | exact HB.out)) hb); clear BK108; clear HB; have BK108 := n0_; have HB := n1_; clear n0_ n1_; (try clear hb); (try clear hb2); (try clear hk); (try clear hi))))
                        go_ret
                        exact ⟨by first | rfl | (simp [errW_none, errW_some] <;> rfl) | (simp [*, errW_none, errW_some] <;> rfl), by repeat (first | (with_reducible first | exact HB.out | apply below_alloc | apply pw_below_drewN | apply below_drew1 | refine below_set ?_ GE108.out) | exact HB.out)⟩
              · rw [if_neg c6] at H
                exact absurd H (by simp)
            · rw [if_neg c5] at H
              exact absurd H (by simp)
          · rw [if_neg c4] at H
            have c4b0 : decide (x16_1 < (l0.length : Int)) = false := decide_eq_false c4
            clear c4
            obtain rfl := Option.some.inj H
            go_wp2
            repeat (go_quiet (fail); try go_wp2)
            go_ret
            exact ⟨by first | rfl | (simp [errW_none, errW_some] <;> rfl) | (simp [*, errW_none, errW_some] <;> rfl), by repeat (first | (with_reducible first | exact HB.out | apply below_alloc | apply pw_below_drewN | apply below_drew1) | exact HB.out)⟩

/-! ### num_DivDown: function 46 -/
def num_DivDown.j0 : Nat → Int → Int → Bool → Option (Int × Int)
  | 0, _, _, _ => none
  | k + 1, x0, x1, x10 => if x10 = true then (some (0, 2)) else (if x1 = 0 then (none) else (if (Int.tmod x0 x1) = 0 then (some (wrap64 (Int.tdiv x0 x1), 0)) else (if ((decide (x0 < 0)) != (decide (x1 < 0))) = true then (some (wrap64 ((wrap64 (Int.tdiv x0 x1)) - 1), 0)) else (some (wrap64 (Int.tdiv x0 x1), 0)))))
def num_DivDown.f (k : Nat) (a0 : Int) (a1 : Int) : Option (Int × Int) := if a1 = 0 then (some (0, 10)) else (if a0 = (-9223372036854775808) then (num_DivDown.j0 k a0 a1 (a1 == (-1))) else (num_DivDown.j0 k a0 a1 false))
theorem num_DivDown.mono_l : ∀ k, (∀ y0 y1 y2, LeO (num_DivDown.j0 k y0 y1 y2) (num_DivDown.j0 (k + 1) y0 y1 y2))
  | 0 => fun _ _ _ r h => by simp [num_DivDown.j0] at h
  | k + 1 => by
    have ih0 := num_DivDown.mono_l k
    · intro y0 y1 y2
      unfold num_DivDown.j0
      repeat' first
      | (with_reducible exact ih0 _ _ _)
      | (with_reducible exact LeO.refl _)
      | (with_reducible exact LeO.none _)
      | (with_reducible refine LeO.ite ?_ ?_)
      | (with_reducible refine LeO.bind ?_ (fun _ => ?_))
      | exact ih0 _ _ _
      | exact LeO.none _
      | refine LeO.ite ?_ ?_
      | refine LeO.bind ?_ (fun _ => ?_)
theorem num_DivDown.mono : ∀ a0 a1 k, LeO (num_DivDown.f k a0 a1) (num_DivDown.f (k + 1) a0 a1) := by
  intro a0 a1 k
  have ih0 := num_DivDown.mono_l k
  unfold num_DivDown.f
  repeat' first
      | (with_reducible exact ih0 _ _ _)
      | (with_reducible exact LeO.refl _)
      | (with_reducible exact LeO.none _)
      | (with_reducible refine LeO.ite ?_ ?_)
      | (with_reducible refine LeO.bind ?_ (fun _ => ?_))
      | exact ih0 _ _ _
      | exact LeO.none _
      | refine LeO.ite ?_ ?_
      | refine LeO.bind ?_ (fun _ => ?_)
set_option maxHeartbeats 80000000 in
set_option maxRecDepth 100000 in
theorem num_DivDown.calls (k : Nat) (a0 : Int) (a1 : Int) (r1 : Int) (r2 : Int) (w : World) (h : num_DivDown.f k a0 a1 = some (r1, r2)) :
    Calls Try.prog 46 #[.int .i64 a0, .int .i64 a1] w fun e w' => e = .returned (.tuple #[.int .i64 r1, .int .i64 r2]) ∧ Drawn0 w w' := by
  have H : (if a1 = 0 then (some (0, 10)) else (if a0 = (-9223372036854775808) then (num_DivDown.j0 k a0 a1 (a1 == (-1))) else (num_DivDown.j0 k a0 a1 false))) = some (r1, r2) := h
  clear h
  by_cases c3 : a1 = 0
  · rw [if_pos c3] at H
    have c3b0 : (a1 == 0) = true := beq_iff_eq.mpr c3
    have c3b1 : (a1 != 0) = false := bne_eq_false_iff_eq.mpr c3
    clear c3
    simp only [Option.some.injEq, Prod.mk.injEq] at H
    obtain ⟨rfl, rfl⟩ := H
    go_enter Try.func46, Try.ntmps46
    go_wp2
    go_ret2
    exact ⟨by first | rfl | (simp; done) | (simp [*]; done), by repeat (first | exact Drawn0.refl _ | apply Drawn0.step)⟩
  · rw [if_neg c3] at H
    have c3b0 : (a1 == 0) = false := beq_eq_false_iff_ne.mpr c3
    have c3b1 : (a1 != 0) = true := bne_iff_ne.mpr c3
    have HC4 := Aside0.mk H
    clear H
    go_enter Try.func46, Try.ntmps46
    go_upto_region 3 with (fail)
    go_cut [10] (fun v10 wc => ∃ (kq : Nat) (x10_3 : Bool), v10 = .bool x10_3 ∧ Aside0 (num_DivDown.j0 kq a0 a1 x10_3 = some (r1, r2)) ∧ Aside0 (kq ≤ k) ∧ Drawn0 w wc)
    case first =>
      have H := HC4.out
      clear HC4
      by_cases c5 : a0 = (-9223372036854775808)
      · rw [if_pos c5] at H
        have c5b0 : (a0 == (-9223372036854775808)) = true := beq_iff_eq.mpr c5
        have c5b1 : (a0 != (-9223372036854775808)) = false := bne_eq_false_iff_eq.mpr c5
        clear c5
        (first | rw [c5b0] | (simp only [i64_w, i32_w]; rw [c5b0]) | skip)
        have H' := Aside0.mk H
        clear H
        go_wp2
        go_meet
        case rel => exact ⟨_, ((a1 == (-1))), (by first | rfl | (simp; done) | (simp [*]; done)), H', ⟨by first | omega | exact Nat.le_refl _⟩, by repeat (first | exact Drawn0.refl _ | apply Drawn0.step)⟩
      · rw [if_neg c5] at H
        have c5b0 : (a0 == (-9223372036854775808)) = false := beq_eq_false_iff_ne.mpr c5
        have c5b1 : (a0 != (-9223372036854775808)) = true := bne_iff_ne.mpr c5
        (first | rw [c5b0] | (simp only [i64_w, i32_w]; rw [c5b0]) | skip)
        have H' := Aside0.mk H
        clear H
        go_wp2
        go_meet
        case rel => exact ⟨_, (false), (by first | rfl | (simp; done) | (simp [*]; done)), H', ⟨by first | omega | exact Nat.le_refl _⟩, by repeat (first | exact Drawn0.refl _ | apply Drawn0.step)⟩
    case rest =>
      clear HC4
      try clear p2
      try clear c3
      try clear c3b0
      try clear c3b1
      try clear c4
      try clear c5
      try clear c5b0
      try clear c5b1
      obtain ⟨kq, x10_3, rfl, HA, HJ3, ⟨mc3, rfl⟩⟩ := hcut
      cases kq with
      | zero => exact absurd HA.out (by simp [num_DivDown.j0])
      | succ kj3 =>
        have H := HA.out
        clear HA
        simp only [num_DivDown.j0] at H
        by_cases c6 : x10_3 = true
        · subst c6
          have H1 : (some (0, 2)) = some (r1, r2) := by rw [if_pos rfl] at H; exact H
          clear H
          have H := H1
          clear H1
          simp only [Option.some.injEq, Prod.mk.injEq] at H
          obtain ⟨rfl, rfl⟩ := H
          go_wp2
          go_ret2
          exact ⟨by first | rfl | (simp; done) | (simp [*]; done), by repeat (first | exact Drawn0.refl _ | apply Drawn0.step)⟩
        · replace c6 := Bool.eq_false_iff.mpr c6
          subst c6
          have H1 : (if a1 = 0 then (none) else (if (Int.tmod a0 a1) = 0 then (some (wrap64 (Int.tdiv a0 a1), 0)) else (if ((decide (a0 < 0)) != (decide (a1 < 0))) = true then (some (wrap64 ((wrap64 (Int.tdiv a0 a1)) - 1), 0)) else (some (wrap64 (Int.tdiv a0 a1), 0))))) = some (r1, r2) := by rw [if_neg (show ¬ (false = true) by decide)] at H; exact H
          clear H
          have H := H1
          clear H1
          by_cases c7 : a1 = 0
          · rw [if_pos c7] at H
            exact absurd H (by simp)
          · rw [if_neg c7] at H
            have c7b0 : (a1 == 0) = false := beq_eq_false_iff_ne.mpr c7
            have c7b1 : (a1 != 0) = true := bne_iff_ne.mpr c7
            by_cases c8 : (Int.tmod a0 a1) = 0
            · rw [if_pos c8] at H
              have c8b0 : ((Int.tmod a0 a1) == 0) = true := beq_iff_eq.mpr c8
              have c8b1 : ((Int.tmod a0 a1) != 0) = false := bne_eq_false_iff_eq.mpr c8
              clear c8
              simp only [Option.some.injEq, Prod.mk.injEq] at H
              obtain ⟨rfl, rfl⟩ := H
              go_wp2
              go_ret2
              exact ⟨by first | rfl | (simp; done) | (simp [*]; done), by repeat (first | exact Drawn0.refl _ | apply Drawn0.step)⟩
            · rw [if_neg c8] at H
              have c8b0 : ((Int.tmod a0 a1) == 0) = false := beq_eq_false_iff_ne.mpr c8
              have c8b1 : ((Int.tmod a0 a1) != 0) = true := bne_iff_ne.mpr c8
              by_cases c9 : ((decide (a0 < 0)) != (decide (a1 < 0))) = true
              · rw [if_pos c9] at H
                have c9b0 : ((decide (a0 < 0)) != (decide (a1 < 0))) = true := c9
                (try (have c9b1 : decide ((decide (a0 < 0)) = (decide (a1 < 0))) = false := by simpa using c9))
                (try (have c9b2 : ((decide (a0 < 0)) == (decide (a1 < 0))) = false := by simpa using c9))
                (try (have c9b3 : ¬ ((decide (a0 < 0)) = (decide (a1 < 0))) := by simpa using c9))
                clear c9
                simp only [Option.some.injEq, Prod.mk.injEq] at H
                obtain ⟨rfl, rfl⟩ := H
                go_wp2
                go_ret2
                exact ⟨by first | rfl | (simp; done) | (simp [*]; done), by repeat (first | exact Drawn0.refl _ | apply Drawn0.step)⟩
              · rw [if_neg c9] at H
                have c9b0 : ((decide (a0 < 0)) != (decide (a1 < 0))) = false := by simpa using c9
                (try (have c9b1 : decide ((decide (a0 < 0)) = (decide (a1 < 0))) = true := by simpa using c9))
                (try (have c9b2 : ((decide (a0 < 0)) == (decide (a1 < 0))) = true := by simpa using c9))
                clear c9
                simp only [Option.some.injEq, Prod.mk.injEq] at H
                obtain ⟨rfl, rfl⟩ := H
                go_wp2
                go_ret2
                exact ⟨by first | rfl | (simp; done) | (simp [*]; done), by repeat (first | exact Drawn0.refl _ | apply Drawn0.step)⟩

end Go.Proofs.Ytehgapcmngdcnaa.MConformSound
