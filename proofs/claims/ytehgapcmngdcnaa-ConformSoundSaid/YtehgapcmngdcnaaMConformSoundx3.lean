-- Written for this claim by a program of this session out of the translation (functions with function values and the like). Lean checks it.
import Derived.Test.YtehgapcmngdcnaaMConformSoundx0
import Derived.Test.YtehgapcmngdcnaaMConformSoundx2
namespace Go.Proofs.Ytehgapcmngdcnaa.MConformSound
open Go.RowKit Go.Proofs.Ytehgapcmngdcnaa.Evt Go.Proofs.YtehgapcmngdcnaaW.PrintWords Go.Proofs.YtehgapcmngdcnaaW.PrintLast Go.Proofs.YtehgapcmngdcnaaW.PrintMore
attribute [local go_sem] max2_int min2_int max_two min_two max_three min_three max_four min_four   -- for this text's walks alone
set_option linter.unusedVariables false
set_option linter.unusedSimpArgs false

/-! ### tube_at: function 66 -/
mutual
def tube_at.j0 : Nat → List (S82) → Int → Bool → Option (Int × Int × Int × Int × Int × Int × Int)
  | 0, _, _, _ => none
  | k + 1, x0, x1, x31 => if x31 = true then (some (0, 0, 0, 0, 0, 0, 12)) else (tube_at.l0 k x0 x1 0)
def tube_at.j2 : Nat → List (S82) → Int → Int → Option (Int × Int × Int × Int × Int × Int × Int)
  | 0, _, _, _ => none
  | k + 1, x0, x1, x6 => if 0 ≤ x6 then (if x6 < (x0.length : Int) then (if ((rd_T82 x0 x6).f0.f0) = x1 then (some ((rd_T82 x0 x6).f0.f0, (rd_T82 x0 x6).f0.f1.f0, (rd_T82 x0 x6).f0.f1.f1, (rd_T82 x0 x6).f0.f2, (rd_T82 x0 x6).f1, (rd_T82 x0 x6).f2, 0)) else (if 0 ≤ (wrap64 (x6 + 1)) then (if (wrap64 (x6 + 1)) < (x0.length : Int) then ((plane_Toward.f k ((rd_T82 x0 x6).f0.f1.f0) ((rd_T82 x0 x6).f0.f1.f1) ((rd_T82 x0 (wrap64 (x6 + 1))).f0.f1.f0) ((rd_T82 x0 (wrap64 (x6 + 1))).f0.f1.f1) (wrap64 (x1 - ((rd_T82 x0 x6).f0.f0))) (wrap64 (((rd_T82 x0 (wrap64 (x6 + 1))).f0.f0) - ((rd_T82 x0 x6).f0.f0)))).bind fun bt134 => ((tube_between.f k ((rd_T82 x0 x6).f0.f2) ((rd_T82 x0 (wrap64 (x6 + 1))).f0.f2) (wrap64 (x1 - ((rd_T82 x0 x6).f0.f0))) (wrap64 (((rd_T82 x0 (wrap64 (x6 + 1))).f0.f0) - ((rd_T82 x0 x6).f0.f0)))).bind fun t138 => ((tube_above.f k ((rd_T82 x0 x6).f1) ((rd_T82 x0 (wrap64 (x6 + 1))).f1) (wrap64 (x1 - ((rd_T82 x0 x6).f0.f0))) (wrap64 (((rd_T82 x0 (wrap64 (x6 + 1))).f0.f0) - ((rd_T82 x0 x6).f0.f0)))).bind fun t139 => ((tube_above.f k ((rd_T82 x0 x6).f2) ((rd_T82 x0 (wrap64 (x6 + 1))).f2) (wrap64 (x1 - ((rd_T82 x0 x6).f0.f0))) (wrap64 (((rd_T82 x0 (wrap64 (x6 + 1))).f0.f0) - ((rd_T82 x0 x6).f0.f0)))).bind fun t140 => (some (x1, bt134.1, bt134.2.1, t138, t139, t140, 0)))))) else (none)) else (none))) else (none)) else (none)
def tube_at.l0 : Nat → List (S82) → Int → Int → Option (Int × Int × Int × Int × Int × Int × Int)
  | 0, _, _, _ => none
  | k + 1, x0, x1, x6 => if (wrap64 (x6 + 1)) < (x0.length : Int) then (if 0 ≤ (wrap64 (x6 + 1)) then (if ((rd_T82 x0 (wrap64 (x6 + 1))).f0.f0) ≤ x1 then (tube_at.l0 k x0 x1 (wrap64 (x6 + 1))) else (tube_at.j2 k x0 x1 x6)) else (none)) else (tube_at.j2 k x0 x1 x6)
end
def tube_at.f (k : Nat) (l0 : List (S82)) (a1 : Int) : Option (Int × Int × Int × Int × Int × Int × Int) := if 0 < (l0.length : Int) then (if a1 < ((rd_T82 l0 0).f0.f0) then (tube_at.j0 k l0 a1 true) else (if 0 ≤ (wrap64 ((l0.length : Int) - 1)) then (if (wrap64 ((l0.length : Int) - 1)) < (l0.length : Int) then (tube_at.j0 k l0 a1 (decide (a1 > ((rd_T82 l0 (wrap64 ((l0.length : Int) - 1))).f0.f0)))) else (none)) else (none))) else (none)
theorem tube_at.mono_l : ∀ k, (∀ y0 y1 y2, LeO (tube_at.j0 k y0 y1 y2) (tube_at.j0 (k + 1) y0 y1 y2)) ∧ (∀ y0 y1 y2, LeO (tube_at.j2 k y0 y1 y2) (tube_at.j2 (k + 1) y0 y1 y2)) ∧ (∀ y0 y1 y2, LeO (tube_at.l0 k y0 y1 y2) (tube_at.l0 (k + 1) y0 y1 y2))
  | 0 => ⟨fun _ _ _ r h => by simp [tube_at.j0] at h, fun _ _ _ r h => by simp [tube_at.j2] at h, fun _ _ _ r h => by simp [tube_at.l0] at h⟩
  | k + 1 => by
    obtain ⟨ih0, ih1, ih2⟩ := tube_at.mono_l k
    refine ⟨?_, ?_, ?_⟩
    · intro y0 y1 y2
      unfold tube_at.j0
      repeat' first
      | (with_reducible exact ih0 _ _ _)
      | (with_reducible exact ih1 _ _ _)
      | (with_reducible exact ih2 _ _ _)
      | (with_reducible exact plane_Toward.mono _ _ _ _ _ _ _)
      | (with_reducible exact tube_above.mono _ _ _ _ _)
      | (with_reducible exact tube_between.mono _ _ _ _ _)
      | (with_reducible exact LeO.refl _)
      | (with_reducible exact LeO.none _)
      | (with_reducible refine LeO.ite ?_ ?_)
      | (with_reducible refine LeO.bind ?_ (fun _ => ?_))
      | exact ih0 _ _ _
      | exact ih1 _ _ _
      | exact ih2 _ _ _
      | exact plane_Toward.mono _ _ _ _ _ _ _
      | exact tube_above.mono _ _ _ _ _
      | exact tube_between.mono _ _ _ _ _
      | exact LeO.none _
      | refine LeO.ite ?_ ?_
      | refine LeO.bind ?_ (fun _ => ?_)
    · intro y0 y1 y2
      unfold tube_at.j2
      repeat' first
      | (with_reducible exact ih0 _ _ _)
      | (with_reducible exact ih1 _ _ _)
      | (with_reducible exact ih2 _ _ _)
      | (with_reducible exact plane_Toward.mono _ _ _ _ _ _ _)
      | (with_reducible exact tube_above.mono _ _ _ _ _)
      | (with_reducible exact tube_between.mono _ _ _ _ _)
      | (with_reducible exact LeO.refl _)
      | (with_reducible exact LeO.none _)
      | (with_reducible refine LeO.ite ?_ ?_)
      | (with_reducible refine LeO.bind ?_ (fun _ => ?_))
      | exact ih0 _ _ _
      | exact ih1 _ _ _
      | exact ih2 _ _ _
      | exact plane_Toward.mono _ _ _ _ _ _ _
      | exact tube_above.mono _ _ _ _ _
      | exact tube_between.mono _ _ _ _ _
      | exact LeO.none _
      | refine LeO.ite ?_ ?_
      | refine LeO.bind ?_ (fun _ => ?_)
    · intro y0 y1 y2
      unfold tube_at.l0
      repeat' first
      | (with_reducible exact ih0 _ _ _)
      | (with_reducible exact ih1 _ _ _)
      | (with_reducible exact ih2 _ _ _)
      | (with_reducible exact plane_Toward.mono _ _ _ _ _ _ _)
      | (with_reducible exact tube_above.mono _ _ _ _ _)
      | (with_reducible exact tube_between.mono _ _ _ _ _)
      | (with_reducible exact LeO.refl _)
      | (with_reducible exact LeO.none _)
      | (with_reducible refine LeO.ite ?_ ?_)
      | (with_reducible refine LeO.bind ?_ (fun _ => ?_))
      | exact ih0 _ _ _
      | exact ih1 _ _ _
      | exact ih2 _ _ _
      | exact plane_Toward.mono _ _ _ _ _ _ _
      | exact tube_above.mono _ _ _ _ _
      | exact tube_between.mono _ _ _ _ _
      | exact LeO.none _
      | refine LeO.ite ?_ ?_
      | refine LeO.bind ?_ (fun _ => ?_)
theorem tube_at.mono : ∀ a0 a1 k, LeO (tube_at.f k a0 a1) (tube_at.f (k + 1) a0 a1) := by
  intro a0 a1 k
  obtain ⟨ih0, ih1, ih2⟩ := tube_at.mono_l k
  unfold tube_at.f
  repeat' first
      | (with_reducible exact ih0 _ _ _)
      | (with_reducible exact ih1 _ _ _)
      | (with_reducible exact ih2 _ _ _)
      | (with_reducible exact plane_Toward.mono _ _ _ _ _ _ _)
      | (with_reducible exact tube_above.mono _ _ _ _ _)
      | (with_reducible exact tube_between.mono _ _ _ _ _)
      | (with_reducible exact LeO.refl _)
      | (with_reducible exact LeO.none _)
      | (with_reducible refine LeO.ite ?_ ?_)
      | (with_reducible refine LeO.bind ?_ (fun _ => ?_))
      | exact ih0 _ _ _
      | exact ih1 _ _ _
      | exact ih2 _ _ _
      | exact plane_Toward.mono _ _ _ _ _ _ _
      | exact tube_above.mono _ _ _ _ _
      | exact tube_between.mono _ _ _ _ _
      | exact LeO.none _
      | refine LeO.ite ?_ ?_
      | refine LeO.bind ?_ (fun _ => ?_)
def tube_at.T10 : Bool × List (List Nat × List Nat) := (true, [([], []), ([], []), ([1], [1]), ([2], [2]), ([0, 3], [0, 3]), ([], []), ([5], [5]), ([6], [6]), ([], []), ([8], [8]), ([9], [9]), ([7, 10], [7, 10]), ([4, 0, 1, 2, 3, 4], [4]), ([11, 12, 0, 1, 2, 3, 4, 5, 6, 7, 8, 9, 10, 11, 12], [11])])
def tube_at.B10 : List Nat := [0, 0, 2, 6, 15, 0, 32, 96, 0, 256, 768, 2016, 31, 8191]
theorem tube_at.tab10 : rtab .any (opsOf Try.f66 10) = tube_at.T10 := by kernel_rfl
theorem tube_at.bits10 : waitsOk tube_at.T10.2 tube_at.B10 = true := by kernel_rfl
def tube_at.T12 : Bool × List (List Nat × List Nat) := (true, [([], []), ([], []), ([], []), ([2], [2]), ([3], [3]), ([], []), ([5], [5]), ([6], [6]), ([], []), ([], []), ([4, 7, 8, 9], [4, 7, 8, 9]), ([0, 1, 10], [0, 1, 10]), ([], []), ([12], [12]), ([], []), ([14], [14]), ([], []), ([], []), ([13, 15, 16, 17, 10], [13, 15, 16, 17]), ([], []), ([19], [19]), ([], []), ([21], [21]), ([], []), ([], []), ([20, 22, 23, 24, 18], [20, 22, 23, 24]), ([11, 18, 25], [11, 18, 25]), ([26, 25, 0, 1, 2, 3, 4, 5, 6, 7, 8, 9, 10, 11, 12, 13, 14, 15, 16, 17, 18, 19, 20, 21, 22, 23, 24, 25, 26], [26]), ([27, 0, 1, 2, 3, 4, 5, 6, 7, 8, 9, 10, 11, 12, 13, 14, 15, 16, 17, 18, 19, 20, 21, 22, 23, 24, 25, 26, 27], [])])
def tube_at.B12 : List Nat := [0, 0, 0, 4, 12, 0, 32, 96, 0, 0, 1020, 2047, 0, 4096, 0, 16384, 0, 0, 260092, 0, 524288, 0, 2097152, 0, 0, 33552380, 67108863, 134217727, 268435455]
theorem tube_at.tab12 : rtab .any (opsOf Try.f66 12) = tube_at.T12 := by kernel_rfl
theorem tube_at.bits12 : waitsOk tube_at.T12.2 tube_at.B12 = true := by kernel_rfl
set_option maxHeartbeats 80000000 in
set_option maxRecDepth 100000 in
theorem tube_at.calls (k : Nat) (A0 : Option Addr) (c0 : Nat) (l0 : List (S82)) (a1 : Int) (r1 : Int) (r2 : Int) (r3 : Int) (r4 : Int) (r5 : Int) (r6 : Int) (r7 : Int) (w : World) (hr0 : Kd.C k82 w A0 l0.length l0) (hc0 : l0.length ≤ c0) (h : tube_at.f k l0 a1 = some (r1, r2, r3, r4, r5, r6, r7)) :
    Calls Try.prog 66 #[.slice A0 l0.length c0, .int .i64 a1] w fun e w' => e = .returned (.tuple #[.agg #[.int .i64 r1, .int .i64 r2, .int .i64 r3, .int .i64 r4, .int .i64 r5, .int .i64 r6], .int .i64 r7]) ∧ Below w.heap.size w w' := by
  have hu82 := Try.underlying82
  have hu45 := Try.underlying45
  have hu80 := Try.underlying80
  have HR0 := Aside0.mk hr0
  have HC0 := Aside0.mk hc0
  clear hr0 hc0
  have HB := Aside0.mk (Below.refl w.heap.size w)
  have H : (if 0 < (l0.length : Int) then (if a1 < ((rd_T82 l0 0).f0.f0) then (tube_at.j0 k l0 a1 true) else (if 0 ≤ (wrap64 ((l0.length : Int) - 1)) then (if (wrap64 ((l0.length : Int) - 1)) < (l0.length : Int) then (tube_at.j0 k l0 a1 (decide (a1 > ((rd_T82 l0 (wrap64 ((l0.length : Int) - 1))).f0.f0)))) else (none)) else (none))) else (none)) = some (r1, r2, r3, r4, r5, r6, r7) := h
  clear h
  have HC3 := Aside0.mk H
  clear H
  go_enter Try.func66, Try.ntmps66
  go_upto_region 1 with (first | ((with_reducible refine gate_dst (N := 4) rfl ?_); (try (refine gate_guard (by rfl) ?_; dsimp only)); refine box_event ?hg (N := 4) ?hd (cs := #[.int .i64 0, .int .i64 0, .int .i64 0, .int .i64 0, .int .i64 0, .int .i64 0]) (t := 82) ?hr ?_; (case hd => rfl); (case hg => rfl); (case hr => first | (go_simp; done) | (go_simp; rfl)); intro gb126 hg w4 hbox hb; have n0_ := Aside0.mk (below_step (by repeat (first | (with_reducible first | exact HB.out | apply below_alloc | apply pw_below_drewN | apply below_drew1) | exact HB.out)) hb); have n1_ := Aside0.mk (hbox); have n2_ := Aside0.mk ((by rw [hg]; exact (below_size (by repeat (first | (with_reducible first | exact HB.out | apply below_alloc | apply pw_below_drewN | apply below_drew1) | exact HB.out))) : w.heap.size ≤ gb126)); have n3_ := Aside0.mk ((by rw [hg]; exact (below_size (by repeat (first | (with_reducible first | exact HB.out | apply below_alloc | apply pw_below_drewN | apply below_drew1) | exact HB.out))) : w.heap.size ≤ gb126)); clear HB; have HB := n0_; have BK126 := n1_; have GW126 := n2_; have GE126 := n3_; clear n0_ n1_ n2_ n3_; clear hb hbox hg))
  (try simp only [Act.put, List.setIfInBounds_toArray, List.set_cons_zero, List.set_cons_succ])
  go_cut [31] (fun v31 wc => ∃ (kq : Nat) (x31_2 : Bool), v31 = .bool x31_2 ∧ Aside0 (tube_at.j0 kq l0 a1 x31_2 = some (r1, r2, r3, r4, r5, r6, r7)) ∧ Aside0 (kq ≤ k) ∧ Aside0 (wc.heap[gb126]? = some (.cells #[.int .i64 0, .int .i64 0, .int .i64 0, .int .i64 0, .int .i64 0, .int .i64 0] 82 (0, 0))) ∧ Aside0 (Below w.heap.size w wc))
  case first =>
    have H := HC3.out
    clear HC3
    by_cases c5 : 0 < (l0.length : Int)
    · rw [if_pos c5] at H
      have c5b0 : decide (0 < (l0.length : Int)) = true := decide_eq_true c5
      have c5b1 : decide (0 < l0.length) = true := decide_eq_true (by omega)
      clear c5
      (first | rw [c5b0] | (simp only [i64_w, i32_w]; rw [c5b0]) | skip)
      by_cases c6 : a1 < ((rd_T82 l0 0).f0.f0)
      · rw [if_pos c6] at H
        have c6b0 : decide (a1 < ((rd_T82 l0 0).f0.f0)) = true := decide_eq_true c6
        clear c6
        have H' := Aside0.mk H
        clear H
        have p127 : 0 ≤ (0 : Int) := (by omega)
        have q127 : 0 < (l0.length : Int) := of_decide_eq_true (by first | (with_reducible assumption) | assumption)
        obtain ⟨ad127, e127, hx127_0, hx127_1, hx127_2, hx127_3, hx127_4, hx127_5⟩ := at_T82 HR0.out 0 p127 q127
        cases e127
        have qi127 : (0 < l0.length) = True := eq_true (by omega)
        (try rw [show ((0 : Int)).toNat = 0 from rfl] at hx127_0)
        (try rw [show 0 * 6 = 0 from rfl] at hx127_0)
        (try rw [Addr.add_zero'] at hx127_0)
        (try rw [show ((0 : Int)).toNat = 0 from rfl] at hx127_1)
        (try rw [show 0 * 6 = 0 from rfl] at hx127_1)
        (try rw [Addr.add_zero'] at hx127_1)
        (try rw [show ((0 : Int)).toNat = 0 from rfl] at hx127_2)
        (try rw [show 0 * 6 = 0 from rfl] at hx127_2)
        (try rw [Addr.add_zero'] at hx127_2)
        (try rw [show ((0 : Int)).toNat = 0 from rfl] at hx127_3)
        (try rw [show 0 * 6 = 0 from rfl] at hx127_3)
        (try rw [Addr.add_zero'] at hx127_3)
        (try rw [show ((0 : Int)).toNat = 0 from rfl] at hx127_4)
        (try rw [show 0 * 6 = 0 from rfl] at hx127_4)
        (try rw [Addr.add_zero'] at hx127_4)
        (try rw [show ((0 : Int)).toNat = 0 from rfl] at hx127_5)
        (try rw [show 0 * 6 = 0 from rfl] at hx127_5)
        (try rw [Addr.add_zero'] at hx127_5)
        replace hx127_0 := (HB.out.cell (World.block_lt_of_cell? w _ hx127_0)).trans hx127_0
        replace hx127_1 := (HB.out.cell (World.block_lt_of_cell? w _ hx127_1)).trans hx127_1
        replace hx127_2 := (HB.out.cell (World.block_lt_of_cell? w _ hx127_2)).trans hx127_2
        replace hx127_3 := (HB.out.cell (World.block_lt_of_cell? w _ hx127_3)).trans hx127_3
        replace hx127_4 := (HB.out.cell (World.block_lt_of_cell? w _ hx127_4)).trans hx127_4
        replace hx127_5 := (HB.out.cell (World.block_lt_of_cell? w _ hx127_5)).trans hx127_5
        replace p127 := eq_true p127
        replace q127 := eq_true q127
        go_wp2
        go_meet
        case rel => exact ⟨_, (true), (by first | rfl | (simp; done) | (simp [*]; done)), H', ⟨by first | omega | exact Nat.le_refl _⟩, ⟨by (with_reducible repeat (first | refine blk_drewN ?_ _ | refine blk_drew ?_ | refine blk_alloc ?_ _)); exact BK126.out⟩, ⟨by repeat (first | (with_reducible first | exact HB.out | apply below_alloc | apply pw_below_drewN | apply below_drew1 | refine below_set ?_ GE126.out) | exact HB.out)⟩⟩
      · rw [if_neg c6] at H
        have c6b0 : decide (a1 < ((rd_T82 l0 0).f0.f0)) = false := decide_eq_false c6
        clear c6
        obtain ⟨ji7, hji7⟩ : ∃ j_ : Int, (wrap64 ((l0.length : Int) - 1)) = j_ := ⟨_, rfl⟩
        replace H : (if 0 ≤ (ji7) then (if (ji7) < (l0.length : Int) then (tube_at.j0 k l0 a1 (decide (a1 > ((rd_T82 l0 (ji7)).f0.f0)))) else (none)) else (none)) = some (r1, r2, r3, r4, r5, r6, r7) := by first | (rw [hji7] at H; exact H) | (simp only [hji7] at H ⊢; exact H)
        have hji7w : (IntKind.i64.wrap ((l0.length : Int) - 1)) = ji7 := (i64_w _).trans hji7
        by_cases c8 : 0 ≤ (ji7)
        · rw [if_pos c8] at H
          have c8b0 : decide (0 ≤ (ji7)) = true := decide_eq_true c8
          clear c8
          by_cases c9 : (ji7) < (l0.length : Int)
          · rw [if_pos c9] at H
            have c9b0 : decide ((ji7) < (l0.length : Int)) = true := decide_eq_true c9
            clear c9
            have H' := Aside0.mk H
            clear H
            have p127 : 0 ≤ (0 : Int) := (by omega)
            have q127 : 0 < (l0.length : Int) := of_decide_eq_true (by first | (with_reducible assumption) | assumption)
            obtain ⟨ad127, e127, hx127_0, hx127_1, hx127_2, hx127_3, hx127_4, hx127_5⟩ := at_T82 HR0.out 0 p127 q127
            cases e127
            have qi127 : (0 < l0.length) = True := eq_true (by omega)
            (try rw [show ((0 : Int)).toNat = 0 from rfl] at hx127_0)
            (try rw [show 0 * 6 = 0 from rfl] at hx127_0)
            (try rw [Addr.add_zero'] at hx127_0)
            (try rw [show ((0 : Int)).toNat = 0 from rfl] at hx127_1)
            (try rw [show 0 * 6 = 0 from rfl] at hx127_1)
            (try rw [Addr.add_zero'] at hx127_1)
            (try rw [show ((0 : Int)).toNat = 0 from rfl] at hx127_2)
            (try rw [show 0 * 6 = 0 from rfl] at hx127_2)
            (try rw [Addr.add_zero'] at hx127_2)
            (try rw [show ((0 : Int)).toNat = 0 from rfl] at hx127_3)
            (try rw [show 0 * 6 = 0 from rfl] at hx127_3)
            (try rw [Addr.add_zero'] at hx127_3)
            (try rw [show ((0 : Int)).toNat = 0 from rfl] at hx127_4)
            (try rw [show 0 * 6 = 0 from rfl] at hx127_4)
            (try rw [Addr.add_zero'] at hx127_4)
            (try rw [show ((0 : Int)).toNat = 0 from rfl] at hx127_5)
            (try rw [show 0 * 6 = 0 from rfl] at hx127_5)
            (try rw [Addr.add_zero'] at hx127_5)
            replace hx127_0 := (HB.out.cell (World.block_lt_of_cell? w _ hx127_0)).trans hx127_0
            replace hx127_1 := (HB.out.cell (World.block_lt_of_cell? w _ hx127_1)).trans hx127_1
            replace hx127_2 := (HB.out.cell (World.block_lt_of_cell? w _ hx127_2)).trans hx127_2
            replace hx127_3 := (HB.out.cell (World.block_lt_of_cell? w _ hx127_3)).trans hx127_3
            replace hx127_4 := (HB.out.cell (World.block_lt_of_cell? w _ hx127_4)).trans hx127_4
            replace hx127_5 := (HB.out.cell (World.block_lt_of_cell? w _ hx127_5)).trans hx127_5
            replace p127 := eq_true p127
            replace q127 := eq_true q127
            have p128 : 0 ≤ ((ji7) : Int) := of_decide_eq_true (by first | (with_reducible assumption) | assumption)
            have q128 : (ji7) < (l0.length : Int) := of_decide_eq_true (by first | (with_reducible assumption) | assumption)
            obtain ⟨ad128, e128, hx128_0, hx128_1, hx128_2, hx128_3, hx128_4, hx128_5⟩ := at_T82 HR0.out (ji7) p128 q128
            obtain rfl : ad127 = ad128 := (by injection e128)
            replace hx128_0 := (HB.out.cell (World.block_lt_of_cell? w _ hx128_0)).trans hx128_0
            replace hx128_1 := (HB.out.cell (World.block_lt_of_cell? w _ hx128_1)).trans hx128_1
            replace hx128_2 := (HB.out.cell (World.block_lt_of_cell? w _ hx128_2)).trans hx128_2
            replace hx128_3 := (HB.out.cell (World.block_lt_of_cell? w _ hx128_3)).trans hx128_3
            replace hx128_4 := (HB.out.cell (World.block_lt_of_cell? w _ hx128_4)).trans hx128_4
            replace hx128_5 := (HB.out.cell (World.block_lt_of_cell? w _ hx128_5)).trans hx128_5
            replace p128 := eq_true p128
            replace q128 := eq_true q128
            go_wp2
            go_meet
            case rel => exact ⟨_, (decide (a1 > ((rd_T82 l0 (ji7)).f0.f0))), (by first | rfl | (simp; done) | (simp only [← hji7] <;> (first | rfl | simp)) | (simp [*]; done)), H', ⟨by first | omega | exact Nat.le_refl _⟩, ⟨by (with_reducible repeat (first | refine blk_drewN ?_ _ | refine blk_drew ?_ | refine blk_alloc ?_ _)); exact BK126.out⟩, ⟨by repeat (first | (with_reducible first | exact HB.out | apply below_alloc | apply pw_below_drewN | apply below_drew1 | refine below_set ?_ GE126.out) | exact HB.out)⟩⟩
          · rw [if_neg c9] at H
            exact absurd H (by simp)
        · rw [if_neg c8] at H
          exact absurd H (by simp)
    · rw [if_neg c5] at H
      exact absurd H (by simp)
  case rest =>
    clear HC3
    try clear p1
    try clear q1
    try clear hx1
    try clear qi1
    try clear p2
    try clear c5
    try clear c5b0
    try clear c5b1
    try clear c6
    try clear c6b0
    try clear p6
    try clear c8
    try clear c8b0
    try clear c9
    try clear c9b0
    try clear hx127_0
    try clear hx127_1
    try clear hx127_2
    try clear hx127_3
    try clear hx127_4
    try clear hx127_5
    try clear hx128_0
    try clear hx128_1
    try clear hx128_2
    try clear hx128_3
    try clear hx128_4
    try clear hx128_5
    try clear p127
    try clear p128
    try clear q127
    try clear q128
    obtain ⟨kq, x31_2, rfl, HA, HJ2, BK126, HB⟩ := hcut
    cases kq with
    | zero => exact absurd HA.out (by simp [tube_at.j0])
    | succ kj2 =>
      have H := HA.out
      clear HA
      simp only [tube_at.j0] at H
      by_cases c10 : x31_2 = true
      · subst c10
        have H1 : (some (0, 0, 0, 0, 0, 0, 12)) = some (r1, r2, r3, r4, r5, r6, r7) := by rw [if_pos rfl] at H; exact H
        clear H
        have H := H1
        clear H1
        simp only [Option.some.injEq, Prod.mk.injEq] at H
        obtain ⟨rfl, rfl, rfl, rfl, rfl, rfl, rfl⟩ := H
        go_wp2_with (first | ((with_reducible refine gate_store (t := 82) (p := 4) rfl ?_); refine st_row rfl rfl 82 4 _ rfl gb126 0 rfl (t := 82) (cs := #[.int .i64 0, .int .i64 0, .int .i64 0, .int .i64 0, .int .i64 0, .int .i64 0]) [.int .i64 0, .int .i64 0, .int .i64 0, .int .i64 0, .int .i64 0, .int .i64 0] _ rfl rfl isz82 (by (with_reducible repeat (first | refine blk_drewN ?_ _ | refine blk_drew ?_ | refine blk_alloc ?_ _)); exact BK126.out) (Nat.le_of_ble_eq_true rfl) rfl #[.int .i64 0, .int .i64 0, .int .i64 0, .int .i64 0, .int .i64 0, .int .i64 0] rfl ?_; intro w11 hx_ hy_ hz_; have n0_ := Aside0.mk (hx_); have n1_ := Aside0.mk (hz_ _ _ (by repeat (first | (with_reducible first | exact HB.out | apply below_alloc | apply pw_below_drewN | apply below_drew1 | refine below_set ?_ GE126.out) | exact HB.out)) GE126.out); clear BK126; clear HB; have BK126 := n0_; have HB := n1_; clear n0_ n1_; clear hx_ hy_ hz_))
        refine bodyPost_ret (results_ct rfl _ _ gb126 82 #[.int .i64 0, .int .i64 0, .int .i64 0, .int .i64 0, .int .i64 0, .int .i64 0] (0, 0) _ rfl (by (with_reducible repeat (first | refine blk_drewN ?_ _ | refine blk_drew ?_ | refine blk_alloc ?_ _)); exact BK126.out) Try.underlying82 rfl (by kernel_rfl)) rfl ?_
        exact ⟨by first | rfl | (simp [errW_none, errW_some] <;> rfl) | (simp [*, errW_none, errW_some] <;> rfl), by repeat (first | (with_reducible first | exact HB.out | apply below_alloc | apply pw_below_drewN | apply below_drew1 | refine below_set ?_ GE126.out) | exact HB.out)⟩
      · replace c10 := Bool.eq_false_iff.mpr c10
        subst c10
        have H1 : (tube_at.l0 kj2 l0 a1 0) = some (r1, r2, r3, r4, r5, r6, r7) := by rw [if_neg (show ¬ (false = true) by decide)] at H; exact H
        clear H
        have H := H1
        clear H1
        have HC12 := Aside0.mk H
        clear H
        go_upto_block 0 with (fail)
        go_cut [6] (fun v6 wc => ∃ (kq : Nat) (x6_11 : Int), v6 = .int .i64 x6_11 ∧ Aside0 (tube_at.j2 kq l0 a1 x6_11 = some (r1, r2, r3, r4, r5, r6, r7)) ∧ Aside0 (kq ≤ kj2) ∧ Aside0 (wc.heap[gb126]? = some (.cells #[.int .i64 0, .int .i64 0, .int .i64 0, .int .i64 0, .int .i64 0, .int .i64 0] 82 (0, 0))) ∧ Aside0 (Below w.heap.size w wc))
        case first =>
          have H := HC12.out
          clear HC12
          have H' := Aside0.mk H
          clear H
          go_wp2
          go_loopg [6] kj2 (fun kq v6 w' => ∃ (x6_2 : Int), v6 = .int .i64 x6_2 ∧ Aside0 (tube_at.l0 kq l0 a1 x6_2 = some (r1, r2, r3, r4, r5, r6, r7)) ∧ Aside0 (kq ≤ kj2) ∧ Aside0 (w'.heap[gb126]? = some (.cells #[.int .i64 0, .int .i64 0, .int .i64 0, .int .i64 0, .int .i64 0, .int .i64 0] 82 (0, 0))) ∧ Aside0 (Below w.heap.size w w'))
          case atStart => exact ⟨(0), (by first | rfl | (simp; done) | (simp [*]; done)), H', ⟨Nat.le_refl _⟩, ⟨by (with_reducible repeat (first | refine blk_drewN ?_ _ | refine blk_drew ?_ | refine blk_alloc ?_ _)); exact BK126.out⟩, ⟨by repeat (first | (with_reducible first | exact HB.out | apply below_alloc | apply pw_below_drewN | apply below_drew1 | refine below_set ?_ GE126.out) | exact HB.out)⟩⟩
          case round =>
            clear H'
            try clear c1
            try clear p1
            try clear q1
            try clear hx1
            try clear qi1
            try clear p2
            try clear c5
            try clear c5b0
            try clear c5b1
            try clear c6
            try clear c6b0
            try clear p6
            try clear c8
            try clear c8b0
            try clear c9
            try clear c9b0
            try clear c10
            try clear p12
            try clear q12
            try clear hx12
            try clear qi12
            try clear hx127_0
            try clear hx127_1
            try clear hx127_2
            try clear hx127_3
            try clear hx127_4
            try clear hx127_5
            try clear hx128_0
            try clear hx128_1
            try clear hx128_2
            try clear hx128_3
            try clear hx128_4
            try clear hx128_5
            try clear p1
            try clear p127
            try clear p128
            try clear p2
            try clear p6
            try clear q1
            try clear q127
            try clear q128
            obtain ⟨x6_2, rfl, HA, HK2, BK126, HB⟩ := hrel
            cases gk with
            | zero => exact absurd HA.out (by simp [tube_at.l0])
            | succ k2 =>
              have H := HA.out
              clear HA
              simp only [tube_at.l0] at H
              by_cases c13 : (wrap64 (x6_2 + 1)) < (l0.length : Int)
              · rw [if_pos c13] at H
                have c13b0 : decide ((wrap64 (x6_2 + 1)) < (l0.length : Int)) = true := decide_eq_true c13
                clear c13
                (first | rw [c13b0] | (simp only [i64_w, i32_w]; rw [c13b0]) | skip)
                obtain ⟨ji14, hji14⟩ : ∃ j_ : Int, (wrap64 (x6_2 + 1)) = j_ := ⟨_, rfl⟩
                replace H : (if 0 ≤ (ji14) then (if ((rd_T82 l0 (ji14)).f0.f0) ≤ a1 then (tube_at.l0 k2 l0 a1 ji14) else (tube_at.j2 k2 l0 a1 x6_2)) else (none)) = some (r1, r2, r3, r4, r5, r6, r7) := by first | (rw [hji14] at H; exact H) | (simp only [hji14] at H ⊢; exact H)
                (try rw [hji14] at c13b0)
                have hji14w : (IntKind.i64.wrap (x6_2 + 1)) = ji14 := (i64_w _).trans hji14
                by_cases c15 : 0 ≤ (ji14)
                · rw [if_pos c15] at H
                  have c15b0 : decide (0 ≤ (ji14)) = true := decide_eq_true c15
                  clear c15
                  by_cases c16 : ((rd_T82 l0 (ji14)).f0.f0) ≤ a1
                  · rw [if_pos c16] at H
                    have c16b0 : decide (((rd_T82 l0 (ji14)).f0.f0) ≤ a1) = true := decide_eq_true c16
                    clear c16
                    have H' := Aside0.mk H
                    clear H
                    have p129 : 0 ≤ ((ji14) : Int) := of_decide_eq_true (by first | (with_reducible assumption) | assumption)
                    have q129 : (ji14) < (l0.length : Int) := of_decide_eq_true (by first | (with_reducible assumption) | assumption)
                    obtain ⟨ad129, e129, hx129_0, hx129_1, hx129_2, hx129_3, hx129_4, hx129_5⟩ := at_T82 HR0.out (ji14) p129 q129
                    cases e129
                    replace hx129_0 := (HB.out.cell (World.block_lt_of_cell? w _ hx129_0)).trans hx129_0
                    replace hx129_1 := (HB.out.cell (World.block_lt_of_cell? w _ hx129_1)).trans hx129_1
                    replace hx129_2 := (HB.out.cell (World.block_lt_of_cell? w _ hx129_2)).trans hx129_2
                    replace hx129_3 := (HB.out.cell (World.block_lt_of_cell? w _ hx129_3)).trans hx129_3
                    replace hx129_4 := (HB.out.cell (World.block_lt_of_cell? w _ hx129_4)).trans hx129_4
                    replace hx129_5 := (HB.out.cell (World.block_lt_of_cell? w _ hx129_5)).trans hx129_5
                    replace p129 := eq_true p129
                    replace q129 := eq_true q129
                    go_wp2
                    go_roundg k2
                    case measure => have := HJ2.out; have := HK2.out; omega
                    case rel => exact ⟨(ji14), (by first | rfl | (simp; done) | (simp only [← hji14] <;> (first | rfl | simp)) | (simp [*]; done)), H', ⟨by have := HJ2.out; have := HK2.out; omega⟩, ⟨by (with_reducible repeat (first | refine blk_drewN ?_ _ | refine blk_drew ?_ | refine blk_alloc ?_ _)); exact BK126.out⟩, ⟨by repeat (first | (with_reducible first | exact HB.out | apply below_alloc | apply pw_below_drewN | apply below_drew1 | refine below_set ?_ GE126.out) | exact HB.out)⟩⟩
                  · rw [if_neg c16] at H
                    have c16b0 : decide (((rd_T82 l0 (ji14)).f0.f0) ≤ a1) = false := decide_eq_false c16
                    clear c16
                    have H' := Aside0.mk H
                    clear H
                    have p129 : 0 ≤ ((ji14) : Int) := of_decide_eq_true (by first | (with_reducible assumption) | assumption)
                    have q129 : (ji14) < (l0.length : Int) := of_decide_eq_true (by first | (with_reducible assumption) | assumption)
                    obtain ⟨ad129, e129, hx129_0, hx129_1, hx129_2, hx129_3, hx129_4, hx129_5⟩ := at_T82 HR0.out (ji14) p129 q129
                    cases e129
                    replace hx129_0 := (HB.out.cell (World.block_lt_of_cell? w _ hx129_0)).trans hx129_0
                    replace hx129_1 := (HB.out.cell (World.block_lt_of_cell? w _ hx129_1)).trans hx129_1
                    replace hx129_2 := (HB.out.cell (World.block_lt_of_cell? w _ hx129_2)).trans hx129_2
                    replace hx129_3 := (HB.out.cell (World.block_lt_of_cell? w _ hx129_3)).trans hx129_3
                    replace hx129_4 := (HB.out.cell (World.block_lt_of_cell? w _ hx129_4)).trans hx129_4
                    replace hx129_5 := (HB.out.cell (World.block_lt_of_cell? w _ hx129_5)).trans hx129_5
                    replace p129 := eq_true p129
                    replace q129 := eq_true q129
                    go_wp2
                    go_meet
                    case rel => exact ⟨_, (x6_2), (by first | rfl | (simp; done) | (simp [*]; done)), H', ⟨by have := HJ2.out; have := HK2.out; first | omega | exact Nat.le_refl _⟩, ⟨by (with_reducible repeat (first | refine blk_drewN ?_ _ | refine blk_drew ?_ | refine blk_alloc ?_ _)); exact BK126.out⟩, ⟨by repeat (first | (with_reducible first | exact HB.out | apply below_alloc | apply pw_below_drewN | apply below_drew1 | refine below_set ?_ GE126.out) | exact HB.out)⟩⟩
                · rw [if_neg c15] at H
                  exact absurd H (by simp)
              · rw [if_neg c13] at H
                have c13b0 : decide ((wrap64 (x6_2 + 1)) < (l0.length : Int)) = false := decide_eq_false c13
                clear c13
                (first | rw [c13b0] | (simp only [i64_w, i32_w]; rw [c13b0]) | skip)
                have H' := Aside0.mk H
                clear H
                go_wp2
                go_meet
                case rel => exact ⟨_, (x6_2), (by first | rfl | (simp; done) | (simp [*]; done)), H', ⟨by have := HJ2.out; have := HK2.out; first | omega | exact Nat.le_refl _⟩, ⟨by (with_reducible repeat (first | refine blk_drewN ?_ _ | refine blk_drew ?_ | refine blk_alloc ?_ _)); exact BK126.out⟩, ⟨by repeat (first | (with_reducible first | exact HB.out | apply below_alloc | apply pw_below_drewN | apply below_drew1 | refine below_set ?_ GE126.out) | exact HB.out)⟩⟩
        case rest =>
          clear HC12
          try clear c1
          try clear p1
          try clear q1
          try clear hx1
          try clear qi1
          try clear p2
          try clear c5
          try clear c5b0
          try clear c5b1
          try clear c6
          try clear c6b0
          try clear p6
          try clear c8
          try clear c8b0
          try clear c9
          try clear c9b0
          try clear c10
          try clear p12
          try clear q12
          try clear hx12
          try clear qi12
          try clear c13
          try clear c13b0
          try clear c15
          try clear c15b0
          try clear c16
          try clear c16b0
          try clear hx127_0
          try clear hx127_1
          try clear hx127_2
          try clear hx127_3
          try clear hx127_4
          try clear hx127_5
          try clear hx128_0
          try clear hx128_1
          try clear hx128_2
          try clear hx128_3
          try clear hx128_4
          try clear hx128_5
          try clear hx129_0
          try clear hx129_1
          try clear hx129_2
          try clear hx129_3
          try clear hx129_4
          try clear hx129_5
          try clear p1
          try clear p12
          try clear p127
          try clear p128
          try clear p129
          try clear p2
          try clear p6
          try clear q1
          try clear q12
          try clear q127
          try clear q128
          try clear q129
          obtain ⟨kq, x6_11, rfl, HA, HJ11, BK126, HB⟩ := hcut
          cases kq with
          | zero => exact absurd HA.out (by simp [tube_at.j2])
          | succ kj11 =>
            have H := HA.out
            clear HA
            simp only [tube_at.j2] at H
            by_cases c17 : 0 ≤ x6_11
            · rw [if_pos c17] at H
              have c17b0 : decide (0 ≤ x6_11) = true := decide_eq_true c17
              clear c17
              by_cases c18 : x6_11 < (l0.length : Int)
              · rw [if_pos c18] at H
                have c18b0 : decide (x6_11 < (l0.length : Int)) = true := decide_eq_true c18
                clear c18
                by_cases c19 : ((rd_T82 l0 x6_11).f0.f0) = a1
                · rw [if_pos c19] at H
                  have c19b0 : (((rd_T82 l0 x6_11).f0.f0) == a1) = true := beq_iff_eq.mpr c19
                  have c19b1 : (((rd_T82 l0 x6_11).f0.f0) != a1) = false := bne_eq_false_iff_eq.mpr c19
                  clear c19
                  simp only [Option.some.injEq, Prod.mk.injEq] at H
                  obtain ⟨rfl, rfl, rfl, rfl, rfl, rfl, rfl⟩ := H
                  have p130 : 0 ≤ (x6_11 : Int) := of_decide_eq_true (by first | (with_reducible assumption) | assumption)
                  have q130 : x6_11 < (l0.length : Int) := of_decide_eq_true (by first | (with_reducible assumption) | assumption)
                  obtain ⟨ad130, e130, hx130_0, hx130_1, hx130_2, hx130_3, hx130_4, hx130_5⟩ := at_T82 HR0.out x6_11 p130 q130
                  cases e130
                  replace hx130_0 := (HB.out.cell (World.block_lt_of_cell? w _ hx130_0)).trans hx130_0
                  replace hx130_1 := (HB.out.cell (World.block_lt_of_cell? w _ hx130_1)).trans hx130_1
                  replace hx130_2 := (HB.out.cell (World.block_lt_of_cell? w _ hx130_2)).trans hx130_2
                  replace hx130_3 := (HB.out.cell (World.block_lt_of_cell? w _ hx130_3)).trans hx130_3
                  replace hx130_4 := (HB.out.cell (World.block_lt_of_cell? w _ hx130_4)).trans hx130_4
                  replace hx130_5 := (HB.out.cell (World.block_lt_of_cell? w _ hx130_5)).trans hx130_5
                  replace p130 := eq_true p130
                  replace q130 := eq_true q130
                  go_wp2_with (first | ((with_reducible refine gate_dst (N := 7) rfl ?_); (try (refine gate_guard (by rfl) ?_; dsimp only)); refine box_event ?hg (N := 7) ?hd (cs := #[.int .i64 0, .int .i64 0, .int .i64 0, .int .i64 0, .int .i64 0, .int .i64 0]) (t := 82) ?hr ?_; (case hd => rfl); (case hg => rfl); (case hr => first | (go_simp; done) | (go_simp; rfl)); intro gb131 hg w20 hbox hb; have n0_ := Aside0.mk (blk_below (g := gb126) (by (with_reducible repeat (first | refine blk_drewN ?_ _ | refine blk_drew ?_ | refine blk_alloc ?_ _)); exact BK126.out) hb); have n1_ := Aside0.mk (below_step (by repeat (first | (with_reducible first | exact HB.out | apply below_alloc | apply pw_below_drewN | apply below_drew1 | refine below_set ?_ GE126.out) | exact HB.out)) hb); have n2_ := Aside0.mk (hbox); have n3_ := Aside0.mk ((by rw [hg]; exact (below_size (by repeat (first | (with_reducible first | exact HB.out | apply below_alloc | apply pw_below_drewN | apply below_drew1 | refine below_set ?_ GE126.out) | exact HB.out))) : w.heap.size ≤ gb131)); have n4_ := Aside0.mk ((by rw [hg]; exact (below_size (by repeat (first | (with_reducible first | exact HB.out | apply below_alloc | apply pw_below_drewN | apply below_drew1 | refine below_set ?_ GE126.out) | exact HB.out))) : w.heap.size ≤ gb131)); have n5_ := Aside0.mk ((by rw [hg]; exact Nat.ne_of_lt (blk_lt (g := gb126) (by (with_reducible repeat (first | refine blk_drewN ?_ _ | refine blk_drew ?_ | refine blk_alloc ?_ _)); exact BK126.out)) : gb126 ≠ gb131)); have n6_ := Aside0.mk ((by rw [hg]; exact Nat.ne_of_gt (blk_lt (g := gb126) (by (with_reducible repeat (first | refine blk_drewN ?_ _ | refine blk_drew ?_ | refine blk_alloc ?_ _)); exact BK126.out)) : gb131 ≠ gb126)); clear BK126; clear HB; have BK126 := n0_; have HB := n1_; have BK131 := n2_; have GW131 := n3_; have GE131 := n4_; have NB126_131 := n5_; have NB131_126 := n6_; clear n0_ n1_ n2_ n3_ n4_ n5_ n6_; clear hb hbox hg) | ((with_reducible refine gate_store (t := 82) (p := 7) rfl ?_); refine st_row rfl rfl 82 7 _ rfl gb131 0 rfl (t := 82) (cs := #[.int .i64 0, .int .i64 0, .int .i64 0, .int .i64 0, .int .i64 0, .int .i64 0]) [.int .i64 ((rd_T82 l0 x6_11).f0.f0), .int .i64 ((rd_T82 l0 x6_11).f0.f1.f0), .int .i64 ((rd_T82 l0 x6_11).f0.f1.f1), .int .i64 ((rd_T82 l0 x6_11).f0.f2), .int .i64 ((rd_T82 l0 x6_11).f1), .int .i64 ((rd_T82 l0 x6_11).f2)] _ rfl rfl isz82 (by (with_reducible repeat (first | refine blk_drewN ?_ _ | refine blk_drew ?_ | refine blk_alloc ?_ _)); exact BK131.out) (Nat.le_of_ble_eq_true rfl) rfl #[.int .i64 ((rd_T82 l0 x6_11).f0.f0), .int .i64 ((rd_T82 l0 x6_11).f0.f1.f0), .int .i64 ((rd_T82 l0 x6_11).f0.f1.f1), .int .i64 ((rd_T82 l0 x6_11).f0.f2), .int .i64 ((rd_T82 l0 x6_11).f1), .int .i64 ((rd_T82 l0 x6_11).f2)] rfl ?_; intro w21 hx_ hy_ hz_; have n0_ := Aside0.mk (hx_); have n1_ := Aside0.mk (((hy_ gb126 NB126_131.out).trans (by (with_reducible repeat (first | refine blk_drewN ?_ _ | refine blk_drew ?_ | refine blk_alloc ?_ _)); exact BK126.out) : w21.heap[gb126]? = some (.cells #[.int .i64 0, .int .i64 0, .int .i64 0, .int .i64 0, .int .i64 0, .int .i64 0] 82 (0, 0)))); have n2_ := Aside0.mk (hz_ _ _ (by repeat (first | (with_reducible first | exact HB.out | apply below_alloc | apply pw_below_drewN | apply below_drew1 | refine below_set ?_ GE126.out | refine below_set ?_ GE131.out) | exact HB.out)) GE131.out); clear BK131; clear BK126; clear HB; have BK131 := n0_; have BK126 := n1_; have HB := n2_; clear n0_ n1_ n2_; clear hx_ hy_ hz_) | ((with_reducible refine gate_dst (N := 57) rfl ?_); (try (refine gate_guard (by rfl) ?_; dsimp only)); refine ld_cell rfl (N := 57) rfl 3 _ rfl gb131 0 rfl (t := 82) (cs := #[.int .i64 ((rd_T82 l0 x6_11).f0.f0), .int .i64 ((rd_T82 l0 x6_11).f0.f1.f0), .int .i64 ((rd_T82 l0 x6_11).f0.f1.f1), .int .i64 ((rd_T82 l0 x6_11).f0.f2), .int .i64 ((rd_T82 l0 x6_11).f1), .int .i64 ((rd_T82 l0 x6_11).f2)]) (fr := (0, 0)) (.int .i64 ((rd_T82 l0 x6_11).f0.f0)) (by (with_reducible repeat (first | refine blk_drewN ?_ _ | refine blk_drew ?_ | refine blk_alloc ?_ _)); exact BK131.out) Try.underlying3 rfl rfl ?_) | ((with_reducible refine gate_dst (N := 60) rfl ?_); (try (refine gate_guard (by rfl) ?_; dsimp only)); refine ld_row rfl (N := 60) rfl 82 _ rfl gb131 0 rfl (t := 82) (cs := #[.int .i64 ((rd_T82 l0 x6_11).f0.f0), .int .i64 ((rd_T82 l0 x6_11).f0.f1.f0), .int .i64 ((rd_T82 l0 x6_11).f0.f1.f1), .int .i64 ((rd_T82 l0 x6_11).f0.f2), .int .i64 ((rd_T82 l0 x6_11).f1), .int .i64 ((rd_T82 l0 x6_11).f2)]) (fr := (0, 0)) [.int .i64 ((rd_T82 l0 x6_11).f0.f0), .int .i64 ((rd_T82 l0 x6_11).f0.f1.f0), .int .i64 ((rd_T82 l0 x6_11).f0.f1.f1), .int .i64 ((rd_T82 l0 x6_11).f0.f2), .int .i64 ((rd_T82 l0 x6_11).f1), .int .i64 ((rd_T82 l0 x6_11).f2)] (by (with_reducible repeat (first | refine blk_drewN ?_ _ | refine blk_drew ?_ | refine blk_alloc ?_ _)); exact BK131.out) Try.underlying82 rfl isz82 rfl ?_) | ((with_reducible refine gate_store (t := 82) (p := 4) rfl ?_); refine st_row rfl rfl 82 4 _ rfl gb126 0 rfl (t := 82) (cs := #[.int .i64 0, .int .i64 0, .int .i64 0, .int .i64 0, .int .i64 0, .int .i64 0]) [.int .i64 ((rd_T82 l0 x6_11).f0.f0), .int .i64 ((rd_T82 l0 x6_11).f0.f1.f0), .int .i64 ((rd_T82 l0 x6_11).f0.f1.f1), .int .i64 ((rd_T82 l0 x6_11).f0.f2), .int .i64 ((rd_T82 l0 x6_11).f1), .int .i64 ((rd_T82 l0 x6_11).f2)] _ rfl rfl isz82 (by (with_reducible repeat (first | refine blk_drewN ?_ _ | refine blk_drew ?_ | refine blk_alloc ?_ _)); exact BK126.out) (Nat.le_of_ble_eq_true rfl) rfl #[.int .i64 ((rd_T82 l0 x6_11).f0.f0), .int .i64 ((rd_T82 l0 x6_11).f0.f1.f0), .int .i64 ((rd_T82 l0 x6_11).f0.f1.f1), .int .i64 ((rd_T82 l0 x6_11).f0.f2), .int .i64 ((rd_T82 l0 x6_11).f1), .int .i64 ((rd_T82 l0 x6_11).f2)] rfl ?_; intro w22 hx_ hy_ hz_; have n0_ := Aside0.mk (hx_); have n1_ := Aside0.mk (((hy_ gb131 NB131_126.out).trans (by (with_reducible repeat (first | refine blk_drewN ?_ _ | refine blk_drew ?_ | refine blk_alloc ?_ _)); exact BK131.out) : w22.heap[gb131]? = some (.cells #[.int .i64 ((rd_T82 l0 x6_11).f0.f0), .int .i64 ((rd_T82 l0 x6_11).f0.f1.f0), .int .i64 ((rd_T82 l0 x6_11).f0.f1.f1), .int .i64 ((rd_T82 l0 x6_11).f0.f2), .int .i64 ((rd_T82 l0 x6_11).f1), .int .i64 ((rd_T82 l0 x6_11).f2)] 82 (0, 0)))); have n2_ := Aside0.mk (hz_ _ _ (by repeat (first | (with_reducible first | exact HB.out | apply below_alloc | apply pw_below_drewN | apply below_drew1 | refine below_set ?_ GE126.out | refine below_set ?_ GE131.out) | exact HB.out)) GE126.out); clear BK126; clear BK131; clear HB; have BK126 := n0_; have BK131 := n1_; have HB := n2_; clear n0_ n1_ n2_; clear hx_ hy_ hz_))
                  refine bodyPost_ret (results_ct rfl _ _ gb126 82 #[.int .i64 ((rd_T82 l0 x6_11).f0.f0), .int .i64 ((rd_T82 l0 x6_11).f0.f1.f0), .int .i64 ((rd_T82 l0 x6_11).f0.f1.f1), .int .i64 ((rd_T82 l0 x6_11).f0.f2), .int .i64 ((rd_T82 l0 x6_11).f1), .int .i64 ((rd_T82 l0 x6_11).f2)] (0, 0) _ rfl (by (with_reducible repeat (first | refine blk_drewN ?_ _ | refine blk_drew ?_ | refine blk_alloc ?_ _)); exact BK126.out) Try.underlying82 rfl (by kernel_rfl)) rfl ?_
                  exact ⟨by first | rfl | (simp [errW_none, errW_some] <;> rfl) | (simp [*, errW_none, errW_some] <;> rfl), by repeat (first | (with_reducible first | exact HB.out | apply below_alloc | apply pw_below_drewN | apply below_drew1 | refine below_set ?_ GE126.out | refine below_set ?_ GE131.out) | exact HB.out)⟩
                · rw [if_neg c19] at H
                  have c19b0 : (((rd_T82 l0 x6_11).f0.f0) == a1) = false := beq_eq_false_iff_ne.mpr c19
                  have c19b1 : (((rd_T82 l0 x6_11).f0.f0) != a1) = true := bne_iff_ne.mpr c19
                  obtain ⟨ji23, hji23⟩ : ∃ j_ : Int, (wrap64 (x6_11 + 1)) = j_ := ⟨_, rfl⟩
                  replace H : (if 0 ≤ (ji23) then (if (ji23) < (l0.length : Int) then ((plane_Toward.f kj11 ((rd_T82 l0 x6_11).f0.f1.f0) ((rd_T82 l0 x6_11).f0.f1.f1) ((rd_T82 l0 (ji23)).f0.f1.f0) ((rd_T82 l0 (ji23)).f0.f1.f1) (wrap64 (a1 - ((rd_T82 l0 x6_11).f0.f0))) (wrap64 (((rd_T82 l0 (ji23)).f0.f0) - ((rd_T82 l0 x6_11).f0.f0)))).bind fun bt134 => ((tube_between.f kj11 ((rd_T82 l0 x6_11).f0.f2) ((rd_T82 l0 (ji23)).f0.f2) (wrap64 (a1 - ((rd_T82 l0 x6_11).f0.f0))) (wrap64 (((rd_T82 l0 (ji23)).f0.f0) - ((rd_T82 l0 x6_11).f0.f0)))).bind fun t138 => ((tube_above.f kj11 ((rd_T82 l0 x6_11).f1) ((rd_T82 l0 (ji23)).f1) (wrap64 (a1 - ((rd_T82 l0 x6_11).f0.f0))) (wrap64 (((rd_T82 l0 (ji23)).f0.f0) - ((rd_T82 l0 x6_11).f0.f0)))).bind fun t139 => ((tube_above.f kj11 ((rd_T82 l0 x6_11).f2) ((rd_T82 l0 (ji23)).f2) (wrap64 (a1 - ((rd_T82 l0 x6_11).f0.f0))) (wrap64 (((rd_T82 l0 (ji23)).f0.f0) - ((rd_T82 l0 x6_11).f0.f0)))).bind fun t140 => (some (a1, bt134.1, bt134.2.1, t138, t139, t140, 0)))))) else (none)) else (none)) = some (r1, r2, r3, r4, r5, r6, r7) := by first | (rw [hji23] at H; exact H) | (simp only [hji23] at H ⊢; exact H)
                  have hji23w : (IntKind.i64.wrap (x6_11 + 1)) = ji23 := (i64_w _).trans hji23
                  by_cases c24 : 0 ≤ (ji23)
                  · rw [if_pos c24] at H
                    have c24b0 : decide (0 ≤ (ji23)) = true := decide_eq_true c24
                    clear c24
                    by_cases c25 : (ji23) < (l0.length : Int)
                    · rw [if_pos c25] at H
                      have c25b0 : decide ((ji23) < (l0.length : Int)) = true := decide_eq_true c25
                      clear c25
                      replace H := Option.bind_eq_some_iff.mp H
                      obtain ⟨⟨t134, t135, t136⟩, A260, H⟩ := H
                      replace H : ((tube_between.f kj11 ((rd_T82 l0 x6_11).f0.f2) ((rd_T82 l0 (ji23)).f0.f2) (wrap64 (a1 - ((rd_T82 l0 x6_11).f0.f0))) (wrap64 (((rd_T82 l0 (ji23)).f0.f0) - ((rd_T82 l0 x6_11).f0.f0)))).bind fun t138 => ((tube_above.f kj11 ((rd_T82 l0 x6_11).f1) ((rd_T82 l0 (ji23)).f1) (wrap64 (a1 - ((rd_T82 l0 x6_11).f0.f0))) (wrap64 (((rd_T82 l0 (ji23)).f0.f0) - ((rd_T82 l0 x6_11).f0.f0)))).bind fun t139 => ((tube_above.f kj11 ((rd_T82 l0 x6_11).f2) ((rd_T82 l0 (ji23)).f2) (wrap64 (a1 - ((rd_T82 l0 x6_11).f0.f0))) (wrap64 (((rd_T82 l0 (ji23)).f0.f0) - ((rd_T82 l0 x6_11).f0.f0)))).bind fun t140 => (some (a1, t134, t135, t138, t139, t140, 0))))) = some (r1, r2, r3, r4, r5, r6, r7) := H
                      have A26 := Aside0.mk A260
                      have CA26 := Aside0.mk (fun W_ => plane_Toward.calls kj11 ((rd_T82 l0 x6_11).f0.f1.f0) ((rd_T82 l0 x6_11).f0.f1.f1) ((rd_T82 l0 (ji23)).f0.f1.f0) ((rd_T82 l0 (ji23)).f0.f1.f1) (wrap64 (a1 - ((rd_T82 l0 x6_11).f0.f0))) (wrap64 (((rd_T82 l0 (ji23)).f0.f0) - ((rd_T82 l0 x6_11).f0.f0))) t134 t135 t136 W_ A260)
                      clear A260
                      replace H := Option.bind_eq_some_iff.mp H
                      obtain ⟨t138, A270, H⟩ := H
                      replace H : ((tube_above.f kj11 ((rd_T82 l0 x6_11).f1) ((rd_T82 l0 (ji23)).f1) (wrap64 (a1 - ((rd_T82 l0 x6_11).f0.f0))) (wrap64 (((rd_T82 l0 (ji23)).f0.f0) - ((rd_T82 l0 x6_11).f0.f0)))).bind fun t139 => ((tube_above.f kj11 ((rd_T82 l0 x6_11).f2) ((rd_T82 l0 (ji23)).f2) (wrap64 (a1 - ((rd_T82 l0 x6_11).f0.f0))) (wrap64 (((rd_T82 l0 (ji23)).f0.f0) - ((rd_T82 l0 x6_11).f0.f0)))).bind fun t140 => (some (a1, t134, t135, t138, t139, t140, 0)))) = some (r1, r2, r3, r4, r5, r6, r7) := H
                      have A27 := Aside0.mk A270
                      have CA27 := Aside0.mk (fun W_ => tube_between.calls kj11 ((rd_T82 l0 x6_11).f0.f2) ((rd_T82 l0 (ji23)).f0.f2) (wrap64 (a1 - ((rd_T82 l0 x6_11).f0.f0))) (wrap64 (((rd_T82 l0 (ji23)).f0.f0) - ((rd_T82 l0 x6_11).f0.f0))) t138 W_ A270)
                      clear A270
                      replace H := Option.bind_eq_some_iff.mp H
                      obtain ⟨t139, A280, H⟩ := H
                      replace H : ((tube_above.f kj11 ((rd_T82 l0 x6_11).f2) ((rd_T82 l0 (ji23)).f2) (wrap64 (a1 - ((rd_T82 l0 x6_11).f0.f0))) (wrap64 (((rd_T82 l0 (ji23)).f0.f0) - ((rd_T82 l0 x6_11).f0.f0)))).bind fun t140 => (some (a1, t134, t135, t138, t139, t140, 0))) = some (r1, r2, r3, r4, r5, r6, r7) := H
                      have A28 := Aside0.mk A280
                      have CA28 := Aside0.mk (fun W_ => tube_above.calls kj11 ((rd_T82 l0 x6_11).f1) ((rd_T82 l0 (ji23)).f1) (wrap64 (a1 - ((rd_T82 l0 x6_11).f0.f0))) (wrap64 (((rd_T82 l0 (ji23)).f0.f0) - ((rd_T82 l0 x6_11).f0.f0))) t139 W_ A280)
                      clear A280
                      replace H := Option.bind_eq_some_iff.mp H
                      obtain ⟨t140, A290, H⟩ := H
                      replace H : (some (a1, t134, t135, t138, t139, t140, 0)) = some (r1, r2, r3, r4, r5, r6, r7) := H
                      have A29 := Aside0.mk A290
                      have CA29 := Aside0.mk (fun W_ => tube_above.calls kj11 ((rd_T82 l0 x6_11).f2) ((rd_T82 l0 (ji23)).f2) (wrap64 (a1 - ((rd_T82 l0 x6_11).f0.f0))) (wrap64 (((rd_T82 l0 (ji23)).f0.f0) - ((rd_T82 l0 x6_11).f0.f0))) t140 W_ A290)
                      clear A290
                      simp only [Option.some.injEq, Prod.mk.injEq] at H
                      obtain ⟨rfl, rfl, rfl, rfl, rfl, rfl, rfl⟩ := H
                      have p130 : 0 ≤ (x6_11 : Int) := of_decide_eq_true (by first | (with_reducible assumption) | assumption)
                      have q130 : x6_11 < (l0.length : Int) := of_decide_eq_true (by first | (with_reducible assumption) | assumption)
                      obtain ⟨ad130, e130, hx130_0, hx130_1, hx130_2, hx130_3, hx130_4, hx130_5⟩ := at_T82 HR0.out x6_11 p130 q130
                      cases e130
                      replace hx130_0 := (HB.out.cell (World.block_lt_of_cell? w _ hx130_0)).trans hx130_0
                      replace hx130_1 := (HB.out.cell (World.block_lt_of_cell? w _ hx130_1)).trans hx130_1
                      replace hx130_2 := (HB.out.cell (World.block_lt_of_cell? w _ hx130_2)).trans hx130_2
                      replace hx130_3 := (HB.out.cell (World.block_lt_of_cell? w _ hx130_3)).trans hx130_3
                      replace hx130_4 := (HB.out.cell (World.block_lt_of_cell? w _ hx130_4)).trans hx130_4
                      replace hx130_5 := (HB.out.cell (World.block_lt_of_cell? w _ hx130_5)).trans hx130_5
                      replace p130 := eq_true p130
                      replace q130 := eq_true q130
                      try go_wp2_with (first | ((with_reducible refine gate_dst (N := 7) rfl ?_); (try (refine gate_guard (by rfl) ?_; dsimp only)); refine box_event ?hg (N := 7) ?hd (cs := #[.int .i64 0, .int .i64 0, .int .i64 0, .int .i64 0, .int .i64 0, .int .i64 0]) (t := 82) ?hr ?_; (case hd => rfl); (case hg => rfl); (case hr => first | (go_simp; done) | (go_simp; rfl)); intro gb131 hg w30 hbox hb; have n0_ := Aside0.mk (blk_below (g := gb126) (by (with_reducible repeat (first | refine blk_drewN ?_ _ | refine blk_drew ?_ | refine blk_alloc ?_ _)); exact BK126.out) hb); have n1_ := Aside0.mk (below_step (by repeat (first | (with_reducible first | exact HB.out | apply below_alloc | apply pw_below_drewN | apply below_drew1 | refine below_set ?_ GE126.out) | exact HB.out)) hb); have n2_ := Aside0.mk (hbox); have n3_ := Aside0.mk ((by rw [hg]; exact (below_size (by repeat (first | (with_reducible first | exact HB.out | apply below_alloc | apply pw_below_drewN | apply below_drew1 | refine below_set ?_ GE126.out) | exact HB.out))) : w.heap.size ≤ gb131)); have n4_ := Aside0.mk ((by rw [hg]; exact (below_size (by repeat (first | (with_reducible first | exact HB.out | apply below_alloc | apply pw_below_drewN | apply below_drew1 | refine below_set ?_ GE126.out) | exact HB.out))) : w.heap.size ≤ gb131)); have n5_ := Aside0.mk ((by rw [hg]; exact Nat.ne_of_lt (blk_lt (g := gb126) (by (with_reducible repeat (first | refine blk_drewN ?_ _ | refine blk_drew ?_ | refine blk_alloc ?_ _)); exact BK126.out)) : gb126 ≠ gb131)); have n6_ := Aside0.mk ((by rw [hg]; exact Nat.ne_of_gt (blk_lt (g := gb126) (by (with_reducible repeat (first | refine blk_drewN ?_ _ | refine blk_drew ?_ | refine blk_alloc ?_ _)); exact BK126.out)) : gb131 ≠ gb126)); clear BK126; clear HB; have BK126 := n0_; have HB := n1_; have BK131 := n2_; have GW131 := n3_; have GE131 := n4_; have NB126_131 := n5_; have NB131_126 := n6_; clear n0_ n1_ n2_ n3_ n4_ n5_ n6_; clear hb hbox hg) | ((with_reducible refine gate_store (t := 82) (p := 7) rfl ?_); refine st_row rfl rfl 82 7 _ rfl gb131 0 rfl (t := 82) (cs := #[.int .i64 0, .int .i64 0, .int .i64 0, .int .i64 0, .int .i64 0, .int .i64 0]) [.int .i64 ((rd_T82 l0 x6_11).f0.f0), .int .i64 ((rd_T82 l0 x6_11).f0.f1.f0), .int .i64 ((rd_T82 l0 x6_11).f0.f1.f1), .int .i64 ((rd_T82 l0 x6_11).f0.f2), .int .i64 ((rd_T82 l0 x6_11).f1), .int .i64 ((rd_T82 l0 x6_11).f2)] _ rfl rfl isz82 (by (with_reducible repeat (first | refine blk_drewN ?_ _ | refine blk_drew ?_ | refine blk_alloc ?_ _)); exact BK131.out) (Nat.le_of_ble_eq_true rfl) rfl #[.int .i64 ((rd_T82 l0 x6_11).f0.f0), .int .i64 ((rd_T82 l0 x6_11).f0.f1.f0), .int .i64 ((rd_T82 l0 x6_11).f0.f1.f1), .int .i64 ((rd_T82 l0 x6_11).f0.f2), .int .i64 ((rd_T82 l0 x6_11).f1), .int .i64 ((rd_T82 l0 x6_11).f2)] rfl ?_; intro w31 hx_ hy_ hz_; have n0_ := Aside0.mk (hx_); have n1_ := Aside0.mk (((hy_ gb126 NB126_131.out).trans (by (with_reducible repeat (first | refine blk_drewN ?_ _ | refine blk_drew ?_ | refine blk_alloc ?_ _)); exact BK126.out) : w31.heap[gb126]? = some (.cells #[.int .i64 0, .int .i64 0, .int .i64 0, .int .i64 0, .int .i64 0, .int .i64 0] 82 (0, 0)))); have n2_ := Aside0.mk (hz_ _ _ (by repeat (first | (with_reducible first | exact HB.out | apply below_alloc | apply pw_below_drewN | apply below_drew1 | refine below_set ?_ GE126.out | refine below_set ?_ GE131.out) | exact HB.out)) GE131.out); clear BK131; clear BK126; clear HB; have BK131 := n0_; have BK126 := n1_; have HB := n2_; clear n0_ n1_ n2_; clear hx_ hy_ hz_; have p132 : 0 ≤ ((ji23) : Int) := of_decide_eq_true (by first | (with_reducible assumption) | assumption); have q132 : (ji23) < (l0.length : Int) := of_decide_eq_true (by first | (with_reducible assumption) | assumption); obtain ⟨ad132, e132, hx132_0, hx132_1, hx132_2, hx132_3, hx132_4, hx132_5⟩ := at_T82 HR0.out (ji23) p132 q132; obtain rfl : ad130 = ad132 := (by injection e132); replace hx132_0 := (HB.out.cell (World.block_lt_of_cell? w _ hx132_0)).trans hx132_0; replace hx132_1 := (HB.out.cell (World.block_lt_of_cell? w _ hx132_1)).trans hx132_1; replace hx132_2 := (HB.out.cell (World.block_lt_of_cell? w _ hx132_2)).trans hx132_2; replace hx132_3 := (HB.out.cell (World.block_lt_of_cell? w _ hx132_3)).trans hx132_3; replace hx132_4 := (HB.out.cell (World.block_lt_of_cell? w _ hx132_4)).trans hx132_4; replace hx132_5 := (HB.out.cell (World.block_lt_of_cell? w _ hx132_5)).trans hx132_5; replace p132 := eq_true p132; replace q132 := eq_true q132) | ((with_reducible refine gate_dst (N := 57) rfl ?_); (try (refine gate_guard (by rfl) ?_; dsimp only)); refine ld_cell rfl (N := 57) rfl 3 _ rfl gb131 0 rfl (t := 82) (cs := #[.int .i64 ((rd_T82 l0 x6_11).f0.f0), .int .i64 ((rd_T82 l0 x6_11).f0.f1.f0), .int .i64 ((rd_T82 l0 x6_11).f0.f1.f1), .int .i64 ((rd_T82 l0 x6_11).f0.f2), .int .i64 ((rd_T82 l0 x6_11).f1), .int .i64 ((rd_T82 l0 x6_11).f2)]) (fr := (0, 0)) (.int .i64 ((rd_T82 l0 x6_11).f0.f0)) (by (with_reducible repeat (first | refine blk_drewN ?_ _ | refine blk_drew ?_ | refine blk_alloc ?_ _)); exact BK131.out) Try.underlying3 rfl rfl ?_) | ((with_reducible refine gate_dst (N := 8) rfl ?_); (try (refine gate_guard (by rfl) ?_; dsimp only)); refine box_event ?hg (N := 8) ?hd (cs := #[.int .i64 0, .int .i64 0, .int .i64 0, .int .i64 0, .int .i64 0, .int .i64 0]) (t := 82) ?hr ?_; (case hd => rfl); (case hg => rfl); (case hr => first | (go_simp; done) | (go_simp; rfl)); intro gb133 hg w32 hbox hb; have n0_ := Aside0.mk (blk_below (g := gb126) (by (with_reducible repeat (first | refine blk_drewN ?_ _ | refine blk_drew ?_ | refine blk_alloc ?_ _)); exact BK126.out) hb); have n1_ := Aside0.mk (blk_below (g := gb131) (by (with_reducible repeat (first | refine blk_drewN ?_ _ | refine blk_drew ?_ | refine blk_alloc ?_ _)); exact BK131.out) hb); have n2_ := Aside0.mk (below_step (by repeat (first | (with_reducible first | exact HB.out | apply below_alloc | apply pw_below_drewN | apply below_drew1 | refine below_set ?_ GE126.out | refine below_set ?_ GE131.out) | exact HB.out)) hb); have n3_ := Aside0.mk (hbox); have n4_ := Aside0.mk ((by rw [hg]; exact (below_size (by repeat (first | (with_reducible first | exact HB.out | apply below_alloc | apply pw_below_drewN | apply below_drew1 | refine below_set ?_ GE126.out | refine below_set ?_ GE131.out) | exact HB.out))) : w.heap.size ≤ gb133)); have n5_ := Aside0.mk ((by rw [hg]; exact (below_size (by repeat (first | (with_reducible first | exact HB.out | apply below_alloc | apply pw_below_drewN | apply below_drew1 | refine below_set ?_ GE126.out | refine below_set ?_ GE131.out) | exact HB.out))) : w.heap.size ≤ gb133)); have n6_ := Aside0.mk ((by rw [hg]; exact Nat.ne_of_lt (blk_lt (g := gb126) (by (with_reducible repeat (first | refine blk_drewN ?_ _ | refine blk_drew ?_ | refine blk_alloc ?_ _)); exact BK126.out)) : gb126 ≠ gb133)); have n7_ := Aside0.mk ((by rw [hg]; exact Nat.ne_of_gt (blk_lt (g := gb126) (by (with_reducible repeat (first | refine blk_drewN ?_ _ | refine blk_drew ?_ | refine blk_alloc ?_ _)); exact BK126.out)) : gb133 ≠ gb126)); have n8_ := Aside0.mk ((by rw [hg]; exact Nat.ne_of_lt (blk_lt (g := gb131) (by (with_reducible repeat (first | refine blk_drewN ?_ _ | refine blk_drew ?_ | refine blk_alloc ?_ _)); exact BK131.out)) : gb131 ≠ gb133)); have n9_ := Aside0.mk ((by rw [hg]; exact Nat.ne_of_gt (blk_lt (g := gb131) (by (with_reducible repeat (first | refine blk_drewN ?_ _ | refine blk_drew ?_ | refine blk_alloc ?_ _)); exact BK131.out)) : gb133 ≠ gb131)); clear BK126; clear BK131; clear HB; have BK126 := n0_; have BK131 := n1_; have HB := n2_; have BK133 := n3_; have GW133 := n4_; have GE133 := n5_; have NB126_133 := n6_; have NB133_126 := n7_; have NB131_133 := n8_; have NB133_131 := n9_; clear n0_ n1_ n2_ n3_ n4_ n5_ n6_ n7_ n8_ n9_; clear hb hbox hg) | ((with_reducible refine gate_store (t := 82) (p := 8) rfl ?_); refine st_row rfl rfl 82 8 _ rfl gb133 0 rfl (t := 82) (cs := #[.int .i64 0, .int .i64 0, .int .i64 0, .int .i64 0, .int .i64 0, .int .i64 0]) [.int .i64 ((rd_T82 l0 (ji23)).f0.f0), .int .i64 ((rd_T82 l0 (ji23)).f0.f1.f0), .int .i64 ((rd_T82 l0 (ji23)).f0.f1.f1), .int .i64 ((rd_T82 l0 (ji23)).f0.f2), .int .i64 ((rd_T82 l0 (ji23)).f1), .int .i64 ((rd_T82 l0 (ji23)).f2)] _ rfl rfl isz82 (by (with_reducible repeat (first | refine blk_drewN ?_ _ | refine blk_drew ?_ | refine blk_alloc ?_ _)); exact BK133.out) (Nat.le_of_ble_eq_true rfl) rfl #[.int .i64 ((rd_T82 l0 (ji23)).f0.f0), .int .i64 ((rd_T82 l0 (ji23)).f0.f1.f0), .int .i64 ((rd_T82 l0 (ji23)).f0.f1.f1), .int .i64 ((rd_T82 l0 (ji23)).f0.f2), .int .i64 ((rd_T82 l0 (ji23)).f1), .int .i64 ((rd_T82 l0 (ji23)).f2)] rfl ?_; intro w33 hx_ hy_ hz_; have n0_ := Aside0.mk (hx_); have n1_ := Aside0.mk (((hy_ gb126 NB126_133.out).trans (by (with_reducible repeat (first | refine blk_drewN ?_ _ | refine blk_drew ?_ | refine blk_alloc ?_ _)); exact BK126.out) : w33.heap[gb126]? = some (.cells #[.int .i64 0, .int .i64 0, .int .i64 0, .int .i64 0, .int .i64 0, .int .i64 0] 82 (0, 0)))); have n2_ := Aside0.mk (((hy_ gb131 NB131_133.out).trans (by (with_reducible repeat (first | refine blk_drewN ?_ _ | refine blk_drew ?_ | refine blk_alloc ?_ _)); exact BK131.out) : w33.heap[gb131]? = some (.cells #[.int .i64 ((rd_T82 l0 x6_11).f0.f0), .int .i64 ((rd_T82 l0 x6_11).f0.f1.f0), .int .i64 ((rd_T82 l0 x6_11).f0.f1.f1), .int .i64 ((rd_T82 l0 x6_11).f0.f2), .int .i64 ((rd_T82 l0 x6_11).f1), .int .i64 ((rd_T82 l0 x6_11).f2)] 82 (0, 0)))); have n3_ := Aside0.mk (hz_ _ _ (by repeat (first | (with_reducible first | exact HB.out | apply below_alloc | apply pw_below_drewN | apply below_drew1 | refine below_set ?_ GE126.out | refine below_set ?_ GE131.out | refine below_set ?_ GE133.out) | exact HB.out)) GE133.out); clear BK133; clear BK126; clear BK131; clear HB; have BK133 := n0_; have BK126 := n1_; have BK131 := n2_; have HB := n3_; clear n0_ n1_ n2_ n3_; clear hx_ hy_ hz_))
                      have n0_ := Aside0.mk (blk_drew BK126.out)
                      have n1_ := Aside0.mk (blk_drew BK131.out)
                      have n2_ := Aside0.mk (blk_drew BK133.out)
                      have n3_ := Aside0.mk (below_drew1 HB.out)
                      clear BK126
                      clear BK131
                      clear BK133
                      clear HB
                      have BK126 := n0_
                      have BK131 := n1_
                      have BK133 := n2_
                      have HB := n3_
                      clear n0_ n1_ n2_ n3_
                      refine start_ (n := 14) (S := fun w' => w'.cell? ⟨gb131, 0, none⟩ = some (.int .i64 ((rd_T82 l0 x6_11).f0.f0)) ∧ w'.cell? ⟨gb131, 1, none⟩ = some (.int .i64 ((rd_T82 l0 x6_11).f0.f1.f0)) ∧ w'.cell? ⟨gb131, 2, none⟩ = some (.int .i64 ((rd_T82 l0 x6_11).f0.f1.f1)) ∧ w'.cell? ⟨gb131, 3, none⟩ = some (.int .i64 ((rd_T82 l0 x6_11).f0.f2)) ∧ w'.cell? ⟨gb131, 4, none⟩ = some (.int .i64 ((rd_T82 l0 x6_11).f1)) ∧ w'.cell? ⟨gb131, 5, none⟩ = some (.int .i64 ((rd_T82 l0 x6_11).f2)) ∧ w'.cell? ⟨gb133, 0, none⟩ = some (.int .i64 ((rd_T82 l0 (ji23)).f0.f0)) ∧ w'.cell? ⟨gb133, 1, none⟩ = some (.int .i64 ((rd_T82 l0 (ji23)).f0.f1.f0)) ∧ w'.cell? ⟨gb133, 2, none⟩ = some (.int .i64 ((rd_T82 l0 (ji23)).f0.f1.f1)) ∧ w'.cell? ⟨gb133, 3, none⟩ = some (.int .i64 ((rd_T82 l0 (ji23)).f0.f2)) ∧ w'.cell? ⟨gb133, 4, none⟩ = some (.int .i64 ((rd_T82 l0 (ji23)).f1)) ∧ w'.cell? ⟨gb133, 5, none⟩ = some (.int .i64 ((rd_T82 l0 (ji23)).f2))) (ds := []) #[false, false, false, false, false, false, false, false, false, false, false, false, false, false] (by kernel_rfl) rfl rfl ⟨(blk_cell BK131.out 0).trans rfl, (blk_cell BK131.out 1).trans rfl, (blk_cell BK131.out 2).trans rfl, (blk_cell BK131.out 3).trans rfl, (blk_cell BK131.out 4).trans rfl, (blk_cell BK131.out 5).trans rfl, (blk_cell BK133.out 0).trans rfl, (blk_cell BK133.out 1).trans rfl, (blk_cell BK133.out 2).trans rfl, (blk_cell BK133.out 3).trans rfl, (blk_cell BK133.out 4).trans rfl, (blk_cell BK133.out 5).trans rfl⟩ (fun hHeld => ?_); refine with_tabW tube_at.tab10 tube_at.bits10 (fun HT_ HW_ => ?_)
                      generalize w33.drew = w34 at BK126 BK131 BK133 HB hHeld ⊢
                      refine pure_ (i := 0) (N := some 66) (v := ?_) (a' := ?_) #[true, false, false, false, false, false, false, false, false, false, false, false, false, false] rfl rfl (any_of HT_.out (by kernel_rfl)) (fun _ _ _ h => h) (Or.inl ⟨by rfl, ?_⟩) ?_ ?_
                      rotate_left
                      · intro w'
                        go_simp
                        with_reducible rfl
                      rotate_left
                      · simp only [Act.put, List.setIfInBounds_toArray, List.set_cons_zero, List.set_cons_succ, i64_w, i32_w]
                        rfl
                      refine pure_ (i := 1) (N := some 67) (v := ?_) (a' := ?_) #[true, true, false, false, false, false, false, false, false, false, false, false, false, false] rfl rfl (any_of HT_.out (by kernel_rfl)) (fun _ _ _ h => h) (Or.inl ⟨by rfl, ?_⟩) ?_ ?_
                      rotate_left
                      · intro w'
                        go_simp
                        with_reducible rfl
                      rotate_left
                      · simp only [Act.put, List.setIfInBounds_toArray, List.set_cons_zero, List.set_cons_succ, i64_w, i32_w]
                        rfl
                      refine pure_ (i := 2) (N := some 68) (v := ?_) (a' := ?_) #[true, true, true, false, false, false, false, false, false, false, false, false, false, false] rfl rfl (any_of HT_.out (by kernel_rfl)) (fun _ _ _ h => h) (Or.inl ⟨by rfl, ?_⟩) ?_ ?_
                      rotate_left
                      · intro w'
                        go_simp
                        with_reducible rfl
                      rotate_left
                      · simp only [Act.put, List.setIfInBounds_toArray, List.set_cons_zero, List.set_cons_succ, i64_w, i32_w]
                        rfl
                      refine pure_ (i := 5) (N := some 71) (v := ?_) (a' := ?_) #[true, true, true, false, false, true, false, false, false, false, false, false, false, false] rfl rfl (any_of HT_.out (by kernel_rfl)) (fun _ _ _ h => h) (Or.inl ⟨by rfl, ?_⟩) ?_ ?_
                      rotate_left
                      · intro w'
                        go_simp
                        with_reducible rfl
                      rotate_left
                      · simp only [Act.put, List.setIfInBounds_toArray, List.set_cons_zero, List.set_cons_succ, i64_w, i32_w]
                        rfl
                      refine pure_ (i := 6) (N := some 72) (v := ?_) (a' := ?_) #[true, true, true, false, false, true, true, false, false, false, false, false, false, false] rfl rfl (any_of HT_.out (by kernel_rfl)) (fun _ _ _ h => h) (Or.inl ⟨by rfl, ?_⟩) ?_ ?_
                      rotate_left
                      · intro w'
                        go_simp
                        with_reducible rfl
                      rotate_left
                      · simp only [Act.put, List.setIfInBounds_toArray, List.set_cons_zero, List.set_cons_succ, i64_w, i32_w]
                        rfl
                      refine pure_ (i := 8) (N := some 74) (v := ?_) (a' := ?_) #[true, true, true, false, false, true, true, false, true, false, false, false, false, false] rfl rfl (any_of HT_.out (by kernel_rfl)) (fun _ _ _ h => h) (Or.inl ⟨by rfl, ?_⟩) ?_ ?_
                      rotate_left
                      · intro w'
                        go_simp
                        with_reducible rfl
                      rotate_left
                      · simp only [Act.put, List.setIfInBounds_toArray, List.set_cons_zero, List.set_cons_succ, i64_w, i32_w]
                        rfl
                      refine pure_ (i := 9) (N := some 75) (v := ?_) (a' := ?_) #[true, true, true, false, false, true, true, false, true, true, false, false, false, false] rfl rfl (any_of HT_.out (by kernel_rfl)) (fun _ _ _ h => h) (Or.inl ⟨by rfl, ?_⟩) ?_ ?_
                      rotate_left
                      · intro w'
                        go_simp
                        with_reducible rfl
                      rotate_left
                      · simp only [Act.put, List.setIfInBounds_toArray, List.set_cons_zero, List.set_cons_succ, i64_w, i32_w]
                        rfl
                      refine take_ (i := 3) (N := some 69) (v := ?_) (a' := ?_) #[true, true, true, true, false, true, true, false, true, true, false, false, false, false] rfl rfl (take_ofW HT_.out HW_.out (by kernel_rfl)) (fun _ _ _ h => h) (Or.inl ⟨by rfl, ?_⟩) hHeld ?_ ?_
                      rotate_left
                      · rintro w' ⟨s0, s1, s2, s3, s4, s5, s6, s7, s8, s9, s10, s11⟩
                        go_simp
                        with_reducible rfl
                      rotate_left
                      · simp only [Act.put, List.setIfInBounds_toArray, List.set_cons_zero, List.set_cons_succ, i64_w, i32_w]
                        rfl
                      refine pure_ (i := 4) (N := some 70) (v := ?_) (a' := ?_) #[true, true, true, true, true, true, true, false, true, true, false, false, false, false] rfl rfl (any_of HT_.out (by kernel_rfl)) (fun _ _ _ h => h) (Or.inl ⟨by rfl, ?_⟩) ?_ ?_
                      rotate_left
                      · intro w'
                        go_simp
                        with_reducible rfl
                      rotate_left
                      · simp only [Act.put, List.setIfInBounds_toArray, List.set_cons_zero, List.set_cons_succ, i64_w, i32_w]
                        rfl
                      refine pure_ (i := 12) (N := some 9) (v := ?_) (a' := ?_) #[true, true, true, true, true, true, true, false, true, true, false, false, true, false] rfl rfl (any_of HT_.out (by kernel_rfl)) (fun _ _ _ h => h) (Or.inl ⟨by rfl, ?_⟩) ?_ ?_
                      rotate_left
                      · intro w'
                        go_simp
                        with_reducible rfl
                      rotate_left
                      · simp only [Act.put, List.setIfInBounds_toArray, List.set_cons_zero, List.set_cons_succ, i64_w, i32_w]
                        rfl
                      refine take_ (i := 7) (N := some 73) (v := ?_) (a' := ?_) #[true, true, true, true, true, true, true, true, true, true, false, false, true, false] rfl rfl (take_ofW HT_.out HW_.out (by kernel_rfl)) (fun _ _ _ h => h) (Or.inl ⟨by rfl, ?_⟩) hHeld ?_ ?_
                      rotate_left
                      · rintro w' ⟨s0, s1, s2, s3, s4, s5, s6, s7, s8, s9, s10, s11⟩
                        go_simp
                        with_reducible rfl
                      rotate_left
                      · simp only [Act.put, List.setIfInBounds_toArray, List.set_cons_zero, List.set_cons_succ, i64_w, i32_w]
                        rfl
                      refine take_ (i := 10) (N := some 76) (v := ?_) (a' := ?_) #[true, true, true, true, true, true, true, true, true, true, true, false, true, false] rfl rfl (take_ofW HT_.out HW_.out (by kernel_rfl)) (fun _ _ _ h => h) (Or.inl ⟨by rfl, ?_⟩) hHeld ?_ ?_
                      rotate_left
                      · rintro w' ⟨s0, s1, s2, s3, s4, s5, s6, s7, s8, s9, s10, s11⟩
                        go_simp
                        with_reducible rfl
                      rotate_left
                      · simp only [Act.put, List.setIfInBounds_toArray, List.set_cons_zero, List.set_cons_succ, i64_w, i32_w]
                        rfl
                      refine pure_ (i := 11) (N := some 77) (v := ?_) (a' := ?_) #[true, true, true, true, true, true, true, true, true, true, true, true, true, false] rfl rfl (any_of HT_.out (by kernel_rfl)) (fun _ _ _ h => h) (Or.inl ⟨by rfl, ?_⟩) ?_ ?_
                      rotate_left
                      · intro w'
                        go_simp
                        with_reducible rfl
                      rotate_left
                      · simp only [Act.put, List.setIfInBounds_toArray, List.set_cons_zero, List.set_cons_succ, i64_w, i32_w]
                        rfl
                      refine pure_ (i := 13) (N := some 10) (v := ?_) (a' := ?_) #[true, true, true, true, true, true, true, true, true, true, true, true, true, true] rfl rfl (any_of HT_.out (by kernel_rfl)) (fun _ _ _ h => h) (Or.inl ⟨by rfl, ?_⟩) ?_ ?_
                      rotate_left
                      · intro w'
                        go_simp
                        with_reducible rfl
                      rotate_left
                      · simp only [Act.put, List.setIfInBounds_toArray, List.set_cons_zero, List.set_cons_succ, i64_w, i32_w]
                        rfl
                      refine done_ (done_of HT_.out (by kernel_rfl)) ?_
                      try go_wp2_with (first | ((with_reducible refine gate_dst (N := 81) rfl ?_); (try (refine gate_guard (by rfl) ?_; dsimp only)); refine ld_row rfl (N := 81) rfl 45 _ rfl gb131 1 rfl (t := 82) (cs := #[.int .i64 ((rd_T82 l0 x6_11).f0.f0), .int .i64 ((rd_T82 l0 x6_11).f0.f1.f0), .int .i64 ((rd_T82 l0 x6_11).f0.f1.f1), .int .i64 ((rd_T82 l0 x6_11).f0.f2), .int .i64 ((rd_T82 l0 x6_11).f1), .int .i64 ((rd_T82 l0 x6_11).f2)]) (fr := (0, 0)) [.int .i64 ((rd_T82 l0 x6_11).f0.f1.f0), .int .i64 ((rd_T82 l0 x6_11).f0.f1.f1)] (by (with_reducible repeat (first | refine blk_drewN ?_ _ | refine blk_drew ?_ | refine blk_alloc ?_ _)); exact BK131.out) Try.underlying45 rfl isz45 rfl ?_) | ((with_reducible refine gate_dst (N := 84) rfl ?_); (try (refine gate_guard (by rfl) ?_; dsimp only)); refine ld_row rfl (N := 84) rfl 45 _ rfl gb133 1 rfl (t := 82) (cs := #[.int .i64 ((rd_T82 l0 (ji23)).f0.f0), .int .i64 ((rd_T82 l0 (ji23)).f0.f1.f0), .int .i64 ((rd_T82 l0 (ji23)).f0.f1.f1), .int .i64 ((rd_T82 l0 (ji23)).f0.f2), .int .i64 ((rd_T82 l0 (ji23)).f1), .int .i64 ((rd_T82 l0 (ji23)).f2)]) (fr := (0, 0)) [.int .i64 ((rd_T82 l0 (ji23)).f0.f1.f0), .int .i64 ((rd_T82 l0 (ji23)).f0.f1.f1)] (by (with_reducible repeat (first | refine blk_drewN ?_ _ | refine blk_drew ?_ | refine blk_alloc ?_ _)); exact BK133.out) Try.underlying45 rfl isz45 rfl ?_) | ((with_reducible refine gate_callee (f := 77) rfl ?_); refine goesL_ (some 87) rfl rfl Try.func77 (by kernel_rfl) rfl _ rfl (by (try simp only [List.map_toArray, List.map_cons, List.map_nil]); first | done | rfl) ((CA26.out _).mono ?_); rintro e w35 ⟨rfl, hb⟩; refine ⟨_, rfl, ?_⟩; have n0_ := Aside0.mk (blk_below (g := gb126) (by (with_reducible repeat (first | refine blk_drewN ?_ _ | refine blk_drew ?_ | refine blk_alloc ?_ _)); exact BK126.out) hb); have n1_ := Aside0.mk (blk_below (g := gb131) (by (with_reducible repeat (first | refine blk_drewN ?_ _ | refine blk_drew ?_ | refine blk_alloc ?_ _)); exact BK131.out) hb); have n2_ := Aside0.mk (blk_below (g := gb133) (by (with_reducible repeat (first | refine blk_drewN ?_ _ | refine blk_drew ?_ | refine blk_alloc ?_ _)); exact BK133.out) hb); have n3_ := Aside0.mk (below_step (by repeat (first | (with_reducible first | exact HB.out | apply below_alloc | apply pw_below_drewN | apply below_drew1 | refine below_set ?_ GE126.out | refine below_set ?_ GE131.out | refine below_set ?_ GE133.out) | exact HB.out)) hb); clear BK126; clear BK131; clear BK133; clear HB; have BK126 := n0_; have BK131 := n1_; have BK133 := n2_; have HB := n3_; clear n0_ n1_ n2_ n3_; (try clear hb); (try clear hb2); (try clear hk); (try clear hi)) | ((with_reducible refine gate_dst (N := 11) rfl ?_); (try (refine gate_guard (by rfl) ?_; dsimp only)); refine box_event ?hg (N := 11) ?hd (cs := #[.int .i64 0, .int .i64 0]) (t := 45) ?hr ?_; (case hd => rfl); (case hg => rfl); (case hr => first | (go_simp; done) | (go_simp; rfl)); intro gb137 hg w36 hbox hb; have n0_ := Aside0.mk (blk_below (g := gb126) (by (with_reducible repeat (first | refine blk_drewN ?_ _ | refine blk_drew ?_ | refine blk_alloc ?_ _)); exact BK126.out) hb); have n1_ := Aside0.mk (blk_below (g := gb131) (by (with_reducible repeat (first | refine blk_drewN ?_ _ | refine blk_drew ?_ | refine blk_alloc ?_ _)); exact BK131.out) hb); have n2_ := Aside0.mk (blk_below (g := gb133) (by (with_reducible repeat (first | refine blk_drewN ?_ _ | refine blk_drew ?_ | refine blk_alloc ?_ _)); exact BK133.out) hb); have n3_ := Aside0.mk (below_step (by repeat (first | (with_reducible first | exact HB.out | apply below_alloc | apply pw_below_drewN | apply below_drew1 | refine below_set ?_ GE126.out | refine below_set ?_ GE131.out | refine below_set ?_ GE133.out) | exact HB.out)) hb); have n4_ := Aside0.mk (hbox); have n5_ := Aside0.mk ((by rw [hg]; exact (below_size (by repeat (first | (with_reducible first | exact HB.out | apply below_alloc | apply pw_below_drewN | apply below_drew1 | refine below_set ?_ GE126.out | refine below_set ?_ GE131.out | refine below_set ?_ GE133.out) | exact HB.out))) : w.heap.size ≤ gb137)); have n6_ := Aside0.mk ((by rw [hg]; exact (below_size (by repeat (first | (with_reducible first | exact HB.out | apply below_alloc | apply pw_below_drewN | apply below_drew1 | refine below_set ?_ GE126.out | refine below_set ?_ GE131.out | refine below_set ?_ GE133.out) | exact HB.out))) : w.heap.size ≤ gb137)); have n7_ := Aside0.mk ((by rw [hg]; exact Nat.ne_of_lt (blk_lt (g := gb126) (by (with_reducible repeat (first | refine blk_drewN ?_ _ | refine blk_drew ?_ | refine blk_alloc ?_ _)); exact BK126.out)) : gb126 ≠ gb137)); have n8_ := Aside0.mk ((by rw [hg]; exact Nat.ne_of_gt (blk_lt (g := gb126) (by (with_reducible repeat (first | refine blk_drewN ?_ _ | refine blk_drew ?_ | refine blk_alloc ?_ _)); exact BK126.out)) : gb137 ≠ gb126)); have n9_ := Aside0.mk ((by rw [hg]; exact Nat.ne_of_lt (blk_lt (g := gb131) (by (with_reducible repeat (first | refine blk_drewN ?_ _ | refine blk_drew ?_ | refine blk_alloc ?_ _)); exact BK131.out)) : gb131 ≠ gb137)); have n10_ := Aside0.mk ((by rw [hg]; exact Nat.ne_of_gt (blk_lt (g := gb131) (by (with_reducible repeat (first | refine blk_drewN ?_ _ | refine blk_drew ?_ | refine blk_alloc ?_ _)); exact BK131.out)) : gb137 ≠ gb131)); have n11_ := Aside0.mk ((by rw [hg]; exact Nat.ne_of_lt (blk_lt (g := gb133) (by (with_reducible repeat (first | refine blk_drewN ?_ _ | refine blk_drew ?_ | refine blk_alloc ?_ _)); exact BK133.out)) : gb133 ≠ gb137)); have n12_ := Aside0.mk ((by rw [hg]; exact Nat.ne_of_gt (blk_lt (g := gb133) (by (with_reducible repeat (first | refine blk_drewN ?_ _ | refine blk_drew ?_ | refine blk_alloc ?_ _)); exact BK133.out)) : gb137 ≠ gb133)); clear BK126; clear BK131; clear BK133; clear HB; have BK126 := n0_; have BK131 := n1_; have BK133 := n2_; have HB := n3_; have BK137 := n4_; have GW137 := n5_; have GE137 := n6_; have NB126_137 := n7_; have NB137_126 := n8_; have NB131_137 := n9_; have NB137_131 := n10_; have NB133_137 := n11_; have NB137_133 := n12_; clear n0_ n1_ n2_ n3_ n4_ n5_ n6_ n7_ n8_ n9_ n10_ n11_ n12_; clear hb hbox hg) | ((with_reducible refine gate_store (t := 45) (p := 11) rfl ?_); refine st_row rfl rfl 45 11 _ rfl gb137 0 rfl (t := 45) (cs := #[.int .i64 0, .int .i64 0]) [.int .i64 t134, .int .i64 t135] _ rfl rfl isz45 (by (with_reducible repeat (first | refine blk_drewN ?_ _ | refine blk_drew ?_ | refine blk_alloc ?_ _)); exact BK137.out) (Nat.le_of_ble_eq_true rfl) rfl #[.int .i64 t134, .int .i64 t135] rfl ?_; intro w37 hx_ hy_ hz_; have n0_ := Aside0.mk (hx_); have n1_ := Aside0.mk (((hy_ gb126 NB126_137.out).trans (by (with_reducible repeat (first | refine blk_drewN ?_ _ | refine blk_drew ?_ | refine blk_alloc ?_ _)); exact BK126.out) : w37.heap[gb126]? = some (.cells #[.int .i64 0, .int .i64 0, .int .i64 0, .int .i64 0, .int .i64 0, .int .i64 0] 82 (0, 0)))); have n2_ := Aside0.mk (((hy_ gb131 NB131_137.out).trans (by (with_reducible repeat (first | refine blk_drewN ?_ _ | refine blk_drew ?_ | refine blk_alloc ?_ _)); exact BK131.out) : w37.heap[gb131]? = some (.cells #[.int .i64 ((rd_T82 l0 x6_11).f0.f0), .int .i64 ((rd_T82 l0 x6_11).f0.f1.f0), .int .i64 ((rd_T82 l0 x6_11).f0.f1.f1), .int .i64 ((rd_T82 l0 x6_11).f0.f2), .int .i64 ((rd_T82 l0 x6_11).f1), .int .i64 ((rd_T82 l0 x6_11).f2)] 82 (0, 0)))); have n3_ := Aside0.mk (((hy_ gb133 NB133_137.out).trans (by (with_reducible repeat (first | refine blk_drewN ?_ _ | refine blk_drew ?_ | refine blk_alloc ?_ _)); exact BK133.out) : w37.heap[gb133]? = some (.cells #[.int .i64 ((rd_T82 l0 (ji23)).f0.f0), .int .i64 ((rd_T82 l0 (ji23)).f0.f1.f0), .int .i64 ((rd_T82 l0 (ji23)).f0.f1.f1), .int .i64 ((rd_T82 l0 (ji23)).f0.f2), .int .i64 ((rd_T82 l0 (ji23)).f1), .int .i64 ((rd_T82 l0 (ji23)).f2)] 82 (0, 0)))); have n4_ := Aside0.mk (hz_ _ _ (by repeat (first | (with_reducible first | exact HB.out | apply below_alloc | apply pw_below_drewN | apply below_drew1 | refine below_set ?_ GE126.out | refine below_set ?_ GE131.out | refine below_set ?_ GE133.out | refine below_set ?_ GE137.out) | exact HB.out)) GE137.out); clear BK137; clear BK126; clear BK131; clear BK133; clear HB; have BK137 := n0_; have BK126 := n1_; have BK131 := n2_; have BK133 := n3_; have HB := n4_; clear n0_ n1_ n2_ n3_ n4_; clear hx_ hy_ hz_))
                      have n0_ := Aside0.mk (blk_drew BK126.out)
                      have n1_ := Aside0.mk (blk_drew BK131.out)
                      have n2_ := Aside0.mk (blk_drew BK133.out)
                      have n3_ := Aside0.mk (blk_drew BK137.out)
                      have n4_ := Aside0.mk (below_drew1 HB.out)
                      clear BK126
                      clear BK131
                      clear BK133
                      clear BK137
                      clear HB
                      have BK126 := n0_
                      have BK131 := n1_
                      have BK133 := n2_
                      have BK137 := n3_
                      have HB := n4_
                      clear n0_ n1_ n2_ n3_ n4_
                      refine start_ (n := 29) (S := fun w' => w'.cell? ⟨gb137, 0, none⟩ = some (.int .i64 t134) ∧ w'.cell? ⟨gb137, 1, none⟩ = some (.int .i64 t135) ∧ w'.cell? ⟨gb131, 0, none⟩ = some (.int .i64 ((rd_T82 l0 x6_11).f0.f0)) ∧ w'.cell? ⟨gb131, 1, none⟩ = some (.int .i64 ((rd_T82 l0 x6_11).f0.f1.f0)) ∧ w'.cell? ⟨gb131, 2, none⟩ = some (.int .i64 ((rd_T82 l0 x6_11).f0.f1.f1)) ∧ w'.cell? ⟨gb131, 3, none⟩ = some (.int .i64 ((rd_T82 l0 x6_11).f0.f2)) ∧ w'.cell? ⟨gb131, 4, none⟩ = some (.int .i64 ((rd_T82 l0 x6_11).f1)) ∧ w'.cell? ⟨gb131, 5, none⟩ = some (.int .i64 ((rd_T82 l0 x6_11).f2)) ∧ w'.cell? ⟨gb133, 0, none⟩ = some (.int .i64 ((rd_T82 l0 (ji23)).f0.f0)) ∧ w'.cell? ⟨gb133, 1, none⟩ = some (.int .i64 ((rd_T82 l0 (ji23)).f0.f1.f0)) ∧ w'.cell? ⟨gb133, 2, none⟩ = some (.int .i64 ((rd_T82 l0 (ji23)).f0.f1.f1)) ∧ w'.cell? ⟨gb133, 3, none⟩ = some (.int .i64 ((rd_T82 l0 (ji23)).f0.f2)) ∧ w'.cell? ⟨gb133, 4, none⟩ = some (.int .i64 ((rd_T82 l0 (ji23)).f1)) ∧ w'.cell? ⟨gb133, 5, none⟩ = some (.int .i64 ((rd_T82 l0 (ji23)).f2))) (ds := []) #[false, false, false, false, false, false, false, false, false, false, false, false, false, false, false, false, false, false, false, false, false, false, false, false, false, false, false, false, false] (by kernel_rfl) rfl rfl ⟨(blk_cell BK137.out 0).trans rfl, (blk_cell BK137.out 1).trans rfl, (blk_cell BK131.out 0).trans rfl, (blk_cell BK131.out 1).trans rfl, (blk_cell BK131.out 2).trans rfl, (blk_cell BK131.out 3).trans rfl, (blk_cell BK131.out 4).trans rfl, (blk_cell BK131.out 5).trans rfl, (blk_cell BK133.out 0).trans rfl, (blk_cell BK133.out 1).trans rfl, (blk_cell BK133.out 2).trans rfl, (blk_cell BK133.out 3).trans rfl, (blk_cell BK133.out 4).trans rfl, (blk_cell BK133.out 5).trans rfl⟩ (fun hHeld => ?_); refine with_tabW tube_at.tab12 tube_at.bits12 (fun HT_ HW_ => ?_)
                      generalize w37.drew = w38 at BK126 BK131 BK133 BK137 HB hHeld ⊢
                      refine pure_ (i := 0) (N := some 90) (v := ?_) (a' := ?_) #[true, false, false, false, false, false, false, false, false, false, false, false, false, false, false, false, false, false, false, false, false, false, false, false, false, false, false, false, false] rfl rfl (any_of HT_.out (by kernel_rfl)) (fun _ _ _ h => h) (Or.inl ⟨by rfl, ?_⟩) ?_ ?_
                      rotate_left
                      · intro w'
                        go_simp
                        with_reducible rfl
                      rotate_left
                      · simp only [Act.put, List.setIfInBounds_toArray, List.set_cons_zero, List.set_cons_succ, i64_w, i32_w]
                        rfl
                      refine pure_ (i := 2) (N := some 92) (v := ?_) (a' := ?_) #[true, false, true, false, false, false, false, false, false, false, false, false, false, false, false, false, false, false, false, false, false, false, false, false, false, false, false, false, false] rfl rfl (any_of HT_.out (by kernel_rfl)) (fun _ _ _ h => h) (Or.inl ⟨by rfl, ?_⟩) ?_ ?_
                      rotate_left
                      · intro w'
                        go_simp
                        with_reducible rfl
                      rotate_left
                      · simp only [Act.put, List.setIfInBounds_toArray, List.set_cons_zero, List.set_cons_succ, i64_w, i32_w]
                        rfl
                      refine pure_ (i := 3) (N := some 93) (v := ?_) (a' := ?_) #[true, false, true, true, false, false, false, false, false, false, false, false, false, false, false, false, false, false, false, false, false, false, false, false, false, false, false, false, false] rfl rfl (any_of HT_.out (by kernel_rfl)) (fun _ _ _ h => h) (Or.inl ⟨by rfl, ?_⟩) ?_ ?_
                      rotate_left
                      · intro w'
                        go_simp
                        with_reducible rfl
                      rotate_left
                      · simp only [Act.put, List.setIfInBounds_toArray, List.set_cons_zero, List.set_cons_succ, i64_w, i32_w]
                        rfl
                      refine pure_ (i := 5) (N := some 95) (v := ?_) (a' := ?_) #[true, false, true, true, false, true, false, false, false, false, false, false, false, false, false, false, false, false, false, false, false, false, false, false, false, false, false, false, false] rfl rfl (any_of HT_.out (by kernel_rfl)) (fun _ _ _ h => h) (Or.inl ⟨by rfl, ?_⟩) ?_ ?_
                      rotate_left
                      · intro w'
                        go_simp
                        with_reducible rfl
                      rotate_left
                      · simp only [Act.put, List.setIfInBounds_toArray, List.set_cons_zero, List.set_cons_succ, i64_w, i32_w]
                        rfl
                      refine pure_ (i := 6) (N := some 96) (v := ?_) (a' := ?_) #[true, false, true, true, false, true, true, false, false, false, false, false, false, false, false, false, false, false, false, false, false, false, false, false, false, false, false, false, false] rfl rfl (any_of HT_.out (by kernel_rfl)) (fun _ _ _ h => h) (Or.inl ⟨by rfl, ?_⟩) ?_ ?_
                      rotate_left
                      · intro w'
                        go_simp
                        with_reducible rfl
                      rotate_left
                      · simp only [Act.put, List.setIfInBounds_toArray, List.set_cons_zero, List.set_cons_succ, i64_w, i32_w]
                        rfl
                      refine pure_ (i := 8) (N := some 98) (v := ?_) (a' := ?_) #[true, false, true, true, false, true, true, false, true, false, false, false, false, false, false, false, false, false, false, false, false, false, false, false, false, false, false, false, false] rfl rfl (any_of HT_.out (by kernel_rfl)) (fun _ _ _ h => h) (Or.inl ⟨by rfl, ?_⟩) ?_ ?_
                      rotate_left
                      · intro w'
                        go_simp
                        with_reducible rfl
                      rotate_left
                      · simp only [Act.put, List.setIfInBounds_toArray, List.set_cons_zero, List.set_cons_succ, i64_w, i32_w]
                        rfl
                      refine pure_ (i := 9) (N := some 99) (v := ?_) (a' := ?_) #[true, false, true, true, false, true, true, false, true, true, false, false, false, false, false, false, false, false, false, false, false, false, false, false, false, false, false, false, false] rfl rfl (any_of HT_.out (by kernel_rfl)) (fun _ _ _ h => h) (Or.inl ⟨by rfl, ?_⟩) ?_ ?_
                      rotate_left
                      · intro w'
                        go_simp
                        with_reducible rfl
                      rotate_left
                      · simp only [Act.put, List.setIfInBounds_toArray, List.set_cons_zero, List.set_cons_succ, i64_w, i32_w]
                        rfl
                      refine pure_ (i := 12) (N := some 102) (v := ?_) (a' := ?_) #[true, false, true, true, false, true, true, false, true, true, false, false, true, false, false, false, false, false, false, false, false, false, false, false, false, false, false, false, false] rfl rfl (any_of HT_.out (by kernel_rfl)) (fun _ _ _ h => h) (Or.inl ⟨by rfl, ?_⟩) ?_ ?_
                      rotate_left
                      · intro w'
                        go_simp
                        with_reducible rfl
                      rotate_left
                      · simp only [Act.put, List.setIfInBounds_toArray, List.set_cons_zero, List.set_cons_succ, i64_w, i32_w]
                        rfl
                      refine pure_ (i := 14) (N := some 104) (v := ?_) (a' := ?_) #[true, false, true, true, false, true, true, false, true, true, false, false, true, false, true, false, false, false, false, false, false, false, false, false, false, false, false, false, false] rfl rfl (any_of HT_.out (by kernel_rfl)) (fun _ _ _ h => h) (Or.inl ⟨by rfl, ?_⟩) ?_ ?_
                      rotate_left
                      · intro w'
                        go_simp
                        with_reducible rfl
                      rotate_left
                      · simp only [Act.put, List.setIfInBounds_toArray, List.set_cons_zero, List.set_cons_succ, i64_w, i32_w]
                        rfl
                      refine pure_ (i := 16) (N := some 106) (v := ?_) (a' := ?_) #[true, false, true, true, false, true, true, false, true, true, false, false, true, false, true, false, true, false, false, false, false, false, false, false, false, false, false, false, false] rfl rfl (any_of HT_.out (by kernel_rfl)) (fun _ _ _ h => h) (Or.inl ⟨by rfl, ?_⟩) ?_ ?_
                      rotate_left
                      · intro w'
                        go_simp
                        with_reducible rfl
                      rotate_left
                      · simp only [Act.put, List.setIfInBounds_toArray, List.set_cons_zero, List.set_cons_succ, i64_w, i32_w]
                        rfl
                      refine pure_ (i := 17) (N := some 107) (v := ?_) (a' := ?_) #[true, false, true, true, false, true, true, false, true, true, false, false, true, false, true, false, true, true, false, false, false, false, false, false, false, false, false, false, false] rfl rfl (any_of HT_.out (by kernel_rfl)) (fun _ _ _ h => h) (Or.inl ⟨by rfl, ?_⟩) ?_ ?_
                      rotate_left
                      · intro w'
                        go_simp
                        with_reducible rfl
                      rotate_left
                      · simp only [Act.put, List.setIfInBounds_toArray, List.set_cons_zero, List.set_cons_succ, i64_w, i32_w]
                        rfl
                      refine pure_ (i := 19) (N := some 109) (v := ?_) (a' := ?_) #[true, false, true, true, false, true, true, false, true, true, false, false, true, false, true, false, true, true, false, true, false, false, false, false, false, false, false, false, false] rfl rfl (any_of HT_.out (by kernel_rfl)) (fun _ _ _ h => h) (Or.inl ⟨by rfl, ?_⟩) ?_ ?_
                      rotate_left
                      · intro w'
                        go_simp
                        with_reducible rfl
                      rotate_left
                      · simp only [Act.put, List.setIfInBounds_toArray, List.set_cons_zero, List.set_cons_succ, i64_w, i32_w]
                        rfl
                      refine pure_ (i := 21) (N := some 111) (v := ?_) (a' := ?_) #[true, false, true, true, false, true, true, false, true, true, false, false, true, false, true, false, true, true, false, true, false, true, false, false, false, false, false, false, false] rfl rfl (any_of HT_.out (by kernel_rfl)) (fun _ _ _ h => h) (Or.inl ⟨by rfl, ?_⟩) ?_ ?_
                      rotate_left
                      · intro w'
                        go_simp
                        with_reducible rfl
                      rotate_left
                      · simp only [Act.put, List.setIfInBounds_toArray, List.set_cons_zero, List.set_cons_succ, i64_w, i32_w]
                        rfl
                      refine pure_ (i := 23) (N := some 113) (v := ?_) (a' := ?_) #[true, false, true, true, false, true, true, false, true, true, false, false, true, false, true, false, true, true, false, true, false, true, false, true, false, false, false, false, false] rfl rfl (any_of HT_.out (by kernel_rfl)) (fun _ _ _ h => h) (Or.inl ⟨by rfl, ?_⟩) ?_ ?_
                      rotate_left
                      · intro w'
                        go_simp
                        with_reducible rfl
                      rotate_left
                      · simp only [Act.put, List.setIfInBounds_toArray, List.set_cons_zero, List.set_cons_succ, i64_w, i32_w]
                        rfl
                      refine pure_ (i := 24) (N := some 114) (v := ?_) (a' := ?_) #[true, false, true, true, false, true, true, false, true, true, false, false, true, false, true, false, true, true, false, true, false, true, false, true, true, false, false, false, false] rfl rfl (any_of HT_.out (by kernel_rfl)) (fun _ _ _ h => h) (Or.inl ⟨by rfl, ?_⟩) ?_ ?_
                      rotate_left
                      · intro w'
                        go_simp
                        with_reducible rfl
                      rotate_left
                      · simp only [Act.put, List.setIfInBounds_toArray, List.set_cons_zero, List.set_cons_succ, i64_w, i32_w]
                        rfl
                      refine take_ (i := 1) (N := some 91) (v := ?_) (a' := ?_) #[true, true, true, true, false, true, true, false, true, true, false, false, true, false, true, false, true, true, false, true, false, true, false, true, true, false, false, false, false] rfl rfl (take_ofW HT_.out HW_.out (by kernel_rfl)) (fun _ _ _ h => h) (Or.inl ⟨by rfl, ?_⟩) hHeld ?_ ?_
                      rotate_left
                      · rintro w' ⟨s0, s1, s2, s3, s4, s5, s6, s7, s8, s9, s10, s11, s12, s13⟩
                        go_simp
                        with_reducible rfl
                      rotate_left
                      · simp only [Act.put, List.setIfInBounds_toArray, List.set_cons_zero, List.set_cons_succ, i64_w, i32_w]
                        rfl
                      refine take_ (i := 4) (N := some 94) (v := ?_) (a' := ?_) #[true, true, true, true, true, true, true, false, true, true, false, false, true, false, true, false, true, true, false, true, false, true, false, true, true, false, false, false, false] rfl rfl (take_ofW HT_.out HW_.out (by kernel_rfl)) (fun _ _ _ h => h) (Or.inl ⟨by rfl, ?_⟩) hHeld ?_ ?_
                      rotate_left
                      · rintro w' ⟨s0, s1, s2, s3, s4, s5, s6, s7, s8, s9, s10, s11, s12, s13⟩
                        go_simp
                        with_reducible rfl
                      rotate_left
                      · simp only [Act.put, List.setIfInBounds_toArray, List.set_cons_zero, List.set_cons_succ, i64_w, i32_w]
                        rfl
                      refine take_ (i := 7) (N := some 97) (v := ?_) (a' := ?_) #[true, true, true, true, true, true, true, true, true, true, false, false, true, false, true, false, true, true, false, true, false, true, false, true, true, false, false, false, false] rfl rfl (take_ofW HT_.out HW_.out (by kernel_rfl)) (fun _ _ _ h => h) (Or.inl ⟨by rfl, ?_⟩) hHeld ?_ ?_
                      rotate_left
                      · rintro w' ⟨s0, s1, s2, s3, s4, s5, s6, s7, s8, s9, s10, s11, s12, s13⟩
                        go_simp
                        with_reducible rfl
                      rotate_left
                      · simp only [Act.put, List.setIfInBounds_toArray, List.set_cons_zero, List.set_cons_succ, i64_w, i32_w]
                        rfl
                      refine take_ (i := 13) (N := some 103) (v := ?_) (a' := ?_) #[true, true, true, true, true, true, true, true, true, true, false, false, true, true, true, false, true, true, false, true, false, true, false, true, true, false, false, false, false] rfl rfl (take_ofW HT_.out HW_.out (by kernel_rfl)) (fun _ _ _ h => h) (Or.inl ⟨by rfl, ?_⟩) hHeld ?_ ?_
                      rotate_left
                      · rintro w' ⟨s0, s1, s2, s3, s4, s5, s6, s7, s8, s9, s10, s11, s12, s13⟩
                        go_simp
                        with_reducible rfl
                      rotate_left
                      · simp only [Act.put, List.setIfInBounds_toArray, List.set_cons_zero, List.set_cons_succ, i64_w, i32_w]
                        rfl
                      refine take_ (i := 15) (N := some 105) (v := ?_) (a' := ?_) #[true, true, true, true, true, true, true, true, true, true, false, false, true, true, true, true, true, true, false, true, false, true, false, true, true, false, false, false, false] rfl rfl (take_ofW HT_.out HW_.out (by kernel_rfl)) (fun _ _ _ h => h) (Or.inl ⟨by rfl, ?_⟩) hHeld ?_ ?_
                      rotate_left
                      · rintro w' ⟨s0, s1, s2, s3, s4, s5, s6, s7, s8, s9, s10, s11, s12, s13⟩
                        go_simp
                        with_reducible rfl
                      rotate_left
                      · simp only [Act.put, List.setIfInBounds_toArray, List.set_cons_zero, List.set_cons_succ, i64_w, i32_w]
                        rfl
                      refine take_ (i := 20) (N := some 110) (v := ?_) (a' := ?_) #[true, true, true, true, true, true, true, true, true, true, false, false, true, true, true, true, true, true, false, true, true, true, false, true, true, false, false, false, false] rfl rfl (take_ofW HT_.out HW_.out (by kernel_rfl)) (fun _ _ _ h => h) (Or.inl ⟨by rfl, ?_⟩) hHeld ?_ ?_
                      rotate_left
                      · rintro w' ⟨s0, s1, s2, s3, s4, s5, s6, s7, s8, s9, s10, s11, s12, s13⟩
                        go_simp
                        with_reducible rfl
                      rotate_left
                      · simp only [Act.put, List.setIfInBounds_toArray, List.set_cons_zero, List.set_cons_succ, i64_w, i32_w]
                        rfl
                      refine take_ (i := 22) (N := some 112) (v := ?_) (a' := ?_) #[true, true, true, true, true, true, true, true, true, true, false, false, true, true, true, true, true, true, false, true, true, true, true, true, true, false, false, false, false] rfl rfl (take_ofW HT_.out HW_.out (by kernel_rfl)) (fun _ _ _ h => h) (Or.inl ⟨by rfl, ?_⟩) hHeld ?_ ?_
                      rotate_left
                      · rintro w' ⟨s0, s1, s2, s3, s4, s5, s6, s7, s8, s9, s10, s11, s12, s13⟩
                        go_simp
                        with_reducible rfl
                      rotate_left
                      · simp only [Act.put, List.setIfInBounds_toArray, List.set_cons_zero, List.set_cons_succ, i64_w, i32_w]
                        rfl
                      refine one_ (i := 10) (N := some 100) #[true, true, true, true, true, true, true, true, true, true, true, false, true, true, true, true, true, true, false, true, true, true, true, true, true, false, false, false, false] rfl rfl (one_of HT_.out (by kernel_rfl)) (by decide) (fun K hK => ?_)
                      refine goes_ Try.func78 (by kernel_rfl) rfl #[.int .i64 ((rd_T82 l0 x6_11).f0.f2), .int .i64 ((rd_T82 l0 (ji23)).f0.f2), .int .i64 (wrap64 (a1 - ((rd_T82 l0 x6_11).f0.f0))), .int .i64 (wrap64 (((rd_T82 l0 (ji23)).f0.f0) - ((rd_T82 l0 x6_11).f0.f0)))] (by rfl) rfl rfl (by (try simp only [List.map_toArray, List.map_cons, List.map_nil]); first | done | (simp only [hji23]; rfl) | rfl | (simp only [List.length_drop, List.length_take]; rfl)) ?_
                      with_reducible refine (CA27.out _).mono ?_
                      rintro e w' ⟨rfl, ⟨nd, rfl⟩⟩
                      refine ⟨_, rfl, ?_⟩
                      refine hK.out _ _ ⟨(blk_cell BK137.out 0).trans rfl, (blk_cell BK137.out 1).trans rfl, (blk_cell BK131.out 0).trans rfl, (blk_cell BK131.out 1).trans rfl, (blk_cell BK131.out 2).trans rfl, (blk_cell BK131.out 3).trans rfl, (blk_cell BK131.out 4).trans rfl, (blk_cell BK131.out 5).trans rfl, (blk_cell BK133.out 0).trans rfl, (blk_cell BK133.out 1).trans rfl, (blk_cell BK133.out 2).trans rfl, (blk_cell BK133.out 3).trans rfl, (blk_cell BK133.out 4).trans rfl, (blk_cell BK133.out 5).trans rfl⟩ (fun hHeld => ?_)
                      clear hK K
                      refine norm_ (a' := ?_) ?_ ?_
                      rotate_left
                      · show Act.put _ (some 100) _ = _
                        simp only [Act.put, List.setIfInBounds_toArray, List.set_cons_zero, List.set_cons_succ, i64_w, i32_w]
                        rfl
                      refine pure_ (i := 11) (N := some 101) (v := ?_) (a' := ?_) #[true, true, true, true, true, true, true, true, true, true, true, true, true, true, true, true, true, true, false, true, true, true, true, true, true, false, false, false, false] rfl rfl (any_of HT_.out (by kernel_rfl)) (fun _ _ _ h => h) (Or.inl ⟨by rfl, ?_⟩) ?_ ?_
                      rotate_left
                      · intro w'
                        go_simp
                        with_reducible rfl
                      rotate_left
                      · simp only [Act.put, List.setIfInBounds_toArray, List.set_cons_zero, List.set_cons_succ, i64_w, i32_w]
                        rfl
                      refine one_ (i := 18) (N := some 108) #[true, true, true, true, true, true, true, true, true, true, true, true, true, true, true, true, true, true, true, true, true, true, true, true, true, false, false, false, false] rfl rfl (one_of HT_.out (by kernel_rfl)) (by decide) (fun K hK => ?_)
                      refine goes_ Try.func79 (by kernel_rfl) rfl #[.int .i64 ((rd_T82 l0 x6_11).f1), .int .i64 ((rd_T82 l0 (ji23)).f1), .int .i64 (wrap64 (a1 - ((rd_T82 l0 x6_11).f0.f0))), .int .i64 (wrap64 (((rd_T82 l0 (ji23)).f0.f0) - ((rd_T82 l0 x6_11).f0.f0)))] (by rfl) rfl rfl (by (try simp only [List.map_toArray, List.map_cons, List.map_nil]); first | done | (simp only [hji23]; rfl) | rfl | (simp only [List.length_drop, List.length_take]; rfl)) ?_
                      with_reducible refine (CA28.out _).mono ?_
                      rintro e w' ⟨rfl, ⟨nd, rfl⟩⟩
                      refine ⟨_, rfl, ?_⟩
                      refine hK.out _ _ ⟨(blk_cell BK137.out 0).trans rfl, (blk_cell BK137.out 1).trans rfl, (blk_cell BK131.out 0).trans rfl, (blk_cell BK131.out 1).trans rfl, (blk_cell BK131.out 2).trans rfl, (blk_cell BK131.out 3).trans rfl, (blk_cell BK131.out 4).trans rfl, (blk_cell BK131.out 5).trans rfl, (blk_cell BK133.out 0).trans rfl, (blk_cell BK133.out 1).trans rfl, (blk_cell BK133.out 2).trans rfl, (blk_cell BK133.out 3).trans rfl, (blk_cell BK133.out 4).trans rfl, (blk_cell BK133.out 5).trans rfl⟩ (fun hHeld => ?_)
                      clear hK K
                      refine norm_ (a' := ?_) ?_ ?_
                      rotate_left
                      · show Act.put _ (some 108) _ = _
                        simp only [Act.put, List.setIfInBounds_toArray, List.set_cons_zero, List.set_cons_succ, i64_w, i32_w]
                        rfl
                      refine one_ (i := 25) (N := some 115) #[true, true, true, true, true, true, true, true, true, true, true, true, true, true, true, true, true, true, true, true, true, true, true, true, true, true, false, false, false] rfl rfl (one_of HT_.out (by kernel_rfl)) (by decide) (fun K hK => ?_)
                      refine goes_ Try.func79 (by kernel_rfl) rfl #[.int .i64 ((rd_T82 l0 x6_11).f2), .int .i64 ((rd_T82 l0 (ji23)).f2), .int .i64 (wrap64 (a1 - ((rd_T82 l0 x6_11).f0.f0))), .int .i64 (wrap64 (((rd_T82 l0 (ji23)).f0.f0) - ((rd_T82 l0 x6_11).f0.f0)))] (by rfl) rfl rfl (by (try simp only [List.map_toArray, List.map_cons, List.map_nil]); first | done | (simp only [hji23]; rfl) | rfl | (simp only [List.length_drop, List.length_take]; rfl)) ?_
                      with_reducible refine (CA29.out _).mono ?_
                      rintro e w' ⟨rfl, ⟨nd, rfl⟩⟩
                      refine ⟨_, rfl, ?_⟩
                      refine hK.out _ _ ⟨(blk_cell BK137.out 0).trans rfl, (blk_cell BK137.out 1).trans rfl, (blk_cell BK131.out 0).trans rfl, (blk_cell BK131.out 1).trans rfl, (blk_cell BK131.out 2).trans rfl, (blk_cell BK131.out 3).trans rfl, (blk_cell BK131.out 4).trans rfl, (blk_cell BK131.out 5).trans rfl, (blk_cell BK133.out 0).trans rfl, (blk_cell BK133.out 1).trans rfl, (blk_cell BK133.out 2).trans rfl, (blk_cell BK133.out 3).trans rfl, (blk_cell BK133.out 4).trans rfl, (blk_cell BK133.out 5).trans rfl⟩ (fun hHeld => ?_)
                      clear hK K
                      refine norm_ (a' := ?_) ?_ ?_
                      rotate_left
                      · show Act.put _ (some 115) _ = _
                        simp only [Act.put, List.setIfInBounds_toArray, List.set_cons_zero, List.set_cons_succ, i64_w, i32_w]
                        rfl
                      refine pure_ (i := 26) (N := some 116) (v := ?_) (a' := ?_) #[true, true, true, true, true, true, true, true, true, true, true, true, true, true, true, true, true, true, true, true, true, true, true, true, true, true, true, false, false] rfl rfl (any_of HT_.out (by kernel_rfl)) (fun _ _ _ h => h) (Or.inl ⟨by rfl, ?_⟩) ?_ ?_
                      rotate_left
                      · intro w'
                        go_simp
                        with_reducible rfl
                      rotate_left
                      · simp only [Act.put, List.setIfInBounds_toArray, List.set_cons_zero, List.set_cons_succ, i64_w, i32_w]
                        rfl
                      refine one_ (i := 27) (N := none) #[true, true, true, true, true, true, true, true, true, true, true, true, true, true, true, true, true, true, true, true, true, true, true, true, true, true, true, true, false] rfl rfl (one_of HT_.out (by kernel_rfl)) (by decide) (fun K hK => ?_)
                      have hs39 : w38.cell? ⟨gb126, 0, none⟩ = some (.int .i64 0) := (blk_cell BK126.out 0).trans rfl
                      have hfs39 := blk_frozen BK126.out 0
                      have hns39_1 := NB131_126.out
                      have hns39_2 := NB133_126.out
                      have hns39_3 := NB137_126.out
                      have hms39_1 := NB126_131.out
                      have hms39_2 := NB126_133.out
                      have hms39_3 := NB126_137.out
                      have hs40 : w38.cell? ⟨gb126, 1, none⟩ = some (.int .i64 0) := (blk_cell BK126.out 1).trans rfl
                      have hfs40 := blk_frozen BK126.out 1
                      have hns40_1 := NB131_126.out
                      have hns40_2 := NB133_126.out
                      have hns40_3 := NB137_126.out
                      have hms40_1 := NB126_131.out
                      have hms40_2 := NB126_133.out
                      have hms40_3 := NB126_137.out
                      have hs41 : w38.cell? ⟨gb126, 2, none⟩ = some (.int .i64 0) := (blk_cell BK126.out 2).trans rfl
                      have hfs41 := blk_frozen BK126.out 2
                      have hns41_1 := NB131_126.out
                      have hns41_2 := NB133_126.out
                      have hns41_3 := NB137_126.out
                      have hms41_1 := NB126_131.out
                      have hms41_2 := NB126_133.out
                      have hms41_3 := NB126_137.out
                      have hs42 : w38.cell? ⟨gb126, 3, none⟩ = some (.int .i64 0) := (blk_cell BK126.out 3).trans rfl
                      have hfs42 := blk_frozen BK126.out 3
                      have hns42_1 := NB131_126.out
                      have hns42_2 := NB133_126.out
                      have hns42_3 := NB137_126.out
                      have hms42_1 := NB126_131.out
                      have hms42_2 := NB126_133.out
                      have hms42_3 := NB126_137.out
                      have hs43 : w38.cell? ⟨gb126, 4, none⟩ = some (.int .i64 0) := (blk_cell BK126.out 4).trans rfl
                      have hfs43 := blk_frozen BK126.out 4
                      have hns43_1 := NB131_126.out
                      have hns43_2 := NB133_126.out
                      have hns43_3 := NB137_126.out
                      have hms43_1 := NB126_131.out
                      have hms43_2 := NB126_133.out
                      have hms43_3 := NB126_137.out
                      have hs44 : w38.cell? ⟨gb126, 5, none⟩ = some (.int .i64 0) := (blk_cell BK126.out 5).trans rfl
                      have hfs44 := blk_frozen BK126.out 5
                      have hns44_1 := NB131_126.out
                      have hns44_2 := NB133_126.out
                      have hns44_3 := NB137_126.out
                      have hms44_1 := NB126_131.out
                      have hms44_2 := NB126_133.out
                      have hms44_3 := NB126_137.out
                      refine skip_ (w1 := ?_) (by rfl) rfl ?_ ?_
                      rotate_left
                      · go_simp
                        rfl
                      refine hK.out _ _ ⟨((cell_far (p := ⟨gb126, _, none⟩) NB137_126.out _).trans (((cell_far (p := ⟨gb126, _, none⟩) NB137_126.out _).trans (((cell_far (p := ⟨gb126, _, none⟩) NB137_126.out _).trans (((cell_far (p := ⟨gb126, _, none⟩) NB137_126.out _).trans (((cell_far (p := ⟨gb126, _, none⟩) NB137_126.out _).trans (((cell_far (p := ⟨gb126, _, none⟩) NB137_126.out _).trans (hHeld.1)))))))))))), ((cell_far (p := ⟨gb126, _, none⟩) NB137_126.out _).trans (((cell_far (p := ⟨gb126, _, none⟩) NB137_126.out _).trans (((cell_far (p := ⟨gb126, _, none⟩) NB137_126.out _).trans (((cell_far (p := ⟨gb126, _, none⟩) NB137_126.out _).trans (((cell_far (p := ⟨gb126, _, none⟩) NB137_126.out _).trans (((cell_far (p := ⟨gb126, _, none⟩) NB137_126.out _).trans (hHeld.2.1)))))))))))), ((cell_far (p := ⟨gb126, _, none⟩) NB131_126.out _).trans (((cell_far (p := ⟨gb126, _, none⟩) NB131_126.out _).trans (((cell_far (p := ⟨gb126, _, none⟩) NB131_126.out _).trans (((cell_far (p := ⟨gb126, _, none⟩) NB131_126.out _).trans (((cell_far (p := ⟨gb126, _, none⟩) NB131_126.out _).trans (((cell_far (p := ⟨gb126, _, none⟩) NB131_126.out _).trans (hHeld.2.2.1)))))))))))), ((cell_far (p := ⟨gb126, _, none⟩) NB131_126.out _).trans (((cell_far (p := ⟨gb126, _, none⟩) NB131_126.out _).trans (((cell_far (p := ⟨gb126, _, none⟩) NB131_126.out _).trans (((cell_far (p := ⟨gb126, _, none⟩) NB131_126.out _).trans (((cell_far (p := ⟨gb126, _, none⟩) NB131_126.out _).trans (((cell_far (p := ⟨gb126, _, none⟩) NB131_126.out _).trans (hHeld.2.2.2.1)))))))))))), ((cell_far (p := ⟨gb126, _, none⟩) NB131_126.out _).trans (((cell_far (p := ⟨gb126, _, none⟩) NB131_126.out _).trans (((cell_far (p := ⟨gb126, _, none⟩) NB131_126.out _).trans (((cell_far (p := ⟨gb126, _, none⟩) NB131_126.out _).trans (((cell_far (p := ⟨gb126, _, none⟩) NB131_126.out _).trans (((cell_far (p := ⟨gb126, _, none⟩) NB131_126.out _).trans (hHeld.2.2.2.2.1)))))))))))), ((cell_far (p := ⟨gb126, _, none⟩) NB131_126.out _).trans (((cell_far (p := ⟨gb126, _, none⟩) NB131_126.out _).trans (((cell_far (p := ⟨gb126, _, none⟩) NB131_126.out _).trans (((cell_far (p := ⟨gb126, _, none⟩) NB131_126.out _).trans (((cell_far (p := ⟨gb126, _, none⟩) NB131_126.out _).trans (((cell_far (p := ⟨gb126, _, none⟩) NB131_126.out _).trans (hHeld.2.2.2.2.2.1)))))))))))), ((cell_far (p := ⟨gb126, _, none⟩) NB131_126.out _).trans (((cell_far (p := ⟨gb126, _, none⟩) NB131_126.out _).trans (((cell_far (p := ⟨gb126, _, none⟩) NB131_126.out _).trans (((cell_far (p := ⟨gb126, _, none⟩) NB131_126.out _).trans (((cell_far (p := ⟨gb126, _, none⟩) NB131_126.out _).trans (((cell_far (p := ⟨gb126, _, none⟩) NB131_126.out _).trans (hHeld.2.2.2.2.2.2.1)))))))))))), ((cell_far (p := ⟨gb126, _, none⟩) NB131_126.out _).trans (((cell_far (p := ⟨gb126, _, none⟩) NB131_126.out _).trans (((cell_far (p := ⟨gb126, _, none⟩) NB131_126.out _).trans (((cell_far (p := ⟨gb126, _, none⟩) NB131_126.out _).trans (((cell_far (p := ⟨gb126, _, none⟩) NB131_126.out _).trans (((cell_far (p := ⟨gb126, _, none⟩) NB131_126.out _).trans (hHeld.2.2.2.2.2.2.2.1)))))))))))), ((cell_far (p := ⟨gb126, _, none⟩) NB133_126.out _).trans (((cell_far (p := ⟨gb126, _, none⟩) NB133_126.out _).trans (((cell_far (p := ⟨gb126, _, none⟩) NB133_126.out _).trans (((cell_far (p := ⟨gb126, _, none⟩) NB133_126.out _).trans (((cell_far (p := ⟨gb126, _, none⟩) NB133_126.out _).trans (((cell_far (p := ⟨gb126, _, none⟩) NB133_126.out _).trans (hHeld.2.2.2.2.2.2.2.2.1)))))))))))), ((cell_far (p := ⟨gb126, _, none⟩) NB133_126.out _).trans (((cell_far (p := ⟨gb126, _, none⟩) NB133_126.out _).trans (((cell_far (p := ⟨gb126, _, none⟩) NB133_126.out _).trans (((cell_far (p := ⟨gb126, _, none⟩) NB133_126.out _).trans (((cell_far (p := ⟨gb126, _, none⟩) NB133_126.out _).trans (((cell_far (p := ⟨gb126, _, none⟩) NB133_126.out _).trans (hHeld.2.2.2.2.2.2.2.2.2.1)))))))))))), ((cell_far (p := ⟨gb126, _, none⟩) NB133_126.out _).trans (((cell_far (p := ⟨gb126, _, none⟩) NB133_126.out _).trans (((cell_far (p := ⟨gb126, _, none⟩) NB133_126.out _).trans (((cell_far (p := ⟨gb126, _, none⟩) NB133_126.out _).trans (((cell_far (p := ⟨gb126, _, none⟩) NB133_126.out _).trans (((cell_far (p := ⟨gb126, _, none⟩) NB133_126.out _).trans (hHeld.2.2.2.2.2.2.2.2.2.2.1)))))))))))), ((cell_far (p := ⟨gb126, _, none⟩) NB133_126.out _).trans (((cell_far (p := ⟨gb126, _, none⟩) NB133_126.out _).trans (((cell_far (p := ⟨gb126, _, none⟩) NB133_126.out _).trans (((cell_far (p := ⟨gb126, _, none⟩) NB133_126.out _).trans (((cell_far (p := ⟨gb126, _, none⟩) NB133_126.out _).trans (((cell_far (p := ⟨gb126, _, none⟩) NB133_126.out _).trans (hHeld.2.2.2.2.2.2.2.2.2.2.2.1)))))))))))), ((cell_far (p := ⟨gb126, _, none⟩) NB133_126.out _).trans (((cell_far (p := ⟨gb126, _, none⟩) NB133_126.out _).trans (((cell_far (p := ⟨gb126, _, none⟩) NB133_126.out _).trans (((cell_far (p := ⟨gb126, _, none⟩) NB133_126.out _).trans (((cell_far (p := ⟨gb126, _, none⟩) NB133_126.out _).trans (((cell_far (p := ⟨gb126, _, none⟩) NB133_126.out _).trans (hHeld.2.2.2.2.2.2.2.2.2.2.2.2.1)))))))))))), ((cell_far (p := ⟨gb126, _, none⟩) NB133_126.out _).trans (((cell_far (p := ⟨gb126, _, none⟩) NB133_126.out _).trans (((cell_far (p := ⟨gb126, _, none⟩) NB133_126.out _).trans (((cell_far (p := ⟨gb126, _, none⟩) NB133_126.out _).trans (((cell_far (p := ⟨gb126, _, none⟩) NB133_126.out _).trans (((cell_far (p := ⟨gb126, _, none⟩) NB133_126.out _).trans (hHeld.2.2.2.2.2.2.2.2.2.2.2.2.2))))))))))))⟩ (fun hHeld => ?_)
                      clear hK K
                      refine pure_ (i := 28) (N := some 5) (v := ?_) (a' := ?_) #[true, true, true, true, true, true, true, true, true, true, true, true, true, true, true, true, true, true, true, true, true, true, true, true, true, true, true, true, true] rfl rfl (any_of HT_.out (by kernel_rfl)) (fun _ _ _ h => h) (Or.inl ⟨by rfl, ?_⟩) ?_ ?_
                      rotate_left
                      · intro w'
                        go_simp
                        with_reducible rfl
                      rotate_left
                      · simp only [Act.put, List.setIfInBounds_toArray, List.set_cons_zero, List.set_cons_succ, i64_w, i32_w]
                        rfl
                      refine done_ (done_of HT_.out (by kernel_rfl)) ?_
                      try go_wp2
                      refine bodyPost_ret (results_ct rfl _ _ gb126 82 #[.int .i64 a1, .int .i64 t134, .int .i64 t135, .int .i64 t138, .int .i64 t139, .int .i64 t140] (0, 0) _ rfl (by (with_reducible repeat (first | refine blk_drewN ?_ _ | refine blk_drew ?_ | refine blk_alloc ?_ _)); refine blk_put (cs := #[.int .i64 a1, .int .i64 t134, .int .i64 t135, .int .i64 t138, .int .i64 t139, .int .i64 0]) ?_ 5 _ rfl; (with_reducible repeat (first | refine blk_drewN ?_ _ | refine blk_drew ?_ | refine blk_alloc ?_ _)); refine blk_put (cs := #[.int .i64 a1, .int .i64 t134, .int .i64 t135, .int .i64 t138, .int .i64 0, .int .i64 0]) ?_ 4 _ rfl; (with_reducible repeat (first | refine blk_drewN ?_ _ | refine blk_drew ?_ | refine blk_alloc ?_ _)); refine blk_put (cs := #[.int .i64 a1, .int .i64 t134, .int .i64 t135, .int .i64 0, .int .i64 0, .int .i64 0]) ?_ 3 _ rfl; (with_reducible repeat (first | refine blk_drewN ?_ _ | refine blk_drew ?_ | refine blk_alloc ?_ _)); refine blk_put (cs := #[.int .i64 a1, .int .i64 t134, .int .i64 0, .int .i64 0, .int .i64 0, .int .i64 0]) ?_ 2 _ rfl; (with_reducible repeat (first | refine blk_drewN ?_ _ | refine blk_drew ?_ | refine blk_alloc ?_ _)); refine blk_put (cs := #[.int .i64 a1, .int .i64 0, .int .i64 0, .int .i64 0, .int .i64 0, .int .i64 0]) ?_ 1 _ rfl; (with_reducible repeat (first | refine blk_drewN ?_ _ | refine blk_drew ?_ | refine blk_alloc ?_ _)); refine blk_put (cs := #[.int .i64 0, .int .i64 0, .int .i64 0, .int .i64 0, .int .i64 0, .int .i64 0]) ?_ 0 _ rfl; (with_reducible repeat (first | refine blk_drewN ?_ _ | refine blk_drew ?_ | refine blk_alloc ?_ _)); exact BK126.out) Try.underlying82 rfl (by kernel_rfl)) rfl ?_
                      exact ⟨by first | rfl | (simp [errW_none, errW_some] <;> rfl) | (simp only [← hji23]; first | rfl | (simp [errW_none, errW_some] <;> rfl)) | (simp [*, errW_none, errW_some] <;> rfl), by repeat (first | (with_reducible first | exact HB.out | apply below_alloc | apply pw_below_drewN | apply below_drew1 | refine below_set ?_ GE126.out | refine below_set ?_ GE131.out | refine below_set ?_ GE133.out | refine below_set ?_ GE137.out) | exact HB.out)⟩
                    · rw [if_neg c25] at H
                      exact absurd H (by simp)
                  · rw [if_neg c24] at H
                    exact absurd H (by simp)
              · rw [if_neg c18] at H
                exact absurd H (by simp)
            · rw [if_neg c17] at H
              exact absurd H (by simp)

end Go.Proofs.Ytehgapcmngdcnaa.MConformSound
