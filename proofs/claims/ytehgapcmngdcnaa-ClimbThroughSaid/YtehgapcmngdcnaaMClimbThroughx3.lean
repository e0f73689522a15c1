-- Written for this claim by a program of this session out of the translation (functions with function values and the like). Lean checks it.
import Derived.Test.YtehgapcmngdcnaaMClimbThroughx0
import Derived.Test.YtehgapcmngdcnaaMClimbThroughx1
import Derived.Test.YtehgapcmngdcnaaMClimbThroughx2
namespace Go.Proofs.Ytehgapcmngdcnaa.MClimbThrough
open Go.RowKit Go.Proofs.Ytehgapcmngdcnaa.Evt Go.Proofs.YtehgapcmngdcnaaW.PrintWords Go.Proofs.YtehgapcmngdcnaaW.PrintLast Go.Proofs.YtehgapcmngdcnaaW.PrintMore
attribute [local go_sem] max2_int min2_int max_two min_two max_three min_three max_four min_four   -- for this text's walks alone
set_option linter.unusedVariables false
set_option linter.unusedSimpArgs false

/-! ### skywaykeep2_ClimbThrough: function 4 -/
mutual
def skywaykeep2_ClimbThrough.j0 : Nat → List (S31) → Int → Int → Int → Bool → Option (Bool)
  | 0, _, _, _, _, _ => none
  | k + 1, x0, x1, x2, x3, x33 => if x33 = true then (some false) else ((skywaykeep2_within.f x3 0 100).bind fun t142 => ((climb_Through.f k x0 x1 x2 t142).bind fun bt143 => (if bt143.2 = 0 then (skywaykeep2_ClimbThrough.j1 k x0 x1 x2 t142 bt143.1 bt143.2 ((x0.length : Int) == 0)) else (if bt143.2 = 8 then (skywaykeep2_ClimbThrough.j1 k x0 x1 x2 t142 bt143.1 bt143.2 ((x0.length : Int) == 0)) else (skywaykeep2_ClimbThrough.j1 k x0 x1 x2 t142 bt143.1 bt143.2 true)))))
def skywaykeep2_ClimbThrough.j1 : Nat → List (S31) → Int → Int → Int → Int → Int → Bool → Option (Bool)
  | 0, _, _, _, _, _, _, _ => none
  | k + 1, x0, x1, x2, x3, x12, x13, x54 => if x54 = true then (some (x12 == 0)) else (if x13 = 0 then (skywaykeep2_ClimbThrough.j2 k x0 x1 x2 (wrap64 (x12 - 1))) else (skywaykeep2_ClimbThrough.j2 k x0 x1 x2 (wrap64 (x2 + x3))))
def skywaykeep2_ClimbThrough.j2 : Nat → List (S31) → Int → Int → Int → Option (Bool)
  | 0, _, _, _, _ => none
  | k + 1, x0, x1, x2, x14 => skywaykeep2_ClimbThrough.l0 k x0 x1 x14 x2
def skywaykeep2_ClimbThrough.l0 : Nat → List (S31) → Int → Int → Int → Option (Bool)
  | 0, _, _, _, _ => none
  | k + 1, x0, x1, x14, x15 => if x15 ≤ x14 then (skywaykeep2_ClimbThrough.j4 k x0 x1 x14 x15 (decide (x15 ≤ 200000))) else (skywaykeep2_ClimbThrough.j4 k x0 x1 x14 x15 false)
def skywaykeep2_ClimbThrough.j4 : Nat → List (S31) → Int → Int → Int → Bool → Option (Bool)
  | 0, _, _, _, _, _ => none
  | k + 1, x0, x1, x14, x15, x71 => if x71 = true then ((climb_Heights.f k x0 x15).bind fun bt145 => (if 0 ≤ (wrap64 ((x0.length : Int) - 1)) then (if (wrap64 ((x0.length : Int) - 1)) < (x0.length : Int) then (if bt145.2.2 = 0 then (if x1 ≥ ((rd_T31 x0 (wrap64 ((x0.length : Int) - 1))).f1) then (if bt145.2.1 ≥ (wrap64 (100 * x1)) then (some false) else (if (x1 ≥ ((rd_T31 x0 (wrap64 ((x0.length : Int) - 1))).f1)) then (skywaykeep2_ClimbThrough.l0 k x0 x1 x14 (wrap64 (x15 + 1))) else (if bt145.1 < (wrap64 ((wrap64 (100 * x1)) + 100)) then (some false) else (skywaykeep2_ClimbThrough.l0 k x0 x1 x14 (wrap64 (x15 + 1)))))) else (if (x1 ≥ ((rd_T31 x0 (wrap64 ((x0.length : Int) - 1))).f1)) then (skywaykeep2_ClimbThrough.l0 k x0 x1 x14 (wrap64 (x15 + 1))) else (if bt145.1 < (wrap64 ((wrap64 (100 * x1)) + 100)) then (some false) else (skywaykeep2_ClimbThrough.l0 k x0 x1 x14 (wrap64 (x15 + 1)))))) else (skywaykeep2_ClimbThrough.l0 k x0 x1 x14 (wrap64 (x15 + 1)))) else (none)) else (none))) else (some true)
end
def skywaykeep2_ClimbThrough.f (k : Nat) (l0 : List (S31)) (a1 : Int) (a2 : Int) (a3 : Int) : Option (Bool) := (climb_Through.f k (([(⟨0, 10⟩ : S31), (⟨100, 20⟩ : S31)] : List (S31))) 30 100 600).bind fun bt140 => (if bt140.2 = 0 then (skywaykeep2_ClimbThrough.j0 k l0 a1 a2 a3 (decide (bt140.1 ≤ 100))) else (skywaykeep2_ClimbThrough.j0 k l0 a1 a2 a3 true))
theorem skywaykeep2_ClimbThrough.mono_l : ∀ k, (∀ y0 y1 y2 y3 y4, LeO (skywaykeep2_ClimbThrough.j0 k y0 y1 y2 y3 y4) (skywaykeep2_ClimbThrough.j0 (k + 1) y0 y1 y2 y3 y4)) ∧ (∀ y0 y1 y2 y3 y4 y5 y6, LeO (skywaykeep2_ClimbThrough.j1 k y0 y1 y2 y3 y4 y5 y6) (skywaykeep2_ClimbThrough.j1 (k + 1) y0 y1 y2 y3 y4 y5 y6)) ∧ (∀ y0 y1 y2 y3, LeO (skywaykeep2_ClimbThrough.j2 k y0 y1 y2 y3) (skywaykeep2_ClimbThrough.j2 (k + 1) y0 y1 y2 y3)) ∧ (∀ y0 y1 y2 y3, LeO (skywaykeep2_ClimbThrough.l0 k y0 y1 y2 y3) (skywaykeep2_ClimbThrough.l0 (k + 1) y0 y1 y2 y3)) ∧ (∀ y0 y1 y2 y3 y4, LeO (skywaykeep2_ClimbThrough.j4 k y0 y1 y2 y3 y4) (skywaykeep2_ClimbThrough.j4 (k + 1) y0 y1 y2 y3 y4))
  | 0 => ⟨fun _ _ _ _ _ r h => by simp [skywaykeep2_ClimbThrough.j0] at h, fun _ _ _ _ _ _ _ r h => by simp [skywaykeep2_ClimbThrough.j1] at h, fun _ _ _ _ r h => by simp [skywaykeep2_ClimbThrough.j2] at h, fun _ _ _ _ r h => by simp [skywaykeep2_ClimbThrough.l0] at h, fun _ _ _ _ _ r h => by simp [skywaykeep2_ClimbThrough.j4] at h⟩
  | k + 1 => by
    obtain ⟨ih0, ih1, ih2, ih3, ih4⟩ := skywaykeep2_ClimbThrough.mono_l k
    refine ⟨?_, ?_, ?_, ?_, ?_⟩
    · intro y0 y1 y2 y3 y4
      unfold skywaykeep2_ClimbThrough.j0
      repeat' first
      | (with_reducible exact ih0 _ _ _ _ _)
      | (with_reducible exact ih1 _ _ _ _ _ _ _)
      | (with_reducible exact ih2 _ _ _ _)
      | (with_reducible exact ih3 _ _ _ _)
      | (with_reducible exact ih4 _ _ _ _ _)
      | (with_reducible exact climb_Heights.mono _ _ _)
      | (with_reducible exact climb_Through.mono _ _ _ _ _)
      | (with_reducible exact LeO.refl _)
      | (with_reducible exact LeO.none _)
      | (with_reducible refine LeO.ite ?_ ?_)
      | (with_reducible refine LeO.bind ?_ (fun _ => ?_))
      | exact ih0 _ _ _ _ _
      | exact ih1 _ _ _ _ _ _ _
      | exact ih2 _ _ _ _
      | exact ih3 _ _ _ _
      | exact ih4 _ _ _ _ _
      | exact climb_Heights.mono _ _ _
      | exact climb_Through.mono _ _ _ _ _
      | exact LeO.none _
      | refine LeO.ite ?_ ?_
      | refine LeO.bind ?_ (fun _ => ?_)
    · intro y0 y1 y2 y3 y4 y5 y6
      unfold skywaykeep2_ClimbThrough.j1
      repeat' first
      | (with_reducible exact ih0 _ _ _ _ _)
      | (with_reducible exact ih1 _ _ _ _ _ _ _)
      | (with_reducible exact ih2 _ _ _ _)
      | (with_reducible exact ih3 _ _ _ _)
      | (with_reducible exact ih4 _ _ _ _ _)
      | (with_reducible exact climb_Heights.mono _ _ _)
      | (with_reducible exact climb_Through.mono _ _ _ _ _)
      | (with_reducible exact LeO.refl _)
      | (with_reducible exact LeO.none _)
      | (with_reducible refine LeO.ite ?_ ?_)
      | (with_reducible refine LeO.bind ?_ (fun _ => ?_))
      | exact ih0 _ _ _ _ _
      | exact ih1 _ _ _ _ _ _ _
      | exact ih2 _ _ _ _
      | exact ih3 _ _ _ _
      | exact ih4 _ _ _ _ _
      | exact climb_Heights.mono _ _ _
      | exact climb_Through.mono _ _ _ _ _
      | exact LeO.none _
      | refine LeO.ite ?_ ?_
      | refine LeO.bind ?_ (fun _ => ?_)
    · intro y0 y1 y2 y3
      unfold skywaykeep2_ClimbThrough.j2
      repeat' first
      | (with_reducible exact ih0 _ _ _ _ _)
      | (with_reducible exact ih1 _ _ _ _ _ _ _)
      | (with_reducible exact ih2 _ _ _ _)
      | (with_reducible exact ih3 _ _ _ _)
      | (with_reducible exact ih4 _ _ _ _ _)
      | (with_reducible exact climb_Heights.mono _ _ _)
      | (with_reducible exact climb_Through.mono _ _ _ _ _)
      | (with_reducible exact LeO.refl _)
      | (with_reducible exact LeO.none _)
      | (with_reducible refine LeO.ite ?_ ?_)
      | (with_reducible refine LeO.bind ?_ (fun _ => ?_))
      | exact ih0 _ _ _ _ _
      | exact ih1 _ _ _ _ _ _ _
      | exact ih2 _ _ _ _
      | exact ih3 _ _ _ _
      | exact ih4 _ _ _ _ _
      | exact climb_Heights.mono _ _ _
      | exact climb_Through.mono _ _ _ _ _
      | exact LeO.none _
      | refine LeO.ite ?_ ?_
      | refine LeO.bind ?_ (fun _ => ?_)
    · intro y0 y1 y2 y3
      unfold skywaykeep2_ClimbThrough.l0
      repeat' first
      | (with_reducible exact ih0 _ _ _ _ _)
      | (with_reducible exact ih1 _ _ _ _ _ _ _)
      | (with_reducible exact ih2 _ _ _ _)
      | (with_reducible exact ih3 _ _ _ _)
      | (with_reducible exact ih4 _ _ _ _ _)
      | (with_reducible exact climb_Heights.mono _ _ _)
      | (with_reducible exact climb_Through.mono _ _ _ _ _)
      | (with_reducible exact LeO.refl _)
      | (with_reducible exact LeO.none _)
      | (with_reducible refine LeO.ite ?_ ?_)
      | (with_reducible refine LeO.bind ?_ (fun _ => ?_))
      | exact ih0 _ _ _ _ _
      | exact ih1 _ _ _ _ _ _ _
      | exact ih2 _ _ _ _
      | exact ih3 _ _ _ _
      | exact ih4 _ _ _ _ _
      | exact climb_Heights.mono _ _ _
      | exact climb_Through.mono _ _ _ _ _
      | exact LeO.none _
      | refine LeO.ite ?_ ?_
      | refine LeO.bind ?_ (fun _ => ?_)
    · intro y0 y1 y2 y3 y4
      unfold skywaykeep2_ClimbThrough.j4
      repeat' first
      | (with_reducible exact ih0 _ _ _ _ _)
      | (with_reducible exact ih1 _ _ _ _ _ _ _)
      | (with_reducible exact ih2 _ _ _ _)
      | (with_reducible exact ih3 _ _ _ _)
      | (with_reducible exact ih4 _ _ _ _ _)
      | (with_reducible exact climb_Heights.mono _ _ _)
      | (with_reducible exact climb_Through.mono _ _ _ _ _)
      | (with_reducible exact LeO.refl _)
      | (with_reducible exact LeO.none _)
      | (with_reducible refine LeO.ite ?_ ?_)
      | (with_reducible refine LeO.bind ?_ (fun _ => ?_))
      | exact ih0 _ _ _ _ _
      | exact ih1 _ _ _ _ _ _ _
      | exact ih2 _ _ _ _
      | exact ih3 _ _ _ _
      | exact ih4 _ _ _ _ _
      | exact climb_Heights.mono _ _ _
      | exact climb_Through.mono _ _ _ _ _
      | exact LeO.none _
      | refine LeO.ite ?_ ?_
      | refine LeO.bind ?_ (fun _ => ?_)
theorem skywaykeep2_ClimbThrough.mono : ∀ a0 a1 a2 a3 k, LeO (skywaykeep2_ClimbThrough.f k a0 a1 a2 a3) (skywaykeep2_ClimbThrough.f (k + 1) a0 a1 a2 a3) := by
  intro a0 a1 a2 a3 k
  obtain ⟨ih0, ih1, ih2, ih3, ih4⟩ := skywaykeep2_ClimbThrough.mono_l k
  unfold skywaykeep2_ClimbThrough.f
  repeat' first
      | (with_reducible exact ih0 _ _ _ _ _)
      | (with_reducible exact ih1 _ _ _ _ _ _ _)
      | (with_reducible exact ih2 _ _ _ _)
      | (with_reducible exact ih3 _ _ _ _)
      | (with_reducible exact ih4 _ _ _ _ _)
      | (with_reducible exact climb_Heights.mono _ _ _)
      | (with_reducible exact climb_Through.mono _ _ _ _ _)
      | (with_reducible exact LeO.refl _)
      | (with_reducible exact LeO.none _)
      | (with_reducible refine LeO.ite ?_ ?_)
      | (with_reducible refine LeO.bind ?_ (fun _ => ?_))
      | exact ih0 _ _ _ _ _
      | exact ih1 _ _ _ _ _ _ _
      | exact ih2 _ _ _ _
      | exact ih3 _ _ _ _
      | exact ih4 _ _ _ _ _
      | exact climb_Heights.mono _ _ _
      | exact climb_Through.mono _ _ _ _ _
      | exact LeO.none _
      | refine LeO.ite ?_ ?_
      | refine LeO.bind ?_ (fun _ => ?_)
set_option maxHeartbeats 80000000 in
set_option maxRecDepth 100000 in
theorem skywaykeep2_ClimbThrough.calls (k : Nat) (A0 : Option Addr) (c0 : Nat) (l0 : List (S31)) (a1 : Int) (a2 : Int) (a3 : Int) (r : Bool) (w : World) (hr0 : Kd.C k31 w A0 l0.length l0) (hc0 : l0.length ≤ c0) (h : skywaykeep2_ClimbThrough.f k l0 a1 a2 a3 = some r) :
    Calls Try.prog 4 #[.slice A0 l0.length c0, .int .i64 a1, .int .i64 a2, .int .i64 a3] w fun e w' => e = .returned (.bool r) ∧ Below w.heap.size w w' := by
  have hu31 := Try.underlying31
  have HR0 := Aside0.mk hr0
  have HC0 := Aside0.mk hc0
  clear hr0 hc0
  have HB := Aside0.mk (Below.refl w.heap.size w)
  have H : ((climb_Through.f k (([(⟨0, 10⟩ : S31), (⟨100, 20⟩ : S31)] : List (S31))) 30 100 600).bind fun bt140 => (if bt140.2 = 0 then (skywaykeep2_ClimbThrough.j0 k l0 a1 a2 a3 (decide (bt140.1 ≤ 100))) else (skywaykeep2_ClimbThrough.j0 k l0 a1 a2 a3 true))) = some r := h
  clear h
  obtain ⟨y137, hy137⟩ : ∃ y_ : List (S31), y_ = (([(⟨0, 10⟩ : S31), (⟨100, 20⟩ : S31)] : List (S31))) := ⟨_, rfl⟩
  replace H : ((climb_Through.f k y137 30 100 600).bind fun bt140 => (if bt140.2 = 0 then (skywaykeep2_ClimbThrough.j0 k l0 a1 a2 a3 (decide (bt140.1 ≤ 100))) else (skywaykeep2_ClimbThrough.j0 k l0 a1 a2 a3 true))) = some r := by first | (rw [hy137]; with_reducible exact H) | (have H2_ := (Option.bind_some _ _).symm.trans H; rw [hy137]; with_reducible exact H2_) | (have H2_ := (Option.bind_some _ _).symm.trans H; with_reducible exact H2_) | with_reducible exact H | (rw [hy137]; exact H) | exact H
  have Ny137 := Aside0.mk hy137
  clear hy137
  replace H := Option.bind_eq_some_iff.mp H
  obtain ⟨⟨t140, t141⟩, A50, H⟩ := H
  replace H : (if t141 = 0 then (skywaykeep2_ClimbThrough.j0 k l0 a1 a2 a3 (decide (t140 ≤ 100))) else (skywaykeep2_ClimbThrough.j0 k l0 a1 a2 a3 true)) = some r := H
  have A5 := Aside0.mk A50
  clear A50
  have HC6 := Aside0.mk H
  clear H
  go_enter Try.func4, Try.ntmps4
  go_upto_region 3 with (first | ((with_reducible refine gate_dst (N := 22) rfl ?_); (try (refine gate_guard (by rfl) ?_; dsimp only)); refine Kd.R_lit k31 _ 31 ?hg (N := 22) ?hd (xs := ([(⟨0, 10⟩ : S31), (⟨100, 20⟩ : S31)] : List (S31))) (inner := [.int .i64 0, .int .i64 10, .int .i64 100, .int .i64 20]) (ok := fun _ => True) (okp := fun _ => True) ?hr ?hp (fun _ hk => hk) trivial (Below.refl _ _) (Nat.le_refl _) (by simp) ?_; (case hd => rfl); (case hg => rfl); (case hr => first | (go_simp; done) | (go_simp; rfl)); (case hp => exact (Reps.c2 (show Kd.M k31 _ _ _ (⟨0, 10⟩ : S31) [.int .i64 0, .int .i64 10] from (k31_mkM _ _ _ (⟨0, 10⟩ : S31) )) (Reps.c2 (show Kd.M k31 _ _ _ (⟨100, 20⟩ : S31) [.int .i64 100, .int .i64 20] from (k31_mkM _ _ _ (⟨100, 20⟩ : S31) )) (Reps.none _ _)))); intro v138 w7 ho8 hb hg_ hnew_; clear hg_ hnew_; (first | rw [← Ny137.out] at ho8 | (simp only [Int.reduceToNat] at ho8; rw [← Ny137.out] at ho8)); have n0_ := Aside0.mk (Kd.R_lower ho8 (below_size (by repeat (first | (with_reducible first | exact HB.out | apply below_alloc | apply pw_below_drewN | apply below_drew1) | exact HB.out)))); have n1_ := Aside0.mk (below_step (by repeat (first | (with_reducible first | exact HB.out | apply below_alloc | apply pw_below_drewN | apply below_drew1) | exact HB.out)) hb); clear HB; have HO139 := n0_; have HB := n1_; clear n0_ n1_; clear hb ho8; obtain ⟨Ao9, co9, eo9⟩ := Kd.R_slice HO139.out; subst eo9) | ((with_reducible refine gate_callee (f := 21) rfl ?_); refine goesL_ (some 25) rfl rfl Try.func21 (by kernel_rfl) rfl #[.slice Ao9 y137.length co9, .int .i64 30, .int .i64 100, .int .i64 600] rfl (by (try simp only [List.map_toArray, List.map_cons, List.map_nil]); first | done | rfl | (simp only [List.length_drop, List.length_take]; rfl)) ?_; (with_reducible refine (climb_Through.calls k _ _ y137 30 100 600 t140 t141 _ ?side1 ?side2 A5.out).mono ?_); (case side1 => repeat (first | exact (Kd.R_reads' HO139.out).2.2 | (with_reducible refine Kd.C_alloc ?_ _) | (with_reducible refine Kd.C_drewN ?_ _) | (with_reducible refine Kd.C_drew ?_))); (case side2 => exact (Kd.R_reads' HO139.out).2.1); rintro e w10 ⟨rfl, hb⟩; refine ⟨_, rfl, ?_⟩; have n0_ := Aside0.mk (Kd.R_below (by (with_reducible repeat (first | apply Kd.R_alloc | apply Kd.R_drewN | apply Kd.R_drew)); exact HO139.out) hb); have n1_ := Aside0.mk (below_step (by repeat (first | (with_reducible first | exact HB.out | apply below_alloc | apply pw_below_drewN | apply below_drew1) | exact HB.out)) hb); clear HO139; clear HB; have HO139 := n0_; have HB := n1_; clear n0_ n1_; (try clear hb); (try clear hb2); (try clear hk); (try clear hi)))
  (try simp only [Act.put, List.setIfInBounds_toArray, List.set_cons_zero, List.set_cons_succ])
  go_cut [33] (fun v33 wc => ∃ (kq : Nat) (x33_5 : Bool), v33 = .bool x33_5 ∧ Aside0 (skywaykeep2_ClimbThrough.j0 kq l0 a1 a2 a3 x33_5 = some r) ∧ Aside0 (kq ≤ k) ∧ Aside0 (Below w.heap.size w wc))
  case first =>
    have H := HC6.out
    clear HC6
    by_cases c11 : t141 = 0
    · rw [if_pos c11] at H
      have c11b0 : (t141 == 0) = true := beq_iff_eq.mpr c11
      have c11b1 : (t141 != 0) = false := bne_eq_false_iff_eq.mpr c11
      clear c11
      (first | rw [c11b0] | (simp only [i64_w, i32_w]; rw [c11b0]) | skip)
      have H' := Aside0.mk H
      clear H
      go_wp2
      go_meet
      case rel => exact ⟨_, (decide (t140 ≤ 100)), (by first | rfl | (simp; done) | (simp [*]; done)), H', ⟨by first | omega | exact Nat.le_refl _⟩, ⟨by repeat (first | (with_reducible first | exact HB.out | apply below_alloc | apply pw_below_drewN | apply below_drew1) | exact HB.out)⟩⟩
    · rw [if_neg c11] at H
      have c11b0 : (t141 == 0) = false := beq_eq_false_iff_ne.mpr c11
      have c11b1 : (t141 != 0) = true := bne_iff_ne.mpr c11
      (first | rw [c11b0] | (simp only [i64_w, i32_w]; rw [c11b0]) | skip)
      have H' := Aside0.mk H
      clear H
      go_wp2
      go_meet
      case rel => exact ⟨_, (true), (by first | rfl | (simp; done) | (simp [*]; done)), H', ⟨by first | omega | exact Nat.le_refl _⟩, ⟨by repeat (first | (with_reducible first | exact HB.out | apply below_alloc | apply pw_below_drewN | apply below_drew1) | exact HB.out)⟩⟩
  case rest =>
    clear HC6
    try clear c1
    try clear c2
    try clear p2
    try clear c4
    try clear c11
    try clear c11b0
    try clear c11b1
    obtain ⟨kq, x33_5, rfl, HA, HJ5, HB⟩ := hcut
    cases kq with
    | zero => exact absurd HA.out (by simp [skywaykeep2_ClimbThrough.j0])
    | succ kj5 =>
      have H := HA.out
      clear HA
      simp only [skywaykeep2_ClimbThrough.j0] at H
      by_cases c12 : x33_5 = true
      · subst c12
        have H1 : (some false) = some r := by rw [if_pos rfl] at H; exact H
        clear H
        have H := H1
        clear H1
        obtain rfl := Option.some.inj H
        go_wp2
        go_ret
        exact ⟨by first | rfl | (simp [errW_none, errW_some] <;> rfl) | (simp [*, errW_none, errW_some] <;> rfl), by repeat (first | (with_reducible first | exact HB.out | apply below_alloc | apply pw_below_drewN | apply below_drew1) | exact HB.out)⟩
      · replace c12 := Bool.eq_false_iff.mpr c12
        subst c12
        have H1 : ((skywaykeep2_within.f a3 0 100).bind fun t142 => ((climb_Through.f kj5 l0 a1 a2 t142).bind fun bt143 => (if bt143.2 = 0 then (skywaykeep2_ClimbThrough.j1 kj5 l0 a1 a2 t142 bt143.1 bt143.2 ((l0.length : Int) == 0)) else (if bt143.2 = 8 then (skywaykeep2_ClimbThrough.j1 kj5 l0 a1 a2 t142 bt143.1 bt143.2 ((l0.length : Int) == 0)) else (skywaykeep2_ClimbThrough.j1 kj5 l0 a1 a2 t142 bt143.1 bt143.2 true))))) = some r := by rw [if_neg (show ¬ (false = true) by decide)] at H; exact H
        clear H
        have H := H1
        clear H1
        replace H := Option.bind_eq_some_iff.mp H
        obtain ⟨t142, A130, H⟩ := H
        replace H : ((climb_Through.f kj5 l0 a1 a2 t142).bind fun bt143 => (if bt143.2 = 0 then (skywaykeep2_ClimbThrough.j1 kj5 l0 a1 a2 t142 bt143.1 bt143.2 ((l0.length : Int) == 0)) else (if bt143.2 = 8 then (skywaykeep2_ClimbThrough.j1 kj5 l0 a1 a2 t142 bt143.1 bt143.2 ((l0.length : Int) == 0)) else (skywaykeep2_ClimbThrough.j1 kj5 l0 a1 a2 t142 bt143.1 bt143.2 true)))) = some r := H
        have A13 := Aside0.mk A130
        have CA13 := Aside0.mk (fun W_ => skywaykeep2_within.calls a3 0 100 t142 W_ A130)
        clear A130
        replace H := Option.bind_eq_some_iff.mp H
        obtain ⟨⟨t143, t144⟩, A140, H⟩ := H
        replace H : (if t144 = 0 then (skywaykeep2_ClimbThrough.j1 kj5 l0 a1 a2 t142 t143 t144 ((l0.length : Int) == 0)) else (if t144 = 8 then (skywaykeep2_ClimbThrough.j1 kj5 l0 a1 a2 t142 t143 t144 ((l0.length : Int) == 0)) else (skywaykeep2_ClimbThrough.j1 kj5 l0 a1 a2 t142 t143 t144 true))) = some r := H
        have A14 := Aside0.mk A140
        clear A140
        have HC15 := Aside0.mk H
        clear H
        go_upto_region 7 with (first | ((with_reducible refine gate_callee (f := 16) rfl ?_); refine goesL_ (some 35) rfl rfl Try.func16 (by kernel_rfl) rfl _ rfl (by (try simp only [List.map_toArray, List.map_cons, List.map_nil]); first | done | rfl) ((CA13.out _).mono ?_); rintro e w' ⟨rfl, ⟨nd, rfl⟩⟩; refine ⟨_, rfl, ?_⟩) | ((with_reducible refine gate_callee (f := 21) rfl ?_); refine goesL_ (some 41) rfl rfl Try.func21 (by kernel_rfl) rfl #[.slice A0 l0.length c0, .int .i64 a1, .int .i64 a2, .int .i64 t142] rfl (by (try simp only [List.map_toArray, List.map_cons, List.map_nil]); first | done | rfl | (simp only [List.length_drop, List.length_take]; rfl)) ?_; (with_reducible refine (climb_Through.calls kj5 _ _ l0 a1 a2 t142 t143 t144 _ ?side1 ?side2 A14.out).mono ?_); (case side1 => repeat (first | exact (Kd.C_below HR0.out (by repeat (first | (with_reducible first | exact HB.out | apply below_alloc | apply pw_below_drewN | apply below_drew1) | exact HB.out))) | (with_reducible refine Kd.C_alloc ?_ _) | (with_reducible refine Kd.C_drewN ?_ _) | (with_reducible refine Kd.C_drew ?_))); (case side2 => exact HC0.out); rintro e w16 ⟨rfl, hb⟩; refine ⟨_, rfl, ?_⟩; have n0_ := Aside0.mk (below_step (by repeat (first | (with_reducible first | exact HB.out | apply below_alloc | apply pw_below_drewN | apply below_drew1) | exact HB.out)) hb); clear HB; have HB := n0_; clear n0_; (try clear hb); (try clear hb2); (try clear hk); (try clear hi)))
        (try simp only [Act.put, List.setIfInBounds_toArray, List.set_cons_zero, List.set_cons_succ])
        go_cut [54] (fun v54 wc => ∃ (kq : Nat) (x54_14 : Bool), v54 = .bool x54_14 ∧ Aside0 (skywaykeep2_ClimbThrough.j1 kq l0 a1 a2 t142 t143 t144 x54_14 = some r) ∧ Aside0 (kq ≤ kj5) ∧ Aside0 (Below w.heap.size w wc))
        case first =>
          have H := HC15.out
          clear HC15
          by_cases c17 : t144 = 0
          · rw [if_pos c17] at H
            have c17b0 : (t144 == 0) = true := beq_iff_eq.mpr c17
            have c17b1 : (t144 != 0) = false := bne_eq_false_iff_eq.mpr c17
            clear c17
            (first | rw [c17b0] | (simp only [i64_w, i32_w]; rw [c17b0]) | skip)
            have H' := Aside0.mk H
            clear H
            go_wp2
            go_meet
            case rel => exact ⟨_, (((l0.length : Int) == 0)), (by first | rfl | (simp; done) | (simp [*]; done)), H', ⟨by have := HJ5.out; first | omega | exact Nat.le_refl _⟩, ⟨by repeat (first | (with_reducible first | exact HB.out | apply below_alloc | apply pw_below_drewN | apply below_drew1) | exact HB.out)⟩⟩
          · rw [if_neg c17] at H
            have c17b0 : (t144 == 0) = false := beq_eq_false_iff_ne.mpr c17
            have c17b1 : (t144 != 0) = true := bne_iff_ne.mpr c17
            (first | rw [c17b0] | (simp only [i64_w, i32_w]; rw [c17b0]) | skip)
            by_cases c18 : t144 = 8
            · rw [if_pos c18] at H
              have c18b0 : (t144 == 8) = true := beq_iff_eq.mpr c18
              have c18b1 : (t144 != 8) = false := bne_eq_false_iff_eq.mpr c18
              clear c18
              have H' := Aside0.mk H
              clear H
              go_wp2
              go_meet
              case rel => exact ⟨_, (((l0.length : Int) == 0)), (by first | rfl | (simp; done) | (simp [*]; done)), H', ⟨by have := HJ5.out; first | omega | exact Nat.le_refl _⟩, ⟨by repeat (first | (with_reducible first | exact HB.out | apply below_alloc | apply pw_below_drewN | apply below_drew1) | exact HB.out)⟩⟩
            · rw [if_neg c18] at H
              have c18b0 : (t144 == 8) = false := beq_eq_false_iff_ne.mpr c18
              have c18b1 : (t144 != 8) = true := bne_iff_ne.mpr c18
              have H' := Aside0.mk H
              clear H
              go_wp2
              go_meet
              case rel => exact ⟨_, (true), (by first | rfl | (simp; done) | (simp [*]; done)), H', ⟨by have := HJ5.out; first | omega | exact Nat.le_refl _⟩, ⟨by repeat (first | (with_reducible first | exact HB.out | apply below_alloc | apply pw_below_drewN | apply below_drew1) | exact HB.out)⟩⟩
        case rest =>
          clear HC15
          try clear c1
          try clear c2
          try clear p2
          try clear c4
          try clear c11
          try clear c11b0
          try clear c11b1
          try clear c12
          try clear c16
          try clear c17
          try clear c17b0
          try clear c17b1
          try clear c18
          try clear c18b0
          try clear c18b1
          try clear p2
          obtain ⟨kq, x54_14, rfl, HA, HJ14, HB⟩ := hcut
          cases kq with
          | zero => exact absurd HA.out (by simp [skywaykeep2_ClimbThrough.j1])
          | succ kj14 =>
            have H := HA.out
            clear HA
            simp only [skywaykeep2_ClimbThrough.j1] at H
            by_cases c19 : x54_14 = true
            · subst c19
              have H1 : (some (t143 == 0)) = some r := by rw [if_pos rfl] at H; exact H
              clear H
              have H := H1
              clear H1
              obtain rfl := Option.some.inj H
              go_wp2
              go_ret
              exact ⟨by first | rfl | (simp [errW_none, errW_some] <;> rfl) | (simp [*, errW_none, errW_some] <;> rfl), by repeat (first | (with_reducible first | exact HB.out | apply below_alloc | apply pw_below_drewN | apply below_drew1) | exact HB.out)⟩
            · replace c19 := Bool.eq_false_iff.mpr c19
              subst c19
              have H1 : (if t144 = 0 then (skywaykeep2_ClimbThrough.j2 kj14 l0 a1 a2 (wrap64 (t143 - 1))) else (skywaykeep2_ClimbThrough.j2 kj14 l0 a1 a2 (wrap64 (a2 + t142)))) = some r := by rw [if_neg (show ¬ (false = true) by decide)] at H; exact H
              clear H
              have H := H1
              clear H1
              have HC20 := Aside0.mk H
              clear H
              go_upto_if 61 with (fail)
              go_cut [14] (fun v14 wc => ∃ (kq : Nat) (x14_19 : Int), v14 = .int .i64 x14_19 ∧ Aside0 (skywaykeep2_ClimbThrough.j2 kq l0 a1 a2 x14_19 = some r) ∧ Aside0 (kq ≤ kj14) ∧ Aside0 (Below w.heap.size w wc))
              case first =>
                have H := HC20.out
                clear HC20
                by_cases c21 : t144 = 0
                · rw [if_pos c21] at H
                  have c21b0 : (t144 == 0) = true := beq_iff_eq.mpr c21
                  have c21b1 : (t144 != 0) = false := bne_eq_false_iff_eq.mpr c21
                  clear c21
                  (first | rw [c21b0] | (simp only [i64_w, i32_w]; rw [c21b0]) | skip)
                  have H' := Aside0.mk H
                  clear H
                  go_wp2
                  go_meet
                  case rel => exact ⟨_, (wrap64 (t143 - 1)), (by first | rfl | (simp; done) | (simp [*]; done)), H', ⟨by have := HJ5.out; have := HJ14.out; first | omega | exact Nat.le_refl _⟩, ⟨by repeat (first | (with_reducible first | exact HB.out | apply below_alloc | apply pw_below_drewN | apply below_drew1) | exact HB.out)⟩⟩
                · rw [if_neg c21] at H
                  have c21b0 : (t144 == 0) = false := beq_eq_false_iff_ne.mpr c21
                  have c21b1 : (t144 != 0) = true := bne_iff_ne.mpr c21
                  (first | rw [c21b0] | (simp only [i64_w, i32_w]; rw [c21b0]) | skip)
                  have H' := Aside0.mk H
                  clear H
                  go_wp2
                  go_meet
                  case rel => exact ⟨_, (wrap64 (a2 + t142)), (by first | rfl | (simp; done) | (simp [*]; done)), H', ⟨by have := HJ5.out; have := HJ14.out; first | omega | exact Nat.le_refl _⟩, ⟨by repeat (first | (with_reducible first | exact HB.out | apply below_alloc | apply pw_below_drewN | apply below_drew1) | exact HB.out)⟩⟩
              case rest =>
                clear HC20
                try clear c1
                try clear c2
                try clear p2
                try clear c4
                try clear p6
                try clear c11
                try clear c11b0
                try clear c11b1
                try clear c12
                try clear c16
                try clear c17
                try clear c17b0
                try clear c17b1
                try clear c18
                try clear c18b0
                try clear c18b1
                try clear c19
                try clear c21
                try clear c21b0
                try clear c21b1
                try clear p2
                obtain ⟨kq, x14_19, rfl, HA, HJ19, HB⟩ := hcut
                cases kq with
                | zero => exact absurd HA.out (by simp [skywaykeep2_ClimbThrough.j2])
                | succ kj19 =>
                  have H := HA.out
                  clear HA
                  simp only [skywaykeep2_ClimbThrough.j2] at H
                  have H' := Aside0.mk H
                  clear H
                  go_wp2
                  go_loopg [15] kj19 (fun kq v15 w' => ∃ (x15_4 : Int), v15 = .int .i64 x15_4 ∧ Aside0 (skywaykeep2_ClimbThrough.l0 kq l0 a1 x14_19 x15_4 = some r) ∧ Aside0 (kq ≤ kj19) ∧ Aside0 (Below w.heap.size w w'))
                  case atStart => exact ⟨(a2), (by first | rfl | (simp; done) | (simp [*]; done)), H', ⟨Nat.le_refl _⟩, ⟨by repeat (first | (with_reducible first | exact HB.out | apply below_alloc | apply pw_below_drewN | apply below_drew1) | exact HB.out)⟩⟩
                  case round =>
                    clear H'
                    try clear c1
                    try clear c2
                    try clear p2
                    try clear c4
                    try clear p6
                    try clear c11
                    try clear c11b0
                    try clear c11b1
                    try clear c12
                    try clear c16
                    try clear c17
                    try clear c17b0
                    try clear c17b1
                    try clear c18
                    try clear c18b0
                    try clear c18b1
                    try clear c19
                    try clear c21
                    try clear c21b0
                    try clear c21b1
                    try clear p2
                    try clear p6
                    obtain ⟨x15_4, rfl, HA, HK4, HB⟩ := hrel
                    cases gk with
                    | zero => exact absurd HA.out (by simp [skywaykeep2_ClimbThrough.l0])
                    | succ k4 =>
                      have H := HA.out
                      clear HA
                      simp only [skywaykeep2_ClimbThrough.l0] at H
                      have HC22 := Aside0.mk H
                      clear H
                      go_upto_region 13 with (fail)
                      go_cut [71] (fun v71 wc => ∃ (kq : Nat) (x71_21 : Bool), v71 = .bool x71_21 ∧ Aside0 (skywaykeep2_ClimbThrough.j4 kq l0 a1 x14_19 x15_4 x71_21 = some r) ∧ Aside0 (kq ≤ k4) ∧ Aside0 (Below w.heap.size w wc))
                      case first =>
                        have H := HC22.out
                        clear HC22
                        by_cases c23 : x15_4 ≤ x14_19
                        · rw [if_pos c23] at H
                          have c23b0 : decide (x15_4 ≤ x14_19) = true := decide_eq_true c23
                          clear c23
                          (first | rw [c23b0] | (simp only [i64_w, i32_w]; rw [c23b0]) | skip)
                          have H' := Aside0.mk H
                          clear H
                          go_wp2
                          go_meet
                          case rel => exact ⟨_, (decide (x15_4 ≤ 200000)), (by first | rfl | (simp; done) | (simp [*]; done)), H', ⟨by have := HJ5.out; have := HJ14.out; have := HJ19.out; have := HK4.out; first | omega | exact Nat.le_refl _⟩, ⟨by repeat (first | (with_reducible first | exact HB.out | apply below_alloc | apply pw_below_drewN | apply below_drew1) | exact HB.out)⟩⟩
                        · rw [if_neg c23] at H
                          have c23b0 : decide (x15_4 ≤ x14_19) = false := decide_eq_false c23
                          clear c23
                          (first | rw [c23b0] | (simp only [i64_w, i32_w]; rw [c23b0]) | skip)
                          have H' := Aside0.mk H
                          clear H
                          go_wp2
                          go_meet
                          case rel => exact ⟨_, (false), (by first | rfl | (simp; done) | (simp [*]; done)), H', ⟨by have := HJ5.out; have := HJ14.out; have := HJ19.out; have := HK4.out; first | omega | exact Nat.le_refl _⟩, ⟨by repeat (first | (with_reducible first | exact HB.out | apply below_alloc | apply pw_below_drewN | apply below_drew1) | exact HB.out)⟩⟩
                      case rest =>
                        clear HC22
                        try clear c1
                        try clear c2
                        try clear p2
                        try clear c4
                        try clear p6
                        try clear c11
                        try clear c11b0
                        try clear c11b1
                        try clear c12
                        try clear c16
                        try clear c17
                        try clear c17b0
                        try clear c17b1
                        try clear c18
                        try clear c18b0
                        try clear c18b1
                        try clear c19
                        try clear c21
                        try clear c21b0
                        try clear c21b1
                        try clear c23
                        try clear c23b0
                        try clear p2
                        try clear p6
                        obtain ⟨kq, x71_21, rfl, HA, HJ21, HB⟩ := hcut
                        cases kq with
                        | zero => exact absurd HA.out (by simp [skywaykeep2_ClimbThrough.j4])
                        | succ kj21 =>
                          have H := HA.out
                          clear HA
                          simp only [skywaykeep2_ClimbThrough.j4] at H
                          by_cases c24 : x71_21 = true
                          · subst c24
                            have H1 : ((climb_Heights.f kj21 l0 x15_4).bind fun bt145 => (if 0 ≤ (wrap64 ((l0.length : Int) - 1)) then (if (wrap64 ((l0.length : Int) - 1)) < (l0.length : Int) then (if bt145.2.2 = 0 then (if a1 ≥ ((rd_T31 l0 (wrap64 ((l0.length : Int) - 1))).f1) then (if bt145.2.1 ≥ (wrap64 (100 * a1)) then (some false) else (if (a1 ≥ ((rd_T31 l0 (wrap64 ((l0.length : Int) - 1))).f1)) then (skywaykeep2_ClimbThrough.l0 kj21 l0 a1 x14_19 (wrap64 (x15_4 + 1))) else (if bt145.1 < (wrap64 ((wrap64 (100 * a1)) + 100)) then (some false) else (skywaykeep2_ClimbThrough.l0 kj21 l0 a1 x14_19 (wrap64 (x15_4 + 1)))))) else (if (a1 ≥ ((rd_T31 l0 (wrap64 ((l0.length : Int) - 1))).f1)) then (skywaykeep2_ClimbThrough.l0 kj21 l0 a1 x14_19 (wrap64 (x15_4 + 1))) else (if bt145.1 < (wrap64 ((wrap64 (100 * a1)) + 100)) then (some false) else (skywaykeep2_ClimbThrough.l0 kj21 l0 a1 x14_19 (wrap64 (x15_4 + 1)))))) else (skywaykeep2_ClimbThrough.l0 kj21 l0 a1 x14_19 (wrap64 (x15_4 + 1)))) else (none)) else (none))) = some r := by rw [if_pos rfl] at H; exact H
                            clear H
                            have H := H1
                            clear H1
                            replace H := Option.bind_eq_some_iff.mp H
                            obtain ⟨⟨t145, t146, t147⟩, A250, H⟩ := H
                            replace H : (if 0 ≤ (wrap64 ((l0.length : Int) - 1)) then (if (wrap64 ((l0.length : Int) - 1)) < (l0.length : Int) then (if t147 = 0 then (if a1 ≥ ((rd_T31 l0 (wrap64 ((l0.length : Int) - 1))).f1) then (if t146 ≥ (wrap64 (100 * a1)) then (some false) else (if (a1 ≥ ((rd_T31 l0 (wrap64 ((l0.length : Int) - 1))).f1)) then (skywaykeep2_ClimbThrough.l0 kj21 l0 a1 x14_19 (wrap64 (x15_4 + 1))) else (if t145 < (wrap64 ((wrap64 (100 * a1)) + 100)) then (some false) else (skywaykeep2_ClimbThrough.l0 kj21 l0 a1 x14_19 (wrap64 (x15_4 + 1)))))) else (if (a1 ≥ ((rd_T31 l0 (wrap64 ((l0.length : Int) - 1))).f1)) then (skywaykeep2_ClimbThrough.l0 kj21 l0 a1 x14_19 (wrap64 (x15_4 + 1))) else (if t145 < (wrap64 ((wrap64 (100 * a1)) + 100)) then (some false) else (skywaykeep2_ClimbThrough.l0 kj21 l0 a1 x14_19 (wrap64 (x15_4 + 1)))))) else (skywaykeep2_ClimbThrough.l0 kj21 l0 a1 x14_19 (wrap64 (x15_4 + 1)))) else (none)) else (none)) = some r := H
                            have A25 := Aside0.mk A250
                            clear A250
                            obtain ⟨ji26, hji26⟩ : ∃ j_ : Int, (wrap64 ((l0.length : Int) - 1)) = j_ := ⟨_, rfl⟩
                            replace H : (if 0 ≤ (ji26) then (if (ji26) < (l0.length : Int) then (if t147 = 0 then (if a1 ≥ ((rd_T31 l0 (ji26)).f1) then (if t146 ≥ (wrap64 (100 * a1)) then (some false) else (if (a1 ≥ ((rd_T31 l0 (ji26)).f1)) then (skywaykeep2_ClimbThrough.l0 kj21 l0 a1 x14_19 (wrap64 (x15_4 + 1))) else (if t145 < (wrap64 ((wrap64 (100 * a1)) + 100)) then (some false) else (skywaykeep2_ClimbThrough.l0 kj21 l0 a1 x14_19 (wrap64 (x15_4 + 1)))))) else (if (a1 ≥ ((rd_T31 l0 (ji26)).f1)) then (skywaykeep2_ClimbThrough.l0 kj21 l0 a1 x14_19 (wrap64 (x15_4 + 1))) else (if t145 < (wrap64 ((wrap64 (100 * a1)) + 100)) then (some false) else (skywaykeep2_ClimbThrough.l0 kj21 l0 a1 x14_19 (wrap64 (x15_4 + 1)))))) else (skywaykeep2_ClimbThrough.l0 kj21 l0 a1 x14_19 (wrap64 (x15_4 + 1)))) else (none)) else (none)) = some r := by first | (rw [hji26] at H; exact H) | (simp only [hji26] at H ⊢; exact H)
                            (try rw [hji26] at A25)
                            have hji26w : (IntKind.i64.wrap ((l0.length : Int) - 1)) = ji26 := (i64_w _).trans hji26
                            by_cases c27 : 0 ≤ (ji26)
                            · rw [if_pos c27] at H
                              have c27b0 : decide (0 ≤ (ji26)) = true := decide_eq_true c27
                              clear c27
                              by_cases c28 : (ji26) < (l0.length : Int)
                              · rw [if_pos c28] at H
                                have c28b0 : decide ((ji26) < (l0.length : Int)) = true := decide_eq_true c28
                                clear c28
                                by_cases c29 : t147 = 0
                                · rw [if_pos c29] at H
                                  have c29b0 : (t147 == 0) = true := beq_iff_eq.mpr c29
                                  have c29b1 : (t147 != 0) = false := bne_eq_false_iff_eq.mpr c29
                                  clear c29
                                  by_cases c30 : a1 ≥ ((rd_T31 l0 (ji26)).f1)
                                  · rw [if_pos c30] at H
                                    have c30b0 : decide (((rd_T31 l0 (ji26)).f1) ≤ a1) = true := decide_eq_true c30
                                    clear c30
                                    by_cases c31 : t146 ≥ (wrap64 (100 * a1))
                                    · rw [if_pos c31] at H
                                      have c31b0 : decide ((wrap64 (100 * a1)) ≤ t146) = true := decide_eq_true c31
                                      clear c31
                                      obtain rfl := Option.some.inj H
                                      go_wp2_with (first | ((with_reducible refine gate_callee (f := 20) rfl ?_); refine goesL_ (some 77) rfl rfl Try.func20 (by kernel_rfl) rfl #[.slice A0 l0.length c0, .int .i64 x15_4] rfl (by (try simp only [List.map_toArray, List.map_cons, List.map_nil]); first | done | rfl | (simp only [List.length_drop, List.length_take]; rfl)) ?_; (with_reducible refine (climb_Heights.calls kj21 _ _ l0 x15_4 t145 t146 t147 _ ?side1 ?side2 A25.out).mono ?_); (case side1 => repeat (first | exact (Kd.C_below HR0.out HB.out) | (with_reducible refine Kd.C_alloc ?_ _) | (with_reducible refine Kd.C_drewN ?_ _) | (with_reducible refine Kd.C_drew ?_))); (case side2 => exact HC0.out); rintro e w32 ⟨rfl, hb⟩; refine ⟨_, rfl, ?_⟩; have n0_ := Aside0.mk (below_step (by repeat (first | (with_reducible first | exact HB.out | apply below_alloc | apply pw_below_drewN | apply below_drew1) | exact HB.out)) hb); clear HB; have HB := n0_; clear n0_; (try clear hb); (try clear hb2); (try clear hk); (try clear hi); have p148 : 0 ≤ ((ji26) : Int) := of_decide_eq_true (by first | (with_reducible assumption) | assumption); have q148 : (ji26) < (l0.length : Int) := of_decide_eq_true (by first | (with_reducible assumption) | assumption); obtain ⟨ad148, e148, hx148_0, hx148_1⟩ := at_T31 HR0.out (ji26) p148 q148; cases e148; replace hx148_0 := (HB.out.cell (World.block_lt_of_cell? w _ hx148_0)).trans hx148_0; replace hx148_1 := (HB.out.cell (World.block_lt_of_cell? w _ hx148_1)).trans hx148_1; replace p148 := eq_true p148; replace q148 := eq_true q148))
                                      go_ret
                                      exact ⟨by first | rfl | (simp [errW_none, errW_some] <;> rfl) | (simp only [← hji26]; first | rfl | (simp [errW_none, errW_some] <;> rfl)) | (simp [*, errW_none, errW_some] <;> rfl), by repeat (first | (with_reducible first | exact HB.out | apply below_alloc | apply pw_below_drewN | apply below_drew1) | exact HB.out)⟩
                                    · rw [if_neg c31] at H
                                      have c31b0 : decide ((wrap64 (100 * a1)) ≤ t146) = false := decide_eq_false c31
                                      clear c31
                                      by_cases c33 : (a1 ≥ ((rd_T31 l0 (ji26)).f1))
                                      · rw [if_pos c33] at H
                                        have c33b0 : decide (((rd_T31 l0 (ji26)).f1) ≤ a1) = true := decide_eq_true c33
                                        clear c33
                                        have H' := Aside0.mk H
                                        clear H
                                        go_wp2_with (first | ((with_reducible refine gate_callee (f := 20) rfl ?_); refine goesL_ (some 77) rfl rfl Try.func20 (by kernel_rfl) rfl #[.slice A0 l0.length c0, .int .i64 x15_4] rfl (by (try simp only [List.map_toArray, List.map_cons, List.map_nil]); first | done | rfl | (simp only [List.length_drop, List.length_take]; rfl)) ?_; (with_reducible refine (climb_Heights.calls kj21 _ _ l0 x15_4 t145 t146 t147 _ ?side1 ?side2 A25.out).mono ?_); (case side1 => repeat (first | exact (Kd.C_below HR0.out HB.out) | (with_reducible refine Kd.C_alloc ?_ _) | (with_reducible refine Kd.C_drewN ?_ _) | (with_reducible refine Kd.C_drew ?_))); (case side2 => exact HC0.out); rintro e w34 ⟨rfl, hb⟩; refine ⟨_, rfl, ?_⟩; have n0_ := Aside0.mk (below_step (by repeat (first | (with_reducible first | exact HB.out | apply below_alloc | apply pw_below_drewN | apply below_drew1) | exact HB.out)) hb); clear HB; have HB := n0_; clear n0_; (try clear hb); (try clear hb2); (try clear hk); (try clear hi); have p148 : 0 ≤ ((ji26) : Int) := of_decide_eq_true (by first | (with_reducible assumption) | assumption); have q148 : (ji26) < (l0.length : Int) := of_decide_eq_true (by first | (with_reducible assumption) | assumption); obtain ⟨ad148, e148, hx148_0, hx148_1⟩ := at_T31 HR0.out (ji26) p148 q148; cases e148; replace hx148_0 := (HB.out.cell (World.block_lt_of_cell? w _ hx148_0)).trans hx148_0; replace hx148_1 := (HB.out.cell (World.block_lt_of_cell? w _ hx148_1)).trans hx148_1; replace p148 := eq_true p148; replace q148 := eq_true q148))
                                        go_roundg kj21
                                        case measure => have := HJ5.out; have := HJ14.out; have := HJ19.out; have := HK4.out; have := HJ21.out; omega
                                        case rel => exact ⟨(wrap64 (x15_4 + 1)), (by first | rfl | (simp; done) | (simp [*]; done)), H', ⟨by have := HJ5.out; have := HJ14.out; have := HJ19.out; have := HK4.out; have := HJ21.out; omega⟩, ⟨by repeat (first | (with_reducible first | exact HB.out | apply below_alloc | apply pw_below_drewN | apply below_drew1) | exact HB.out)⟩⟩
                                      · rw [if_neg c33] at H
                                        have c33b0 : decide (((rd_T31 l0 (ji26)).f1) ≤ a1) = false := decide_eq_false c33
                                        exact absurd (c30b0.symm.trans c33b0) (by decide)
                                  · rw [if_neg c30] at H
                                    have c30b0 : decide (((rd_T31 l0 (ji26)).f1) ≤ a1) = false := decide_eq_false c30
                                    clear c30
                                    by_cases c38 : (a1 ≥ ((rd_T31 l0 (ji26)).f1))
                                    · rw [if_pos c38] at H
                                      have c38b0 : decide (((rd_T31 l0 (ji26)).f1) ≤ a1) = true := decide_eq_true c38
                                      exact absurd (c38b0.symm.trans c30b0) (by decide)
                                    · rw [if_neg c38] at H
                                      have c38b0 : decide (((rd_T31 l0 (ji26)).f1) ≤ a1) = false := decide_eq_false c38
                                      clear c38
                                      by_cases c40 : t145 < (wrap64 ((wrap64 (100 * a1)) + 100))
                                      · rw [if_pos c40] at H
                                        have c40b0 : decide (t145 < (wrap64 ((wrap64 (100 * a1)) + 100))) = true := decide_eq_true c40
                                        clear c40
                                        obtain rfl := Option.some.inj H
                                        go_wp2_with (first | ((with_reducible refine gate_callee (f := 20) rfl ?_); refine goesL_ (some 77) rfl rfl Try.func20 (by kernel_rfl) rfl #[.slice A0 l0.length c0, .int .i64 x15_4] rfl (by (try simp only [List.map_toArray, List.map_cons, List.map_nil]); first | done | rfl | (simp only [List.length_drop, List.length_take]; rfl)) ?_; (with_reducible refine (climb_Heights.calls kj21 _ _ l0 x15_4 t145 t146 t147 _ ?side1 ?side2 A25.out).mono ?_); (case side1 => repeat (first | exact (Kd.C_below HR0.out HB.out) | (with_reducible refine Kd.C_alloc ?_ _) | (with_reducible refine Kd.C_drewN ?_ _) | (with_reducible refine Kd.C_drew ?_))); (case side2 => exact HC0.out); rintro e w41 ⟨rfl, hb⟩; refine ⟨_, rfl, ?_⟩; have n0_ := Aside0.mk (below_step (by repeat (first | (with_reducible first | exact HB.out | apply below_alloc | apply pw_below_drewN | apply below_drew1) | exact HB.out)) hb); clear HB; have HB := n0_; clear n0_; (try clear hb); (try clear hb2); (try clear hk); (try clear hi); have p148 : 0 ≤ ((ji26) : Int) := of_decide_eq_true (by first | (with_reducible assumption) | assumption); have q148 : (ji26) < (l0.length : Int) := of_decide_eq_true (by first | (with_reducible assumption) | assumption); obtain ⟨ad148, e148, hx148_0, hx148_1⟩ := at_T31 HR0.out (ji26) p148 q148; cases e148; replace hx148_0 := (HB.out.cell (World.block_lt_of_cell? w _ hx148_0)).trans hx148_0; replace hx148_1 := (HB.out.cell (World.block_lt_of_cell? w _ hx148_1)).trans hx148_1; replace p148 := eq_true p148; replace q148 := eq_true q148))
                                        go_ret
                                        exact ⟨by first | rfl | (simp [errW_none, errW_some] <;> rfl) | (simp only [← hji26]; first | rfl | (simp [errW_none, errW_some] <;> rfl)) | (simp [*, errW_none, errW_some] <;> rfl), by repeat (first | (with_reducible first | exact HB.out | apply below_alloc | apply pw_below_drewN | apply below_drew1) | exact HB.out)⟩
                                      · rw [if_neg c40] at H
                                        have c40b0 : decide (t145 < (wrap64 ((wrap64 (100 * a1)) + 100))) = false := decide_eq_false c40
                                        clear c40
                                        have H' := Aside0.mk H
                                        clear H
                                        go_wp2_with (first | ((with_reducible refine gate_callee (f := 20) rfl ?_); refine goesL_ (some 77) rfl rfl Try.func20 (by kernel_rfl) rfl #[.slice A0 l0.length c0, .int .i64 x15_4] rfl (by (try simp only [List.map_toArray, List.map_cons, List.map_nil]); first | done | rfl | (simp only [List.length_drop, List.length_take]; rfl)) ?_; (with_reducible refine (climb_Heights.calls kj21 _ _ l0 x15_4 t145 t146 t147 _ ?side1 ?side2 A25.out).mono ?_); (case side1 => repeat (first | exact (Kd.C_below HR0.out HB.out) | (with_reducible refine Kd.C_alloc ?_ _) | (with_reducible refine Kd.C_drewN ?_ _) | (with_reducible refine Kd.C_drew ?_))); (case side2 => exact HC0.out); rintro e w42 ⟨rfl, hb⟩; refine ⟨_, rfl, ?_⟩; have n0_ := Aside0.mk (below_step (by repeat (first | (with_reducible first | exact HB.out | apply below_alloc | apply pw_below_drewN | apply below_drew1) | exact HB.out)) hb); clear HB; have HB := n0_; clear n0_; (try clear hb); (try clear hb2); (try clear hk); (try clear hi); have p148 : 0 ≤ ((ji26) : Int) := of_decide_eq_true (by first | (with_reducible assumption) | assumption); have q148 : (ji26) < (l0.length : Int) := of_decide_eq_true (by first | (with_reducible assumption) | assumption); obtain ⟨ad148, e148, hx148_0, hx148_1⟩ := at_T31 HR0.out (ji26) p148 q148; cases e148; replace hx148_0 := (HB.out.cell (World.block_lt_of_cell? w _ hx148_0)).trans hx148_0; replace hx148_1 := (HB.out.cell (World.block_lt_of_cell? w _ hx148_1)).trans hx148_1; replace p148 := eq_true p148; replace q148 := eq_true q148))
                                        go_roundg kj21
                                        case measure => have := HJ5.out; have := HJ14.out; have := HJ19.out; have := HK4.out; have := HJ21.out; omega
                                        case rel => exact ⟨(wrap64 (x15_4 + 1)), (by first | rfl | (simp; done) | (simp [*]; done)), H', ⟨by have := HJ5.out; have := HJ14.out; have := HJ19.out; have := HK4.out; have := HJ21.out; omega⟩, ⟨by repeat (first | (with_reducible first | exact HB.out | apply below_alloc | apply pw_below_drewN | apply below_drew1) | exact HB.out)⟩⟩
                                · rw [if_neg c29] at H
                                  have c29b0 : (t147 == 0) = false := beq_eq_false_iff_ne.mpr c29
                                  have c29b1 : (t147 != 0) = true := bne_iff_ne.mpr c29
                                  have H' := Aside0.mk H
                                  clear H
                                  go_wp2_with (first | ((with_reducible refine gate_callee (f := 20) rfl ?_); refine goesL_ (some 77) rfl rfl Try.func20 (by kernel_rfl) rfl #[.slice A0 l0.length c0, .int .i64 x15_4] rfl (by (try simp only [List.map_toArray, List.map_cons, List.map_nil]); first | done | rfl | (simp only [List.length_drop, List.length_take]; rfl)) ?_; (with_reducible refine (climb_Heights.calls kj21 _ _ l0 x15_4 t145 t146 t147 _ ?side1 ?side2 A25.out).mono ?_); (case side1 => repeat (first | exact (Kd.C_below HR0.out HB.out) | (with_reducible refine Kd.C_alloc ?_ _) | (with_reducible refine Kd.C_drewN ?_ _) | (with_reducible refine Kd.C_drew ?_))); (case side2 => exact HC0.out); rintro e w43 ⟨rfl, hb⟩; refine ⟨_, rfl, ?_⟩; have n0_ := Aside0.mk (below_step (by repeat (first | (with_reducible first | exact HB.out | apply below_alloc | apply pw_below_drewN | apply below_drew1) | exact HB.out)) hb); clear HB; have HB := n0_; clear n0_; (try clear hb); (try clear hb2); (try clear hk); (try clear hi); have p148 : 0 ≤ ((ji26) : Int) := of_decide_eq_true (by first | (with_reducible assumption) | assumption); have q148 : (ji26) < (l0.length : Int) := of_decide_eq_true (by first | (with_reducible assumption) | assumption); obtain ⟨ad148, e148, hx148_0, hx148_1⟩ := at_T31 HR0.out (ji26) p148 q148; cases e148; replace hx148_0 := (HB.out.cell (World.block_lt_of_cell? w _ hx148_0)).trans hx148_0; replace hx148_1 := (HB.out.cell (World.block_lt_of_cell? w _ hx148_1)).trans hx148_1; replace p148 := eq_true p148; replace q148 := eq_true q148))
                                  go_roundg kj21
                                  case measure => have := HJ5.out; have := HJ14.out; have := HJ19.out; have := HK4.out; have := HJ21.out; omega
                                  case rel => exact ⟨(wrap64 (x15_4 + 1)), (by first | rfl | (simp; done) | (simp [*]; done)), H', ⟨by have := HJ5.out; have := HJ14.out; have := HJ19.out; have := HK4.out; have := HJ21.out; omega⟩, ⟨by repeat (first | (with_reducible first | exact HB.out | apply below_alloc | apply pw_below_drewN | apply below_drew1) | exact HB.out)⟩⟩
                              · rw [if_neg c28] at H
                                exact absurd H (by simp)
                            · rw [if_neg c27] at H
                              exact absurd H (by simp)
                          · replace c24 := Bool.eq_false_iff.mpr c24
                            subst c24
                            have H1 : (some true) = some r := by rw [if_neg (show ¬ (false = true) by decide)] at H; exact H
                            clear H
                            have H := H1
                            clear H1
                            obtain rfl := Option.some.inj H
                            go_wp2
                            go_ret
                            exact ⟨by first | rfl | (simp [errW_none, errW_some] <;> rfl) | (simp [*, errW_none, errW_some] <;> rfl), by repeat (first | (with_reducible first | exact HB.out | apply below_alloc | apply pw_below_drewN | apply below_drew1) | exact HB.out)⟩

end Go.Proofs.Ytehgapcmngdcnaa.MClimbThrough
