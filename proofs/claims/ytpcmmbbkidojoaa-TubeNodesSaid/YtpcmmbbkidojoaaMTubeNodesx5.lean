-- Written for this claim by a program of this session out of the translation (functions with function values and the like). Lean checks it.
import Derived.Test.YtpcmmbbkidojoaaMTubeNodesx0
import Derived.Test.YtpcmmbbkidojoaaMTubeNodesx1
import Derived.Test.YtpcmmbbkidojoaaMTubeNodesx2
import Derived.Test.YtpcmmbbkidojoaaMTubeNodesx4
namespace Go.Proofs.Ytpcmmbbkidojoaa.MTubeNodes
open Go.RowKit Go.Proofs.Ytpcmmbbkidojoaa.Evt Go.Proofs.YtpcmmbbkidojoaaW.PrintWords Go.Proofs.YtpcmmbbkidojoaaW.PrintLast Go.Proofs.YtpcmmbbkidojoaaW.PrintMore
attribute [local go_sem] max2_int min2_int max_two min_two max_three min_three max_four min_four   -- for this text's walks alone
set_option linter.unusedVariables false
set_option linter.unusedSimpArgs false

attribute [local go_sem high] eqA91
/-! ### tube_At: function 38 -/
def tube_At.f (k : Nat) (l0 : List (S91)) (a1 : Int) : Option (Int × Int × Int × Int × Int × Int × Int) := (tube_Check.f k l0).bind fun t137 => (if t137 = 0 then ((tube_at.f k l0 a1).bind fun bt138 => (some (bt138.1, bt138.2.1, bt138.2.2.1, bt138.2.2.2.1, bt138.2.2.2.2.1, bt138.2.2.2.2.2.1, bt138.2.2.2.2.2.2))) else (some (0, 0, 0, 0, 0, 0, t137)))
theorem tube_At.mono : ∀ a0 a1 k, LeO (tube_At.f k a0 a1) (tube_At.f (k + 1) a0 a1) := by
  intro a0 a1 k
  unfold tube_At.f
  repeat' first
      | (with_reducible exact tube_Check.mono _ _)
      | (with_reducible exact tube_at.mono _ _ _)
      | (with_reducible exact LeO.refl _)
      | (with_reducible exact LeO.none _)
      | (with_reducible refine LeO.ite ?_ ?_)
      | (with_reducible refine LeO.bind ?_ (fun _ => ?_))
      | exact tube_Check.mono _ _
      | exact tube_at.mono _ _ _
      | exact LeO.none _
      | refine LeO.ite ?_ ?_
      | refine LeO.bind ?_ (fun _ => ?_)
set_option maxHeartbeats 80000000 in
set_option maxRecDepth 100000 in
theorem tube_At.calls (k : Nat) (A0 : Option Addr) (c0 : Nat) (l0 : List (S91)) (a1 : Int) (r1 : Int) (r2 : Int) (r3 : Int) (r4 : Int) (r5 : Int) (r6 : Int) (r7 : Int) (w : World) (hr0 : Kd.C k91 w A0 l0.length l0) (hc0 : l0.length ≤ c0) (h : tube_At.f k l0 a1 = some (r1, r2, r3, r4, r5, r6, r7)) :
    Calls Try.prog 38 #[.slice A0 l0.length c0, .int .i64 a1] w fun e w' => e = .returned (.tuple #[.agg #[.int .i64 r1, .int .i64 r2, .int .i64 r3, .int .i64 r4, .int .i64 r5, .int .i64 r6], .int .i64 r7]) ∧ Below w.heap.size w w' := by
  have hu91 := Try.underlying91
  have HR0 := Aside0.mk hr0
  have HC0 := Aside0.mk hc0
  clear hr0 hc0
  have HB := Aside0.mk (Below.refl w.heap.size w)
  have H : ((tube_Check.f k l0).bind fun t137 => (if t137 = 0 then ((tube_at.f k l0 a1).bind fun bt138 => (some (bt138.1, bt138.2.1, bt138.2.2.1, bt138.2.2.2.1, bt138.2.2.2.2.1, bt138.2.2.2.2.2.1, bt138.2.2.2.2.2.2))) else (some (0, 0, 0, 0, 0, 0, t137)))) = some (r1, r2, r3, r4, r5, r6, r7) := h
  clear h
  replace H := Option.bind_eq_some_iff.mp H
  obtain ⟨t137, A30, H⟩ := H
  replace H : (if t137 = 0 then ((tube_at.f k l0 a1).bind fun bt138 => (some (bt138.1, bt138.2.1, bt138.2.2.1, bt138.2.2.2.1, bt138.2.2.2.2.1, bt138.2.2.2.2.2.1, bt138.2.2.2.2.2.2))) else (some (0, 0, 0, 0, 0, 0, t137))) = some (r1, r2, r3, r4, r5, r6, r7) := H
  have A3 := Aside0.mk A30
  clear A30
  by_cases c4 : t137 = 0
  · rw [if_pos c4] at H
    have c4b0 : (t137 == 0) = true := beq_iff_eq.mpr c4
    have c4b1 : (t137 != 0) = false := bne_eq_false_iff_eq.mpr c4
    clear c4
    replace H := Option.bind_eq_some_iff.mp H
    obtain ⟨⟨t138, t139, t140, t141, t142, t143, t144⟩, A50, H⟩ := H
    replace H : (some (t138, t139, t140, t141, t142, t143, t144)) = some (r1, r2, r3, r4, r5, r6, r7) := H
    have A5 := Aside0.mk A50
    clear A50
    simp only [Option.some.injEq, Prod.mk.injEq] at H
    obtain ⟨rfl, rfl, rfl, rfl, rfl, rfl, rfl⟩ := H
    go_enter Try.func38, Try.ntmps38
    go_wp2_with (first | ((with_reducible refine gate_dst (N := 4) rfl ?_); refine box_event ?hg (N := 4) ?hd (cs := #[.int .i64 0, .int .i64 0, .int .i64 0, .int .i64 0, .int .i64 0, .int .i64 0]) (t := 91) ?hr ?_; (case hd => rfl); (case hg => rfl); (case hr => first | (go_simp; done) | (go_simp; rfl)); intro gb136 hg w6 hbox hb; have n0_ := Aside0.mk (below_step (by repeat (first | (with_reducible first | exact HB.out | apply below_alloc | apply pw_below_drewN | apply below_drew1) | exact HB.out)) hb); have n1_ := Aside0.mk (hbox); have n2_ := Aside0.mk ((by rw [hg]; exact (below_size (by repeat (first | (with_reducible first | exact HB.out | apply below_alloc | apply pw_below_drewN | apply below_drew1) | exact HB.out))) : w.heap.size ≤ gb136)); have n3_ := Aside0.mk ((by rw [hg]; exact (below_size (by repeat (first | (with_reducible first | exact HB.out | apply below_alloc | apply pw_below_drewN | apply below_drew1) | exact HB.out))) : w.heap.size ≤ gb136)); clear HB; have HB := n0_; have BK136 := n1_; have GW136 := n2_; have GE136 := n3_; clear n0_ n1_ n2_ n3_; clear hb hbox hg) | ((with_reducible refine gate_callee (f := 39) rfl ?_); refine goesL_ (some 8) rfl rfl Try.func39 (by kernel_rfl) rfl #[.slice A0 l0.length c0] rfl (by (try simp only [List.map_toArray, List.map_cons, List.map_nil]); first | done | rfl | (simp only [List.length_drop, List.length_take]; rfl)) ?_; (with_reducible refine (tube_Check.calls k _ _ l0 t137 _ ?side1 ?side2 A3.out).mono ?_); (case side1 => repeat (first | exact (Kd.C_below HR0.out HB.out) | (with_reducible refine Kd.C_alloc ?_ _) | (with_reducible refine Kd.C_drewN ?_ _) | (with_reducible refine Kd.C_drew ?_))); (case side2 => exact HC0.out); rintro e w7 ⟨rfl, hb⟩; refine ⟨_, rfl, ?_⟩; have n0_ := Aside0.mk (blk_below (g := gb136) (by (with_reducible repeat (first | refine blk_drewN ?_ _ | refine blk_drew ?_ | refine blk_alloc ?_ _)); exact BK136.out) hb); have n1_ := Aside0.mk (below_step (by repeat (first | (with_reducible first | exact HB.out | apply below_alloc | apply pw_below_drewN | apply below_drew1 | refine below_set ?_ GE136.out) | exact HB.out)) hb); clear BK136; clear HB; have BK136 := n0_; have HB := n1_; clear n0_ n1_; (try clear hb); (try clear hb2); (try clear hk); (try clear hi)) | ((with_reducible refine gate_callee (f := 65) rfl ?_); refine goesL_ (some 15) rfl rfl Try.func65 (by kernel_rfl) rfl #[.slice A0 l0.length c0, .int .i64 a1] rfl (by (try simp only [List.map_toArray, List.map_cons, List.map_nil]); first | done | rfl | (simp only [List.length_drop, List.length_take]; rfl)) ?_; (with_reducible refine (tube_at.calls k _ _ l0 a1 t138 t139 t140 t141 t142 t143 t144 _ ?side1 ?side2 A5.out).mono ?_); (case side1 => repeat (first | exact (Kd.C_below HR0.out HB.out) | (with_reducible refine Kd.C_alloc ?_ _) | (with_reducible refine Kd.C_drewN ?_ _) | (with_reducible refine Kd.C_drew ?_))); (case side2 => exact HC0.out); rintro e w8 ⟨rfl, hb⟩; refine ⟨_, rfl, ?_⟩; have n0_ := Aside0.mk (blk_below (g := gb136) (by (with_reducible repeat (first | refine blk_drewN ?_ _ | refine blk_drew ?_ | refine blk_alloc ?_ _)); exact BK136.out) hb); have n1_ := Aside0.mk (below_step (by repeat (first | (with_reducible first | exact HB.out | apply below_alloc | apply pw_below_drewN | apply below_drew1 | refine below_set ?_ GE136.out) | exact HB.out)) hb); clear BK136; clear HB; have BK136 := n0_; have HB := n1_; clear n0_ n1_; (try clear hb); (try clear hb2); (try clear hk); (try clear hi)) | ((with_reducible refine gate_store (t := 91) (p := 4) rfl ?_); refine st_row rfl rfl 91 4 _ rfl gb136 0 rfl (t := 91) (cs := #[.int .i64 0, .int .i64 0, .int .i64 0, .int .i64 0, .int .i64 0, .int .i64 0]) [.int .i64 t138, .int .i64 t139, .int .i64 t140, .int .i64 t141, .int .i64 t142, .int .i64 t143] _ rfl rfl isz91 (by (with_reducible repeat (first | refine blk_drewN ?_ _ | refine blk_drew ?_ | refine blk_alloc ?_ _)); exact BK136.out) (Nat.le_of_ble_eq_true rfl) rfl #[.int .i64 t138, .int .i64 t139, .int .i64 t140, .int .i64 t141, .int .i64 t142, .int .i64 t143] rfl ?_; intro w9 hx_ hy_ hz_; have n0_ := Aside0.mk (hx_); have n1_ := Aside0.mk (hz_ _ _ (by repeat (first | (with_reducible first | exact HB.out | apply below_alloc | apply pw_below_drewN | apply below_drew1 | refine below_set ?_ GE136.out) | exact HB.out)) GE136.out); clear BK136; clear HB; have BK136 := n0_; have HB := n1_; clear n0_ n1_; clear hx_ hy_ hz_))
    refine bodyPost_ret (results_ct rfl _ _ gb136 91 #[.int .i64 t138, .int .i64 t139, .int .i64 t140, .int .i64 t141, .int .i64 t142, .int .i64 t143] (0, 0) _ rfl (by (with_reducible repeat (first | refine blk_drewN ?_ _ | refine blk_drew ?_ | refine blk_alloc ?_ _)); exact BK136.out) Try.underlying91 rfl (by kernel_rfl)) rfl ?_
    exact ⟨by first | rfl | (simp [errW_none, errW_some] <;> rfl) | (simp [*, errW_none, errW_some] <;> rfl), by repeat (first | (with_reducible first | exact HB.out | apply below_alloc | apply pw_below_drewN | apply below_drew1 | refine below_set ?_ GE136.out) | exact HB.out)⟩
  · rw [if_neg c4] at H
    have c4b0 : (t137 == 0) = false := beq_eq_false_iff_ne.mpr c4
    have c4b1 : (t137 != 0) = true := bne_iff_ne.mpr c4
    simp only [Option.some.injEq, Prod.mk.injEq] at H
    obtain ⟨rfl, rfl, rfl, rfl, rfl, rfl, rfl⟩ := H
    go_enter Try.func38, Try.ntmps38
    go_wp2_with (first | ((with_reducible refine gate_dst (N := 4) rfl ?_); refine box_event ?hg (N := 4) ?hd (cs := #[.int .i64 0, .int .i64 0, .int .i64 0, .int .i64 0, .int .i64 0, .int .i64 0]) (t := 91) ?hr ?_; (case hd => rfl); (case hg => rfl); (case hr => first | (go_simp; done) | (go_simp; rfl)); intro gb136 hg w10 hbox hb; have n0_ := Aside0.mk (below_step (by repeat (first | (with_reducible first | exact HB.out | apply below_alloc | apply pw_below_drewN | apply below_drew1) | exact HB.out)) hb); have n1_ := Aside0.mk (hbox); have n2_ := Aside0.mk ((by rw [hg]; exact (below_size (by repeat (first | (with_reducible first | exact HB.out | apply below_alloc | apply pw_below_drewN | apply below_drew1) | exact HB.out))) : w.heap.size ≤ gb136)); have n3_ := Aside0.mk ((by rw [hg]; exact (below_size (by repeat (first | (with_reducible first | exact HB.out | apply below_alloc | apply pw_below_drewN | apply below_drew1) | exact HB.out))) : w.heap.size ≤ gb136)); clear HB; have HB := n0_; have BK136 := n1_; have GW136 := n2_; have GE136 := n3_; clear n0_ n1_ n2_ n3_; clear hb hbox hg) | ((with_reducible refine gate_callee (f := 39) rfl ?_); refine goesL_ (some 8) rfl rfl Try.func39 (by kernel_rfl) rfl #[.slice A0 l0.length c0] rfl (by (try simp only [List.map_toArray, List.map_cons, List.map_nil]); first | done | rfl | (simp only [List.length_drop, List.length_take]; rfl)) ?_; (with_reducible refine (tube_Check.calls k _ _ l0 t137 _ ?side1 ?side2 A3.out).mono ?_); (case side1 => repeat (first | exact (Kd.C_below HR0.out HB.out) | (with_reducible refine Kd.C_alloc ?_ _) | (with_reducible refine Kd.C_drewN ?_ _) | (with_reducible refine Kd.C_drew ?_))); (case side2 => exact HC0.out); rintro e w11 ⟨rfl, hb⟩; refine ⟨_, rfl, ?_⟩; have n0_ := Aside0.mk (blk_below (g := gb136) (by (with_reducible repeat (first | refine blk_drewN ?_ _ | refine blk_drew ?_ | refine blk_alloc ?_ _)); exact BK136.out) hb); have n1_ := Aside0.mk (below_step (by repeat (first | (with_reducible first | exact HB.out | apply below_alloc | apply pw_below_drewN | apply below_drew1 | refine below_set ?_ GE136.out) | exact HB.out)) hb); clear BK136; clear HB; have BK136 := n0_; have HB := n1_; clear n0_ n1_; (try clear hb); (try clear hb2); (try clear hk); (try clear hi)) | ((with_reducible refine gate_store (t := 91) (p := 4) rfl ?_); refine st_row rfl rfl 91 4 _ rfl gb136 0 rfl (t := 91) (cs := #[.int .i64 0, .int .i64 0, .int .i64 0, .int .i64 0, .int .i64 0, .int .i64 0]) [.int .i64 0, .int .i64 0, .int .i64 0, .int .i64 0, .int .i64 0, .int .i64 0] _ rfl rfl isz91 (by (with_reducible repeat (first | refine blk_drewN ?_ _ | refine blk_drew ?_ | refine blk_alloc ?_ _)); exact BK136.out) (Nat.le_of_ble_eq_true rfl) rfl #[.int .i64 0, .int .i64 0, .int .i64 0, .int .i64 0, .int .i64 0, .int .i64 0] rfl ?_; intro w12 hx_ hy_ hz_; have n0_ := Aside0.mk (hx_); have n1_ := Aside0.mk (hz_ _ _ (by repeat (first | (with_reducible first | exact HB.out | apply below_alloc | apply pw_below_drewN | apply below_drew1 | refine below_set ?_ GE136.out) | exact HB.out)) GE136.out); clear BK136; clear HB; have BK136 := n0_; have HB := n1_; clear n0_ n1_; clear hx_ hy_ hz_))
    refine bodyPost_ret (results_ct rfl _ _ gb136 91 #[.int .i64 0, .int .i64 0, .int .i64 0, .int .i64 0, .int .i64 0, .int .i64 0] (0, 0) _ rfl (by (with_reducible repeat (first | refine blk_drewN ?_ _ | refine blk_drew ?_ | refine blk_alloc ?_ _)); exact BK136.out) Try.underlying91 rfl (by kernel_rfl)) rfl ?_
    exact ⟨by first | rfl | (simp [errW_none, errW_some] <;> rfl) | (simp [*, errW_none, errW_some] <;> rfl), by repeat (first | (with_reducible first | exact HB.out | apply below_alloc | apply pw_below_drewN | apply below_drew1 | refine below_set ?_ GE136.out) | exact HB.out)⟩

/-! ### skywaylaw1_node: function 64 -/
def skywaylaw1_node.f (a0 : Int) (a1 : Int) (a2 : Int) (a3 : Int) (a4 : Int) (a5 : Int) : Option (Int × Int × Int × Int × Int × Int) := some (a0, a1, a2, a3, a4, a5)
set_option maxHeartbeats 80000000 in
set_option maxRecDepth 100000 in
theorem skywaylaw1_node.calls (a0 : Int) (a1 : Int) (a2 : Int) (a3 : Int) (a4 : Int) (a5 : Int) (r1 : Int) (r2 : Int) (r3 : Int) (r4 : Int) (r5 : Int) (r6 : Int) (w : World) (h : skywaylaw1_node.f a0 a1 a2 a3 a4 a5 = some (r1, r2, r3, r4, r5, r6)) :
    Calls Try.prog 64 #[.int .i64 a0, .int .i64 a1, .int .i64 a2, .int .i64 a3, .int .i64 a4, .int .i64 a5] w fun e w' => e = .returned (.agg #[.int .i64 r1, .int .i64 r2, .int .i64 r3, .int .i64 r4, .int .i64 r5, .int .i64 r6]) ∧ Below w.heap.size w w' := by
  have hu91 := Try.underlying91
  have hu38 := Try.underlying38
  have hu89 := Try.underlying89
  have HB := Aside0.mk (Below.refl w.heap.size w)
  have H : (some (a0, a1, a2, a3, a4, a5)) = some (r1, r2, r3, r4, r5, r6) := h
  clear h
  simp only [Option.some.injEq, Prod.mk.injEq] at H
  obtain ⟨rfl, rfl, rfl, rfl, rfl, rfl⟩ := H
  go_enter Try.func64, Try.ntmps64
  go_wp2_with (first | ((with_reducible refine gate_dst (N := 12) rfl ?_); refine box_event ?hg (N := 12) ?hd (cs := #[.int .i64 0, .int .i64 0, .int .i64 0, .int .i64 0, .int .i64 0, .int .i64 0]) (t := 91) ?hr ?_; (case hd => rfl); (case hg => rfl); (case hr => first | (go_simp; done) | (go_simp; rfl)); intro gb145 hg w7 hbox hb; have n0_ := Aside0.mk (below_step (by repeat (first | (with_reducible first | exact HB.out | apply below_alloc | apply pw_below_drewN | apply below_drew1) | exact HB.out)) hb); have n1_ := Aside0.mk (hbox); have n2_ := Aside0.mk ((by rw [hg]; exact (below_size (by repeat (first | (with_reducible first | exact HB.out | apply below_alloc | apply pw_below_drewN | apply below_drew1) | exact HB.out))) : w.heap.size ≤ gb145)); have n3_ := Aside0.mk ((by rw [hg]; exact (below_size (by repeat (first | (with_reducible first | exact HB.out | apply below_alloc | apply pw_below_drewN | apply below_drew1) | exact HB.out))) : w.heap.size ≤ gb145)); clear HB; have HB := n0_; have BK145 := n1_; have GW145 := n2_; have GE145 := n3_; clear n0_ n1_ n2_ n3_; clear hb hbox hg) | ((with_reducible refine gate_store (t := 91) (p := 12) rfl ?_); refine st_row rfl rfl 91 12 _ rfl gb145 0 rfl (t := 91) (cs := #[.int .i64 0, .int .i64 0, .int .i64 0, .int .i64 0, .int .i64 0, .int .i64 0]) [.int .i64 a0, .int .i64 a1, .int .i64 a2, .int .i64 a3, .int .i64 a4, .int .i64 a5] _ rfl rfl isz91 (by (with_reducible repeat (first | refine blk_drewN ?_ _ | refine blk_drew ?_ | refine blk_alloc ?_ _)); exact BK145.out) (Nat.le_of_ble_eq_true rfl) rfl #[.int .i64 a0, .int .i64 a1, .int .i64 a2, .int .i64 a3, .int .i64 a4, .int .i64 a5] rfl ?_; intro w8 hx_ hy_ hz_; have n0_ := Aside0.mk (hx_); have n1_ := Aside0.mk (hz_ _ _ (by repeat (first | (with_reducible first | exact HB.out | apply below_alloc | apply pw_below_drewN | apply below_drew1 | refine below_set ?_ GE145.out) | exact HB.out)) GE145.out); clear BK145; clear HB; have BK145 := n0_; have HB := n1_; clear n0_ n1_; clear hx_ hy_ hz_))
  refine bodyPost_ret (results_cell_row rfl _ _ gb145 91 #[.int .i64 a0, .int .i64 a1, .int .i64 a2, .int .i64 a3, .int .i64 a4, .int .i64 a5] (0, 0) _ rfl (by (with_reducible repeat (first | refine blk_drewN ?_ _ | refine blk_drew ?_ | refine blk_alloc ?_ _)); exact BK145.out) Try.underlying91 rfl (by kernel_rfl)) rfl ?_
  exact ⟨by first | rfl | (simp [errW_none, errW_some] <;> rfl) | (simp [*, errW_none, errW_some] <;> rfl), by repeat (first | (with_reducible first | exact HB.out | apply below_alloc | apply pw_below_drewN | apply below_drew1 | refine below_set ?_ GE145.out) | exact HB.out)⟩

/-! ### skywaylaw1_tubeWorks: function 37 -/
def skywaylaw1_tubeWorks.f (k : Nat)  : Option (Bool) := (skywaylaw1_node.f 0 0 0 0 10 0).bind fun bt146 => ((skywaylaw1_node.f 4 10 0 0 11 0).bind fun bt152 => ((tube_At.f k (([(⟨(⟨bt146.1, (⟨bt146.2.1, bt146.2.2.1⟩ : S38), bt146.2.2.2.1⟩ : S89), bt146.2.2.2.2.1, bt146.2.2.2.2.2⟩ : S91), (⟨(⟨bt152.1, (⟨bt152.2.1, bt152.2.2.1⟩ : S38), bt152.2.2.2.1⟩ : S89), bt152.2.2.2.2.1, bt152.2.2.2.2.2⟩ : S91)] : List (S91))) 1).bind fun bt161 => (if bt161.2.2.2.2.2.2 = 0 then ((skywaylaw1_node.f 1 2 0 0 11 0).bind fun bt169 => (if ((bt161.1 == bt169.1 && ((bt161.2.1 == bt169.2.1 && (bt161.2.2.1 == bt169.2.2.1)) && (bt161.2.2.2.1 == bt169.2.2.2.1))) && (bt161.2.2.2.2.1 == bt169.2.2.2.2.1 && (bt161.2.2.2.2.2.1 == bt169.2.2.2.2.2))) = true then ((tube_Check.f k ([] : List (S91))).bind fun t175 => (some (t175 == 3))) else (some false))) else (some false))))
theorem skywaylaw1_tubeWorks.mono : ∀ k, LeO (skywaylaw1_tubeWorks.f k ) (skywaylaw1_tubeWorks.f (k + 1) ) := by
  intro  k
  unfold skywaylaw1_tubeWorks.f
  repeat' first
      | (with_reducible exact tube_At.mono _ _ _)
      | (with_reducible exact tube_Check.mono _ _)
      | (with_reducible exact LeO.refl _)
      | (with_reducible exact LeO.none _)
      | (with_reducible refine LeO.ite ?_ ?_)
      | (with_reducible refine LeO.bind ?_ (fun _ => ?_))
      | exact tube_At.mono _ _ _
      | exact tube_Check.mono _ _
      | exact LeO.none _
      | refine LeO.ite ?_ ?_
      | refine LeO.bind ?_ (fun _ => ?_)
def skywaylaw1_tubeWorks.T2 : Bool × List (List Nat × List Nat) := (true, [([], []), ([0], [0]), ([1], [1]), ([2], [2]), ([2, 2], [2]), ([3, 4, 2], [2, 3, 4]), ([2, 5], [2, 5]), ([6, 4], [6]), ([7, 7], [7]), ([8, 7], [7, 8]), ([7, 9], [7, 9]), ([10, 8, 0, 1, 2, 3, 4, 5, 6, 7, 8, 9, 10], [10])])
def skywaylaw1_tubeWorks.B2 : List Nat := [0, 1, 3, 7, 7, 31, 63, 127, 255, 511, 1023, 2047]
theorem skywaylaw1_tubeWorks.tab2 : rtab .any (opsOf Try.f37 2) = skywaylaw1_tubeWorks.T2 := by kernel_rfl
theorem skywaylaw1_tubeWorks.bits2 : waitsOk skywaylaw1_tubeWorks.T2.2 skywaylaw1_tubeWorks.B2 = true := by kernel_rfl
set_option maxHeartbeats 80000000 in
set_option maxRecDepth 100000 in
theorem skywaylaw1_tubeWorks.calls (k : Nat)  (r : Bool) (w : World) (h : skywaylaw1_tubeWorks.f k  = some r) :
    Calls Try.prog 37 #[] w fun e w' => e = .returned (.bool r) ∧ Below w.heap.size w w' := by
  have hu91 := Try.underlying91
  have HB := Aside0.mk (Below.refl w.heap.size w)
  have H : ((skywaylaw1_node.f 0 0 0 0 10 0).bind fun bt146 => ((skywaylaw1_node.f 4 10 0 0 11 0).bind fun bt152 => ((tube_At.f k (([(⟨(⟨bt146.1, (⟨bt146.2.1, bt146.2.2.1⟩ : S38), bt146.2.2.2.1⟩ : S89), bt146.2.2.2.2.1, bt146.2.2.2.2.2⟩ : S91), (⟨(⟨bt152.1, (⟨bt152.2.1, bt152.2.2.1⟩ : S38), bt152.2.2.2.1⟩ : S89), bt152.2.2.2.2.1, bt152.2.2.2.2.2⟩ : S91)] : List (S91))) 1).bind fun bt161 => (if bt161.2.2.2.2.2.2 = 0 then ((skywaylaw1_node.f 1 2 0 0 11 0).bind fun bt169 => (if ((bt161.1 == bt169.1 && ((bt161.2.1 == bt169.2.1 && (bt161.2.2.1 == bt169.2.2.1)) && (bt161.2.2.2.1 == bt169.2.2.2.1))) && (bt161.2.2.2.2.1 == bt169.2.2.2.2.1 && (bt161.2.2.2.2.2.1 == bt169.2.2.2.2.2))) = true then ((tube_Check.f k ([] : List (S91))).bind fun t175 => (some (t175 == 3))) else (some false))) else (some false))))) = some r := h
  clear h
  replace H := Option.bind_eq_some_iff.mp H
  obtain ⟨⟨t146, t147, t148, t149, t150, t151⟩, A10, H⟩ := H
  replace H : ((skywaylaw1_node.f 4 10 0 0 11 0).bind fun bt152 => ((tube_At.f k (([(⟨(⟨t146, (⟨t147, t148⟩ : S38), t149⟩ : S89), t150, t151⟩ : S91), (⟨(⟨bt152.1, (⟨bt152.2.1, bt152.2.2.1⟩ : S38), bt152.2.2.2.1⟩ : S89), bt152.2.2.2.2.1, bt152.2.2.2.2.2⟩ : S91)] : List (S91))) 1).bind fun bt161 => (if bt161.2.2.2.2.2.2 = 0 then ((skywaylaw1_node.f 1 2 0 0 11 0).bind fun bt169 => (if ((bt161.1 == bt169.1 && ((bt161.2.1 == bt169.2.1 && (bt161.2.2.1 == bt169.2.2.1)) && (bt161.2.2.2.1 == bt169.2.2.2.1))) && (bt161.2.2.2.2.1 == bt169.2.2.2.2.1 && (bt161.2.2.2.2.2.1 == bt169.2.2.2.2.2))) = true then ((tube_Check.f k ([] : List (S91))).bind fun t175 => (some (t175 == 3))) else (some false))) else (some false)))) = some r := H
  have A1 := Aside0.mk A10
  have CA1 := Aside0.mk (fun W_ => skywaylaw1_node.calls 0 0 0 0 10 0 t146 t147 t148 t149 t150 t151 W_ A10)
  clear A10
  replace H := Option.bind_eq_some_iff.mp H
  obtain ⟨⟨t152, t153, t154, t155, t156, t157⟩, A20, H⟩ := H
  replace H : ((tube_At.f k (([(⟨(⟨t146, (⟨t147, t148⟩ : S38), t149⟩ : S89), t150, t151⟩ : S91), (⟨(⟨t152, (⟨t153, t154⟩ : S38), t155⟩ : S89), t156, t157⟩ : S91)] : List (S91))) 1).bind fun bt161 => (if bt161.2.2.2.2.2.2 = 0 then ((skywaylaw1_node.f 1 2 0 0 11 0).bind fun bt169 => (if ((bt161.1 == bt169.1 && ((bt161.2.1 == bt169.2.1 && (bt161.2.2.1 == bt169.2.2.1)) && (bt161.2.2.2.1 == bt169.2.2.2.1))) && (bt161.2.2.2.2.1 == bt169.2.2.2.2.1 && (bt161.2.2.2.2.2.1 == bt169.2.2.2.2.2))) = true then ((tube_Check.f k ([] : List (S91))).bind fun t175 => (some (t175 == 3))) else (some false))) else (some false))) = some r := H
  have A2 := Aside0.mk A20
  have CA2 := Aside0.mk (fun W_ => skywaylaw1_node.calls 4 10 0 0 11 0 t152 t153 t154 t155 t156 t157 W_ A20)
  clear A20
  obtain ⟨y158, hy158⟩ : ∃ y_ : List (S91), y_ = (([(⟨(⟨t146, (⟨t147, t148⟩ : S38), t149⟩ : S89), t150, t151⟩ : S91), (⟨(⟨t152, (⟨t153, t154⟩ : S38), t155⟩ : S89), t156, t157⟩ : S91)] : List (S91))) := ⟨_, rfl⟩
  replace H : ((tube_At.f k y158 1).bind fun bt161 => (if bt161.2.2.2.2.2.2 = 0 then ((skywaylaw1_node.f 1 2 0 0 11 0).bind fun bt169 => (if ((bt161.1 == bt169.1 && ((bt161.2.1 == bt169.2.1 && (bt161.2.2.1 == bt169.2.2.1)) && (bt161.2.2.2.1 == bt169.2.2.2.1))) && (bt161.2.2.2.2.1 == bt169.2.2.2.2.1 && (bt161.2.2.2.2.2.1 == bt169.2.2.2.2.2))) = true then ((tube_Check.f k ([] : List (S91))).bind fun t175 => (some (t175 == 3))) else (some false))) else (some false))) = some r := by first | (rw [hy158]; with_reducible exact H) | (have H2_ := (Option.bind_some _ _).symm.trans H; rw [hy158]; with_reducible exact H2_) | (have H2_ := (Option.bind_some _ _).symm.trans H; with_reducible exact H2_) | with_reducible exact H | (rw [hy158]; exact H) | exact H
  have Ny158 := Aside0.mk hy158
  clear hy158
  replace H := Option.bind_eq_some_iff.mp H
  obtain ⟨⟨t161, t162, t163, t164, t165, t166, t167⟩, A30, H⟩ := H
  replace H : (if t167 = 0 then ((skywaylaw1_node.f 1 2 0 0 11 0).bind fun bt169 => (if ((t161 == bt169.1 && ((t162 == bt169.2.1 && (t163 == bt169.2.2.1)) && (t164 == bt169.2.2.2.1))) && (t165 == bt169.2.2.2.2.1 && (t166 == bt169.2.2.2.2.2))) = true then ((tube_Check.f k ([] : List (S91))).bind fun t175 => (some (t175 == 3))) else (some false))) else (some false)) = some r := H
  have A3 := Aside0.mk A30
  clear A30
  by_cases c4 : t167 = 0
  · rw [if_pos c4] at H
    have c4b0 : (t167 == 0) = true := beq_iff_eq.mpr c4
    have c4b1 : (t167 != 0) = false := bne_eq_false_iff_eq.mpr c4
    clear c4
    replace H := Option.bind_eq_some_iff.mp H
    obtain ⟨⟨t169, t170, t171, t172, t173, t174⟩, A50, H⟩ := H
    replace H : (if ((t161 == t169 && ((t162 == t170 && (t163 == t171)) && (t164 == t172))) && (t165 == t173 && (t166 == t174))) = true then ((tube_Check.f k ([] : List (S91))).bind fun t175 => (some (t175 == 3))) else (some false)) = some r := H
    have A5 := Aside0.mk A50
    have CA5 := Aside0.mk (fun W_ => skywaylaw1_node.calls 1 2 0 0 11 0 t169 t170 t171 t172 t173 t174 W_ A50)
    clear A50
    by_cases c6 : ((t161 == t169 && ((t162 == t170 && (t163 == t171)) && (t164 == t172))) && (t165 == t173 && (t166 == t174))) = true
    · rw [if_pos c6] at H
      have c6b0 : ((t161 == t169 && ((t162 == t170 && (t163 == t171)) && (t164 == t172))) && (t165 == t173 && (t166 == t174))) = true := c6
      clear c6
      replace H := Option.bind_eq_some_iff.mp H
      obtain ⟨t175, A70, H⟩ := H
      replace H : (some (t175 == 3)) = some r := H
      have A7 := Aside0.mk A70
      clear A70
      obtain rfl := Option.some.inj H
      go_enter Try.func37, Try.ntmps37
      try go_wp2_with (first | ((with_reducible refine gate_callee (f := 64) rfl ?_); refine goesL_ (some 4) rfl rfl Try.func64 (by kernel_rfl) rfl _ rfl (by (try simp only [List.map_toArray, List.map_cons, List.map_nil]); first | done | rfl) ((CA1.out _).mono ?_); rintro e w8 ⟨rfl, hb⟩; refine ⟨_, rfl, ?_⟩; have n0_ := Aside0.mk (below_step (by repeat (first | (with_reducible first | exact HB.out | apply below_alloc | apply pw_below_drewN | apply below_drew1) | exact HB.out)) hb); clear HB; have HB := n0_; clear n0_; (try clear hb); (try clear hb2); (try clear hk); (try clear hi)) | ((with_reducible refine gate_callee (f := 64) rfl ?_); refine goesL_ (some 5) rfl rfl Try.func64 (by kernel_rfl) rfl _ rfl (by (try simp only [List.map_toArray, List.map_cons, List.map_nil]); first | done | rfl) ((CA2.out _).mono ?_); rintro e w9 ⟨rfl, hb⟩; refine ⟨_, rfl, ?_⟩; have n0_ := Aside0.mk (below_step (by repeat (first | (with_reducible first | exact HB.out | apply below_alloc | apply pw_below_drewN | apply below_drew1) | exact HB.out)) hb); clear HB; have HB := n0_; clear n0_; (try clear hb); (try clear hb2); (try clear hk); (try clear hi)) | ((with_reducible refine gate_dst (N := 6) rfl ?_); refine Kd.R_lit k91 _ 91 ?hg (N := 6) ?hd (xs := ([(⟨(⟨t146, (⟨t147, t148⟩ : S38), t149⟩ : S89), t150, t151⟩ : S91), (⟨(⟨t152, (⟨t153, t154⟩ : S38), t155⟩ : S89), t156, t157⟩ : S91)] : List (S91))) (inner := [.int .i64 t146, .int .i64 t147, .int .i64 t148, .int .i64 t149, .int .i64 t150, .int .i64 t151, .int .i64 t152, .int .i64 t153, .int .i64 t154, .int .i64 t155, .int .i64 t156, .int .i64 t157]) (ok := fun _ => True) (okp := fun _ => True) ?hr ?hp (fun _ hk => hk) trivial (Below.refl _ _) (Nat.le_refl _) (by simp) ?_; (case hd => rfl); (case hg => rfl); (case hr => first | (go_simp; done) | (go_simp; rfl)); (case hp => exact (Reps.c6 (show Kd.M k91 _ _ _ (⟨(⟨t146, (⟨t147, t148⟩ : S38), t149⟩ : S89), t150, t151⟩ : S91) [.int .i64 t146, .int .i64 t147, .int .i64 t148, .int .i64 t149, .int .i64 t150, .int .i64 t151] from (k91_mkM _ _ _ (⟨(⟨t146, (⟨t147, t148⟩ : S38), t149⟩ : S89), t150, t151⟩ : S91) )) (Reps.c6 (show Kd.M k91 _ _ _ (⟨(⟨t152, (⟨t153, t154⟩ : S38), t155⟩ : S89), t156, t157⟩ : S91) [.int .i64 t152, .int .i64 t153, .int .i64 t154, .int .i64 t155, .int .i64 t156, .int .i64 t157] from (k91_mkM _ _ _ (⟨(⟨t152, (⟨t153, t154⟩ : S38), t155⟩ : S89), t156, t157⟩ : S91) )) (Reps.none _ _)))); intro v159 w10 ho11 hb hg_ hnew_; clear hg_ hnew_; (first | rw [← Ny158.out] at ho11 | (simp only [Int.reduceToNat] at ho11; rw [← Ny158.out] at ho11)); have n0_ := Aside0.mk (Kd.R_lower ho11 (below_size (by repeat (first | (with_reducible first | exact HB.out | apply below_alloc | apply pw_below_drewN | apply below_drew1) | exact HB.out)))); have n1_ := Aside0.mk (below_step (by repeat (first | (with_reducible first | exact HB.out | apply below_alloc | apply pw_below_drewN | apply below_drew1) | exact HB.out)) hb); clear HB; have HO160 := n0_; have HB := n1_; clear n0_ n1_; clear hb ho11; obtain ⟨Ao12, co12, eo12⟩ := Kd.R_slice HO160.out; subst eo12) | ((with_reducible refine gate_callee (f := 38) rfl ?_); refine goesL_ (some 7) rfl rfl Try.func38 (by kernel_rfl) rfl #[.slice Ao12 y158.length co12, .int .i64 1] rfl (by (try simp only [List.map_toArray, List.map_cons, List.map_nil]); first | done | rfl | (simp only [List.length_drop, List.length_take]; rfl)) ?_; (with_reducible refine (tube_At.calls k _ _ y158 1 t161 t162 t163 t164 t165 t166 t167 _ ?side1 ?side2 A3.out).mono ?_); (case side1 => repeat (first | exact (Kd.R_reads' HO160.out).2.2 | (with_reducible refine Kd.C_alloc ?_ _) | (with_reducible refine Kd.C_drewN ?_ _) | (with_reducible refine Kd.C_drew ?_))); (case side2 => exact (Kd.R_reads' HO160.out).2.1); rintro e w13 ⟨rfl, hb⟩; refine ⟨_, rfl, ?_⟩; have n0_ := Aside0.mk (Kd.R_below (by (with_reducible repeat (first | apply Kd.R_alloc | apply Kd.R_drewN | apply Kd.R_drew)); exact HO160.out) hb); have n1_ := Aside0.mk (below_step (by repeat (first | (with_reducible first | exact HB.out | apply below_alloc | apply pw_below_drewN | apply below_drew1) | exact HB.out)) hb); clear HO160; clear HB; have HO160 := n0_; have HB := n1_; clear n0_ n1_; (try clear hb); (try clear hb2); (try clear hk); (try clear hi)) | ((with_reducible refine gate_dst (N := 1) rfl ?_); refine box_event ?hg (N := 1) ?hd (cs := #[.int .i64 0, .int .i64 0, .int .i64 0, .int .i64 0, .int .i64 0, .int .i64 0]) (t := 91) ?hr ?_; (case hd => rfl); (case hg => rfl); (case hr => first | (go_simp; done) | (go_simp; rfl)); intro gb168 hg w14 hbox hb; have n0_ := Aside0.mk (Kd.R_below (Kd.R_elderB (by (with_reducible repeat (first | apply Kd.R_alloc | apply Kd.R_drewN | apply Kd.R_drew)); exact HO160.out) gb168 (Nat.le_of_eq hg.symm)) hb); have n1_ := Aside0.mk (below_step (by repeat (first | (with_reducible first | exact HB.out | apply below_alloc | apply pw_below_drewN | apply below_drew1) | exact HB.out)) hb); have n2_ := Aside0.mk (hbox); have n3_ := Aside0.mk ((by rw [hg]; exact (below_size (by repeat (first | (with_reducible first | exact HB.out | apply below_alloc | apply pw_below_drewN | apply below_drew1) | exact HB.out))) : w.heap.size ≤ gb168)); have n4_ := Aside0.mk ((by rw [hg]; exact (below_size (by repeat (first | (with_reducible first | exact HB.out | apply below_alloc | apply pw_below_drewN | apply below_drew1) | exact HB.out))) : w.heap.size ≤ gb168)); clear HO160; clear HB; have HO160 := n0_; have HB := n1_; have BK168 := n2_; have GW168 := n3_; have GE168 := n4_; clear n0_ n1_ n2_ n3_ n4_; clear hb hbox hg; obtain ⟨hcz15_0, hfz15_0⟩ := blkc6 BK168.out))
      have n0_ : Aside0 (Kd.R k91 91 ((((((w14.setCell ⟨gb168, 0, none⟩ (.int .i64 t161)).setCell ⟨gb168, 1, none⟩ (.int .i64 t162)).setCell ⟨gb168, 2, none⟩ (.int .i64 t163)).setCell ⟨gb168, 3, none⟩ (.int .i64 t164)).setCell ⟨gb168, 4, none⟩ (.int .i64 t165)).setCell ⟨gb168, 5, none⟩ (.int .i64 t166)) w.heap.size (fun k_ => k_ ≠ gb168) (.slice Ao12 y158.length co12) y158) := ⟨by (with_reducible repeat (first | apply Kd.R_alloc | apply Kd.R_drewN | apply Kd.R_drew)); exact Kd.R_mono (Kd.R_far (p := ⟨gb168, 5, none⟩) (Kd.R_far (p := ⟨gb168, 4, none⟩) (Kd.R_far (p := ⟨gb168, 3, none⟩) (Kd.R_far (p := ⟨gb168, 2, none⟩) (Kd.R_far (p := ⟨gb168, 1, none⟩) (Kd.R_far (p := ⟨gb168, 0, none⟩) (Kd.R_mono HO160.out (fun k_ hk => (⟨hk, hk.2⟩ : _ ∧ k_ ≠ gb168))) (fun _ hk => hk.2) (.int .i64 t161)) (fun _ hk => hk.2) (.int .i64 t162)) (fun _ hk => hk.2) (.int .i64 t163)) (fun _ hk => hk.2) (.int .i64 t164)) (fun _ hk => hk.2) (.int .i64 t165)) (fun _ hk => hk.2) (.int .i64 t166)) (fun _ hk => hk.1.2)⟩
      have n1_ : Aside0 (((((((w14.setCell ⟨gb168, 0, none⟩ (.int .i64 t161)).setCell ⟨gb168, 1, none⟩ (.int .i64 t162)).setCell ⟨gb168, 2, none⟩ (.int .i64 t163)).setCell ⟨gb168, 3, none⟩ (.int .i64 t164)).setCell ⟨gb168, 4, none⟩ (.int .i64 t165)).setCell ⟨gb168, 5, none⟩ (.int .i64 t166)).heap[gb168]? = some (.cells #[.int .i64 t161, .int .i64 t162, .int .i64 t163, .int .i64 t164, .int .i64 t165, .int .i64 t166] 91 (0, 0))) := ⟨by (with_reducible repeat (first | refine blk_drewN ?_ _ | refine blk_drew ?_ | refine blk_alloc ?_ _)); refine blk_put (cs := #[.int .i64 t161, .int .i64 t162, .int .i64 t163, .int .i64 t164, .int .i64 t165, .int .i64 0]) ?_ 5 _ rfl; (with_reducible repeat (first | refine blk_drewN ?_ _ | refine blk_drew ?_ | refine blk_alloc ?_ _)); refine blk_put (cs := #[.int .i64 t161, .int .i64 t162, .int .i64 t163, .int .i64 t164, .int .i64 0, .int .i64 0]) ?_ 4 _ rfl; (with_reducible repeat (first | refine blk_drewN ?_ _ | refine blk_drew ?_ | refine blk_alloc ?_ _)); refine blk_put (cs := #[.int .i64 t161, .int .i64 t162, .int .i64 t163, .int .i64 0, .int .i64 0, .int .i64 0]) ?_ 3 _ rfl; (with_reducible repeat (first | refine blk_drewN ?_ _ | refine blk_drew ?_ | refine blk_alloc ?_ _)); refine blk_put (cs := #[.int .i64 t161, .int .i64 t162, .int .i64 0, .int .i64 0, .int .i64 0, .int .i64 0]) ?_ 2 _ rfl; (with_reducible repeat (first | refine blk_drewN ?_ _ | refine blk_drew ?_ | refine blk_alloc ?_ _)); refine blk_put (cs := #[.int .i64 t161, .int .i64 0, .int .i64 0, .int .i64 0, .int .i64 0, .int .i64 0]) ?_ 1 _ rfl; (with_reducible repeat (first | refine blk_drewN ?_ _ | refine blk_drew ?_ | refine blk_alloc ?_ _)); refine blk_put (cs := #[.int .i64 0, .int .i64 0, .int .i64 0, .int .i64 0, .int .i64 0, .int .i64 0]) ?_ 0 _ rfl; (with_reducible repeat (first | refine blk_drewN ?_ _ | refine blk_drew ?_ | refine blk_alloc ?_ _)); exact BK168.out⟩
      have n2_ : Aside0 (Below w.heap.size w ((((((w14.setCell ⟨gb168, 0, none⟩ (.int .i64 t161)).setCell ⟨gb168, 1, none⟩ (.int .i64 t162)).setCell ⟨gb168, 2, none⟩ (.int .i64 t163)).setCell ⟨gb168, 3, none⟩ (.int .i64 t164)).setCell ⟨gb168, 4, none⟩ (.int .i64 t165)).setCell ⟨gb168, 5, none⟩ (.int .i64 t166))) := ⟨by repeat (first | (with_reducible first | exact HB.out | apply below_alloc | apply pw_below_drewN | apply below_drew1 | refine below_set ?_ GE168.out) | exact HB.out)⟩
      (try clear HO160)
      (try clear BK168)
      (try clear HB)
      generalize ((((((w14.setCell ⟨gb168, 0, none⟩ (.int .i64 t161)).setCell ⟨gb168, 1, none⟩ (.int .i64 t162)).setCell ⟨gb168, 2, none⟩ (.int .i64 t163)).setCell ⟨gb168, 3, none⟩ (.int .i64 t164)).setCell ⟨gb168, 4, none⟩ (.int .i64 t165)).setCell ⟨gb168, 5, none⟩ (.int .i64 t166)) = w16 at n0_ n1_ n2_ ⊢
      have HO160 := n0_
      have BK168 := n1_
      have HB := n2_
      clear n0_ n1_ n2_
      have n0_ := Aside0.mk (Kd.R_drew HO160.out)
      have n1_ := Aside0.mk (blk_drew BK168.out)
      have n2_ := Aside0.mk (below_drew1 HB.out)
      clear HO160
      clear BK168
      clear HB
      have HO160 := n0_
      have BK168 := n1_
      have HB := n2_
      clear n0_ n1_ n2_
      refine start_ (n := 12) (S := fun w' => w'.cell? ⟨gb168, 0, none⟩ = some (.int .i64 t161) ∧ w'.cell? ⟨gb168, 1, none⟩ = some (.int .i64 t162) ∧ w'.cell? ⟨gb168, 2, none⟩ = some (.int .i64 t163) ∧ w'.cell? ⟨gb168, 3, none⟩ = some (.int .i64 t164) ∧ w'.cell? ⟨gb168, 4, none⟩ = some (.int .i64 t165) ∧ w'.cell? ⟨gb168, 5, none⟩ = some (.int .i64 t166)) (ds := []) #[false, false, false, false, false, false, false, false, false, false, false, false] (by kernel_rfl) rfl rfl ⟨(blk_cell BK168.out 0).trans rfl, (blk_cell BK168.out 1).trans rfl, (blk_cell BK168.out 2).trans rfl, (blk_cell BK168.out 3).trans rfl, (blk_cell BK168.out 4).trans rfl, (blk_cell BK168.out 5).trans rfl⟩ (fun hHeld => ?_); refine with_tabW skywaylaw1_tubeWorks.tab2 skywaylaw1_tubeWorks.bits2 (fun HT_ HW_ => ?_)
      generalize w16.drew = w17 at HO160 BK168 HB hHeld ⊢
      refine pure_ (i := 0) (N := some 10) (v := ?_) (a' := ?_) #[true, false, false, false, false, false, false, false, false, false, false, false] rfl rfl (any_of HT_.out (by kernel_rfl)) (fun _ _ _ h => h) (Or.inl ⟨by rfl, ?_⟩) ?_ ?_
      rotate_left
      · intro w'
        go_simp
        with_reducible rfl
      rotate_left
      · simp only [Act.put, List.setIfInBounds_toArray, List.set_cons_zero, List.set_cons_succ, i64_w, i32_w]
        rfl
      refine pure_ (i := 1) (N := some 11) (v := ?_) (a' := ?_) #[true, true, false, false, false, false, false, false, false, false, false, false] rfl rfl (any_of HT_.out (by kernel_rfl)) (fun _ _ _ h => h) (Or.inl ⟨by rfl, ?_⟩) ?_ ?_
      rotate_left
      · intro w'
        go_simp
        with_reducible rfl
      rotate_left
      · simp only [Act.put, List.setIfInBounds_toArray, List.set_cons_zero, List.set_cons_succ, i64_w, i32_w]
        rfl
      refine pure_ (i := 2) (N := some 12) (v := ?_) (a' := ?_) #[true, true, true, false, false, false, false, false, false, false, false, false] rfl rfl (any_of HT_.out (by kernel_rfl)) (fun _ _ _ h => h) (Or.inl ⟨by rfl, ?_⟩) ?_ ?_
      rotate_left
      · intro w'
        go_simp
        with_reducible rfl
      rotate_left
      · simp only [Act.put, List.setIfInBounds_toArray, List.set_cons_zero, List.set_cons_succ, i64_w, i32_w]
        rfl
      refine take_ (i := 3) (N := some 13) (v := ?_) (a' := ?_) #[true, true, true, true, false, false, false, false, false, false, false, false] rfl rfl (take_ofW HT_.out HW_.out (by kernel_rfl)) (fun _ _ _ h => h) (Or.inl ⟨by rfl, ?_⟩) hHeld ?_ ?_
      rotate_left
      · rintro w' ⟨s0, s1, s2, s3, s4, s5⟩
        go_simp
        with_reducible rfl
      rotate_left
      · simp only [Act.put, List.setIfInBounds_toArray, List.set_cons_zero, List.set_cons_succ, i64_w, i32_w]
        rfl
      refine one_ (i := 4) (N := some 14) #[true, true, true, true, true, false, false, false, false, false, false, false] rfl rfl (one_of HT_.out (by kernel_rfl)) (by decide) (fun K hK => ?_)
      refine goes_ Try.func64 (by kernel_rfl) rfl #[.int .i64 1, .int .i64 2, .int .i64 0, .int .i64 0, .int .i64 11, .int .i64 0] (by rfl) rfl rfl (by (try simp only [List.map_toArray, List.map_cons, List.map_nil]); first | done | rfl | (simp only [List.length_drop, List.length_take]; rfl)) ?_
      with_reducible refine (CA5.out _).mono ?_
      rintro e w18 ⟨rfl, hb⟩
      refine ⟨_, rfl, ?_⟩
      have n0_ := Aside0.mk (Kd.R_below (by (with_reducible repeat (first | apply Kd.R_alloc | apply Kd.R_drewN | apply Kd.R_drew)); exact HO160.out) hb)
      have n1_ := Aside0.mk (blk_below (g := gb168) (by (with_reducible repeat (first | refine blk_drewN ?_ _ | refine blk_drew ?_ | refine blk_alloc ?_ _)); exact BK168.out) hb)
      have n2_ := Aside0.mk (below_step (by repeat (first | (with_reducible first | exact HB.out | apply below_alloc | apply pw_below_drewN | apply below_drew1 | refine below_set ?_ GE168.out) | exact HB.out)) hb)
      clear HO160
      clear BK168
      clear HB
      have HO160 := n0_
      have BK168 := n1_
      have HB := n2_
      clear n0_ n1_ n2_
      (try clear hb)
      (try clear hb2)
      (try clear hk)
      (try clear hi)
      refine hK.out _ _ ⟨(blk_cell BK168.out 0).trans rfl, (blk_cell BK168.out 1).trans rfl, (blk_cell BK168.out 2).trans rfl, (blk_cell BK168.out 3).trans rfl, (blk_cell BK168.out 4).trans rfl, (blk_cell BK168.out 5).trans rfl⟩ (fun hHeld => ?_)
      clear hK K
      refine norm_ (a' := ?_) ?_ ?_
      rotate_left
      · show Act.put _ (some 14) _ = _
        simp only [Act.put, List.setIfInBounds_toArray, List.set_cons_zero, List.set_cons_succ, i64_w, i32_w]
        rfl
      refine pure_ (i := 5) (N := some 15) (v := ?_) (a' := ?_) #[true, true, true, true, true, true, false, false, false, false, false, false] rfl rfl (any_of HT_.out (by kernel_rfl)) (fun _ _ _ h => h) (Or.inl ⟨by rfl, ?_⟩) ?_ ?_
      rotate_left
      · intro w'
        go_simp
        with_reducible rfl
      rotate_left
      · simp only [Act.put, List.setIfInBounds_toArray, List.set_cons_zero, List.set_cons_succ, i64_w, i32_w]
        rfl
      refine pure_ (i := 6) (N := some 16) (v := ?_) (a' := ?_) #[true, true, true, true, true, true, true, false, false, false, false, false] rfl rfl (any_of HT_.out (by kernel_rfl)) (fun _ _ _ h => h) (Or.inl ⟨by rfl, ?_⟩) ?_ ?_
      rotate_left
      · intro w'
        go_simp
        with_reducible rfl
      rotate_left
      · simp only [Act.put, List.setIfInBounds_toArray, List.set_cons_zero, List.set_cons_succ, i64_w, i32_w]
        rfl
      refine pure_ (i := 7) (N := some 17) (v := ?_) (a' := ?_) #[true, true, true, true, true, true, true, true, false, false, false, false] rfl rfl (any_of HT_.out (by kernel_rfl)) (fun _ _ _ h => h) (Or.inl ⟨by rfl, ?_⟩) ?_ ?_
      rotate_left
      · intro w'
        go_simp
        with_reducible rfl
      rotate_left
      · simp only [Act.put, List.setIfInBounds_toArray, List.set_cons_zero, List.set_cons_succ, i64_w, i32_w]
        rfl
      refine one_ (i := 8) (N := some 18) #[true, true, true, true, true, true, true, true, true, false, false, false] rfl rfl (one_of HT_.out (by kernel_rfl)) (by decide) (fun K hK => ?_)
      refine goes_ Try.func39 (by kernel_rfl) rfl #[.slice none 0 0] (by rfl) rfl rfl (by (try simp only [List.map_toArray, List.map_cons, List.map_nil]); first | done | rfl | (simp only [List.length_drop, List.length_take]; rfl)) ?_
      refine (tube_Check.calls k _ _ ([] : List (S91)) t175 _ ?side1 ?side2 A7.out).mono ?_
      (case side1 => exact Kd.C_nil _ _)
      (case side2 => exact Nat.le_refl _)
      rintro e w19 ⟨rfl, hb⟩
      refine ⟨_, rfl, ?_⟩
      have n0_ := Aside0.mk (Kd.R_below (by (with_reducible repeat (first | apply Kd.R_alloc | apply Kd.R_drewN | apply Kd.R_drew)); exact HO160.out) hb)
      have n1_ := Aside0.mk (blk_below (g := gb168) (by (with_reducible repeat (first | refine blk_drewN ?_ _ | refine blk_drew ?_ | refine blk_alloc ?_ _)); exact BK168.out) hb)
      have n2_ := Aside0.mk (below_step (by repeat (first | (with_reducible first | exact HB.out | apply below_alloc | apply pw_below_drewN | apply below_drew1 | refine below_set ?_ GE168.out) | exact HB.out)) hb)
      clear HO160
      clear BK168
      clear HB
      have HO160 := n0_
      have BK168 := n1_
      have HB := n2_
      clear n0_ n1_ n2_
      (try clear hb)
      (try clear hb2)
      (try clear hk)
      (try clear hi)
      refine hK.out _ _ ⟨(blk_cell BK168.out 0).trans rfl, (blk_cell BK168.out 1).trans rfl, (blk_cell BK168.out 2).trans rfl, (blk_cell BK168.out 3).trans rfl, (blk_cell BK168.out 4).trans rfl, (blk_cell BK168.out 5).trans rfl⟩ (fun hHeld => ?_)
      clear hK K
      refine norm_ (a' := ?_) ?_ ?_
      rotate_left
      · show Act.put _ (some 18) _ = _
        simp only [Act.put, List.setIfInBounds_toArray, List.set_cons_zero, List.set_cons_succ, i64_w, i32_w]
        rfl
      refine pure_ (i := 9) (N := some 19) (v := ?_) (a' := ?_) #[true, true, true, true, true, true, true, true, true, true, false, false] rfl rfl (any_of HT_.out (by kernel_rfl)) (fun _ _ _ h => h) (Or.inl ⟨by rfl, ?_⟩) ?_ ?_
      rotate_left
      · intro w'
        go_simp
        with_reducible rfl
      rotate_left
      · simp only [Act.put, List.setIfInBounds_toArray, List.set_cons_zero, List.set_cons_succ, i64_w, i32_w]
        rfl
      refine pure_ (i := 10) (N := some 20) (v := ?_) (a' := ?_) #[true, true, true, true, true, true, true, true, true, true, true, false] rfl rfl (any_of HT_.out (by kernel_rfl)) (fun _ _ _ h => h) (Or.inl ⟨by rfl, ?_⟩) ?_ ?_
      rotate_left
      · intro w'
        go_simp
        with_reducible rfl
      rotate_left
      · simp only [Act.put, List.setIfInBounds_toArray, List.set_cons_zero, List.set_cons_succ, i64_w, i32_w]
        rfl
      refine pure_ (i := 11) (N := some 0) (v := ?_) (a' := ?_) #[true, true, true, true, true, true, true, true, true, true, true, true] rfl rfl (any_of HT_.out (by kernel_rfl)) (fun _ _ _ h => h) (Or.inl ⟨by rfl, ?_⟩) ?_ ?_
      rotate_left
      · intro w'
        go_simp
        with_reducible rfl
      rotate_left
      · simp only [Act.put, List.setIfInBounds_toArray, List.set_cons_zero, List.set_cons_succ, i64_w, i32_w]
        rfl
      refine done_ (done_of HT_.out (by kernel_rfl)) ?_
      try go_wp2
      go_ret
      exact ⟨by first | rfl | (simp [errW_none, errW_some] <;> rfl) | (simp [*, errW_none, errW_some] <;> rfl), by repeat (first | (with_reducible first | exact HB.out | apply below_alloc | apply pw_below_drewN | apply below_drew1 | refine below_set ?_ GE168.out) | exact HB.out)⟩
    · rw [if_neg c6] at H
      have c6b0 : ((t161 == t169 && ((t162 == t170 && (t163 == t171)) && (t164 == t172))) && (t165 == t173 && (t166 == t174))) = false := by simpa using c6
      clear c6
      obtain rfl := Option.some.inj H
      go_enter Try.func37, Try.ntmps37
      try go_wp2_with (first | ((with_reducible refine gate_callee (f := 64) rfl ?_); refine goesL_ (some 4) rfl rfl Try.func64 (by kernel_rfl) rfl _ rfl (by (try simp only [List.map_toArray, List.map_cons, List.map_nil]); first | done | rfl) ((CA1.out _).mono ?_); rintro e w20 ⟨rfl, hb⟩; refine ⟨_, rfl, ?_⟩; have n0_ := Aside0.mk (below_step (by repeat (first | (with_reducible first | exact HB.out | apply below_alloc | apply pw_below_drewN | apply below_drew1) | exact HB.out)) hb); clear HB; have HB := n0_; clear n0_; (try clear hb); (try clear hb2); (try clear hk); (try clear hi)) | ((with_reducible refine gate_callee (f := 64) rfl ?_); refine goesL_ (some 5) rfl rfl Try.func64 (by kernel_rfl) rfl _ rfl (by (try simp only [List.map_toArray, List.map_cons, List.map_nil]); first | done | rfl) ((CA2.out _).mono ?_); rintro e w21 ⟨rfl, hb⟩; refine ⟨_, rfl, ?_⟩; have n0_ := Aside0.mk (below_step (by repeat (first | (with_reducible first | exact HB.out | apply below_alloc | apply pw_below_drewN | apply below_drew1) | exact HB.out)) hb); clear HB; have HB := n0_; clear n0_; (try clear hb); (try clear hb2); (try clear hk); (try clear hi)) | ((with_reducible refine gate_dst (N := 6) rfl ?_); refine Kd.R_lit k91 _ 91 ?hg (N := 6) ?hd (xs := ([(⟨(⟨t146, (⟨t147, t148⟩ : S38), t149⟩ : S89), t150, t151⟩ : S91), (⟨(⟨t152, (⟨t153, t154⟩ : S38), t155⟩ : S89), t156, t157⟩ : S91)] : List (S91))) (inner := [.int .i64 t146, .int .i64 t147, .int .i64 t148, .int .i64 t149, .int .i64 t150, .int .i64 t151, .int .i64 t152, .int .i64 t153, .int .i64 t154, .int .i64 t155, .int .i64 t156, .int .i64 t157]) (ok := fun _ => True) (okp := fun _ => True) ?hr ?hp (fun _ hk => hk) trivial (Below.refl _ _) (Nat.le_refl _) (by simp) ?_; (case hd => rfl); (case hg => rfl); (case hr => first | (go_simp; done) | (go_simp; rfl)); (case hp => exact (Reps.c6 (show Kd.M k91 _ _ _ (⟨(⟨t146, (⟨t147, t148⟩ : S38), t149⟩ : S89), t150, t151⟩ : S91) [.int .i64 t146, .int .i64 t147, .int .i64 t148, .int .i64 t149, .int .i64 t150, .int .i64 t151] from (k91_mkM _ _ _ (⟨(⟨t146, (⟨t147, t148⟩ : S38), t149⟩ : S89), t150, t151⟩ : S91) )) (Reps.c6 (show Kd.M k91 _ _ _ (⟨(⟨t152, (⟨t153, t154⟩ : S38), t155⟩ : S89), t156, t157⟩ : S91) [.int .i64 t152, .int .i64 t153, .int .i64 t154, .int .i64 t155, .int .i64 t156, .int .i64 t157] from (k91_mkM _ _ _ (⟨(⟨t152, (⟨t153, t154⟩ : S38), t155⟩ : S89), t156, t157⟩ : S91) )) (Reps.none _ _)))); intro v159 w22 ho23 hb hg_ hnew_; clear hg_ hnew_; (first | rw [← Ny158.out] at ho23 | (simp only [Int.reduceToNat] at ho23; rw [← Ny158.out] at ho23)); have n0_ := Aside0.mk (Kd.R_lower ho23 (below_size (by repeat (first | (with_reducible first | exact HB.out | apply below_alloc | apply pw_below_drewN | apply below_drew1) | exact HB.out)))); have n1_ := Aside0.mk (below_step (by repeat (first | (with_reducible first | exact HB.out | apply below_alloc | apply pw_below_drewN | apply below_drew1) | exact HB.out)) hb); clear HB; have HO160 := n0_; have HB := n1_; clear n0_ n1_; clear hb ho23; obtain ⟨Ao24, co24, eo24⟩ := Kd.R_slice HO160.out; subst eo24) | ((with_reducible refine gate_callee (f := 38) rfl ?_); refine goesL_ (some 7) rfl rfl Try.func38 (by kernel_rfl) rfl #[.slice Ao24 y158.length co24, .int .i64 1] rfl (by (try simp only [List.map_toArray, List.map_cons, List.map_nil]); first | done | rfl | (simp only [List.length_drop, List.length_take]; rfl)) ?_; (with_reducible refine (tube_At.calls k _ _ y158 1 t161 t162 t163 t164 t165 t166 t167 _ ?side1 ?side2 A3.out).mono ?_); (case side1 => repeat (first | exact (Kd.R_reads' HO160.out).2.2 | (with_reducible refine Kd.C_alloc ?_ _) | (with_reducible refine Kd.C_drewN ?_ _) | (with_reducible refine Kd.C_drew ?_))); (case side2 => exact (Kd.R_reads' HO160.out).2.1); rintro e w25 ⟨rfl, hb⟩; refine ⟨_, rfl, ?_⟩; have n0_ := Aside0.mk (Kd.R_below (by (with_reducible repeat (first | apply Kd.R_alloc | apply Kd.R_drewN | apply Kd.R_drew)); exact HO160.out) hb); have n1_ := Aside0.mk (below_step (by repeat (first | (with_reducible first | exact HB.out | apply below_alloc | apply pw_below_drewN | apply below_drew1) | exact HB.out)) hb); clear HO160; clear HB; have HO160 := n0_; have HB := n1_; clear n0_ n1_; (try clear hb); (try clear hb2); (try clear hk); (try clear hi)) | ((with_reducible refine gate_dst (N := 1) rfl ?_); refine box_event ?hg (N := 1) ?hd (cs := #[.int .i64 0, .int .i64 0, .int .i64 0, .int .i64 0, .int .i64 0, .int .i64 0]) (t := 91) ?hr ?_; (case hd => rfl); (case hg => rfl); (case hr => first | (go_simp; done) | (go_simp; rfl)); intro gb168 hg w26 hbox hb; have n0_ := Aside0.mk (Kd.R_below (Kd.R_elderB (by (with_reducible repeat (first | apply Kd.R_alloc | apply Kd.R_drewN | apply Kd.R_drew)); exact HO160.out) gb168 (Nat.le_of_eq hg.symm)) hb); have n1_ := Aside0.mk (below_step (by repeat (first | (with_reducible first | exact HB.out | apply below_alloc | apply pw_below_drewN | apply below_drew1) | exact HB.out)) hb); have n2_ := Aside0.mk (hbox); have n3_ := Aside0.mk ((by rw [hg]; exact (below_size (by repeat (first | (with_reducible first | exact HB.out | apply below_alloc | apply pw_below_drewN | apply below_drew1) | exact HB.out))) : w.heap.size ≤ gb168)); have n4_ := Aside0.mk ((by rw [hg]; exact (below_size (by repeat (first | (with_reducible first | exact HB.out | apply below_alloc | apply pw_below_drewN | apply below_drew1) | exact HB.out))) : w.heap.size ≤ gb168)); clear HO160; clear HB; have HO160 := n0_; have HB := n1_; have BK168 := n2_; have GW168 := n3_; have GE168 := n4_; clear n0_ n1_ n2_ n3_ n4_; clear hb hbox hg; obtain ⟨hcz27_0, hfz27_0⟩ := blkc6 BK168.out))
      have n0_ : Aside0 (Kd.R k91 91 ((((((w26.setCell ⟨gb168, 0, none⟩ (.int .i64 t161)).setCell ⟨gb168, 1, none⟩ (.int .i64 t162)).setCell ⟨gb168, 2, none⟩ (.int .i64 t163)).setCell ⟨gb168, 3, none⟩ (.int .i64 t164)).setCell ⟨gb168, 4, none⟩ (.int .i64 t165)).setCell ⟨gb168, 5, none⟩ (.int .i64 t166)) w.heap.size (fun k_ => k_ ≠ gb168) (.slice Ao24 y158.length co24) y158) := ⟨by (with_reducible repeat (first | apply Kd.R_alloc | apply Kd.R_drewN | apply Kd.R_drew)); exact Kd.R_mono (Kd.R_far (p := ⟨gb168, 5, none⟩) (Kd.R_far (p := ⟨gb168, 4, none⟩) (Kd.R_far (p := ⟨gb168, 3, none⟩) (Kd.R_far (p := ⟨gb168, 2, none⟩) (Kd.R_far (p := ⟨gb168, 1, none⟩) (Kd.R_far (p := ⟨gb168, 0, none⟩) (Kd.R_mono HO160.out (fun k_ hk => (⟨hk, hk.2⟩ : _ ∧ k_ ≠ gb168))) (fun _ hk => hk.2) (.int .i64 t161)) (fun _ hk => hk.2) (.int .i64 t162)) (fun _ hk => hk.2) (.int .i64 t163)) (fun _ hk => hk.2) (.int .i64 t164)) (fun _ hk => hk.2) (.int .i64 t165)) (fun _ hk => hk.2) (.int .i64 t166)) (fun _ hk => hk.1.2)⟩
      have n1_ : Aside0 (((((((w26.setCell ⟨gb168, 0, none⟩ (.int .i64 t161)).setCell ⟨gb168, 1, none⟩ (.int .i64 t162)).setCell ⟨gb168, 2, none⟩ (.int .i64 t163)).setCell ⟨gb168, 3, none⟩ (.int .i64 t164)).setCell ⟨gb168, 4, none⟩ (.int .i64 t165)).setCell ⟨gb168, 5, none⟩ (.int .i64 t166)).heap[gb168]? = some (.cells #[.int .i64 t161, .int .i64 t162, .int .i64 t163, .int .i64 t164, .int .i64 t165, .int .i64 t166] 91 (0, 0))) := ⟨by (with_reducible repeat (first | refine blk_drewN ?_ _ | refine blk_drew ?_ | refine blk_alloc ?_ _)); refine blk_put (cs := #[.int .i64 t161, .int .i64 t162, .int .i64 t163, .int .i64 t164, .int .i64 t165, .int .i64 0]) ?_ 5 _ rfl; (with_reducible repeat (first | refine blk_drewN ?_ _ | refine blk_drew ?_ | refine blk_alloc ?_ _)); refine blk_put (cs := #[.int .i64 t161, .int .i64 t162, .int .i64 t163, .int .i64 t164, .int .i64 0, .int .i64 0]) ?_ 4 _ rfl; (with_reducible repeat (first | refine blk_drewN ?_ _ | refine blk_drew ?_ | refine blk_alloc ?_ _)); refine blk_put (cs := #[.int .i64 t161, .int .i64 t162, .int .i64 t163, .int .i64 0, .int .i64 0, .int .i64 0]) ?_ 3 _ rfl; (with_reducible repeat (first | refine blk_drewN ?_ _ | refine blk_drew ?_ | refine blk_alloc ?_ _)); refine blk_put (cs := #[.int .i64 t161, .int .i64 t162, .int .i64 0, .int .i64 0, .int .i64 0, .int .i64 0]) ?_ 2 _ rfl; (with_reducible repeat (first | refine blk_drewN ?_ _ | refine blk_drew ?_ | refine blk_alloc ?_ _)); refine blk_put (cs := #[.int .i64 t161, .int .i64 0, .int .i64 0, .int .i64 0, .int .i64 0, .int .i64 0]) ?_ 1 _ rfl; (with_reducible repeat (first | refine blk_drewN ?_ _ | refine blk_drew ?_ | refine blk_alloc ?_ _)); refine blk_put (cs := #[.int .i64 0, .int .i64 0, .int .i64 0, .int .i64 0, .int .i64 0, .int .i64 0]) ?_ 0 _ rfl; (with_reducible repeat (first | refine blk_drewN ?_ _ | refine blk_drew ?_ | refine blk_alloc ?_ _)); exact BK168.out⟩
      have n2_ : Aside0 (Below w.heap.size w ((((((w26.setCell ⟨gb168, 0, none⟩ (.int .i64 t161)).setCell ⟨gb168, 1, none⟩ (.int .i64 t162)).setCell ⟨gb168, 2, none⟩ (.int .i64 t163)).setCell ⟨gb168, 3, none⟩ (.int .i64 t164)).setCell ⟨gb168, 4, none⟩ (.int .i64 t165)).setCell ⟨gb168, 5, none⟩ (.int .i64 t166))) := ⟨by repeat (first | (with_reducible first | exact HB.out | apply below_alloc | apply pw_below_drewN | apply below_drew1 | refine below_set ?_ GE168.out) | exact HB.out)⟩
      (try clear HO160)
      (try clear BK168)
      (try clear HB)
      generalize ((((((w26.setCell ⟨gb168, 0, none⟩ (.int .i64 t161)).setCell ⟨gb168, 1, none⟩ (.int .i64 t162)).setCell ⟨gb168, 2, none⟩ (.int .i64 t163)).setCell ⟨gb168, 3, none⟩ (.int .i64 t164)).setCell ⟨gb168, 4, none⟩ (.int .i64 t165)).setCell ⟨gb168, 5, none⟩ (.int .i64 t166)) = w28 at n0_ n1_ n2_ ⊢
      have HO160 := n0_
      have BK168 := n1_
      have HB := n2_
      clear n0_ n1_ n2_
      have n0_ := Aside0.mk (Kd.R_drew HO160.out)
      have n1_ := Aside0.mk (blk_drew BK168.out)
      have n2_ := Aside0.mk (below_drew1 HB.out)
      clear HO160
      clear BK168
      clear HB
      have HO160 := n0_
      have BK168 := n1_
      have HB := n2_
      clear n0_ n1_ n2_
      refine start_ (n := 12) (S := fun w' => w'.cell? ⟨gb168, 0, none⟩ = some (.int .i64 t161) ∧ w'.cell? ⟨gb168, 1, none⟩ = some (.int .i64 t162) ∧ w'.cell? ⟨gb168, 2, none⟩ = some (.int .i64 t163) ∧ w'.cell? ⟨gb168, 3, none⟩ = some (.int .i64 t164) ∧ w'.cell? ⟨gb168, 4, none⟩ = some (.int .i64 t165) ∧ w'.cell? ⟨gb168, 5, none⟩ = some (.int .i64 t166)) (ds := []) #[false, false, false, false, false, false, false, false, false, false, false, false] (by kernel_rfl) rfl rfl ⟨(blk_cell BK168.out 0).trans rfl, (blk_cell BK168.out 1).trans rfl, (blk_cell BK168.out 2).trans rfl, (blk_cell BK168.out 3).trans rfl, (blk_cell BK168.out 4).trans rfl, (blk_cell BK168.out 5).trans rfl⟩ (fun hHeld => ?_); refine with_tabW skywaylaw1_tubeWorks.tab2 skywaylaw1_tubeWorks.bits2 (fun HT_ HW_ => ?_)
      generalize w28.drew = w29 at HO160 BK168 HB hHeld ⊢
      refine pure_ (i := 0) (N := some 10) (v := ?_) (a' := ?_) #[true, false, false, false, false, false, false, false, false, false, false, false] rfl rfl (any_of HT_.out (by kernel_rfl)) (fun _ _ _ h => h) (Or.inl ⟨by rfl, ?_⟩) ?_ ?_
      rotate_left
      · intro w'
        go_simp
        with_reducible rfl
      rotate_left
      · simp only [Act.put, List.setIfInBounds_toArray, List.set_cons_zero, List.set_cons_succ, i64_w, i32_w]
        rfl
      refine pure_ (i := 1) (N := some 11) (v := ?_) (a' := ?_) #[true, true, false, false, false, false, false, false, false, false, false, false] rfl rfl (any_of HT_.out (by kernel_rfl)) (fun _ _ _ h => h) (Or.inl ⟨by rfl, ?_⟩) ?_ ?_
      rotate_left
      · intro w'
        go_simp
        with_reducible rfl
      rotate_left
      · simp only [Act.put, List.setIfInBounds_toArray, List.set_cons_zero, List.set_cons_succ, i64_w, i32_w]
        rfl
      refine pure_ (i := 2) (N := some 12) (v := ?_) (a' := ?_) #[true, true, true, false, false, false, false, false, false, false, false, false] rfl rfl (any_of HT_.out (by kernel_rfl)) (fun _ _ _ h => h) (Or.inl ⟨by rfl, ?_⟩) ?_ ?_
      rotate_left
      · intro w'
        go_simp
        with_reducible rfl
      rotate_left
      · simp only [Act.put, List.setIfInBounds_toArray, List.set_cons_zero, List.set_cons_succ, i64_w, i32_w]
        rfl
      refine take_ (i := 3) (N := some 13) (v := ?_) (a' := ?_) #[true, true, true, true, false, false, false, false, false, false, false, false] rfl rfl (take_ofW HT_.out HW_.out (by kernel_rfl)) (fun _ _ _ h => h) (Or.inl ⟨by rfl, ?_⟩) hHeld ?_ ?_
      rotate_left
      · rintro w' ⟨s0, s1, s2, s3, s4, s5⟩
        go_simp
        with_reducible rfl
      rotate_left
      · simp only [Act.put, List.setIfInBounds_toArray, List.set_cons_zero, List.set_cons_succ, i64_w, i32_w]
        rfl
      refine one_ (i := 4) (N := some 14) #[true, true, true, true, true, false, false, false, false, false, false, false] rfl rfl (one_of HT_.out (by kernel_rfl)) (by decide) (fun K hK => ?_)
      refine goes_ Try.func64 (by kernel_rfl) rfl #[.int .i64 1, .int .i64 2, .int .i64 0, .int .i64 0, .int .i64 11, .int .i64 0] (by rfl) rfl rfl (by (try simp only [List.map_toArray, List.map_cons, List.map_nil]); first | done | rfl | (simp only [List.length_drop, List.length_take]; rfl)) ?_
      with_reducible refine (CA5.out _).mono ?_
      rintro e w30 ⟨rfl, hb⟩
      refine ⟨_, rfl, ?_⟩
      have n0_ := Aside0.mk (Kd.R_below (by (with_reducible repeat (first | apply Kd.R_alloc | apply Kd.R_drewN | apply Kd.R_drew)); exact HO160.out) hb)
      have n1_ := Aside0.mk (blk_below (g := gb168) (by (with_reducible repeat (first | refine blk_drewN ?_ _ | refine blk_drew ?_ | refine blk_alloc ?_ _)); exact BK168.out) hb)
      have n2_ := Aside0.mk (below_step (by repeat (first | (with_reducible first | exact HB.out | apply below_alloc | apply pw_below_drewN | apply below_drew1 | refine below_set ?_ GE168.out) | exact HB.out)) hb)
      clear HO160
      clear BK168
      clear HB
      have HO160 := n0_
      have BK168 := n1_
      have HB := n2_
      clear n0_ n1_ n2_
      (try clear hb)
      (try clear hb2)
      (try clear hk)
      (try clear hi)
      refine hK.out _ _ ⟨(blk_cell BK168.out 0).trans rfl, (blk_cell BK168.out 1).trans rfl, (blk_cell BK168.out 2).trans rfl, (blk_cell BK168.out 3).trans rfl, (blk_cell BK168.out 4).trans rfl, (blk_cell BK168.out 5).trans rfl⟩ (fun hHeld => ?_)
      clear hK K
      refine norm_ (a' := ?_) ?_ ?_
      rotate_left
      · show Act.put _ (some 14) _ = _
        simp only [Act.put, List.setIfInBounds_toArray, List.set_cons_zero, List.set_cons_succ, i64_w, i32_w]
        rfl
      refine pure_ (i := 5) (N := some 15) (v := ?_) (a' := ?_) #[true, true, true, true, true, true, false, false, false, false, false, false] rfl rfl (any_of HT_.out (by kernel_rfl)) (fun _ _ _ h => h) (Or.inl ⟨by rfl, ?_⟩) ?_ ?_
      rotate_left
      · intro w'
        go_simp
        with_reducible rfl
      rotate_left
      · simp only [Act.put, List.setIfInBounds_toArray, List.set_cons_zero, List.set_cons_succ, i64_w, i32_w]
        rfl
      refine pure_ (i := 6) (N := some 16) (v := ?_) (a' := ?_) #[true, true, true, true, true, true, true, false, false, false, false, false] rfl rfl (any_of HT_.out (by kernel_rfl)) (fun _ _ _ h => h) (Or.inl ⟨by rfl, ?_⟩) ?_ ?_
      rotate_left
      · intro w'
        go_simp
        with_reducible rfl
      rotate_left
      · simp only [Act.put, List.setIfInBounds_toArray, List.set_cons_zero, List.set_cons_succ, i64_w, i32_w]
        rfl
      refine pure_ (i := 7) (N := some 17) (v := ?_) (a' := ?_) #[true, true, true, true, true, true, true, true, false, false, false, false] rfl rfl (any_of HT_.out (by kernel_rfl)) (fun _ _ _ h => h) (Or.inl ⟨by rfl, ?_⟩) ?_ ?_
      rotate_left
      · intro w'
        go_simp
        with_reducible rfl
      rotate_left
      · simp only [Act.put, List.setIfInBounds_toArray, List.set_cons_zero, List.set_cons_succ, i64_w, i32_w]
        rfl
      refine pure_ (i := 8) (N := some 18) (v := undef) (a' := ?_) #[true, true, true, true, true, true, true, true, true, false, false, false] rfl rfl (any_of HT_.out (by kernel_rfl)) (fun _ _ _ h => h) (Or.inr ⟨by rfl, rfl⟩) ?_ ?_
      rotate_left
      · simp only [Act.put, List.setIfInBounds_toArray, List.set_cons_zero, List.set_cons_succ, i64_w, i32_w]
        rfl
      refine pure_ (i := 9) (N := some 19) (v := undef) (a' := ?_) #[true, true, true, true, true, true, true, true, true, true, false, false] rfl rfl (any_of HT_.out (by kernel_rfl)) (fun _ _ _ h => h) (Or.inr ⟨by rfl, rfl⟩) ?_ ?_
      rotate_left
      · simp only [Act.put, List.setIfInBounds_toArray, List.set_cons_zero, List.set_cons_succ, i64_w, i32_w]
        rfl
      refine pure_ (i := 10) (N := some 20) (v := ?_) (a' := ?_) #[true, true, true, true, true, true, true, true, true, true, true, false] rfl rfl (any_of HT_.out (by kernel_rfl)) (fun _ _ _ h => h) (Or.inl ⟨by rfl, ?_⟩) ?_ ?_
      rotate_left
      · intro w'
        go_simp
        with_reducible rfl
      rotate_left
      · simp only [Act.put, List.setIfInBounds_toArray, List.set_cons_zero, List.set_cons_succ, i64_w, i32_w]
        rfl
      refine pure_ (i := 11) (N := some 0) (v := ?_) (a' := ?_) #[true, true, true, true, true, true, true, true, true, true, true, true] rfl rfl (any_of HT_.out (by kernel_rfl)) (fun _ _ _ h => h) (Or.inl ⟨by rfl, ?_⟩) ?_ ?_
      rotate_left
      · intro w'
        go_simp
        with_reducible rfl
      rotate_left
      · simp only [Act.put, List.setIfInBounds_toArray, List.set_cons_zero, List.set_cons_succ, i64_w, i32_w]
        rfl
      refine done_ (done_of HT_.out (by kernel_rfl)) ?_
      try go_wp2
      go_ret
      exact ⟨by first | rfl | (simp [errW_none, errW_some] <;> rfl) | (simp [*, errW_none, errW_some] <;> rfl), by repeat (first | (with_reducible first | exact HB.out | apply below_alloc | apply pw_below_drewN | apply below_drew1 | refine below_set ?_ GE168.out) | exact HB.out)⟩
  · rw [if_neg c4] at H
    have c4b0 : (t167 == 0) = false := beq_eq_false_iff_ne.mpr c4
    have c4b1 : (t167 != 0) = true := bne_iff_ne.mpr c4
    obtain rfl := Option.some.inj H
    go_enter Try.func37, Try.ntmps37
    try go_wp2_with (first | ((with_reducible refine gate_callee (f := 64) rfl ?_); refine goesL_ (some 4) rfl rfl Try.func64 (by kernel_rfl) rfl _ rfl (by (try simp only [List.map_toArray, List.map_cons, List.map_nil]); first | done | rfl) ((CA1.out _).mono ?_); rintro e w31 ⟨rfl, hb⟩; refine ⟨_, rfl, ?_⟩; have n0_ := Aside0.mk (below_step (by repeat (first | (with_reducible first | exact HB.out | apply below_alloc | apply pw_below_drewN | apply below_drew1) | exact HB.out)) hb); clear HB; have HB := n0_; clear n0_; (try clear hb); (try clear hb2); (try clear hk); (try clear hi)) | ((with_reducible refine gate_callee (f := 64) rfl ?_); refine goesL_ (some 5) rfl rfl Try.func64 (by kernel_rfl) rfl _ rfl (by (try simp only [List.map_toArray, List.map_cons, List.map_nil]); first | done | rfl) ((CA2.out _).mono ?_); rintro e w32 ⟨rfl, hb⟩; refine ⟨_, rfl, ?_⟩; have n0_ := Aside0.mk (below_step (by repeat (first | (with_reducible first | exact HB.out | apply below_alloc | apply pw_below_drewN | apply below_drew1) | exact HB.out)) hb); clear HB; have HB := n0_; clear n0_; (try clear hb); (try clear hb2); (try clear hk); (try clear hi)) | ((with_reducible refine gate_dst (N := 6) rfl ?_); refine Kd.R_lit k91 _ 91 ?hg (N := 6) ?hd (xs := ([(⟨(⟨t146, (⟨t147, t148⟩ : S38), t149⟩ : S89), t150, t151⟩ : S91), (⟨(⟨t152, (⟨t153, t154⟩ : S38), t155⟩ : S89), t156, t157⟩ : S91)] : List (S91))) (inner := [.int .i64 t146, .int .i64 t147, .int .i64 t148, .int .i64 t149, .int .i64 t150, .int .i64 t151, .int .i64 t152, .int .i64 t153, .int .i64 t154, .int .i64 t155, .int .i64 t156, .int .i64 t157]) (ok := fun _ => True) (okp := fun _ => True) ?hr ?hp (fun _ hk => hk) trivial (Below.refl _ _) (Nat.le_refl _) (by simp) ?_; (case hd => rfl); (case hg => rfl); (case hr => first | (go_simp; done) | (go_simp; rfl)); (case hp => exact (Reps.c6 (show Kd.M k91 _ _ _ (⟨(⟨t146, (⟨t147, t148⟩ : S38), t149⟩ : S89), t150, t151⟩ : S91) [.int .i64 t146, .int .i64 t147, .int .i64 t148, .int .i64 t149, .int .i64 t150, .int .i64 t151] from (k91_mkM _ _ _ (⟨(⟨t146, (⟨t147, t148⟩ : S38), t149⟩ : S89), t150, t151⟩ : S91) )) (Reps.c6 (show Kd.M k91 _ _ _ (⟨(⟨t152, (⟨t153, t154⟩ : S38), t155⟩ : S89), t156, t157⟩ : S91) [.int .i64 t152, .int .i64 t153, .int .i64 t154, .int .i64 t155, .int .i64 t156, .int .i64 t157] from (k91_mkM _ _ _ (⟨(⟨t152, (⟨t153, t154⟩ : S38), t155⟩ : S89), t156, t157⟩ : S91) )) (Reps.none _ _)))); intro v159 w33 ho34 hb hg_ hnew_; clear hg_ hnew_; (first | rw [← Ny158.out] at ho34 | (simp only [Int.reduceToNat] at ho34; rw [← Ny158.out] at ho34)); have n0_ := Aside0.mk (Kd.R_lower ho34 (below_size (by repeat (first | (with_reducible first | exact HB.out | apply below_alloc | apply pw_below_drewN | apply below_drew1) | exact HB.out)))); have n1_ := Aside0.mk (below_step (by repeat (first | (with_reducible first | exact HB.out | apply below_alloc | apply pw_below_drewN | apply below_drew1) | exact HB.out)) hb); clear HB; have HO160 := n0_; have HB := n1_; clear n0_ n1_; clear hb ho34; obtain ⟨Ao35, co35, eo35⟩ := Kd.R_slice HO160.out; subst eo35) | ((with_reducible refine gate_callee (f := 38) rfl ?_); refine goesL_ (some 7) rfl rfl Try.func38 (by kernel_rfl) rfl #[.slice Ao35 y158.length co35, .int .i64 1] rfl (by (try simp only [List.map_toArray, List.map_cons, List.map_nil]); first | done | rfl | (simp only [List.length_drop, List.length_take]; rfl)) ?_; (with_reducible refine (tube_At.calls k _ _ y158 1 t161 t162 t163 t164 t165 t166 t167 _ ?side1 ?side2 A3.out).mono ?_); (case side1 => repeat (first | exact (Kd.R_reads' HO160.out).2.2 | (with_reducible refine Kd.C_alloc ?_ _) | (with_reducible refine Kd.C_drewN ?_ _) | (with_reducible refine Kd.C_drew ?_))); (case side2 => exact (Kd.R_reads' HO160.out).2.1); rintro e w36 ⟨rfl, hb⟩; refine ⟨_, rfl, ?_⟩; have n0_ := Aside0.mk (Kd.R_below (by (with_reducible repeat (first | apply Kd.R_alloc | apply Kd.R_drewN | apply Kd.R_drew)); exact HO160.out) hb); have n1_ := Aside0.mk (below_step (by repeat (first | (with_reducible first | exact HB.out | apply below_alloc | apply pw_below_drewN | apply below_drew1) | exact HB.out)) hb); clear HO160; clear HB; have HO160 := n0_; have HB := n1_; clear n0_ n1_; (try clear hb); (try clear hb2); (try clear hk); (try clear hi)) | ((with_reducible refine gate_dst (N := 1) rfl ?_); refine box_event ?hg (N := 1) ?hd (cs := #[.int .i64 0, .int .i64 0, .int .i64 0, .int .i64 0, .int .i64 0, .int .i64 0]) (t := 91) ?hr ?_; (case hd => rfl); (case hg => rfl); (case hr => first | (go_simp; done) | (go_simp; rfl)); intro gb168 hg w37 hbox hb; have n0_ := Aside0.mk (Kd.R_below (Kd.R_elderB (by (with_reducible repeat (first | apply Kd.R_alloc | apply Kd.R_drewN | apply Kd.R_drew)); exact HO160.out) gb168 (Nat.le_of_eq hg.symm)) hb); have n1_ := Aside0.mk (below_step (by repeat (first | (with_reducible first | exact HB.out | apply below_alloc | apply pw_below_drewN | apply below_drew1) | exact HB.out)) hb); have n2_ := Aside0.mk (hbox); have n3_ := Aside0.mk ((by rw [hg]; exact (below_size (by repeat (first | (with_reducible first | exact HB.out | apply below_alloc | apply pw_below_drewN | apply below_drew1) | exact HB.out))) : w.heap.size ≤ gb168)); have n4_ := Aside0.mk ((by rw [hg]; exact (below_size (by repeat (first | (with_reducible first | exact HB.out | apply below_alloc | apply pw_below_drewN | apply below_drew1) | exact HB.out))) : w.heap.size ≤ gb168)); clear HO160; clear HB; have HO160 := n0_; have HB := n1_; have BK168 := n2_; have GW168 := n3_; have GE168 := n4_; clear n0_ n1_ n2_ n3_ n4_; clear hb hbox hg; obtain ⟨hcz38_0, hfz38_0⟩ := blkc6 BK168.out))
    have n0_ : Aside0 (Kd.R k91 91 ((((((w37.setCell ⟨gb168, 0, none⟩ (.int .i64 t161)).setCell ⟨gb168, 1, none⟩ (.int .i64 t162)).setCell ⟨gb168, 2, none⟩ (.int .i64 t163)).setCell ⟨gb168, 3, none⟩ (.int .i64 t164)).setCell ⟨gb168, 4, none⟩ (.int .i64 t165)).setCell ⟨gb168, 5, none⟩ (.int .i64 t166)) w.heap.size (fun k_ => k_ ≠ gb168) (.slice Ao35 y158.length co35) y158) := ⟨by (with_reducible repeat (first | apply Kd.R_alloc | apply Kd.R_drewN | apply Kd.R_drew)); exact Kd.R_mono (Kd.R_far (p := ⟨gb168, 5, none⟩) (Kd.R_far (p := ⟨gb168, 4, none⟩) (Kd.R_far (p := ⟨gb168, 3, none⟩) (Kd.R_far (p := ⟨gb168, 2, none⟩) (Kd.R_far (p := ⟨gb168, 1, none⟩) (Kd.R_far (p := ⟨gb168, 0, none⟩) (Kd.R_mono HO160.out (fun k_ hk => (⟨hk, hk.2⟩ : _ ∧ k_ ≠ gb168))) (fun _ hk => hk.2) (.int .i64 t161)) (fun _ hk => hk.2) (.int .i64 t162)) (fun _ hk => hk.2) (.int .i64 t163)) (fun _ hk => hk.2) (.int .i64 t164)) (fun _ hk => hk.2) (.int .i64 t165)) (fun _ hk => hk.2) (.int .i64 t166)) (fun _ hk => hk.1.2)⟩
    have n1_ : Aside0 (((((((w37.setCell ⟨gb168, 0, none⟩ (.int .i64 t161)).setCell ⟨gb168, 1, none⟩ (.int .i64 t162)).setCell ⟨gb168, 2, none⟩ (.int .i64 t163)).setCell ⟨gb168, 3, none⟩ (.int .i64 t164)).setCell ⟨gb168, 4, none⟩ (.int .i64 t165)).setCell ⟨gb168, 5, none⟩ (.int .i64 t166)).heap[gb168]? = some (.cells #[.int .i64 t161, .int .i64 t162, .int .i64 t163, .int .i64 t164, .int .i64 t165, .int .i64 t166] 91 (0, 0))) := ⟨by (with_reducible repeat (first | refine blk_drewN ?_ _ | refine blk_drew ?_ | refine blk_alloc ?_ _)); refine blk_put (cs := #[.int .i64 t161, .int .i64 t162, .int .i64 t163, .int .i64 t164, .int .i64 t165, .int .i64 0]) ?_ 5 _ rfl; (with_reducible repeat (first | refine blk_drewN ?_ _ | refine blk_drew ?_ | refine blk_alloc ?_ _)); refine blk_put (cs := #[.int .i64 t161, .int .i64 t162, .int .i64 t163, .int .i64 t164, .int .i64 0, .int .i64 0]) ?_ 4 _ rfl; (with_reducible repeat (first | refine blk_drewN ?_ _ | refine blk_drew ?_ | refine blk_alloc ?_ _)); refine blk_put (cs := #[.int .i64 t161, .int .i64 t162, .int .i64 t163, .int .i64 0, .int .i64 0, .int .i64 0]) ?_ 3 _ rfl; (with_reducible repeat (first | refine blk_drewN ?_ _ | refine blk_drew ?_ | refine blk_alloc ?_ _)); refine blk_put (cs := #[.int .i64 t161, .int .i64 t162, .int .i64 0, .int .i64 0, .int .i64 0, .int .i64 0]) ?_ 2 _ rfl; (with_reducible repeat (first | refine blk_drewN ?_ _ | refine blk_drew ?_ | refine blk_alloc ?_ _)); refine blk_put (cs := #[.int .i64 t161, .int .i64 0, .int .i64 0, .int .i64 0, .int .i64 0, .int .i64 0]) ?_ 1 _ rfl; (with_reducible repeat (first | refine blk_drewN ?_ _ | refine blk_drew ?_ | refine blk_alloc ?_ _)); refine blk_put (cs := #[.int .i64 0, .int .i64 0, .int .i64 0, .int .i64 0, .int .i64 0, .int .i64 0]) ?_ 0 _ rfl; (with_reducible repeat (first | refine blk_drewN ?_ _ | refine blk_drew ?_ | refine blk_alloc ?_ _)); exact BK168.out⟩
    have n2_ : Aside0 (Below w.heap.size w ((((((w37.setCell ⟨gb168, 0, none⟩ (.int .i64 t161)).setCell ⟨gb168, 1, none⟩ (.int .i64 t162)).setCell ⟨gb168, 2, none⟩ (.int .i64 t163)).setCell ⟨gb168, 3, none⟩ (.int .i64 t164)).setCell ⟨gb168, 4, none⟩ (.int .i64 t165)).setCell ⟨gb168, 5, none⟩ (.int .i64 t166))) := ⟨by repeat (first | (with_reducible first | exact HB.out | apply below_alloc | apply pw_below_drewN | apply below_drew1 | refine below_set ?_ GE168.out) | exact HB.out)⟩
    (try clear HO160)
    (try clear BK168)
    (try clear HB)
    generalize ((((((w37.setCell ⟨gb168, 0, none⟩ (.int .i64 t161)).setCell ⟨gb168, 1, none⟩ (.int .i64 t162)).setCell ⟨gb168, 2, none⟩ (.int .i64 t163)).setCell ⟨gb168, 3, none⟩ (.int .i64 t164)).setCell ⟨gb168, 4, none⟩ (.int .i64 t165)).setCell ⟨gb168, 5, none⟩ (.int .i64 t166)) = w39 at n0_ n1_ n2_ ⊢
    have HO160 := n0_
    have BK168 := n1_
    have HB := n2_
    clear n0_ n1_ n2_
    have n0_ := Aside0.mk (Kd.R_drew HO160.out)
    have n1_ := Aside0.mk (blk_drew BK168.out)
    have n2_ := Aside0.mk (below_drew1 HB.out)
    clear HO160
    clear BK168
    clear HB
    have HO160 := n0_
    have BK168 := n1_
    have HB := n2_
    clear n0_ n1_ n2_
    refine start_ (n := 12) (S := fun w' => True) (ds := []) #[false, false, false, false, false, false, false, false, false, false, false, false] (by kernel_rfl) rfl rfl trivial (fun hHeld => ?_); refine with_tabW skywaylaw1_tubeWorks.tab2 skywaylaw1_tubeWorks.bits2 (fun HT_ HW_ => ?_)
    generalize w39.drew = w40 at HO160 BK168 HB hHeld ⊢
    refine pure_ (i := 0) (N := some 10) (v := ?_) (a' := ?_) #[true, false, false, false, false, false, false, false, false, false, false, false] rfl rfl (any_of HT_.out (by kernel_rfl)) (fun _ _ _ h => h) (Or.inl ⟨by rfl, ?_⟩) ?_ ?_
    rotate_left
    · intro w'
      go_simp
      with_reducible rfl
    rotate_left
    · simp only [Act.put, List.setIfInBounds_toArray, List.set_cons_zero, List.set_cons_succ, i64_w, i32_w]
      rfl
    refine pure_ (i := 1) (N := some 11) (v := ?_) (a' := ?_) #[true, true, false, false, false, false, false, false, false, false, false, false] rfl rfl (any_of HT_.out (by kernel_rfl)) (fun _ _ _ h => h) (Or.inl ⟨by rfl, ?_⟩) ?_ ?_
    rotate_left
    · intro w'
      go_simp
      with_reducible rfl
    rotate_left
    · simp only [Act.put, List.setIfInBounds_toArray, List.set_cons_zero, List.set_cons_succ, i64_w, i32_w]
      rfl
    refine pure_ (i := 2) (N := some 12) (v := ?_) (a' := ?_) #[true, true, true, false, false, false, false, false, false, false, false, false] rfl rfl (any_of HT_.out (by kernel_rfl)) (fun _ _ _ h => h) (Or.inl ⟨by rfl, ?_⟩) ?_ ?_
    rotate_left
    · intro w'
      go_simp
      with_reducible rfl
    rotate_left
    · simp only [Act.put, List.setIfInBounds_toArray, List.set_cons_zero, List.set_cons_succ, i64_w, i32_w]
      rfl
    refine pure_ (i := 3) (N := some 13) (v := undef) (a' := ?_) #[true, true, true, true, false, false, false, false, false, false, false, false] rfl rfl (any_of HT_.out (by kernel_rfl)) (fun _ _ _ h => h) (Or.inr ⟨by rfl, rfl⟩) ?_ ?_
    rotate_left
    · simp only [Act.put, List.setIfInBounds_toArray, List.set_cons_zero, List.set_cons_succ, i64_w, i32_w]
      rfl
    refine pure_ (i := 4) (N := some 14) (v := undef) (a' := ?_) #[true, true, true, true, true, false, false, false, false, false, false, false] rfl rfl (any_of HT_.out (by kernel_rfl)) (fun _ _ _ h => h) (Or.inr ⟨by rfl, rfl⟩) ?_ ?_
    rotate_left
    · simp only [Act.put, List.setIfInBounds_toArray, List.set_cons_zero, List.set_cons_succ, i64_w, i32_w]
      rfl
    refine pure_ (i := 5) (N := some 15) (v := undef) (a' := ?_) #[true, true, true, true, true, true, false, false, false, false, false, false] rfl rfl (any_of HT_.out (by kernel_rfl)) (fun _ _ _ h => h) (Or.inr ⟨by rfl, rfl⟩) ?_ ?_
    rotate_left
    · simp only [Act.put, List.setIfInBounds_toArray, List.set_cons_zero, List.set_cons_succ, i64_w, i32_w]
      rfl
    refine pure_ (i := 6) (N := some 16) (v := ?_) (a' := ?_) #[true, true, true, true, true, true, true, false, false, false, false, false] rfl rfl (any_of HT_.out (by kernel_rfl)) (fun _ _ _ h => h) (Or.inl ⟨by rfl, ?_⟩) ?_ ?_
    rotate_left
    · intro w'
      go_simp
      with_reducible rfl
    rotate_left
    · simp only [Act.put, List.setIfInBounds_toArray, List.set_cons_zero, List.set_cons_succ, i64_w, i32_w]
      rfl
    refine pure_ (i := 7) (N := some 17) (v := ?_) (a' := ?_) #[true, true, true, true, true, true, true, true, false, false, false, false] rfl rfl (any_of HT_.out (by kernel_rfl)) (fun _ _ _ h => h) (Or.inl ⟨by rfl, ?_⟩) ?_ ?_
    rotate_left
    · intro w'
      go_simp
      with_reducible rfl
    rotate_left
    · simp only [Act.put, List.setIfInBounds_toArray, List.set_cons_zero, List.set_cons_succ, i64_w, i32_w]
      rfl
    refine pure_ (i := 8) (N := some 18) (v := undef) (a' := ?_) #[true, true, true, true, true, true, true, true, true, false, false, false] rfl rfl (any_of HT_.out (by kernel_rfl)) (fun _ _ _ h => h) (Or.inr ⟨by rfl, rfl⟩) ?_ ?_
    rotate_left
    · simp only [Act.put, List.setIfInBounds_toArray, List.set_cons_zero, List.set_cons_succ, i64_w, i32_w]
      rfl
    refine pure_ (i := 9) (N := some 19) (v := undef) (a' := ?_) #[true, true, true, true, true, true, true, true, true, true, false, false] rfl rfl (any_of HT_.out (by kernel_rfl)) (fun _ _ _ h => h) (Or.inr ⟨by rfl, rfl⟩) ?_ ?_
    rotate_left
    · simp only [Act.put, List.setIfInBounds_toArray, List.set_cons_zero, List.set_cons_succ, i64_w, i32_w]
      rfl
    refine pure_ (i := 10) (N := some 20) (v := ?_) (a' := ?_) #[true, true, true, true, true, true, true, true, true, true, true, false] rfl rfl (any_of HT_.out (by kernel_rfl)) (fun _ _ _ h => h) (Or.inl ⟨by rfl, ?_⟩) ?_ ?_
    rotate_left
    · intro w'
      go_simp
      with_reducible rfl
    rotate_left
    · simp only [Act.put, List.setIfInBounds_toArray, List.set_cons_zero, List.set_cons_succ, i64_w, i32_w]
      rfl
    refine pure_ (i := 11) (N := some 0) (v := ?_) (a' := ?_) #[true, true, true, true, true, true, true, true, true, true, true, true] rfl rfl (any_of HT_.out (by kernel_rfl)) (fun _ _ _ h => h) (Or.inl ⟨by rfl, ?_⟩) ?_ ?_
    rotate_left
    · intro w'
      go_simp
      with_reducible rfl
    rotate_left
    · simp only [Act.put, List.setIfInBounds_toArray, List.set_cons_zero, List.set_cons_succ, i64_w, i32_w]
      rfl
    refine done_ (done_of HT_.out (by kernel_rfl)) ?_
    try go_wp2
    go_ret
    exact ⟨by first | rfl | (simp [errW_none, errW_some] <;> rfl) | (simp [*, errW_none, errW_some] <;> rfl), by repeat (first | (with_reducible first | exact HB.out | apply below_alloc | apply pw_below_drewN | apply below_drew1 | refine below_set ?_ GE168.out) | exact HB.out)⟩

/-! ### skywayref1_Floor: function 88 -/
mutual
def skywayref1_Floor.l0 : Nat → Int → Int → Int → Int → Option (Int)
  | 0, _, _, _, _ => none
  | k + 1, x0, x1, x5, x6 => if x6 ≥ 0 then (if 0 ≤ x6 then (if x1 ≤ (shr .i64 x0 x6) then (skywayref1_Floor.l0 k (wrap64 (x0 - (shl .i64 x1 x6))) x1 (wrap64 (x5 + (shl .i64 1 x6))) (wrap64 (x6 - 1))) else (skywayref1_Floor.l0 k x0 x1 x5 (wrap64 (x6 - 1)))) else (none)) else (some x5)
def skywayref1_Floor.f : Nat → Int → Int → Option (Int)
  | 0, _, _ => none
  | k + 1, a0, a1 => if a0 < 0 then ((skywayref1_Floor.f k (wrap64 ((wrap64 ((wrap64 (-a0)) + a1)) - 1)) a1).bind fun t176 => (some (wrap64 (-t176)))) else (skywayref1_Floor.l0 k a0 a1 0 62)
end
theorem skywayref1_Floor.mono_l : ∀ k, (∀ y0 y1, LeO (skywayref1_Floor.f k y0 y1) (skywayref1_Floor.f (k + 1) y0 y1)) ∧ (∀ y0 y1 y2 y3, LeO (skywayref1_Floor.l0 k y0 y1 y2 y3) (skywayref1_Floor.l0 (k + 1) y0 y1 y2 y3))
  | 0 => ⟨fun _ _ r h => by simp [skywayref1_Floor.f] at h, fun _ _ _ _ r h => by simp [skywayref1_Floor.l0] at h⟩
  | k + 1 => by
    obtain ⟨ih0, ih1⟩ := skywayref1_Floor.mono_l k
    refine ⟨?_, ?_⟩
    · intro y0 y1
      unfold skywayref1_Floor.f
      repeat' first
      | (with_reducible exact ih0 _ _)
      | (with_reducible exact ih1 _ _ _ _)
      | (with_reducible exact LeO.refl _)
      | (with_reducible exact LeO.none _)
      | (with_reducible refine LeO.ite ?_ ?_)
      | (with_reducible refine LeO.bind ?_ (fun _ => ?_))
      | exact ih0 _ _
      | exact ih1 _ _ _ _
      | exact LeO.none _
      | refine LeO.ite ?_ ?_
      | refine LeO.bind ?_ (fun _ => ?_)
    · intro y0 y1 y2 y3
      unfold skywayref1_Floor.l0
      repeat' first
      | (with_reducible exact ih0 _ _)
      | (with_reducible exact ih1 _ _ _ _)
      | (with_reducible exact LeO.refl _)
      | (with_reducible exact LeO.none _)
      | (with_reducible refine LeO.ite ?_ ?_)
      | (with_reducible refine LeO.bind ?_ (fun _ => ?_))
      | exact ih0 _ _
      | exact ih1 _ _ _ _
      | exact LeO.none _
      | refine LeO.ite ?_ ?_
      | refine LeO.bind ?_ (fun _ => ?_)
theorem skywayref1_Floor.mono : ∀ a0 a1 k, LeO (skywayref1_Floor.f k a0 a1) (skywayref1_Floor.f (k + 1) a0 a1) := by
  intro a0 a1 k
  obtain ⟨ih0, ih1⟩ := skywayref1_Floor.mono_l k
  exact ih0 a0 a1
set_option maxHeartbeats 80000000 in
set_option maxRecDepth 100000 in
theorem skywayref1_Floor.calls (k : Nat) : ∀ (a0 : Int) (a1 : Int) (r : Int) (w : World) (h : skywayref1_Floor.f k a0 a1 = some r),
    Calls Try.prog 88 #[.int .i64 a0, .int .i64 a1] w fun e w' => e = .returned (.int .i64 r) ∧ Drawn0 w w' := by
  induction k using Nat.strongRecOn with
  | _ k ih =>
  intro a0 a1 r w h
  cases k with
  | zero => exact absurd h (by simp [skywayref1_Floor.f])
  | succ k =>
  simp only [skywayref1_Floor.f] at h
  have H : (if a0 < 0 then ((skywayref1_Floor.f k (wrap64 ((wrap64 ((wrap64 (-a0)) + a1)) - 1)) a1).bind fun t176 => (some (wrap64 (-t176)))) else (skywayref1_Floor.l0 k a0 a1 0 62)) = some r := h
  clear h
  by_cases c3 : a0 < 0
  · rw [if_pos c3] at H
    have c3b0 : decide (a0 < 0) = true := decide_eq_true c3
    clear c3
    replace H := Option.bind_eq_some_iff.mp H
    obtain ⟨t176, A40, H⟩ := H
    replace H : (some (wrap64 (-t176))) = some r := H
    have A4 := Aside0.mk A40
    clear A40
    obtain rfl := Option.some.inj H
    go_enter Try.func88, Try.ntmps88
    go_wp2_with (first | ((with_reducible refine gate_callee (f := 88) rfl ?_); refine goesL_ (some 15) rfl rfl Try.func88 (by kernel_rfl) rfl #[.int .i64 (wrap64 ((wrap64 ((wrap64 (-a0)) + a1)) - 1)), .int .i64 a1] rfl (by (try simp only [List.map_toArray, List.map_cons, List.map_nil]); first | done | rfl | (simp only [List.length_drop, List.length_take]; rfl)) ?_; (with_reducible refine (ih k (by omega) (wrap64 ((wrap64 ((wrap64 (-a0)) + a1)) - 1)) a1 t176 _ A4.out).mono ?_); rintro e w' ⟨rfl, ⟨nd, rfl⟩⟩; refine ⟨_, rfl, ?_⟩))
    go_ret
    exact ⟨by first | rfl | (simp; done) | (simp [*]; done), by repeat (first | exact Drawn0.refl _ | apply Drawn0.step)⟩
  · rw [if_neg c3] at H
    have c3b0 : decide (a0 < 0) = false := decide_eq_false c3
    clear c3
    have H' := Aside0.mk H
    clear H
    go_enter Try.func88, Try.ntmps88
    go_wp2
    go_loopg [0, 5, 6] k (fun kq v0 v5 v6 w' => ∃ (x0_1 : Int) (x5_1 : Int) (x6_1 : Int), v0 = .int .i64 x0_1 ∧ v5 = .int .i64 x5_1 ∧ v6 = .int .i64 x6_1 ∧ Aside0 (skywayref1_Floor.l0 kq x0_1 a1 x5_1 x6_1 = some r) ∧ Aside0 (kq ≤ k) ∧ Drawn0 w w')
    case atStart => exact ⟨(a0), (0), (62), (by first | rfl | (simp; done) | (simp [*]; done)), (by first | rfl | (simp; done) | (simp [*]; done)), (by first | rfl | (simp; done) | (simp [*]; done)), H', ⟨Nat.le_refl _⟩, by repeat (first | exact Drawn0.refl _ | apply Drawn0.step)⟩
    case round =>
      clear H'
      try clear p2
      try clear c3
      try clear c3b0
      obtain ⟨x0_1, x5_1, x6_1, rfl, rfl, rfl, HA, HK1, ⟨m1, rfl⟩⟩ := hrel
      cases gk with
      | zero => exact absurd HA.out (by simp [skywayref1_Floor.l0])
      | succ k1 =>
        have H := HA.out
        clear HA
        simp only [skywayref1_Floor.l0] at H
        by_cases c5 : x6_1 ≥ 0
        · rw [if_pos c5] at H
          have c5b0 : decide (0 ≤ x6_1) = true := decide_eq_true c5
          clear c5
          by_cases c6 : 0 ≤ x6_1
          · rw [if_pos c6] at H
            have c6b0 := eq_true c6
            have c6b1 : decide (0 ≤ x6_1) = true := decide_eq_true c6
            clear c6
            obtain ⟨ji7, hji7⟩ : ∃ j_ : Int, (shr .i64 x0_1 x6_1) = j_ := ⟨_, rfl⟩
            replace H : (if a1 ≤ (ji7) then (skywayref1_Floor.l0 k1 (wrap64 (x0_1 - (shl .i64 a1 x6_1))) a1 (wrap64 (x5_1 + (shl .i64 1 x6_1))) (wrap64 (x6_1 - 1))) else (skywayref1_Floor.l0 k1 x0_1 a1 x5_1 (wrap64 (x6_1 - 1)))) = some r := by first | (rw [hji7] at H; exact H) | (simp only [hji7] at H ⊢; exact H)
            have hji7_ : (x0_1 / 2 ^ min x6_1.toNat 64) = ji7 := hji7
            have hji7z : x6_1 ≤ 64 → (x0_1 / 2 ^ x6_1.toNat) = ji7 := shr_small hji7
            by_cases c8 : a1 ≤ (ji7)
            · rw [if_pos c8] at H
              have c8b0 : decide (a1 ≤ (ji7)) = true := decide_eq_true c8
              clear c8
              have c9b0 := eq_true (of_decide_eq_true (by first | (with_reducible assumption) | assumption) : 0 ≤ x6_1)
              obtain ⟨ji10, hji10⟩ : ∃ j_ : Int, (shl .i64 a1 x6_1) = j_ := ⟨_, rfl⟩
              replace H : (skywayref1_Floor.l0 k1 (wrap64 (x0_1 - (ji10))) a1 (wrap64 (x5_1 + (shl .i64 1 x6_1))) (wrap64 (x6_1 - 1))) = some r := by first | (rw [hji10] at H; exact H) | (simp only [hji10] at H ⊢; exact H)
              have hji10_ : (IntKind.i64.wrap (a1 * 2 ^ min x6_1.toNat 64)) = ji10 := hji10
              have hji10z : x6_1 ≤ 64 → (IntKind.i64.wrap (a1 * 2 ^ x6_1.toNat)) = ji10 := shl_small hji10
              have hji10y : (wrap64 (a1 * 2 ^ min x6_1.toNat 64)) = ji10 := (i64_w _).symm.trans hji10_
              have hji10x : x6_1 ≤ 64 → (wrap64 (a1 * 2 ^ x6_1.toNat)) = ji10 := fun h_ => (i64_w _).symm.trans (hji10z h_)
              have c11b0 := eq_true (of_decide_eq_true (by first | (with_reducible assumption) | assumption) : 0 ≤ x6_1)
              obtain ⟨ji12, hji12⟩ : ∃ j_ : Int, (shl .i64 1 x6_1) = j_ := ⟨_, rfl⟩
              replace H : (skywayref1_Floor.l0 k1 (wrap64 (x0_1 - (ji10))) a1 (wrap64 (x5_1 + (ji12))) (wrap64 (x6_1 - 1))) = some r := by first | (rw [hji12] at H; exact H) | (simp only [hji12] at H ⊢; exact H)
              have hji12_ : (IntKind.i64.wrap (1 * 2 ^ min x6_1.toNat 64)) = ji12 := hji12
              have hji12z : x6_1 ≤ 64 → (IntKind.i64.wrap (1 * 2 ^ x6_1.toNat)) = ji12 := shl_small hji12
              have hji12u : (IntKind.i64.wrap (2 ^ min x6_1.toNat 64)) = ji12 := by have h_ := hji12_; rw [Int.one_mul] at h_; exact h_
              have hji12v : x6_1 ≤ 64 → (IntKind.i64.wrap (2 ^ x6_1.toNat)) = ji12 := fun hle_ => by have h_ := hji12z hle_; rw [Int.one_mul] at h_; exact h_
              have hji12y : (wrap64 (1 * 2 ^ min x6_1.toNat 64)) = ji12 := (i64_w _).symm.trans hji12_
              have hji12x : x6_1 ≤ 64 → (wrap64 (1 * 2 ^ x6_1.toNat)) = ji12 := fun h_ => (i64_w _).symm.trans (hji12z h_)
              have H' := Aside0.mk H
              clear H
              go_wp2
              go_roundg k1
              case measure => have := HK1.out; omega
              case rel => exact ⟨(wrap64 (x0_1 - (ji10))), (wrap64 (x5_1 + (ji12))), (wrap64 (x6_1 - 1)), (by first | rfl | (simp; done) | (simp only [← hji10] <;> (first | rfl | simp)) | (simp [*]; done)), (by first | rfl | (simp; done) | (simp only [← hji12] <;> (first | rfl | simp)) | (simp [*]; done)), (by first | rfl | (simp; done) | (simp [*]; done)), H', ⟨by have := HK1.out; omega⟩, by repeat (first | exact Drawn0.refl _ | apply Drawn0.step)⟩
            · rw [if_neg c8] at H
              have c8b0 : decide (a1 ≤ (ji7)) = false := decide_eq_false c8
              clear c8
              have H' := Aside0.mk H
              clear H
              go_wp2
              go_roundg k1
              case measure => have := HK1.out; omega
              case rel => exact ⟨(x0_1), (x5_1), (wrap64 (x6_1 - 1)), (by first | rfl | (simp; done) | (simp [*]; done)), (by first | rfl | (simp; done) | (simp [*]; done)), (by first | rfl | (simp; done) | (simp [*]; done)), H', ⟨by have := HK1.out; omega⟩, by repeat (first | exact Drawn0.refl _ | apply Drawn0.step)⟩
          · rw [if_neg c6] at H
            exact absurd H (by simp)
        · rw [if_neg c5] at H
          have c5b0 : decide (0 ≤ x6_1) = false := decide_eq_false c5
          clear c5
          obtain rfl := Option.some.inj H
          go_wp2
          go_ret
          exact ⟨by first | rfl | (simp; done) | (simp [*]; done), by repeat (first | exact Drawn0.refl _ | apply Drawn0.step)⟩

/-! ### skywayref1_Mix: function 67 -/
def skywayref1_Mix.f (k : Nat) (a0 : Int) (a1 : Int) (a2 : Int) (a3 : Int) : Option (Int) := (skywayref1_Floor.f k (wrap64 ((wrap64 (a1 - a0)) * a2)) a3).bind fun t177 => (some (wrap64 (a0 + t177)))
theorem skywayref1_Mix.mono : ∀ a0 a1 a2 a3 k, LeO (skywayref1_Mix.f k a0 a1 a2 a3) (skywayref1_Mix.f (k + 1) a0 a1 a2 a3) := by
  intro a0 a1 a2 a3 k
  unfold skywayref1_Mix.f
  repeat' first
      | (with_reducible exact skywayref1_Floor.mono _ _ _)
      | (with_reducible exact LeO.refl _)
      | (with_reducible exact LeO.none _)
      | (with_reducible refine LeO.ite ?_ ?_)
      | (with_reducible refine LeO.bind ?_ (fun _ => ?_))
      | exact skywayref1_Floor.mono _ _ _
      | exact LeO.none _
      | refine LeO.ite ?_ ?_
      | refine LeO.bind ?_ (fun _ => ?_)
set_option maxHeartbeats 80000000 in
set_option maxRecDepth 100000 in
theorem skywayref1_Mix.calls (k : Nat) (a0 : Int) (a1 : Int) (a2 : Int) (a3 : Int) (r : Int) (w : World) (h : skywayref1_Mix.f k a0 a1 a2 a3 = some r) :
    Calls Try.prog 67 #[.int .i64 a0, .int .i64 a1, .int .i64 a2, .int .i64 a3] w fun e w' => e = .returned (.int .i64 r) ∧ Drawn0 w w' := by
  have H : ((skywayref1_Floor.f k (wrap64 ((wrap64 (a1 - a0)) * a2)) a3).bind fun t177 => (some (wrap64 (a0 + t177)))) = some r := h
  clear h
  replace H := Option.bind_eq_some_iff.mp H
  obtain ⟨t177, A50, H⟩ := H
  replace H : (some (wrap64 (a0 + t177))) = some r := H
  have A5 := Aside0.mk A50
  have CA5 := Aside0.mk (fun W_ => skywayref1_Floor.calls k (wrap64 ((wrap64 (a1 - a0)) * a2)) a3 t177 W_ A50)
  clear A50
  obtain rfl := Option.some.inj H
  go_enter Try.func67, Try.ntmps67
  go_wp2_with (first | ((with_reducible refine gate_callee (f := 88) rfl ?_); refine goesL_ (some 16) rfl rfl Try.func88 (by kernel_rfl) rfl _ rfl (by (try simp only [List.map_toArray, List.map_cons, List.map_nil]); first | done | rfl) ((CA5.out _).mono ?_); rintro e w' ⟨rfl, ⟨nd, rfl⟩⟩; refine ⟨_, rfl, ?_⟩))
  go_ret
  exact ⟨by first | rfl | (simp; done) | (simp [*]; done), by repeat (first | exact Drawn0.refl _ | apply Drawn0.step)⟩

/-! ### skywayref1_Ceil: function 89 -/
def skywayref1_Ceil.f (k : Nat) (a0 : Int) (a1 : Int) : Option (Int) := (skywayref1_Floor.f k (wrap64 (-a0)) a1).bind fun t178 => (some (wrap64 (-t178)))
theorem skywayref1_Ceil.mono : ∀ a0 a1 k, LeO (skywayref1_Ceil.f k a0 a1) (skywayref1_Ceil.f (k + 1) a0 a1) := by
  intro a0 a1 k
  unfold skywayref1_Ceil.f
  repeat' first
      | (with_reducible exact skywayref1_Floor.mono _ _ _)
      | (with_reducible exact LeO.refl _)
      | (with_reducible exact LeO.none _)
      | (with_reducible refine LeO.ite ?_ ?_)
      | (with_reducible refine LeO.bind ?_ (fun _ => ?_))
      | exact skywayref1_Floor.mono _ _ _
      | exact LeO.none _
      | refine LeO.ite ?_ ?_
      | refine LeO.bind ?_ (fun _ => ?_)
set_option maxHeartbeats 80000000 in
set_option maxRecDepth 100000 in
theorem skywayref1_Ceil.calls (k : Nat) (a0 : Int) (a1 : Int) (r : Int) (w : World) (h : skywayref1_Ceil.f k a0 a1 = some r) :
    Calls Try.prog 89 #[.int .i64 a0, .int .i64 a1] w fun e w' => e = .returned (.int .i64 r) ∧ Drawn0 w w' := by
  have H : ((skywayref1_Floor.f k (wrap64 (-a0)) a1).bind fun t178 => (some (wrap64 (-t178)))) = some r := h
  clear h
  replace H := Option.bind_eq_some_iff.mp H
  obtain ⟨t178, A30, H⟩ := H
  replace H : (some (wrap64 (-t178))) = some r := H
  have A3 := Aside0.mk A30
  have CA3 := Aside0.mk (fun W_ => skywayref1_Floor.calls k (wrap64 (-a0)) a1 t178 W_ A30)
  clear A30
  obtain rfl := Option.some.inj H
  go_enter Try.func89, Try.ntmps89
  go_wp2_with (first | ((with_reducible refine gate_callee (f := 88) rfl ?_); refine goesL_ (some 8) rfl rfl Try.func88 (by kernel_rfl) rfl _ rfl (by (try simp only [List.map_toArray, List.map_cons, List.map_nil]); first | done | rfl) ((CA3.out _).mono ?_); rintro e w' ⟨rfl, ⟨nd, rfl⟩⟩; refine ⟨_, rfl, ?_⟩))
  go_ret
  exact ⟨by first | rfl | (simp; done) | (simp [*]; done), by repeat (first | exact Drawn0.refl _ | apply Drawn0.step)⟩

/-! ### skywayref1_MixUp: function 68 -/
def skywayref1_MixUp.f (k : Nat) (a0 : Int) (a1 : Int) (a2 : Int) (a3 : Int) : Option (Int) := (skywayref1_Ceil.f k (wrap64 ((wrap64 (a1 - a0)) * a2)) a3).bind fun t179 => (some (wrap64 (a0 + t179)))
theorem skywayref1_MixUp.mono : ∀ a0 a1 a2 a3 k, LeO (skywayref1_MixUp.f k a0 a1 a2 a3) (skywayref1_MixUp.f (k + 1) a0 a1 a2 a3) := by
  intro a0 a1 a2 a3 k
  unfold skywayref1_MixUp.f
  repeat' first
      | (with_reducible exact skywayref1_Ceil.mono _ _ _)
      | (with_reducible exact LeO.refl _)
      | (with_reducible exact LeO.none _)
      | (with_reducible refine LeO.ite ?_ ?_)
      | (with_reducible refine LeO.bind ?_ (fun _ => ?_))
      | exact skywayref1_Ceil.mono _ _ _
      | exact LeO.none _
      | refine LeO.ite ?_ ?_
      | refine LeO.bind ?_ (fun _ => ?_)
set_option maxHeartbeats 80000000 in
set_option maxRecDepth 100000 in
theorem skywayref1_MixUp.calls (k : Nat) (a0 : Int) (a1 : Int) (a2 : Int) (a3 : Int) (r : Int) (w : World) (h : skywayref1_MixUp.f k a0 a1 a2 a3 = some r) :
    Calls Try.prog 68 #[.int .i64 a0, .int .i64 a1, .int .i64 a2, .int .i64 a3] w fun e w' => e = .returned (.int .i64 r) ∧ Drawn0 w w' := by
  have H : ((skywayref1_Ceil.f k (wrap64 ((wrap64 (a1 - a0)) * a2)) a3).bind fun t179 => (some (wrap64 (a0 + t179)))) = some r := h
  clear h
  replace H := Option.bind_eq_some_iff.mp H
  obtain ⟨t179, A50, H⟩ := H
  replace H : (some (wrap64 (a0 + t179))) = some r := H
  have A5 := Aside0.mk A50
  have CA5 := Aside0.mk (fun W_ => skywayref1_Ceil.calls k (wrap64 ((wrap64 (a1 - a0)) * a2)) a3 t179 W_ A50)
  clear A50
  obtain rfl := Option.some.inj H
  go_enter Try.func68, Try.ntmps68
  go_wp2_with (first | ((with_reducible refine gate_callee (f := 89) rfl ?_); refine goesL_ (some 16) rfl rfl Try.func89 (by kernel_rfl) rfl _ rfl (by (try simp only [List.map_toArray, List.map_cons, List.map_nil]); first | done | rfl) ((CA5.out _).mono ?_); rintro e w' ⟨rfl, ⟨nd, rfl⟩⟩; refine ⟨_, rfl, ?_⟩))
  go_ret
  exact ⟨by first | rfl | (simp; done) | (simp [*]; done), by repeat (first | exact Drawn0.refl _ | apply Drawn0.step)⟩

/-! ### skywayref1_Node: function 40 -/
mutual
def skywayref1_Node.l0 : Nat → List (S91) → Int → Int → Option (Int × Int × Int × Int × Int × Int)
 | 0, _, _, _ => none
 | k + 1, x0, x1, x5 => if x5 > 0 then (if 0 ≤ (wrap64 (x5 - 1)) then (if (wrap64 (x5 - 1)) < (x0.length : Int) then (if 0 ≤ x5 then (if x5 < (x0.length : Int) then (if x1 > ((rd_T91 x0 x5).f0.f0) then (skywayref1_Node.j1 k x0 x1 x5 true ((rd_T91 x0 (wrap64 (x5 - 1))).f0.f0) ((rd_T91 x0 (wrap64 (x5 - 1))).f0.f1.f0) ((rd_T91 x0 (wrap64 (x5 - 1))).f0.f1.f1) ((rd_T91 x0 (wrap64 (x5 - 1))).f0.f2) ((rd_T91 x0 (wrap64 (x5 - 1))).f1) ((rd_T91 x0 (wrap64 (x5 - 1))).f2) ((rd_T91 x0 x5).f0.f0) ((rd_T91 x0 x5).f0.f1.f0) ((rd_T91 x0 x5).f0.f1.f1) ((rd_T91 x0 x5).f0.f2) ((rd_T91 x0 x5).f1) ((rd_T91 x0 x5).f2)) else (skywayref1_Node.j1 k x0 x1 x5 (decide (x1 < ((rd_T91 x0 (wrap64 (x5 - 1))).f0.f0))) ((rd_T91 x0 (wrap64 (x5 - 1))).f0.f0) ((rd_T91 x0 (wrap64 (x5 - 1))).f0.f1.f0) ((rd_T91 x0 (wrap64 (x5 - 1))).f0.f1.f1) ((rd_T91 x0 (wrap64 (x5 - 1))).f0.f2) ((rd_T91 x0 (wrap64 (x5 - 1))).f1) ((rd_T91 x0 (wrap64 (x5 - 1))).f2) ((rd_T91 x0 x5).f0.f0) ((rd_T91 x0 x5).f0.f1.f0) ((rd_T91 x0 x5).f0.f1.f1) ((rd_T91 x0 x5).f0.f2) ((rd_T91 x0 x5).f1) ((rd_T91 x0 x5).f2))) else (none)) else (none)) else (none)) else (none)) else (if 0 < (x0.length : Int) then (some ((rd_T91 x0 0).f0.f0, (rd_T91 x0 0).f0.f1.f0, (rd_T91 x0 0).f0.f1.f1, (rd_T91 x0 0).f0.f2, (rd_T91 x0 0).f1, (rd_T91 x0 0).f2)) else (none))
def skywayref1_Node.j1 : Nat → List (S91) → Int → Int → Bool → Int → Int → Int → Int → Int → Int → Int → Int → Int → Int → Int → Int → Option (Int × Int × Int × Int × Int × Int)
 | 0, _, _, _, _, _, _, _, _, _, _, _, _, _, _, _, _ => none
 | k + 1, x0, x1, x5, x37, x185000, x185001, x185002, x185003, x185004, x185005, x186000, x186001, x186002, x186003, x186004, x186005 => if x37 = true then (skywayref1_Node.l0 k x0 x1 (wrap64 (x5 - 1))) else ((skywayref1_Mix.f k x185001 x186001 (wrap64 (x1 - x185000)) (wrap64 (x186000 - x185000))).bind fun t186 => ((skywayref1_Mix.f k x185002 x186002 (wrap64 (x1 - x185000)) (wrap64 (x186000 - x185000))).bind fun t187 => ((skywayref1_Mix.f k x185003 x186003 (wrap64 (x1 - x185000)) (wrap64 (x186000 - x185000))).bind fun t188 => ((skywayref1_MixUp.f k x185004 x186004 (wrap64 (x1 - x185000)) (wrap64 (x186000 - x185000))).bind fun t189 => ((skywayref1_MixUp.f k x185005 x186005 (wrap64 (x1 - x185000)) (wrap64 (x186000 - x185000))).bind fun t190 => (some (x1, t186, t187, t188, t189, t190)))))))
end
def skywayref1_Node.f (k : Nat) (l0 : List (S91)) (a1 : Int) : Option (Int × Int × Int × Int × Int × Int) := skywayref1_Node.l0 k l0 a1 (wrap64 ((l0.length : Int) - 1))
theorem skywayref1_Node.mono_l : ∀ k, (∀ y0 y1 y2, LeO (skywayref1_Node.l0 k y0 y1 y2) (skywayref1_Node.l0 (k + 1) y0 y1 y2)) ∧ (∀ y0 y1 y2 y3 y4 y5 y6 y7 y8 y9 y10 y11 y12 y13 y14 y15, LeO (skywayref1_Node.j1 k y0 y1 y2 y3 y4 y5 y6 y7 y8 y9 y10 y11 y12 y13 y14 y15) (skywayref1_Node.j1 (k + 1) y0 y1 y2 y3 y4 y5 y6 y7 y8 y9 y10 y11 y12 y13 y14 y15))
 | 0 => ⟨fun _ _ _ r h => by simp [skywayref1_Node.l0] at h, fun _ _ _ _ _ _ _ _ _ _ _ _ _ _ _ _ r h => by simp [skywayref1_Node.j1] at h⟩
 | k + 1 => by
  obtain ⟨ih0, ih1⟩ := skywayref1_Node.mono_l k
  refine ⟨?_, ?_⟩
  ·
   intro y0 y1 y2
   unfold skywayref1_Node.l0
   repeat' first
   | (with_reducible exact ih0 _ _ _)
   | (with_reducible exact ih1 _ _ _ _ _ _ _ _ _ _ _ _ _ _ _ _)
   | (with_reducible exact skywayref1_Mix.mono _ _ _ _ _)
   | (with_reducible exact skywayref1_MixUp.mono _ _ _ _ _)
   | (with_reducible exact LeO.refl _)
   | (with_reducible exact LeO.none _)
   | (with_reducible refine LeO.ite ?_ ?_)
   | (with_reducible refine LeO.bind ?_ (fun _ => ?_))
   | exact ih0 _ _ _
   | exact ih1 _ _ _ _ _ _ _ _ _ _ _ _ _ _ _ _
   | exact skywayref1_Mix.mono _ _ _ _ _
   | exact skywayref1_MixUp.mono _ _ _ _ _
   | exact LeO.none _
   | refine LeO.ite ?_ ?_
   | refine LeO.bind ?_ (fun _ => ?_)
  ·
   intro y0 y1 y2 y3 y4 y5 y6 y7 y8 y9 y10 y11 y12 y13 y14 y15
   unfold skywayref1_Node.j1
   repeat' first
   | (with_reducible exact ih0 _ _ _)
   | (with_reducible exact ih1 _ _ _ _ _ _ _ _ _ _ _ _ _ _ _ _)
   | (with_reducible exact skywayref1_Mix.mono _ _ _ _ _)
   | (with_reducible exact skywayref1_MixUp.mono _ _ _ _ _)
   | (with_reducible exact LeO.refl _)
   | (with_reducible exact LeO.none _)
   | (with_reducible refine LeO.ite ?_ ?_)
   | (with_reducible refine LeO.bind ?_ (fun _ => ?_))
   | exact ih0 _ _ _
   | exact ih1 _ _ _ _ _ _ _ _ _ _ _ _ _ _ _ _
   | exact skywayref1_Mix.mono _ _ _ _ _
   | exact skywayref1_MixUp.mono _ _ _ _ _
   | exact LeO.none _
   | refine LeO.ite ?_ ?_
   | refine LeO.bind ?_ (fun _ => ?_)
theorem skywayref1_Node.mono : ∀ a0 a1 k, LeO (skywayref1_Node.f k a0 a1) (skywayref1_Node.f (k + 1) a0 a1) := by
 intro a0 a1 k
 obtain ⟨ih0, ih1⟩ := skywayref1_Node.mono_l k
 unfold skywayref1_Node.f
 repeat' first
   | (with_reducible exact ih0 _ _ _)
   | (with_reducible exact ih1 _ _ _ _ _ _ _ _ _ _ _ _ _ _ _ _)
   | (with_reducible exact skywayref1_Mix.mono _ _ _ _ _)
   | (with_reducible exact skywayref1_MixUp.mono _ _ _ _ _)
   | (with_reducible exact LeO.refl _)
   | (with_reducible exact LeO.none _)
   | (with_reducible refine LeO.ite ?_ ?_)
   | (with_reducible refine LeO.bind ?_ (fun _ => ?_))
   | exact ih0 _ _ _
   | exact ih1 _ _ _ _ _ _ _ _ _ _ _ _ _ _ _ _
   | exact skywayref1_Mix.mono _ _ _ _ _
   | exact skywayref1_MixUp.mono _ _ _ _ _
   | exact LeO.none _
   | refine LeO.ite ?_ ?_
   | refine LeO.bind ?_ (fun _ => ?_)
def skywayref1_Node.T4 : Bool × List (List Nat × List Nat) := (true, [([], []), ([], []), ([1], [1]), ([0, 2], [0, 2]), ([3], [3]), ([], []), ([], []), ([5, 6], [5, 6]), ([7], [7]), ([], []), ([], []), ([9, 4, 0, 1, 2, 3, 4, 9, 10], [4, 9]), ([10, 8, 11, 0, 1, 2, 3, 4, 5, 6, 7, 8, 9, 10, 11], [8, 10])])
def skywayref1_Node.B4 : List Nat := [0, 0, 2, 7, 15, 0, 0, 96, 224, 0, 0, 1567, 4095]
theorem skywayref1_Node.tab4 : rtab .any (opsOf Try.f40 4) = skywayref1_Node.T4 := by kernel_rfl
theorem skywayref1_Node.bits4 : waitsOk skywayref1_Node.T4.2 skywayref1_Node.B4 = true := by kernel_rfl
def skywayref1_Node.T6 : Bool × List (List Nat × List Nat) := (true, [([], []), ([], []), ([1], [1]), ([2], [2]), ([0, 3], [0, 3]), ([], []), ([5], [5]), ([6], [6]), ([], []), ([8], [8]), ([9], [9]), ([7, 10], [7, 10]), ([4, 0, 1, 2, 3, 4], [4]), ([11, 12, 0, 1, 2, 3, 4, 5, 6, 7, 8, 9, 10, 11, 12], [11])])
def skywayref1_Node.B6 : List Nat := [0, 0, 2, 6, 15, 0, 32, 96, 0, 256, 768, 2016, 31, 8191]
theorem skywayref1_Node.tab6 : rtab .any (opsOf Try.f40 6) = skywayref1_Node.T6 := by kernel_rfl
theorem skywayref1_Node.bits6 : waitsOk skywayref1_Node.T6.2 skywayref1_Node.B6 = true := by kernel_rfl
def skywayref1_Node.T7 : Bool × List (List Nat × List Nat) := (true, [([], []), ([], []), ([1], [1]), ([2], [2]), ([3], [3]), ([], []), ([5], [5]), ([6], [6]), ([7], [7]), ([], []), ([], []), ([4, 8, 9, 10], [4, 8, 9, 10]), ([], []), ([12], [12]), ([13], [13]), ([14], [14]), ([], []), ([16], [16]), ([17], [17]), ([18], [18]), ([], []), ([], []), ([15, 19, 20, 21, 11], [15, 19, 20, 21]), ([11, 22], [11, 22]), ([], []), ([24], [24]), ([25], [25]), ([], []), ([27], [27]), ([28], [28]), ([], []), ([], []), ([26, 29, 30, 31, 22], [26, 29, 30, 31]), ([0, 23, 32], [0, 23, 32]), ([], []), ([34], [34]), ([], []), ([36], [36]), ([], []), ([], []), ([35, 37, 38, 39, 32], [35, 37, 38, 39]), ([], []), ([41], [41]), ([], []), ([43], [43]), ([], []), ([], []), ([42, 44, 45, 46, 40], [42, 44, 45, 46]), ([33, 40, 47], [33, 40, 47]), ([48, 47, 0, 1, 2, 3, 4, 5, 6, 7, 8, 9, 10, 11, 12, 13, 14, 15, 16, 17, 18, 19, 20, 21, 22, 23, 24, 25, 26, 27, 28, 29, 30, 31, 32, 33, 34, 35, 36, 37, 38, 39, 40, 41, 42, 43, 44, 45, 46, 47, 48], [48])])
def skywayref1_Node.B7 : List Nat := [0, 0, 2, 6, 14, 0, 32, 96, 224, 0, 0, 2046, 0, 4096, 12288, 28672, 0, 65536, 196608, 458752, 0, 0, 4194302, 8388606, 0, 16777216, 50331648, 0, 134217728, 402653184, 0, 0, 4286578686, 8589934591, 0, 17179869184, 0, 68719476736, 0, 0, 1090913304574, 0, 2199023255552, 0, 8796093022208, 0, 0, 140728890032126, 281474976710655, 562949953421311]
theorem skywayref1_Node.tab7 : rtab .any (opsOf Try.f40 7) = skywayref1_Node.T7 := by kernel_rfl
theorem skywayref1_Node.bits7 : waitsOk skywayref1_Node.T7.2 skywayref1_Node.B7 = true := by kernel_rfl

end Go.Proofs.Ytpcmmbbkidojoaa.MTubeNodes
