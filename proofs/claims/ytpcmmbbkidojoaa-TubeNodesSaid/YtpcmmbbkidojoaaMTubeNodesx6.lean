-- Written for this claim by a program of this session out of the translation (functions with function values and the like). Lean checks it.
import Derived.Test.YtpcmmbbkidojoaaMTubeNodesx0
import Derived.Test.YtpcmmbbkidojoaaMTubeNodesx5
namespace Go.Proofs.Ytpcmmbbkidojoaa.MTubeNodes
open Go.RowKit Go.Proofs.Ytpcmmbbkidojoaa.Evt Go.Proofs.YtpcmmbbkidojoaaW.PrintWords Go.Proofs.YtpcmmbbkidojoaaW.PrintLast Go.Proofs.YtpcmmbbkidojoaaW.PrintMore
attribute [local go_sem] max2_int min2_int max_two min_two max_three min_three max_four min_four   -- for this text's walks alone
set_option linter.unusedVariables false
set_option linter.unusedSimpArgs false

set_option maxHeartbeats 80000000 in
set_option maxRecDepth 100000 in
theorem skywayref1_Node.calls (k : Nat) (A0 : Option Addr) (c0 : Nat) (l0 : List (S91)) (a1 : Int) (r1 : Int) (r2 : Int) (r3 : Int) (r4 : Int) (r5 : Int) (r6 : Int) (w : World) (hr0 : Kd.C k91 w A0 l0.length l0) (hc0 : l0.length ≤ c0) (h : skywayref1_Node.f k l0 a1 = some (r1, r2, r3, r4, r5, r6)) :
  Calls Try.prog 40 #[.slice A0 l0.length c0, .int .i64 a1] w fun e w' => e = .returned (.agg #[.int .i64 r1, .int .i64 r2, .int .i64 r3, .int .i64 r4, .int .i64 r5, .int .i64 r6]) ∧ Below w.heap.size w w' := by
 have hu91 := Try.underlying91
 have hu38 := Try.underlying38
 have hu89 := Try.underlying89
 have HR0 := Aside0.mk hr0
 have HC0 := Aside0.mk hc0
 clear hr0 hc0
 have HB := Aside0.mk (Below.refl w.heap.size w)
 have H : (skywayref1_Node.l0 k l0 a1 (wrap64 ((l0.length : Int) - 1))) = some (r1, r2, r3, r4, r5, r6) := h
 clear h
 have H' := Aside0.mk H
 clear H
 go_enter Try.func40, Try.ntmps40
 go_wp2_with (first | ((with_reducible refine gate_dst (N := 4) rfl ?_); refine box_event ?hg (N := 4) ?hd (cs := #[.int .i64 0, .int .i64 0, .int .i64 0, .int .i64 0, .int .i64 0, .int .i64 0]) (t := 91) ?hr ?_; (case hd => rfl); (case hg => rfl); (case hr => first | (go_simp; done) | (go_simp; rfl)); intro gb180 hg w3 hbox hb; have n0_ := Aside0.mk (below_step (by repeat (first | (with_reducible first | exact HB.out | apply below_alloc | apply pw_below_drewN | apply below_drew1) | exact HB.out)) hb); have n1_ := Aside0.mk (hbox); have n2_ := Aside0.mk ((by rw [hg]; exact (below_size (by repeat (first | (with_reducible first | exact HB.out | apply below_alloc | apply pw_below_drewN | apply below_drew1) | exact HB.out))) : w.heap.size ≤ gb180)); have n3_ := Aside0.mk ((by rw [hg]; exact (below_size (by repeat (first | (with_reducible first | exact HB.out | apply below_alloc | apply pw_below_drewN | apply below_drew1) | exact HB.out))) : w.heap.size ≤ gb180)); clear HB; have HB := n0_; have BK180 := n1_; have GW180 := n2_; have GE180 := n3_; clear n0_ n1_ n2_ n3_; clear hb hbox hg))
 go_loopg [5] k (fun kq v5 w' => ∃ (x5_1 : Int) (x181000_1 : Int) (x181001_1 : Int) (x181002_1 : Int) (x181003_1 : Int) (x181004_1 : Int) (x181005_1 : Int), v5 = .int .i64 x5_1 ∧ Aside0 (skywayref1_Node.l0 kq l0 a1 x5_1 = some (r1, r2, r3, r4, r5, r6)) ∧ Aside0 (kq ≤ k) ∧ Aside0 (w'.heap[gb180]? = some (.cells #[.int .i64 x181000_1, .int .i64 x181001_1, .int .i64 x181002_1, .int .i64 x181003_1, .int .i64 x181004_1, .int .i64 x181005_1] 91 (0, 0))) ∧ Aside0 (Below w.heap.size w w'))
 case atStart => exact ⟨(wrap64 ((l0.length : Int) - 1)), (0), (0), (0), (0), (0), (0), (by first | rfl | (simp; done) | (simp [*]; done)), H', ⟨Nat.le_refl _⟩, ⟨by (with_reducible repeat (first | refine blk_drewN ?_ _ | refine blk_drew ?_ | refine blk_alloc ?_ _)); exact BK180.out⟩, ⟨by repeat (first | (with_reducible first | exact HB.out | apply below_alloc | apply pw_below_drewN | apply below_drew1 | refine below_set ?_ GE180.out) | exact HB.out)⟩⟩
 case round =>
  clear H'
  try clear p2
  obtain ⟨x5_1, x181000_1, x181001_1, x181002_1, x181003_1, x181004_1, x181005_1, rfl, HA, HK1, BK180, HB⟩ := hrel
  cases gk with
  | zero => exact absurd HA.out (by simp [skywayref1_Node.l0])
  | succ k1 =>
   have H := HA.out
   clear HA
   simp only [skywayref1_Node.l0] at H
   by_cases c4 : x5_1 > 0
   ·
    rw [if_pos c4] at H
    have c4b0 : decide (0 < x5_1) = true := decide_eq_true c4
    clear c4
    obtain ⟨ji5, hji5⟩ : ∃ j_ : Int, (wrap64 (x5_1 - 1)) = j_ := ⟨_, rfl⟩
    replace H : (if 0 ≤ (ji5) then (if (ji5) < (l0.length : Int) then (if 0 ≤ x5_1 then (if x5_1 < (l0.length : Int) then (if a1 > ((rd_T91 l0 x5_1).f0.f0) then (skywayref1_Node.j1 k1 l0 a1 x5_1 true ((rd_T91 l0 (ji5)).f0.f0) ((rd_T91 l0 (ji5)).f0.f1.f0) ((rd_T91 l0 (ji5)).f0.f1.f1) ((rd_T91 l0 (ji5)).f0.f2) ((rd_T91 l0 (ji5)).f1) ((rd_T91 l0 (ji5)).f2) ((rd_T91 l0 x5_1).f0.f0) ((rd_T91 l0 x5_1).f0.f1.f0) ((rd_T91 l0 x5_1).f0.f1.f1) ((rd_T91 l0 x5_1).f0.f2) ((rd_T91 l0 x5_1).f1) ((rd_T91 l0 x5_1).f2)) else (skywayref1_Node.j1 k1 l0 a1 x5_1 (decide (a1 < ((rd_T91 l0 (ji5)).f0.f0))) ((rd_T91 l0 (ji5)).f0.f0) ((rd_T91 l0 (ji5)).f0.f1.f0) ((rd_T91 l0 (ji5)).f0.f1.f1) ((rd_T91 l0 (ji5)).f0.f2) ((rd_T91 l0 (ji5)).f1) ((rd_T91 l0 (ji5)).f2) ((rd_T91 l0 x5_1).f0.f0) ((rd_T91 l0 x5_1).f0.f1.f0) ((rd_T91 l0 x5_1).f0.f1.f1) ((rd_T91 l0 x5_1).f0.f2) ((rd_T91 l0 x5_1).f1) ((rd_T91 l0 x5_1).f2))) else (none)) else (none)) else (none)) else (none)) = some (r1, r2, r3, r4, r5, r6) := by first | (rw [hji5] at H; exact H) | (simp only [hji5] at H ⊢; exact H)
    have hji5w : (IntKind.i64.wrap (x5_1 - 1)) = ji5 := (i64_w _).trans hji5
    by_cases c6 : 0 ≤ (ji5)
    ·
     rw [if_pos c6] at H
     have c6b0 : decide (0 ≤ (ji5)) = true := decide_eq_true c6
     clear c6
     by_cases c7 : (ji5) < (l0.length : Int)
     ·
      rw [if_pos c7] at H
      have c7b0 : decide ((ji5) < (l0.length : Int)) = true := decide_eq_true c7
      clear c7
      by_cases c8 : 0 ≤ x5_1
      ·
       rw [if_pos c8] at H
       have c8b0 : decide (0 ≤ x5_1) = true := decide_eq_true c8
       clear c8
       by_cases c9 : x5_1 < (l0.length : Int)
       ·
        rw [if_pos c9] at H
        have c9b0 : decide (x5_1 < (l0.length : Int)) = true := decide_eq_true c9
        clear c9
        have HC10 := Aside0.mk H
        clear H
        try go_wp2
        have n0_ := Aside0.mk (blk_drew BK180.out)
        have n1_ := Aside0.mk (below_drew1 HB.out)
        clear BK180
        clear HB
        have BK180 := n0_
        have HB := n1_
        clear n0_ n1_
        have p182 : 0 ≤ ((ji5) : Int) := of_decide_eq_true (by first | (with_reducible assumption) | assumption)
        have q182 : (ji5) < (l0.length : Int) := of_decide_eq_true (by first | (with_reducible assumption) | assumption)
        obtain ⟨ad182, e182, hx182_0, hx182_1, hx182_2, hx182_3, hx182_4, hx182_5⟩ := at_T91 HR0.out (ji5) p182 q182
        have hw182_5 := hx182_5
        have hw182_4 := hx182_4
        have hw182_3 := hx182_3
        have hw182_2 := hx182_2
        have hw182_1 := hx182_1
        have hw182_0 := hx182_0
        cases e182
        replace hx182_0 := (HB.out.cell (World.block_lt_of_cell? w _ hx182_0)).trans hx182_0
        replace hx182_1 := (HB.out.cell (World.block_lt_of_cell? w _ hx182_1)).trans hx182_1
        replace hx182_2 := (HB.out.cell (World.block_lt_of_cell? w _ hx182_2)).trans hx182_2
        replace hx182_3 := (HB.out.cell (World.block_lt_of_cell? w _ hx182_3)).trans hx182_3
        replace hx182_4 := (HB.out.cell (World.block_lt_of_cell? w _ hx182_4)).trans hx182_4
        replace hx182_5 := (HB.out.cell (World.block_lt_of_cell? w _ hx182_5)).trans hx182_5
        replace p182 := eq_true p182
        replace q182 := eq_true q182
        have p183 : 0 ≤ (x5_1 : Int) := of_decide_eq_true (by first | (with_reducible assumption) | assumption)
        have q183 : x5_1 < (l0.length : Int) := of_decide_eq_true (by first | (with_reducible assumption) | assumption)
        obtain ⟨ad183, e183, hx183_0, hx183_1, hx183_2, hx183_3, hx183_4, hx183_5⟩ := at_T91 HR0.out x5_1 p183 q183
        have hw183_5 := hx183_5
        have hw183_4 := hx183_4
        have hw183_3 := hx183_3
        have hw183_2 := hx183_2
        have hw183_1 := hx183_1
        have hw183_0 := hx183_0
        obtain rfl : ad182 = ad183 := (by injection e183)
        replace hx183_0 := (HB.out.cell (World.block_lt_of_cell? w _ hx183_0)).trans hx183_0
        replace hx183_1 := (HB.out.cell (World.block_lt_of_cell? w _ hx183_1)).trans hx183_1
        replace hx183_2 := (HB.out.cell (World.block_lt_of_cell? w _ hx183_2)).trans hx183_2
        replace hx183_3 := (HB.out.cell (World.block_lt_of_cell? w _ hx183_3)).trans hx183_3
        replace hx183_4 := (HB.out.cell (World.block_lt_of_cell? w _ hx183_4)).trans hx183_4
        replace hx183_5 := (HB.out.cell (World.block_lt_of_cell? w _ hx183_5)).trans hx183_5
        replace p183 := eq_true p183
        replace q183 := eq_true q183
        refine start_ (n := 13) (S := fun w' => w'.cell? (ad182.add (((ji5)).toNat * 6)) = some (.int .i64 ((rd_T91 l0 (ji5)).f0.f0)) ∧ w'.cell? ⟨(ad182.add (((ji5)).toNat * 6)).block, (ad182.add (((ji5)).toNat * 6)).off + 1, none⟩ = some (.int .i64 ((rd_T91 l0 (ji5)).f0.f1.f0)) ∧ w'.cell? ⟨(ad182.add (((ji5)).toNat * 6)).block, (ad182.add (((ji5)).toNat * 6)).off + 2, none⟩ = some (.int .i64 ((rd_T91 l0 (ji5)).f0.f1.f1)) ∧ w'.cell? ⟨(ad182.add (((ji5)).toNat * 6)).block, (ad182.add (((ji5)).toNat * 6)).off + 3, none⟩ = some (.int .i64 ((rd_T91 l0 (ji5)).f0.f2)) ∧ w'.cell? ⟨(ad182.add (((ji5)).toNat * 6)).block, (ad182.add (((ji5)).toNat * 6)).off + 4, none⟩ = some (.int .i64 ((rd_T91 l0 (ji5)).f1)) ∧ w'.cell? ⟨(ad182.add (((ji5)).toNat * 6)).block, (ad182.add (((ji5)).toNat * 6)).off + 5, none⟩ = some (.int .i64 ((rd_T91 l0 (ji5)).f2)) ∧ w'.cell? (ad182.add ((x5_1).toNat * 6)) = some (.int .i64 ((rd_T91 l0 x5_1).f0.f0)) ∧ w'.cell? ⟨(ad182.add ((x5_1).toNat * 6)).block, (ad182.add ((x5_1).toNat * 6)).off + 1, none⟩ = some (.int .i64 ((rd_T91 l0 x5_1).f0.f1.f0)) ∧ w'.cell? ⟨(ad182.add ((x5_1).toNat * 6)).block, (ad182.add ((x5_1).toNat * 6)).off + 2, none⟩ = some (.int .i64 ((rd_T91 l0 x5_1).f0.f1.f1)) ∧ w'.cell? ⟨(ad182.add ((x5_1).toNat * 6)).block, (ad182.add ((x5_1).toNat * 6)).off + 3, none⟩ = some (.int .i64 ((rd_T91 l0 x5_1).f0.f2)) ∧ w'.cell? ⟨(ad182.add ((x5_1).toNat * 6)).block, (ad182.add ((x5_1).toNat * 6)).off + 4, none⟩ = some (.int .i64 ((rd_T91 l0 x5_1).f1)) ∧ w'.cell? ⟨(ad182.add ((x5_1).toNat * 6)).block, (ad182.add ((x5_1).toNat * 6)).off + 5, none⟩ = some (.int .i64 ((rd_T91 l0 x5_1).f2))) (ds := []) #[false, false, false, false, false, false, false, false, false, false, false, false, false] (by kernel_rfl) rfl rfl ⟨((HB.out.cell (World.block_lt_of_cell? w _ hw182_0)).trans hw182_0), ((HB.out.cell (World.block_lt_of_cell? w _ hw182_1)).trans hw182_1), ((HB.out.cell (World.block_lt_of_cell? w _ hw182_2)).trans hw182_2), ((HB.out.cell (World.block_lt_of_cell? w _ hw182_3)).trans hw182_3), ((HB.out.cell (World.block_lt_of_cell? w _ hw182_4)).trans hw182_4), ((HB.out.cell (World.block_lt_of_cell? w _ hw182_5)).trans hw182_5), ((HB.out.cell (World.block_lt_of_cell? w _ hw183_0)).trans hw183_0), ((HB.out.cell (World.block_lt_of_cell? w _ hw183_1)).trans hw183_1), ((HB.out.cell (World.block_lt_of_cell? w _ hw183_2)).trans hw183_2), ((HB.out.cell (World.block_lt_of_cell? w _ hw183_3)).trans hw183_3), ((HB.out.cell (World.block_lt_of_cell? w _ hw183_4)).trans hw183_4), ((HB.out.cell (World.block_lt_of_cell? w _ hw183_5)).trans hw183_5)⟩ (fun hHeld => ?_); refine with_tabW skywayref1_Node.tab4 skywayref1_Node.bits4 (fun HT_ HW_ => ?_)
        generalize wr.drew = w11 at BK180 HB hx182_0 hx182_1 hx182_2 hx182_3 hx182_4 hx182_5 hx183_0 hx183_1 hx183_2 hx183_3 hx183_4 hx183_5 hHeld ⊢
        refine pure_ (i := 0) (N := some 17) (v := ?_) (a' := ?_) #[true, false, false, false, false, false, false, false, false, false, false, false, false] rfl rfl (any_of HT_.out (by kernel_rfl)) (fun _ _ _ h => h) (Or.inl ⟨by rfl, ?_⟩) ?_ ?_
        rotate_left
        ·
         intro w'
         go_simp
         with_reducible rfl
        rotate_left
        ·
         simp only [Act.put, List.setIfInBounds_toArray, List.set_cons_zero, List.set_cons_succ, i64_w, i32_w]
         rfl
        refine pure_ (i := 1) (N := some 18) (v := ?_) (a' := ?_) #[true, true, false, false, false, false, false, false, false, false, false, false, false] rfl rfl (any_of HT_.out (by kernel_rfl)) (fun _ _ _ h => h) (Or.inl ⟨by rfl, ?_⟩) ?_ ?_
        rotate_left
        ·
         intro w'
         go_simp
         with_reducible rfl
        rotate_left
        ·
         simp only [Act.put, List.setIfInBounds_toArray, List.set_cons_zero, List.set_cons_succ, i64_w, i32_w]
         rfl
        refine pure_ (i := 2) (N := some 19) (v := ?_) (a' := ?_) #[true, true, true, false, false, false, false, false, false, false, false, false, false] rfl rfl (any_of HT_.out (by kernel_rfl)) (fun _ _ _ h => h) (Or.inl ⟨by rfl, ?_⟩) ?_ ?_
        rotate_left
        ·
         intro w'
         go_simp
         with_reducible rfl
        rotate_left
        ·
         simp only [Act.put, List.setIfInBounds_toArray, List.set_cons_zero, List.set_cons_succ, i64_w, i32_w]
         rfl
        refine pure_ (i := 3) (N := some 20) (v := ?_) (a' := ?_) #[true, true, true, true, false, false, false, false, false, false, false, false, false] rfl rfl (any_of HT_.out (by kernel_rfl)) (fun _ _ _ h => h) (Or.inl ⟨by rfl, ?_⟩) ?_ ?_
        rotate_left
        ·
         intro w'
         go_simp
         with_reducible rfl
        rotate_left
        ·
         simp only [Act.put, List.setIfInBounds_toArray, List.set_cons_zero, List.set_cons_succ, i64_w, i32_w]
         rfl
        refine pure_ (i := 5) (N := some 22) (v := ?_) (a' := ?_) #[true, true, true, true, false, true, false, false, false, false, false, false, false] rfl rfl (any_of HT_.out (by kernel_rfl)) (fun _ _ _ h => h) (Or.inl ⟨by rfl, ?_⟩) ?_ ?_
        rotate_left
        ·
         intro w'
         go_simp
         with_reducible rfl
        rotate_left
        ·
         simp only [Act.put, List.setIfInBounds_toArray, List.set_cons_zero, List.set_cons_succ, i64_w, i32_w]
         rfl
        refine pure_ (i := 6) (N := some 23) (v := ?_) (a' := ?_) #[true, true, true, true, false, true, true, false, false, false, false, false, false] rfl rfl (any_of HT_.out (by kernel_rfl)) (fun _ _ _ h => h) (Or.inl ⟨by rfl, ?_⟩) ?_ ?_
        rotate_left
        ·
         intro w'
         go_simp
         with_reducible rfl
        rotate_left
        ·
         simp only [Act.put, List.setIfInBounds_toArray, List.set_cons_zero, List.set_cons_succ, i64_w, i32_w]
         rfl
        refine pure_ (i := 7) (N := some 24) (v := ?_) (a' := ?_) #[true, true, true, true, false, true, true, true, false, false, false, false, false] rfl rfl (any_of HT_.out (by kernel_rfl)) (fun _ _ _ h => h) (Or.inl ⟨by rfl, ?_⟩) ?_ ?_
        rotate_left
        ·
         intro w'
         go_simp
         with_reducible rfl
        rotate_left
        ·
         simp only [Act.put, List.setIfInBounds_toArray, List.set_cons_zero, List.set_cons_succ, i64_w, i32_w]
         rfl
        refine take_ (i := 4) (N := some 21) (v := ?_) (a' := ?_) #[true, true, true, true, true, true, true, true, false, false, false, false, false] rfl rfl (take_ofW HT_.out HW_.out (by kernel_rfl)) (fun _ _ _ h => h) (Or.inl ⟨by rfl, ?_⟩) hHeld ?_ ?_
        rotate_left
        ·
         rintro w' ⟨s0, s1, s2, s3, s4, s5, s6, s7, s8, s9, s10, s11⟩
         go_simp
         with_reducible rfl
        rotate_left
        ·
         simp only [Act.put, List.setIfInBounds_toArray, List.set_cons_zero, List.set_cons_succ, i64_w, i32_w]
         rfl
        refine take_ (i := 8) (N := some 25) (v := ?_) (a' := ?_) #[true, true, true, true, true, true, true, true, true, false, false, false, false] rfl rfl (take_ofW HT_.out HW_.out (by kernel_rfl)) (fun _ _ _ h => h) (Or.inl ⟨by rfl, ?_⟩) hHeld ?_ ?_
        rotate_left
        ·
         rintro w' ⟨s0, s1, s2, s3, s4, s5, s6, s7, s8, s9, s10, s11⟩
         go_simp
         with_reducible rfl
        rotate_left
        ·
         simp only [Act.put, List.setIfInBounds_toArray, List.set_cons_zero, List.set_cons_succ, i64_w, i32_w]
         rfl
        refine join_ (σ := Nat × Nat) 2 #[true, true, true, true, true, true, true, true, true, true, true, false, false] (fun s_ => [(6, .pointer (some ⟨s_.1, 0, none⟩)), (7, .pointer (some ⟨s_.2, 0, none⟩))]) (fun s_ w' => (w'.cell? (ad182.add (((ji5)).toNat * 6)) = some (.int .i64 ((rd_T91 l0 (ji5)).f0.f0)) ∧ w'.cell? ⟨(ad182.add (((ji5)).toNat * 6)).block, (ad182.add (((ji5)).toNat * 6)).off + 1, none⟩ = some (.int .i64 ((rd_T91 l0 (ji5)).f0.f1.f0)) ∧ w'.cell? ⟨(ad182.add (((ji5)).toNat * 6)).block, (ad182.add (((ji5)).toNat * 6)).off + 2, none⟩ = some (.int .i64 ((rd_T91 l0 (ji5)).f0.f1.f1)) ∧ w'.cell? ⟨(ad182.add (((ji5)).toNat * 6)).block, (ad182.add (((ji5)).toNat * 6)).off + 3, none⟩ = some (.int .i64 ((rd_T91 l0 (ji5)).f0.f2)) ∧ w'.cell? ⟨(ad182.add (((ji5)).toNat * 6)).block, (ad182.add (((ji5)).toNat * 6)).off + 4, none⟩ = some (.int .i64 ((rd_T91 l0 (ji5)).f1)) ∧ w'.cell? ⟨(ad182.add (((ji5)).toNat * 6)).block, (ad182.add (((ji5)).toNat * 6)).off + 5, none⟩ = some (.int .i64 ((rd_T91 l0 (ji5)).f2)) ∧ w'.cell? (ad182.add ((x5_1).toNat * 6)) = some (.int .i64 ((rd_T91 l0 x5_1).f0.f0)) ∧ w'.cell? ⟨(ad182.add ((x5_1).toNat * 6)).block, (ad182.add ((x5_1).toNat * 6)).off + 1, none⟩ = some (.int .i64 ((rd_T91 l0 x5_1).f0.f1.f0)) ∧ w'.cell? ⟨(ad182.add ((x5_1).toNat * 6)).block, (ad182.add ((x5_1).toNat * 6)).off + 2, none⟩ = some (.int .i64 ((rd_T91 l0 x5_1).f0.f1.f1)) ∧ w'.cell? ⟨(ad182.add ((x5_1).toNat * 6)).block, (ad182.add ((x5_1).toNat * 6)).off + 3, none⟩ = some (.int .i64 ((rd_T91 l0 x5_1).f0.f2)) ∧ w'.cell? ⟨(ad182.add ((x5_1).toNat * 6)).block, (ad182.add ((x5_1).toNat * 6)).off + 4, none⟩ = some (.int .i64 ((rd_T91 l0 x5_1).f1)) ∧ w'.cell? ⟨(ad182.add ((x5_1).toNat * 6)).block, (ad182.add ((x5_1).toNat * 6)).off + 5, none⟩ = some (.int .i64 ((rd_T91 l0 x5_1).f2))) ∧ (w'.heap[gb180]? = some (.cells #[.int .i64 x181000_1, .int .i64 x181001_1, .int .i64 x181002_1, .int .i64 x181003_1, .int .i64 x181004_1, .int .i64 x181005_1] 91 (0, 0))) ∧ (w'.heap[s_.1]? = some (.cells #[.int .i64 0, .int .i64 0, .int .i64 0, .int .i64 0, .int .i64 0, .int .i64 0] 91 (0, 0))) ∧ (w'.heap[s_.2]? = some (.cells #[.int .i64 0, .int .i64 0, .int .i64 0, .int .i64 0, .int .i64 0, .int .i64 0] 91 (0, 0))) ∧ (w.heap.size ≤ s_.1) ∧ (w.heap.size ≤ s_.1) ∧ (gb180 ≠ s_.1) ∧ (s_.1 ≠ gb180) ∧ (s_.2 ≠ s_.1) ∧ (s_.1 ≠ s_.2) ∧ (w.heap.size ≤ s_.2) ∧ (w.heap.size ≤ s_.2) ∧ (gb180 ≠ s_.2) ∧ (s_.2 ≠ gb180) ∧ (Below w.heap.size w w')) ?_ ?_
        rotate_left
        ·
         intro hCont
         refine two_ (i := 9) (j := 10) (Ni := some 6) (Nj := some 7) #[true, true, true, true, true, true, true, true, true, true, false, false, false] #[true, true, true, true, true, true, true, true, true, false, true, false, false] rfl rfl rfl rfl (two_of HT_.out (by kernel_rfl)) (by decide) (by decide) (fun K hK => ?_) (fun K hK => ?_)
         ·
          skip
          refine box_step ?hg (N := 6) ?hd (cs := #[.int .i64 0, .int .i64 0, .int .i64 0, .int .i64 0, .int .i64 0, .int .i64 0]) (t := 91) ?hr ?_; (case hd => rfl); (case hg => rfl); (case hr => first | (go_simp; done) | (go_simp; rfl))
          intro gb184 hg w12 hbox hb
          have n0_ := Aside0.mk (blk_below (g := gb180) (by (with_reducible repeat (first | refine blk_drewN ?_ _ | refine blk_drew ?_ | refine blk_alloc ?_ _)); exact BK180.out) hb)
          have n1_ := Aside0.mk (below_step (by repeat (first | (with_reducible first | exact HB.out | apply below_alloc | apply pw_below_drewN | apply below_drew1 | refine below_set ?_ GE180.out) | exact HB.out)) hb)
          have n2_ := Aside0.mk (hbox)
          have n3_ := Aside0.mk ((by rw [hg]; exact (below_size (by repeat (first | (with_reducible first | exact HB.out | apply below_alloc | apply pw_below_drewN | apply below_drew1 | refine below_set ?_ GE180.out) | exact HB.out))) : w.heap.size ≤ gb184))
          have n4_ := Aside0.mk ((by rw [hg]; exact (below_size (by repeat (first | (with_reducible first | exact HB.out | apply below_alloc | apply pw_below_drewN | apply below_drew1 | refine below_set ?_ GE180.out) | exact HB.out))) : w.heap.size ≤ gb184))
          have n5_ := Aside0.mk ((by rw [hg]; exact Nat.ne_of_lt (blk_lt (g := gb180) (by (with_reducible repeat (first | refine blk_drewN ?_ _ | refine blk_drew ?_ | refine blk_alloc ?_ _)); exact BK180.out)) : gb180 ≠ gb184))
          have n6_ := Aside0.mk ((by rw [hg]; exact Nat.ne_of_gt (blk_lt (g := gb180) (by (with_reducible repeat (first | refine blk_drewN ?_ _ | refine blk_drew ?_ | refine blk_alloc ?_ _)); exact BK180.out)) : gb184 ≠ gb180))
          clear BK180
          clear HB
          have BK180 := n0_
          have HB := n1_
          have BK184 := n2_
          have GW184 := n3_
          have GE184 := n4_
          have NB180_184 := n5_
          have NB184_180 := n6_
          clear n0_ n1_ n2_ n3_ n4_ n5_ n6_
          clear hb hbox hg
          refine hK.out _ _ ⟨((HB.out.cell (World.block_lt_of_cell? w _ hw182_0)).trans hw182_0), ((HB.out.cell (World.block_lt_of_cell? w _ hw182_1)).trans hw182_1), ((HB.out.cell (World.block_lt_of_cell? w _ hw182_2)).trans hw182_2), ((HB.out.cell (World.block_lt_of_cell? w _ hw182_3)).trans hw182_3), ((HB.out.cell (World.block_lt_of_cell? w _ hw182_4)).trans hw182_4), ((HB.out.cell (World.block_lt_of_cell? w _ hw182_5)).trans hw182_5), ((HB.out.cell (World.block_lt_of_cell? w _ hw183_0)).trans hw183_0), ((HB.out.cell (World.block_lt_of_cell? w _ hw183_1)).trans hw183_1), ((HB.out.cell (World.block_lt_of_cell? w _ hw183_2)).trans hw183_2), ((HB.out.cell (World.block_lt_of_cell? w _ hw183_3)).trans hw183_3), ((HB.out.cell (World.block_lt_of_cell? w _ hw183_4)).trans hw183_4), ((HB.out.cell (World.block_lt_of_cell? w _ hw183_5)).trans hw183_5)⟩ (fun hHeld => ?_)
          clear hK K
          refine norm_ (a' := ?_) ?_ ?_
          rotate_left
          ·
           show Act.put _ (some 6) _ = _
           simp only [Act.put, List.setIfInBounds_toArray, List.set_cons_zero, List.set_cons_succ, i64_w, i32_w]
           rfl
          refine one_ (i := 10) (N := some 7) #[true, true, true, true, true, true, true, true, true, true, true, false, false] rfl rfl (one_of HT_.out (by kernel_rfl)) (by decide) (fun K hK => ?_)
          refine box_step ?hg (N := 7) ?hd (cs := #[.int .i64 0, .int .i64 0, .int .i64 0, .int .i64 0, .int .i64 0, .int .i64 0]) (t := 91) ?hr ?_; (case hd => rfl); (case hg => rfl); (case hr => first | (go_simp; done) | (go_simp; rfl))
          intro gb185 hg w13 hbox hb
          have n0_ := Aside0.mk (blk_below (g := gb180) (by (with_reducible repeat (first | refine blk_drewN ?_ _ | refine blk_drew ?_ | refine blk_alloc ?_ _)); exact BK180.out) hb)
          have n1_ := Aside0.mk (blk_below (g := gb184) (by (with_reducible repeat (first | refine blk_drewN ?_ _ | refine blk_drew ?_ | refine blk_alloc ?_ _)); exact BK184.out) hb)
          have n2_ := Aside0.mk (below_step (by repeat (first | (with_reducible first | exact HB.out | apply below_alloc | apply pw_below_drewN | apply below_drew1 | refine below_set ?_ GE180.out | refine below_set ?_ GE184.out) | exact HB.out)) hb)
          have n3_ := Aside0.mk (hbox)
          have n4_ := Aside0.mk ((by rw [hg]; exact (below_size (by repeat (first | (with_reducible first | exact HB.out | apply below_alloc | apply pw_below_drewN | apply below_drew1 | refine below_set ?_ GE180.out | refine below_set ?_ GE184.out) | exact HB.out))) : w.heap.size ≤ gb185))
          have n5_ := Aside0.mk ((by rw [hg]; exact (below_size (by repeat (first | (with_reducible first | exact HB.out | apply below_alloc | apply pw_below_drewN | apply below_drew1 | refine below_set ?_ GE180.out | refine below_set ?_ GE184.out) | exact HB.out))) : w.heap.size ≤ gb185))
          have n6_ := Aside0.mk ((by rw [hg]; exact Nat.ne_of_lt (blk_lt (g := gb180) (by (with_reducible repeat (first | refine blk_drewN ?_ _ | refine blk_drew ?_ | refine blk_alloc ?_ _)); exact BK180.out)) : gb180 ≠ gb185))
          have n7_ := Aside0.mk ((by rw [hg]; exact Nat.ne_of_gt (blk_lt (g := gb180) (by (with_reducible repeat (first | refine blk_drewN ?_ _ | refine blk_drew ?_ | refine blk_alloc ?_ _)); exact BK180.out)) : gb185 ≠ gb180))
          have n8_ := Aside0.mk ((by rw [hg]; exact Nat.ne_of_lt (blk_lt (g := gb184) (by (with_reducible repeat (first | refine blk_drewN ?_ _ | refine blk_drew ?_ | refine blk_alloc ?_ _)); exact BK184.out)) : gb184 ≠ gb185))
          have n9_ := Aside0.mk ((by rw [hg]; exact Nat.ne_of_gt (blk_lt (g := gb184) (by (with_reducible repeat (first | refine blk_drewN ?_ _ | refine blk_drew ?_ | refine blk_alloc ?_ _)); exact BK184.out)) : gb185 ≠ gb184))
          clear BK180
          clear BK184
          clear HB
          have BK180 := n0_
          have BK184 := n1_
          have HB := n2_
          have BK185 := n3_
          have GW185 := n4_
          have GE185 := n5_
          have NB180_185 := n6_
          have NB185_180 := n7_
          have NB184_185 := n8_
          have NB185_184 := n9_
          clear n0_ n1_ n2_ n3_ n4_ n5_ n6_ n7_ n8_ n9_
          clear hb hbox hg
          refine hK.out _ _ ⟨((HB.out.cell (World.block_lt_of_cell? w _ hw182_0)).trans hw182_0), ((HB.out.cell (World.block_lt_of_cell? w _ hw182_1)).trans hw182_1), ((HB.out.cell (World.block_lt_of_cell? w _ hw182_2)).trans hw182_2), ((HB.out.cell (World.block_lt_of_cell? w _ hw182_3)).trans hw182_3), ((HB.out.cell (World.block_lt_of_cell? w _ hw182_4)).trans hw182_4), ((HB.out.cell (World.block_lt_of_cell? w _ hw182_5)).trans hw182_5), ((HB.out.cell (World.block_lt_of_cell? w _ hw183_0)).trans hw183_0), ((HB.out.cell (World.block_lt_of_cell? w _ hw183_1)).trans hw183_1), ((HB.out.cell (World.block_lt_of_cell? w _ hw183_2)).trans hw183_2), ((HB.out.cell (World.block_lt_of_cell? w _ hw183_3)).trans hw183_3), ((HB.out.cell (World.block_lt_of_cell? w _ hw183_4)).trans hw183_4), ((HB.out.cell (World.block_lt_of_cell? w _ hw183_5)).trans hw183_5)⟩ (fun hHeld => ?_)
          clear hK K
          refine norm_ (a' := ?_) ?_ ?_
          rotate_left
          ·
           show Act.put _ (some 7) _ = _
           simp only [Act.put, List.setIfInBounds_toArray, List.set_cons_zero, List.set_cons_succ, i64_w, i32_w]
           rfl
          exact norm_ (by simp only [putAll, Act.put, List.setIfInBounds_toArray, List.set_cons_zero, List.set_cons_succ]) (hCont (gb184, gb185) _ ⟨hHeld, (by (with_reducible repeat (first | refine blk_drewN ?_ _ | refine blk_drew ?_ | refine blk_alloc ?_ _)); exact BK180.out), (by (with_reducible repeat (first | refine blk_drewN ?_ _ | refine blk_drew ?_ | refine blk_alloc ?_ _)); exact BK184.out), (by (with_reducible repeat (first | refine blk_drewN ?_ _ | refine blk_drew ?_ | refine blk_alloc ?_ _)); exact BK185.out), GW184.out, GE184.out, NB180_184.out, NB184_180.out, NB185_184.out, NB184_185.out, GW185.out, GE185.out, NB180_185.out, NB185_180.out, (by repeat (first | (with_reducible first | exact HB.out | apply below_alloc | apply pw_below_drewN | apply below_drew1 | refine below_set ?_ GE180.out | refine below_set ?_ GE184.out | refine below_set ?_ GE185.out) | exact HB.out))⟩)
         ·
          skip
          refine box_step ?hg (N := 7) ?hd (cs := #[.int .i64 0, .int .i64 0, .int .i64 0, .int .i64 0, .int .i64 0, .int .i64 0]) (t := 91) ?hr ?_; (case hd => rfl); (case hg => rfl); (case hr => first | (go_simp; done) | (go_simp; rfl))
          intro gb185 hg w12 hbox hb
          have n0_ := Aside0.mk (blk_below (g := gb180) (by (with_reducible repeat (first | refine blk_drewN ?_ _ | refine blk_drew ?_ | refine blk_alloc ?_ _)); exact BK180.out) hb)
          have n1_ := Aside0.mk (below_step (by repeat (first | (with_reducible first | exact HB.out | apply below_alloc | apply pw_below_drewN | apply below_drew1 | refine below_set ?_ GE180.out) | exact HB.out)) hb)
          have n2_ := Aside0.mk (hbox)
          have n3_ := Aside0.mk ((by rw [hg]; exact (below_size (by repeat (first | (with_reducible first | exact HB.out | apply below_alloc | apply pw_below_drewN | apply below_drew1 | refine below_set ?_ GE180.out) | exact HB.out))) : w.heap.size ≤ gb185))
          have n4_ := Aside0.mk ((by rw [hg]; exact (below_size (by repeat (first | (with_reducible first | exact HB.out | apply below_alloc | apply pw_below_drewN | apply below_drew1 | refine below_set ?_ GE180.out) | exact HB.out))) : w.heap.size ≤ gb185))
          have n5_ := Aside0.mk ((by rw [hg]; exact Nat.ne_of_lt (blk_lt (g := gb180) (by (with_reducible repeat (first | refine blk_drewN ?_ _ | refine blk_drew ?_ | refine blk_alloc ?_ _)); exact BK180.out)) : gb180 ≠ gb185))
          have n6_ := Aside0.mk ((by rw [hg]; exact Nat.ne_of_gt (blk_lt (g := gb180) (by (with_reducible repeat (first | refine blk_drewN ?_ _ | refine blk_drew ?_ | refine blk_alloc ?_ _)); exact BK180.out)) : gb185 ≠ gb180))
          clear BK180
          clear HB
          have BK180 := n0_
          have HB := n1_
          have BK185 := n2_
          have GW185 := n3_
          have GE185 := n4_
          have NB180_185 := n5_
          have NB185_180 := n6_
          clear n0_ n1_ n2_ n3_ n4_ n5_ n6_
          clear hb hbox hg
          refine hK.out _ _ ⟨((HB.out.cell (World.block_lt_of_cell? w _ hw182_0)).trans hw182_0), ((HB.out.cell (World.block_lt_of_cell? w _ hw182_1)).trans hw182_1), ((HB.out.cell (World.block_lt_of_cell? w _ hw182_2)).trans hw182_2), ((HB.out.cell (World.block_lt_of_cell? w _ hw182_3)).trans hw182_3), ((HB.out.cell (World.block_lt_of_cell? w _ hw182_4)).trans hw182_4), ((HB.out.cell (World.block_lt_of_cell? w _ hw182_5)).trans hw182_5), ((HB.out.cell (World.block_lt_of_cell? w _ hw183_0)).trans hw183_0), ((HB.out.cell (World.block_lt_of_cell? w _ hw183_1)).trans hw183_1), ((HB.out.cell (World.block_lt_of_cell? w _ hw183_2)).trans hw183_2), ((HB.out.cell (World.block_lt_of_cell? w _ hw183_3)).trans hw183_3), ((HB.out.cell (World.block_lt_of_cell? w _ hw183_4)).trans hw183_4), ((HB.out.cell (World.block_lt_of_cell? w _ hw183_5)).trans hw183_5)⟩ (fun hHeld => ?_)
          clear hK K
          refine norm_ (a' := ?_) ?_ ?_
          rotate_left
          ·
           show Act.put _ (some 7) _ = _
           simp only [Act.put, List.setIfInBounds_toArray, List.set_cons_zero, List.set_cons_succ, i64_w, i32_w]
           rfl
          refine one_ (i := 9) (N := some 6) #[true, true, true, true, true, true, true, true, true, true, true, false, false] rfl rfl (one_of HT_.out (by kernel_rfl)) (by decide) (fun K hK => ?_)
          refine box_step ?hg (N := 6) ?hd (cs := #[.int .i64 0, .int .i64 0, .int .i64 0, .int .i64 0, .int .i64 0, .int .i64 0]) (t := 91) ?hr ?_; (case hd => rfl); (case hg => rfl); (case hr => first | (go_simp; done) | (go_simp; rfl))
          intro gb184 hg w13 hbox hb
          have n0_ := Aside0.mk (blk_below (g := gb180) (by (with_reducible repeat (first | refine blk_drewN ?_ _ | refine blk_drew ?_ | refine blk_alloc ?_ _)); exact BK180.out) hb)
          have n1_ := Aside0.mk (blk_below (g := gb185) (by (with_reducible repeat (first | refine blk_drewN ?_ _ | refine blk_drew ?_ | refine blk_alloc ?_ _)); exact BK185.out) hb)
          have n2_ := Aside0.mk (below_step (by repeat (first | (with_reducible first | exact HB.out | apply below_alloc | apply pw_below_drewN | apply below_drew1 | refine below_set ?_ GE180.out | refine below_set ?_ GE185.out) | exact HB.out)) hb)
          have n3_ := Aside0.mk (hbox)
          have n4_ := Aside0.mk ((by rw [hg]; exact (below_size (by repeat (first | (with_reducible first | exact HB.out | apply below_alloc | apply pw_below_drewN | apply below_drew1 | refine below_set ?_ GE180.out | refine below_set ?_ GE185.out) | exact HB.out))) : w.heap.size ≤ gb184))
          have n5_ := Aside0.mk ((by rw [hg]; exact (below_size (by repeat (first | (with_reducible first | exact HB.out | apply below_alloc | apply pw_below_drewN | apply below_drew1 | refine below_set ?_ GE180.out | refine below_set ?_ GE185.out) | exact HB.out))) : w.heap.size ≤ gb184))
          have n6_ := Aside0.mk ((by rw [hg]; exact Nat.ne_of_lt (blk_lt (g := gb180) (by (with_reducible repeat (first | refine blk_drewN ?_ _ | refine blk_drew ?_ | refine blk_alloc ?_ _)); exact BK180.out)) : gb180 ≠ gb184))
          have n7_ := Aside0.mk ((by rw [hg]; exact Nat.ne_of_gt (blk_lt (g := gb180) (by (with_reducible repeat (first | refine blk_drewN ?_ _ | refine blk_drew ?_ | refine blk_alloc ?_ _)); exact BK180.out)) : gb184 ≠ gb180))
          have n8_ := Aside0.mk ((by rw [hg]; exact Nat.ne_of_lt (blk_lt (g := gb185) (by (with_reducible repeat (first | refine blk_drewN ?_ _ | refine blk_drew ?_ | refine blk_alloc ?_ _)); exact BK185.out)) : gb185 ≠ gb184))
          have n9_ := Aside0.mk ((by rw [hg]; exact Nat.ne_of_gt (blk_lt (g := gb185) (by (with_reducible repeat (first | refine blk_drewN ?_ _ | refine blk_drew ?_ | refine blk_alloc ?_ _)); exact BK185.out)) : gb184 ≠ gb185))
          clear BK180
          clear BK185
          clear HB
          have BK180 := n0_
          have BK185 := n1_
          have HB := n2_
          have BK184 := n3_
          have GW184 := n4_
          have GE184 := n5_
          have NB180_184 := n6_
          have NB184_180 := n7_
          have NB185_184 := n8_
          have NB184_185 := n9_
          clear n0_ n1_ n2_ n3_ n4_ n5_ n6_ n7_ n8_ n9_
          clear hb hbox hg
          refine hK.out _ _ ⟨((HB.out.cell (World.block_lt_of_cell? w _ hw182_0)).trans hw182_0), ((HB.out.cell (World.block_lt_of_cell? w _ hw182_1)).trans hw182_1), ((HB.out.cell (World.block_lt_of_cell? w _ hw182_2)).trans hw182_2), ((HB.out.cell (World.block_lt_of_cell? w _ hw182_3)).trans hw182_3), ((HB.out.cell (World.block_lt_of_cell? w _ hw182_4)).trans hw182_4), ((HB.out.cell (World.block_lt_of_cell? w _ hw182_5)).trans hw182_5), ((HB.out.cell (World.block_lt_of_cell? w _ hw183_0)).trans hw183_0), ((HB.out.cell (World.block_lt_of_cell? w _ hw183_1)).trans hw183_1), ((HB.out.cell (World.block_lt_of_cell? w _ hw183_2)).trans hw183_2), ((HB.out.cell (World.block_lt_of_cell? w _ hw183_3)).trans hw183_3), ((HB.out.cell (World.block_lt_of_cell? w _ hw183_4)).trans hw183_4), ((HB.out.cell (World.block_lt_of_cell? w _ hw183_5)).trans hw183_5)⟩ (fun hHeld => ?_)
          clear hK K
          refine norm_ (a' := ?_) ?_ ?_
          rotate_left
          ·
           show Act.put _ (some 6) _ = _
           simp only [Act.put, List.setIfInBounds_toArray, List.set_cons_zero, List.set_cons_succ, i64_w, i32_w]
           rfl
          exact norm_ (by simp only [putAll, Act.put, List.setIfInBounds_toArray, List.set_cons_zero, List.set_cons_succ]) (hCont (gb184, gb185) _ ⟨hHeld, (by (with_reducible repeat (first | refine blk_drewN ?_ _ | refine blk_drew ?_ | refine blk_alloc ?_ _)); exact BK180.out), (by (with_reducible repeat (first | refine blk_drewN ?_ _ | refine blk_drew ?_ | refine blk_alloc ?_ _)); exact BK184.out), (by (with_reducible repeat (first | refine blk_drewN ?_ _ | refine blk_drew ?_ | refine blk_alloc ?_ _)); exact BK185.out), GW184.out, GE184.out, NB180_184.out, NB184_180.out, NB185_184.out, NB184_185.out, GW185.out, GE185.out, NB180_185.out, NB185_180.out, (by repeat (first | (with_reducible first | exact HB.out | apply below_alloc | apply pw_below_drewN | apply below_drew1 | refine below_set ?_ GE180.out | refine below_set ?_ GE185.out | refine below_set ?_ GE184.out) | exact HB.out))⟩)
        rintro ⟨gb184, gb185⟩ w14 ⟨hS_, h0_, h1_, h2_, h3_, h4_, h5_, h6_, h7_, h8_, h9_, h10_, h11_, h12_, h13_⟩
        have n0_ : Aside0 (w14.heap[gb180]? = some (.cells #[.int .i64 x181000_1, .int .i64 x181001_1, .int .i64 x181002_1, .int .i64 x181003_1, .int .i64 x181004_1, .int .i64 x181005_1] 91 (0, 0))) := ⟨h0_⟩
        have n1_ : Aside0 (w14.heap[gb184]? = some (.cells #[.int .i64 0, .int .i64 0, .int .i64 0, .int .i64 0, .int .i64 0, .int .i64 0] 91 (0, 0))) := ⟨h1_⟩
        have n2_ : Aside0 (w14.heap[gb185]? = some (.cells #[.int .i64 0, .int .i64 0, .int .i64 0, .int .i64 0, .int .i64 0, .int .i64 0] 91 (0, 0))) := ⟨h2_⟩
        have n3_ : Aside0 (w.heap.size ≤ gb184) := ⟨h3_⟩
        have n4_ : Aside0 (w.heap.size ≤ gb184) := ⟨h4_⟩
        have n5_ : Aside0 (gb180 ≠ gb184) := ⟨h5_⟩
        have n6_ : Aside0 (gb184 ≠ gb180) := ⟨h6_⟩
        have n7_ : Aside0 (gb185 ≠ gb184) := ⟨h7_⟩
        have n8_ : Aside0 (gb184 ≠ gb185) := ⟨h8_⟩
        have n9_ : Aside0 (w.heap.size ≤ gb185) := ⟨h9_⟩
        have n10_ : Aside0 (w.heap.size ≤ gb185) := ⟨h10_⟩
        have n11_ : Aside0 (gb180 ≠ gb185) := ⟨h11_⟩
        have n12_ : Aside0 (gb185 ≠ gb180) := ⟨h12_⟩
        have n13_ : Aside0 (Below w.heap.size w w14) := ⟨h13_⟩
        clear BK180
        clear HB
        clear h0_ h1_ h2_ h3_ h4_ h5_ h6_ h7_ h8_ h9_ h10_ h11_ h12_ h13_
        have BK180 := n0_
        have BK184 := n1_
        have BK185 := n2_
        have GW184 := n3_
        have GE184 := n4_
        have NB180_184 := n5_
        have NB184_180 := n6_
        have NB185_184 := n7_
        have NB184_185 := n8_
        have GW185 := n9_
        have GE185 := n10_
        have NB180_185 := n11_
        have NB185_180 := n12_
        have HB := n13_
        clear n0_ n1_ n2_ n3_ n4_ n5_ n6_ n7_ n8_ n9_ n10_ n11_ n12_ n13_
        have hHeld : w14.cell? (ad182.add (((ji5)).toNat * 6)) = some (.int .i64 ((rd_T91 l0 (ji5)).f0.f0)) ∧ w14.cell? ⟨(ad182.add (((ji5)).toNat * 6)).block, (ad182.add (((ji5)).toNat * 6)).off + 1, none⟩ = some (.int .i64 ((rd_T91 l0 (ji5)).f0.f1.f0)) ∧ w14.cell? ⟨(ad182.add (((ji5)).toNat * 6)).block, (ad182.add (((ji5)).toNat * 6)).off + 2, none⟩ = some (.int .i64 ((rd_T91 l0 (ji5)).f0.f1.f1)) ∧ w14.cell? ⟨(ad182.add (((ji5)).toNat * 6)).block, (ad182.add (((ji5)).toNat * 6)).off + 3, none⟩ = some (.int .i64 ((rd_T91 l0 (ji5)).f0.f2)) ∧ w14.cell? ⟨(ad182.add (((ji5)).toNat * 6)).block, (ad182.add (((ji5)).toNat * 6)).off + 4, none⟩ = some (.int .i64 ((rd_T91 l0 (ji5)).f1)) ∧ w14.cell? ⟨(ad182.add (((ji5)).toNat * 6)).block, (ad182.add (((ji5)).toNat * 6)).off + 5, none⟩ = some (.int .i64 ((rd_T91 l0 (ji5)).f2)) ∧ w14.cell? (ad182.add ((x5_1).toNat * 6)) = some (.int .i64 ((rd_T91 l0 x5_1).f0.f0)) ∧ w14.cell? ⟨(ad182.add ((x5_1).toNat * 6)).block, (ad182.add ((x5_1).toNat * 6)).off + 1, none⟩ = some (.int .i64 ((rd_T91 l0 x5_1).f0.f1.f0)) ∧ w14.cell? ⟨(ad182.add ((x5_1).toNat * 6)).block, (ad182.add ((x5_1).toNat * 6)).off + 2, none⟩ = some (.int .i64 ((rd_T91 l0 x5_1).f0.f1.f1)) ∧ w14.cell? ⟨(ad182.add ((x5_1).toNat * 6)).block, (ad182.add ((x5_1).toNat * 6)).off + 3, none⟩ = some (.int .i64 ((rd_T91 l0 x5_1).f0.f2)) ∧ w14.cell? ⟨(ad182.add ((x5_1).toNat * 6)).block, (ad182.add ((x5_1).toNat * 6)).off + 4, none⟩ = some (.int .i64 ((rd_T91 l0 x5_1).f1)) ∧ w14.cell? ⟨(ad182.add ((x5_1).toNat * 6)).block, (ad182.add ((x5_1).toNat * 6)).off + 5, none⟩ = some (.int .i64 ((rd_T91 l0 x5_1).f2)) := hS_
        refine norm_ (a' := ?_) ?_ ?_
        rotate_left
        ·
         simp only [putAll, Act.put, List.setIfInBounds_toArray, List.set_cons_zero, List.set_cons_succ]
         rfl
        refine one_ (i := 11) (N := none) #[true, true, true, true, true, true, true, true, true, true, true, true, false] rfl rfl (one_of HT_.out (by kernel_rfl)) (by decide) (fun K hK => ?_)
        have hs15 : w14.cell? ⟨gb184, 0, none⟩ = some (.int .i64 0) := (blk_cell BK184.out 0).trans rfl
        have hfs15 := blk_frozen BK184.out 0
        have hns15_0 := NB180_184.out
        have hns15_2 := NB185_184.out
        have hms15_0 := NB184_180.out
        have hms15_2 := NB184_185.out
        have hs16 : w14.cell? ⟨gb184, 1, none⟩ = some (.int .i64 0) := (blk_cell BK184.out 1).trans rfl
        have hfs16 := blk_frozen BK184.out 1
        have hns16_0 := NB180_184.out
        have hns16_2 := NB185_184.out
        have hms16_0 := NB184_180.out
        have hms16_2 := NB184_185.out
        have hs17 : w14.cell? ⟨gb184, 2, none⟩ = some (.int .i64 0) := (blk_cell BK184.out 2).trans rfl
        have hfs17 := blk_frozen BK184.out 2
        have hns17_0 := NB180_184.out
        have hns17_2 := NB185_184.out
        have hms17_0 := NB184_180.out
        have hms17_2 := NB184_185.out
        have hs18 : w14.cell? ⟨gb184, 3, none⟩ = some (.int .i64 0) := (blk_cell BK184.out 3).trans rfl
        have hfs18 := blk_frozen BK184.out 3
        have hns18_0 := NB180_184.out
        have hns18_2 := NB185_184.out
        have hms18_0 := NB184_180.out
        have hms18_2 := NB184_185.out
        have hs19 : w14.cell? ⟨gb184, 4, none⟩ = some (.int .i64 0) := (blk_cell BK184.out 4).trans rfl
        have hfs19 := blk_frozen BK184.out 4
        have hns19_0 := NB180_184.out
        have hns19_2 := NB185_184.out
        have hms19_0 := NB184_180.out
        have hms19_2 := NB184_185.out
        have hs20 : w14.cell? ⟨gb184, 5, none⟩ = some (.int .i64 0) := (blk_cell BK184.out 5).trans rfl
        have hfs20 := blk_frozen BK184.out 5
        have hns20_0 := NB180_184.out
        have hns20_2 := NB185_184.out
        have hms20_0 := NB184_180.out
        have hms20_2 := NB184_185.out
        refine skip_ (w1 := ?_) (by rfl) rfl ?_ ?_
        rotate_left
        ·
         go_simp
         rfl
        refine hK.out _ _ ⟨((cell_far (p := ⟨gb184, _, none⟩) (by first | exact Nat.ne_of_lt (Nat.lt_of_lt_of_le (by have := World.block_lt_of_cell? _ _ hw182_0; first | rwa [add_block] at this | exact this) GW184.out) | (rw [add_block]; exact Nat.ne_of_lt (Nat.lt_of_lt_of_le (by have := World.block_lt_of_cell? _ _ hw182_0; first | rwa [add_block] at this | exact this) GW184.out)) | (show (Addr.add _ _).block ≠ _; rw [add_block]; exact Nat.ne_of_lt (Nat.lt_of_lt_of_le (by have := World.block_lt_of_cell? _ _ hw182_0; first | rwa [add_block] at this | exact this) GW184.out)) | (dsimp only; exact Nat.ne_of_lt (Nat.lt_of_lt_of_le (by have := World.block_lt_of_cell? _ _ hw182_0; first | rwa [add_block] at this | exact this) GW184.out))) _).trans (((cell_far (p := ⟨gb184, _, none⟩) (by first | exact Nat.ne_of_lt (Nat.lt_of_lt_of_le (by have := World.block_lt_of_cell? _ _ hw182_0; first | rwa [add_block] at this | exact this) GW184.out) | (rw [add_block]; exact Nat.ne_of_lt (Nat.lt_of_lt_of_le (by have := World.block_lt_of_cell? _ _ hw182_0; first | rwa [add_block] at this | exact this) GW184.out)) | (show (Addr.add _ _).block ≠ _; rw [add_block]; exact Nat.ne_of_lt (Nat.lt_of_lt_of_le (by have := World.block_lt_of_cell? _ _ hw182_0; first | rwa [add_block] at this | exact this) GW184.out)) | (dsimp only; exact Nat.ne_of_lt (Nat.lt_of_lt_of_le (by have := World.block_lt_of_cell? _ _ hw182_0; first | rwa [add_block] at this | exact this) GW184.out))) _).trans (((cell_far (p := ⟨gb184, _, none⟩) (by first | exact Nat.ne_of_lt (Nat.lt_of_lt_of_le (by have := World.block_lt_of_cell? _ _ hw182_0; first | rwa [add_block] at this | exact this) GW184.out) | (rw [add_block]; exact Nat.ne_of_lt (Nat.lt_of_lt_of_le (by have := World.block_lt_of_cell? _ _ hw182_0; first | rwa [add_block] at this | exact this) GW184.out)) | (show (Addr.add _ _).block ≠ _; rw [add_block]; exact Nat.ne_of_lt (Nat.lt_of_lt_of_le (by have := World.block_lt_of_cell? _ _ hw182_0; first | rwa [add_block] at this | exact this) GW184.out)) | (dsimp only; exact Nat.ne_of_lt (Nat.lt_of_lt_of_le (by have := World.block_lt_of_cell? _ _ hw182_0; first | rwa [add_block] at this | exact this) GW184.out))) _).trans (((cell_far (p := ⟨gb184, _, none⟩) (by first | exact Nat.ne_of_lt (Nat.lt_of_lt_of_le (by have := World.block_lt_of_cell? _ _ hw182_0; first | rwa [add_block] at this | exact this) GW184.out) | (rw [add_block]; exact Nat.ne_of_lt (Nat.lt_of_lt_of_le (by have := World.block_lt_of_cell? _ _ hw182_0; first | rwa [add_block] at this | exact this) GW184.out)) | (show (Addr.add _ _).block ≠ _; rw [add_block]; exact Nat.ne_of_lt (Nat.lt_of_lt_of_le (by have := World.block_lt_of_cell? _ _ hw182_0; first | rwa [add_block] at this | exact this) GW184.out)) | (dsimp only; exact Nat.ne_of_lt (Nat.lt_of_lt_of_le (by have := World.block_lt_of_cell? _ _ hw182_0; first | rwa [add_block] at this | exact this) GW184.out))) _).trans (((cell_far (p := ⟨gb184, _, none⟩) (by first | exact Nat.ne_of_lt (Nat.lt_of_lt_of_le (by have := World.block_lt_of_cell? _ _ hw182_0; first | rwa [add_block] at this | exact this) GW184.out) | (rw [add_block]; exact Nat.ne_of_lt (Nat.lt_of_lt_of_le (by have := World.block_lt_of_cell? _ _ hw182_0; first | rwa [add_block] at this | exact this) GW184.out)) | (show (Addr.add _ _).block ≠ _; rw [add_block]; exact Nat.ne_of_lt (Nat.lt_of_lt_of_le (by have := World.block_lt_of_cell? _ _ hw182_0; first | rwa [add_block] at this | exact this) GW184.out)) | (dsimp only; exact Nat.ne_of_lt (Nat.lt_of_lt_of_le (by have := World.block_lt_of_cell? _ _ hw182_0; first | rwa [add_block] at this | exact this) GW184.out))) _).trans (((cell_far (p := ⟨gb184, _, none⟩) (by first | exact Nat.ne_of_lt (Nat.lt_of_lt_of_le (by have := World.block_lt_of_cell? _ _ hw182_0; first | rwa [add_block] at this | exact this) GW184.out) | (rw [add_block]; exact Nat.ne_of_lt (Nat.lt_of_lt_of_le (by have := World.block_lt_of_cell? _ _ hw182_0; first | rwa [add_block] at this | exact this) GW184.out)) | (show (Addr.add _ _).block ≠ _; rw [add_block]; exact Nat.ne_of_lt (Nat.lt_of_lt_of_le (by have := World.block_lt_of_cell? _ _ hw182_0; first | rwa [add_block] at this | exact this) GW184.out)) | (dsimp only; exact Nat.ne_of_lt (Nat.lt_of_lt_of_le (by have := World.block_lt_of_cell? _ _ hw182_0; first | rwa [add_block] at this | exact this) GW184.out))) _).trans (hHeld.1)))))))))))), ((cell_far (p := ⟨gb184, _, none⟩) (by first | exact Nat.ne_of_lt (Nat.lt_of_lt_of_le (by have := World.block_lt_of_cell? _ _ hw182_1; first | rwa [add_block] at this | exact this) GW184.out) | (rw [add_block]; exact Nat.ne_of_lt (Nat.lt_of_lt_of_le (by have := World.block_lt_of_cell? _ _ hw182_1; first | rwa [add_block] at this | exact this) GW184.out)) | (show (Addr.add _ _).block ≠ _; rw [add_block]; exact Nat.ne_of_lt (Nat.lt_of_lt_of_le (by have := World.block_lt_of_cell? _ _ hw182_1; first | rwa [add_block] at this | exact this) GW184.out)) | (dsimp only; exact Nat.ne_of_lt (Nat.lt_of_lt_of_le (by have := World.block_lt_of_cell? _ _ hw182_1; first | rwa [add_block] at this | exact this) GW184.out))) _).trans (((cell_far (p := ⟨gb184, _, none⟩) (by first | exact Nat.ne_of_lt (Nat.lt_of_lt_of_le (by have := World.block_lt_of_cell? _ _ hw182_1; first | rwa [add_block] at this | exact this) GW184.out) | (rw [add_block]; exact Nat.ne_of_lt (Nat.lt_of_lt_of_le (by have := World.block_lt_of_cell? _ _ hw182_1; first | rwa [add_block] at this | exact this) GW184.out)) | (show (Addr.add _ _).block ≠ _; rw [add_block]; exact Nat.ne_of_lt (Nat.lt_of_lt_of_le (by have := World.block_lt_of_cell? _ _ hw182_1; first | rwa [add_block] at this | exact this) GW184.out)) | (dsimp only; exact Nat.ne_of_lt (Nat.lt_of_lt_of_le (by have := World.block_lt_of_cell? _ _ hw182_1; first | rwa [add_block] at this | exact this) GW184.out))) _).trans (((cell_far (p := ⟨gb184, _, none⟩) (by first | exact Nat.ne_of_lt (Nat.lt_of_lt_of_le (by have := World.block_lt_of_cell? _ _ hw182_1; first | rwa [add_block] at this | exact this) GW184.out) | (rw [add_block]; exact Nat.ne_of_lt (Nat.lt_of_lt_of_le (by have := World.block_lt_of_cell? _ _ hw182_1; first | rwa [add_block] at this | exact this) GW184.out)) | (show (Addr.add _ _).block ≠ _; rw [add_block]; exact Nat.ne_of_lt (Nat.lt_of_lt_of_le (by have := World.block_lt_of_cell? _ _ hw182_1; first | rwa [add_block] at this | exact this) GW184.out)) | (dsimp only; exact Nat.ne_of_lt (Nat.lt_of_lt_of_le (by have := World.block_lt_of_cell? _ _ hw182_1; first | rwa [add_block] at this | exact this) GW184.out))) _).trans (((cell_far (p := ⟨gb184, _, none⟩) (by first | exact Nat.ne_of_lt (Nat.lt_of_lt_of_le (by have := World.block_lt_of_cell? _ _ hw182_1; first | rwa [add_block] at this | exact this) GW184.out) | (rw [add_block]; exact Nat.ne_of_lt (Nat.lt_of_lt_of_le (by have := World.block_lt_of_cell? _ _ hw182_1; first | rwa [add_block] at this | exact this) GW184.out)) | (show (Addr.add _ _).block ≠ _; rw [add_block]; exact Nat.ne_of_lt (Nat.lt_of_lt_of_le (by have := World.block_lt_of_cell? _ _ hw182_1; first | rwa [add_block] at this | exact this) GW184.out)) | (dsimp only; exact Nat.ne_of_lt (Nat.lt_of_lt_of_le (by have := World.block_lt_of_cell? _ _ hw182_1; first | rwa [add_block] at this | exact this) GW184.out))) _).trans (((cell_far (p := ⟨gb184, _, none⟩) (by first | exact Nat.ne_of_lt (Nat.lt_of_lt_of_le (by have := World.block_lt_of_cell? _ _ hw182_1; first | rwa [add_block] at this | exact this) GW184.out) | (rw [add_block]; exact Nat.ne_of_lt (Nat.lt_of_lt_of_le (by have := World.block_lt_of_cell? _ _ hw182_1; first | rwa [add_block] at this | exact this) GW184.out)) | (show (Addr.add _ _).block ≠ _; rw [add_block]; exact Nat.ne_of_lt (Nat.lt_of_lt_of_le (by have := World.block_lt_of_cell? _ _ hw182_1; first | rwa [add_block] at this | exact this) GW184.out)) | (dsimp only; exact Nat.ne_of_lt (Nat.lt_of_lt_of_le (by have := World.block_lt_of_cell? _ _ hw182_1; first | rwa [add_block] at this | exact this) GW184.out))) _).trans (((cell_far (p := ⟨gb184, _, none⟩) (by first | exact Nat.ne_of_lt (Nat.lt_of_lt_of_le (by have := World.block_lt_of_cell? _ _ hw182_1; first | rwa [add_block] at this | exact this) GW184.out) | (rw [add_block]; exact Nat.ne_of_lt (Nat.lt_of_lt_of_le (by have := World.block_lt_of_cell? _ _ hw182_1; first | rwa [add_block] at this | exact this) GW184.out)) | (show (Addr.add _ _).block ≠ _; rw [add_block]; exact Nat.ne_of_lt (Nat.lt_of_lt_of_le (by have := World.block_lt_of_cell? _ _ hw182_1; first | rwa [add_block] at this | exact this) GW184.out)) | (dsimp only; exact Nat.ne_of_lt (Nat.lt_of_lt_of_le (by have := World.block_lt_of_cell? _ _ hw182_1; first | rwa [add_block] at this | exact this) GW184.out))) _).trans (hHeld.2.1)))))))))))), ((cell_far (p := ⟨gb184, _, none⟩) (by first | exact Nat.ne_of_lt (Nat.lt_of_lt_of_le (by have := World.block_lt_of_cell? _ _ hw182_2; first | rwa [add_block] at this | exact this) GW184.out) | (rw [add_block]; exact Nat.ne_of_lt (Nat.lt_of_lt_of_le (by have := World.block_lt_of_cell? _ _ hw182_2; first | rwa [add_block] at this | exact this) GW184.out)) | (show (Addr.add _ _).block ≠ _; rw [add_block]; exact Nat.ne_of_lt (Nat.lt_of_lt_of_le (by have := World.block_lt_of_cell? _ _ hw182_2; first | rwa [add_block] at this | exact this) GW184.out)) | (dsimp only; exact Nat.ne_of_lt (Nat.lt_of_lt_of_le (by have := World.block_lt_of_cell? _ _ hw182_2; first | rwa [add_block] at this | exact this) GW184.out))) _).trans (((cell_far (p := ⟨gb184, _, none⟩) (by first | exact Nat.ne_of_lt (Nat.lt_of_lt_of_le (by have := World.block_lt_of_cell? _ _ hw182_2; first | rwa [add_block] at this | exact this) GW184.out) | (rw [add_block]; exact Nat.ne_of_lt (Nat.lt_of_lt_of_le (by have := World.block_lt_of_cell? _ _ hw182_2; first | rwa [add_block] at this | exact this) GW184.out)) | (show (Addr.add _ _).block ≠ _; rw [add_block]; exact Nat.ne_of_lt (Nat.lt_of_lt_of_le (by have := World.block_lt_of_cell? _ _ hw182_2; first | rwa [add_block] at this | exact this) GW184.out)) | (dsimp only; exact Nat.ne_of_lt (Nat.lt_of_lt_of_le (by have := World.block_lt_of_cell? _ _ hw182_2; first | rwa [add_block] at this | exact this) GW184.out))) _).trans (((cell_far (p := ⟨gb184, _, none⟩) (by first | exact Nat.ne_of_lt (Nat.lt_of_lt_of_le (by have := World.block_lt_of_cell? _ _ hw182_2; first | rwa [add_block] at this | exact this) GW184.out) | (rw [add_block]; exact Nat.ne_of_lt (Nat.lt_of_lt_of_le (by have := World.block_lt_of_cell? _ _ hw182_2; first | rwa [add_block] at this | exact this) GW184.out)) | (show (Addr.add _ _).block ≠ _; rw [add_block]; exact Nat.ne_of_lt (Nat.lt_of_lt_of_le (by have := World.block_lt_of_cell? _ _ hw182_2; first | rwa [add_block] at this | exact this) GW184.out)) | (dsimp only; exact Nat.ne_of_lt (Nat.lt_of_lt_of_le (by have := World.block_lt_of_cell? _ _ hw182_2; first | rwa [add_block] at this | exact this) GW184.out))) _).trans (((cell_far (p := ⟨gb184, _, none⟩) (by first | exact Nat.ne_of_lt (Nat.lt_of_lt_of_le (by have := World.block_lt_of_cell? _ _ hw182_2; first | rwa [add_block] at this | exact this) GW184.out) | (rw [add_block]; exact Nat.ne_of_lt (Nat.lt_of_lt_of_le (by have := World.block_lt_of_cell? _ _ hw182_2; first | rwa [add_block] at this | exact this) GW184.out)) | (show (Addr.add _ _).block ≠ _; rw [add_block]; exact Nat.ne_of_lt (Nat.lt_of_lt_of_le (by have := World.block_lt_of_cell? _ _ hw182_2; first | rwa [add_block] at this | exact this) GW184.out)) | (dsimp only; exact Nat.ne_of_lt (Nat.lt_of_lt_of_le (by have := World.block_lt_of_cell? _ _ hw182_2; first | rwa [add_block] at this | exact this) GW184.out))) _).trans (((cell_far (p := ⟨gb184, _, none⟩) (by first | exact Nat.ne_of_lt (Nat.lt_of_lt_of_le (by have := World.block_lt_of_cell? _ _ hw182_2; first | rwa [add_block] at this | exact this) GW184.out) | (rw [add_block]; exact Nat.ne_of_lt (Nat.lt_of_lt_of_le (by have := World.block_lt_of_cell? _ _ hw182_2; first | rwa [add_block] at this | exact this) GW184.out)) | (show (Addr.add _ _).block ≠ _; rw [add_block]; exact Nat.ne_of_lt (Nat.lt_of_lt_of_le (by have := World.block_lt_of_cell? _ _ hw182_2; first | rwa [add_block] at this | exact this) GW184.out)) | (dsimp only; exact Nat.ne_of_lt (Nat.lt_of_lt_of_le (by have := World.block_lt_of_cell? _ _ hw182_2; first | rwa [add_block] at this | exact this) GW184.out))) _).trans (((cell_far (p := ⟨gb184, _, none⟩) (by first | exact Nat.ne_of_lt (Nat.lt_of_lt_of_le (by have := World.block_lt_of_cell? _ _ hw182_2; first | rwa [add_block] at this | exact this) GW184.out) | (rw [add_block]; exact Nat.ne_of_lt (Nat.lt_of_lt_of_le (by have := World.block_lt_of_cell? _ _ hw182_2; first | rwa [add_block] at this | exact this) GW184.out)) | (show (Addr.add _ _).block ≠ _; rw [add_block]; exact Nat.ne_of_lt (Nat.lt_of_lt_of_le (by have := World.block_lt_of_cell? _ _ hw182_2; first | rwa [add_block] at this | exact this) GW184.out)) | (dsimp only; exact Nat.ne_of_lt (Nat.lt_of_lt_of_le (by have := World.block_lt_of_cell? _ _ hw182_2; first | rwa [add_block] at this | exact this) GW184.out))) _).trans (hHeld.2.2.1)))))))))))), ((cell_far (p := ⟨gb184, _, none⟩) (by first | exact Nat.ne_of_lt (Nat.lt_of_lt_of_le (by have := World.block_lt_of_cell? _ _ hw182_3; first | rwa [add_block] at this | exact this) GW184.out) | (rw [add_block]; exact Nat.ne_of_lt (Nat.lt_of_lt_of_le (by have := World.block_lt_of_cell? _ _ hw182_3; first | rwa [add_block] at this | exact this) GW184.out)) | (show (Addr.add _ _).block ≠ _; rw [add_block]; exact Nat.ne_of_lt (Nat.lt_of_lt_of_le (by have := World.block_lt_of_cell? _ _ hw182_3; first | rwa [add_block] at this | exact this) GW184.out)) | (dsimp only; exact Nat.ne_of_lt (Nat.lt_of_lt_of_le (by have := World.block_lt_of_cell? _ _ hw182_3; first | rwa [add_block] at this | exact this) GW184.out))) _).trans (((cell_far (p := ⟨gb184, _, none⟩) (by first | exact Nat.ne_of_lt (Nat.lt_of_lt_of_le (by have := World.block_lt_of_cell? _ _ hw182_3; first | rwa [add_block] at this | exact this) GW184.out) | (rw [add_block]; exact Nat.ne_of_lt (Nat.lt_of_lt_of_le (by have := World.block_lt_of_cell? _ _ hw182_3; first | rwa [add_block] at this | exact this) GW184.out)) | (show (Addr.add _ _).block ≠ _; rw [add_block]; exact Nat.ne_of_lt (Nat.lt_of_lt_of_le (by have := World.block_lt_of_cell? _ _ hw182_3; first | rwa [add_block] at this | exact this) GW184.out)) | (dsimp only; exact Nat.ne_of_lt (Nat.lt_of_lt_of_le (by have := World.block_lt_of_cell? _ _ hw182_3; first | rwa [add_block] at this | exact this) GW184.out))) _).trans (((cell_far (p := ⟨gb184, _, none⟩) (by first | exact Nat.ne_of_lt (Nat.lt_of_lt_of_le (by have := World.block_lt_of_cell? _ _ hw182_3; first | rwa [add_block] at this | exact this) GW184.out) | (rw [add_block]; exact Nat.ne_of_lt (Nat.lt_of_lt_of_le (by have := World.block_lt_of_cell? _ _ hw182_3; first | rwa [add_block] at this | exact this) GW184.out)) | (show (Addr.add _ _).block ≠ _; rw [add_block]; exact Nat.ne_of_lt (Nat.lt_of_lt_of_le (by have := World.block_lt_of_cell? _ _ hw182_3; first | rwa [add_block] at this | exact this) GW184.out)) | (dsimp only; exact Nat.ne_of_lt (Nat.lt_of_lt_of_le (by have := World.block_lt_of_cell? _ _ hw182_3; first | rwa [add_block] at this | exact this) GW184.out))) _).trans (((cell_far (p := ⟨gb184, _, none⟩) (by first | exact Nat.ne_of_lt (Nat.lt_of_lt_of_le (by have := World.block_lt_of_cell? _ _ hw182_3; first | rwa [add_block] at this | exact this) GW184.out) | (rw [add_block]; exact Nat.ne_of_lt (Nat.lt_of_lt_of_le (by have := World.block_lt_of_cell? _ _ hw182_3; first | rwa [add_block] at this | exact this) GW184.out)) | (show (Addr.add _ _).block ≠ _; rw [add_block]; exact Nat.ne_of_lt (Nat.lt_of_lt_of_le (by have := World.block_lt_of_cell? _ _ hw182_3; first | rwa [add_block] at this | exact this) GW184.out)) | (dsimp only; exact Nat.ne_of_lt (Nat.lt_of_lt_of_le (by have := World.block_lt_of_cell? _ _ hw182_3; first | rwa [add_block] at this | exact this) GW184.out))) _).trans (((cell_far (p := ⟨gb184, _, none⟩) (by first | exact Nat.ne_of_lt (Nat.lt_of_lt_of_le (by have := World.block_lt_of_cell? _ _ hw182_3; first | rwa [add_block] at this | exact this) GW184.out) | (rw [add_block]; exact Nat.ne_of_lt (Nat.lt_of_lt_of_le (by have := World.block_lt_of_cell? _ _ hw182_3; first | rwa [add_block] at this | exact this) GW184.out)) | (show (Addr.add _ _).block ≠ _; rw [add_block]; exact Nat.ne_of_lt (Nat.lt_of_lt_of_le (by have := World.block_lt_of_cell? _ _ hw182_3; first | rwa [add_block] at this | exact this) GW184.out)) | (dsimp only; exact Nat.ne_of_lt (Nat.lt_of_lt_of_le (by have := World.block_lt_of_cell? _ _ hw182_3; first | rwa [add_block] at this | exact this) GW184.out))) _).trans (((cell_far (p := ⟨gb184, _, none⟩) (by first | exact Nat.ne_of_lt (Nat.lt_of_lt_of_le (by have := World.block_lt_of_cell? _ _ hw182_3; first | rwa [add_block] at this | exact this) GW184.out) | (rw [add_block]; exact Nat.ne_of_lt (Nat.lt_of_lt_of_le (by have := World.block_lt_of_cell? _ _ hw182_3; first | rwa [add_block] at this | exact this) GW184.out)) | (show (Addr.add _ _).block ≠ _; rw [add_block]; exact Nat.ne_of_lt (Nat.lt_of_lt_of_le (by have := World.block_lt_of_cell? _ _ hw182_3; first | rwa [add_block] at this | exact this) GW184.out)) | (dsimp only; exact Nat.ne_of_lt (Nat.lt_of_lt_of_le (by have := World.block_lt_of_cell? _ _ hw182_3; first | rwa [add_block] at this | exact this) GW184.out))) _).trans (hHeld.2.2.2.1)))))))))))), ((cell_far (p := ⟨gb184, _, none⟩) (by first | exact Nat.ne_of_lt (Nat.lt_of_lt_of_le (by have := World.block_lt_of_cell? _ _ hw182_4; first | rwa [add_block] at this | exact this) GW184.out) | (rw [add_block]; exact Nat.ne_of_lt (Nat.lt_of_lt_of_le (by have := World.block_lt_of_cell? _ _ hw182_4; first | rwa [add_block] at this | exact this) GW184.out)) | (show (Addr.add _ _).block ≠ _; rw [add_block]; exact Nat.ne_of_lt (Nat.lt_of_lt_of_le (by have := World.block_lt_of_cell? _ _ hw182_4; first | rwa [add_block] at this | exact this) GW184.out)) | (dsimp only; exact Nat.ne_of_lt (Nat.lt_of_lt_of_le (by have := World.block_lt_of_cell? _ _ hw182_4; first | rwa [add_block] at this | exact this) GW184.out))) _).trans (((cell_far (p := ⟨gb184, _, none⟩) (by first | exact Nat.ne_of_lt (Nat.lt_of_lt_of_le (by have := World.block_lt_of_cell? _ _ hw182_4; first | rwa [add_block] at this | exact this) GW184.out) | (rw [add_block]; exact Nat.ne_of_lt (Nat.lt_of_lt_of_le (by have := World.block_lt_of_cell? _ _ hw182_4; first | rwa [add_block] at this | exact this) GW184.out)) | (show (Addr.add _ _).block ≠ _; rw [add_block]; exact Nat.ne_of_lt (Nat.lt_of_lt_of_le (by have := World.block_lt_of_cell? _ _ hw182_4; first | rwa [add_block] at this | exact this) GW184.out)) | (dsimp only; exact Nat.ne_of_lt (Nat.lt_of_lt_of_le (by have := World.block_lt_of_cell? _ _ hw182_4; first | rwa [add_block] at this | exact this) GW184.out))) _).trans (((cell_far (p := ⟨gb184, _, none⟩) (by first | exact Nat.ne_of_lt (Nat.lt_of_lt_of_le (by have := World.block_lt_of_cell? _ _ hw182_4; first | rwa [add_block] at this | exact this) GW184.out) | (rw [add_block]; exact Nat.ne_of_lt (Nat.lt_of_lt_of_le (by have := World.block_lt_of_cell? _ _ hw182_4; first | rwa [add_block] at this | exact this) GW184.out)) | (show (Addr.add _ _).block ≠ _; rw [add_block]; exact Nat.ne_of_lt (Nat.lt_of_lt_of_le (by have := World.block_lt_of_cell? _ _ hw182_4; first | rwa [add_block] at this | exact this) GW184.out)) | (dsimp only; exact Nat.ne_of_lt (Nat.lt_of_lt_of_le (by have := World.block_lt_of_cell? _ _ hw182_4; first | rwa [add_block] at this | exact this) GW184.out))) _).trans (((cell_far (p := ⟨gb184, _, none⟩) (by first | exact Nat.ne_of_lt (Nat.lt_of_lt_of_le (by have := World.block_lt_of_cell? _ _ hw182_4; first | rwa [add_block] at this | exact this) GW184.out) | (rw [add_block]; exact Nat.ne_of_lt (Nat.lt_of_lt_of_le (by have := World.block_lt_of_cell? _ _ hw182_4; first | rwa [add_block] at this | exact this) GW184.out)) | (show (Addr.add _ _).block ≠ _; rw [add_block]; exact Nat.ne_of_lt (Nat.lt_of_lt_of_le (by have := World.block_lt_of_cell? _ _ hw182_4; first | rwa [add_block] at this | exact this) GW184.out)) | (dsimp only; exact Nat.ne_of_lt (Nat.lt_of_lt_of_le (by have := World.block_lt_of_cell? _ _ hw182_4; first | rwa [add_block] at this | exact this) GW184.out))) _).trans (((cell_far (p := ⟨gb184, _, none⟩) (by first | exact Nat.ne_of_lt (Nat.lt_of_lt_of_le (by have := World.block_lt_of_cell? _ _ hw182_4; first | rwa [add_block] at this | exact this) GW184.out) | (rw [add_block]; exact Nat.ne_of_lt (Nat.lt_of_lt_of_le (by have := World.block_lt_of_cell? _ _ hw182_4; first | rwa [add_block] at this | exact this) GW184.out)) | (show (Addr.add _ _).block ≠ _; rw [add_block]; exact Nat.ne_of_lt (Nat.lt_of_lt_of_le (by have := World.block_lt_of_cell? _ _ hw182_4; first | rwa [add_block] at this | exact this) GW184.out)) | (dsimp only; exact Nat.ne_of_lt (Nat.lt_of_lt_of_le (by have := World.block_lt_of_cell? _ _ hw182_4; first | rwa [add_block] at this | exact this) GW184.out))) _).trans (((cell_far (p := ⟨gb184, _, none⟩) (by first | exact Nat.ne_of_lt (Nat.lt_of_lt_of_le (by have := World.block_lt_of_cell? _ _ hw182_4; first | rwa [add_block] at this | exact this) GW184.out) | (rw [add_block]; exact Nat.ne_of_lt (Nat.lt_of_lt_of_le (by have := World.block_lt_of_cell? _ _ hw182_4; first | rwa [add_block] at this | exact this) GW184.out)) | (show (Addr.add _ _).block ≠ _; rw [add_block]; exact Nat.ne_of_lt (Nat.lt_of_lt_of_le (by have := World.block_lt_of_cell? _ _ hw182_4; first | rwa [add_block] at this | exact this) GW184.out)) | (dsimp only; exact Nat.ne_of_lt (Nat.lt_of_lt_of_le (by have := World.block_lt_of_cell? _ _ hw182_4; first | rwa [add_block] at this | exact this) GW184.out))) _).trans (hHeld.2.2.2.2.1)))))))))))), ((cell_far (p := ⟨gb184, _, none⟩) (by first | exact Nat.ne_of_lt (Nat.lt_of_lt_of_le (by have := World.block_lt_of_cell? _ _ hw182_5; first | rwa [add_block] at this | exact this) GW184.out) | (rw [add_block]; exact Nat.ne_of_lt (Nat.lt_of_lt_of_le (by have := World.block_lt_of_cell? _ _ hw182_5; first | rwa [add_block] at this | exact this) GW184.out)) | (show (Addr.add _ _).block ≠ _; rw [add_block]; exact Nat.ne_of_lt (Nat.lt_of_lt_of_le (by have := World.block_lt_of_cell? _ _ hw182_5; first | rwa [add_block] at this | exact this) GW184.out)) | (dsimp only; exact Nat.ne_of_lt (Nat.lt_of_lt_of_le (by have := World.block_lt_of_cell? _ _ hw182_5; first | rwa [add_block] at this | exact this) GW184.out))) _).trans (((cell_far (p := ⟨gb184, _, none⟩) (by first | exact Nat.ne_of_lt (Nat.lt_of_lt_of_le (by have := World.block_lt_of_cell? _ _ hw182_5; first | rwa [add_block] at this | exact this) GW184.out) | (rw [add_block]; exact Nat.ne_of_lt (Nat.lt_of_lt_of_le (by have := World.block_lt_of_cell? _ _ hw182_5; first | rwa [add_block] at this | exact this) GW184.out)) | (show (Addr.add _ _).block ≠ _; rw [add_block]; exact Nat.ne_of_lt (Nat.lt_of_lt_of_le (by have := World.block_lt_of_cell? _ _ hw182_5; first | rwa [add_block] at this | exact this) GW184.out)) | (dsimp only; exact Nat.ne_of_lt (Nat.lt_of_lt_of_le (by have := World.block_lt_of_cell? _ _ hw182_5; first | rwa [add_block] at this | exact this) GW184.out))) _).trans (((cell_far (p := ⟨gb184, _, none⟩) (by first | exact Nat.ne_of_lt (Nat.lt_of_lt_of_le (by have := World.block_lt_of_cell? _ _ hw182_5; first | rwa [add_block] at this | exact this) GW184.out) | (rw [add_block]; exact Nat.ne_of_lt (Nat.lt_of_lt_of_le (by have := World.block_lt_of_cell? _ _ hw182_5; first | rwa [add_block] at this | exact this) GW184.out)) | (show (Addr.add _ _).block ≠ _; rw [add_block]; exact Nat.ne_of_lt (Nat.lt_of_lt_of_le (by have := World.block_lt_of_cell? _ _ hw182_5; first | rwa [add_block] at this | exact this) GW184.out)) | (dsimp only; exact Nat.ne_of_lt (Nat.lt_of_lt_of_le (by have := World.block_lt_of_cell? _ _ hw182_5; first | rwa [add_block] at this | exact this) GW184.out))) _).trans (((cell_far (p := ⟨gb184, _, none⟩) (by first | exact Nat.ne_of_lt (Nat.lt_of_lt_of_le (by have := World.block_lt_of_cell? _ _ hw182_5; first | rwa [add_block] at this | exact this) GW184.out) | (rw [add_block]; exact Nat.ne_of_lt (Nat.lt_of_lt_of_le (by have := World.block_lt_of_cell? _ _ hw182_5; first | rwa [add_block] at this | exact this) GW184.out)) | (show (Addr.add _ _).block ≠ _; rw [add_block]; exact Nat.ne_of_lt (Nat.lt_of_lt_of_le (by have := World.block_lt_of_cell? _ _ hw182_5; first | rwa [add_block] at this | exact this) GW184.out)) | (dsimp only; exact Nat.ne_of_lt (Nat.lt_of_lt_of_le (by have := World.block_lt_of_cell? _ _ hw182_5; first | rwa [add_block] at this | exact this) GW184.out))) _).trans (((cell_far (p := ⟨gb184, _, none⟩) (by first | exact Nat.ne_of_lt (Nat.lt_of_lt_of_le (by have := World.block_lt_of_cell? _ _ hw182_5; first | rwa [add_block] at this | exact this) GW184.out) | (rw [add_block]; exact Nat.ne_of_lt (Nat.lt_of_lt_of_le (by have := World.block_lt_of_cell? _ _ hw182_5; first | rwa [add_block] at this | exact this) GW184.out)) | (show (Addr.add _ _).block ≠ _; rw [add_block]; exact Nat.ne_of_lt (Nat.lt_of_lt_of_le (by have := World.block_lt_of_cell? _ _ hw182_5; first | rwa [add_block] at this | exact this) GW184.out)) | (dsimp only; exact Nat.ne_of_lt (Nat.lt_of_lt_of_le (by have := World.block_lt_of_cell? _ _ hw182_5; first | rwa [add_block] at this | exact this) GW184.out))) _).trans (((cell_far (p := ⟨gb184, _, none⟩) (by first | exact Nat.ne_of_lt (Nat.lt_of_lt_of_le (by have := World.block_lt_of_cell? _ _ hw182_5; first | rwa [add_block] at this | exact this) GW184.out) | (rw [add_block]; exact Nat.ne_of_lt (Nat.lt_of_lt_of_le (by have := World.block_lt_of_cell? _ _ hw182_5; first | rwa [add_block] at this | exact this) GW184.out)) | (show (Addr.add _ _).block ≠ _; rw [add_block]; exact Nat.ne_of_lt (Nat.lt_of_lt_of_le (by have := World.block_lt_of_cell? _ _ hw182_5; first | rwa [add_block] at this | exact this) GW184.out)) | (dsimp only; exact Nat.ne_of_lt (Nat.lt_of_lt_of_le (by have := World.block_lt_of_cell? _ _ hw182_5; first | rwa [add_block] at this | exact this) GW184.out))) _).trans (hHeld.2.2.2.2.2.1)))))))))))), ((cell_far (p := ⟨gb184, _, none⟩) (by first | exact Nat.ne_of_lt (Nat.lt_of_lt_of_le (by have := World.block_lt_of_cell? _ _ hw183_0; first | rwa [add_block] at this | exact this) GW184.out) | (rw [add_block]; exact Nat.ne_of_lt (Nat.lt_of_lt_of_le (by have := World.block_lt_of_cell? _ _ hw183_0; first | rwa [add_block] at this | exact this) GW184.out)) | (show (Addr.add _ _).block ≠ _; rw [add_block]; exact Nat.ne_of_lt (Nat.lt_of_lt_of_le (by have := World.block_lt_of_cell? _ _ hw183_0; first | rwa [add_block] at this | exact this) GW184.out)) | (dsimp only; exact Nat.ne_of_lt (Nat.lt_of_lt_of_le (by have := World.block_lt_of_cell? _ _ hw183_0; first | rwa [add_block] at this | exact this) GW184.out))) _).trans (((cell_far (p := ⟨gb184, _, none⟩) (by first | exact Nat.ne_of_lt (Nat.lt_of_lt_of_le (by have := World.block_lt_of_cell? _ _ hw183_0; first | rwa [add_block] at this | exact this) GW184.out) | (rw [add_block]; exact Nat.ne_of_lt (Nat.lt_of_lt_of_le (by have := World.block_lt_of_cell? _ _ hw183_0; first | rwa [add_block] at this | exact this) GW184.out)) | (show (Addr.add _ _).block ≠ _; rw [add_block]; exact Nat.ne_of_lt (Nat.lt_of_lt_of_le (by have := World.block_lt_of_cell? _ _ hw183_0; first | rwa [add_block] at this | exact this) GW184.out)) | (dsimp only; exact Nat.ne_of_lt (Nat.lt_of_lt_of_le (by have := World.block_lt_of_cell? _ _ hw183_0; first | rwa [add_block] at this | exact this) GW184.out))) _).trans (((cell_far (p := ⟨gb184, _, none⟩) (by first | exact Nat.ne_of_lt (Nat.lt_of_lt_of_le (by have := World.block_lt_of_cell? _ _ hw183_0; first | rwa [add_block] at this | exact this) GW184.out) | (rw [add_block]; exact Nat.ne_of_lt (Nat.lt_of_lt_of_le (by have := World.block_lt_of_cell? _ _ hw183_0; first | rwa [add_block] at this | exact this) GW184.out)) | (show (Addr.add _ _).block ≠ _; rw [add_block]; exact Nat.ne_of_lt (Nat.lt_of_lt_of_le (by have := World.block_lt_of_cell? _ _ hw183_0; first | rwa [add_block] at this | exact this) GW184.out)) | (dsimp only; exact Nat.ne_of_lt (Nat.lt_of_lt_of_le (by have := World.block_lt_of_cell? _ _ hw183_0; first | rwa [add_block] at this | exact this) GW184.out))) _).trans (((cell_far (p := ⟨gb184, _, none⟩) (by first | exact Nat.ne_of_lt (Nat.lt_of_lt_of_le (by have := World.block_lt_of_cell? _ _ hw183_0; first | rwa [add_block] at this | exact this) GW184.out) | (rw [add_block]; exact Nat.ne_of_lt (Nat.lt_of_lt_of_le (by have := World.block_lt_of_cell? _ _ hw183_0; first | rwa [add_block] at this | exact this) GW184.out)) | (show (Addr.add _ _).block ≠ _; rw [add_block]; exact Nat.ne_of_lt (Nat.lt_of_lt_of_le (by have := World.block_lt_of_cell? _ _ hw183_0; first | rwa [add_block] at this | exact this) GW184.out)) | (dsimp only; exact Nat.ne_of_lt (Nat.lt_of_lt_of_le (by have := World.block_lt_of_cell? _ _ hw183_0; first | rwa [add_block] at this | exact this) GW184.out))) _).trans (((cell_far (p := ⟨gb184, _, none⟩) (by first | exact Nat.ne_of_lt (Nat.lt_of_lt_of_le (by have := World.block_lt_of_cell? _ _ hw183_0; first | rwa [add_block] at this | exact this) GW184.out) | (rw [add_block]; exact Nat.ne_of_lt (Nat.lt_of_lt_of_le (by have := World.block_lt_of_cell? _ _ hw183_0; first | rwa [add_block] at this | exact this) GW184.out)) | (show (Addr.add _ _).block ≠ _; rw [add_block]; exact Nat.ne_of_lt (Nat.lt_of_lt_of_le (by have := World.block_lt_of_cell? _ _ hw183_0; first | rwa [add_block] at this | exact this) GW184.out)) | (dsimp only; exact Nat.ne_of_lt (Nat.lt_of_lt_of_le (by have := World.block_lt_of_cell? _ _ hw183_0; first | rwa [add_block] at this | exact this) GW184.out))) _).trans (((cell_far (p := ⟨gb184, _, none⟩) (by first | exact Nat.ne_of_lt (Nat.lt_of_lt_of_le (by have := World.block_lt_of_cell? _ _ hw183_0; first | rwa [add_block] at this | exact this) GW184.out) | (rw [add_block]; exact Nat.ne_of_lt (Nat.lt_of_lt_of_le (by have := World.block_lt_of_cell? _ _ hw183_0; first | rwa [add_block] at this | exact this) GW184.out)) | (show (Addr.add _ _).block ≠ _; rw [add_block]; exact Nat.ne_of_lt (Nat.lt_of_lt_of_le (by have := World.block_lt_of_cell? _ _ hw183_0; first | rwa [add_block] at this | exact this) GW184.out)) | (dsimp only; exact Nat.ne_of_lt (Nat.lt_of_lt_of_le (by have := World.block_lt_of_cell? _ _ hw183_0; first | rwa [add_block] at this | exact this) GW184.out))) _).trans (hHeld.2.2.2.2.2.2.1)))))))))))), ((cell_far (p := ⟨gb184, _, none⟩) (by first | exact Nat.ne_of_lt (Nat.lt_of_lt_of_le (by have := World.block_lt_of_cell? _ _ hw183_1; first | rwa [add_block] at this | exact this) GW184.out) | (rw [add_block]; exact Nat.ne_of_lt (Nat.lt_of_lt_of_le (by have := World.block_lt_of_cell? _ _ hw183_1; first | rwa [add_block] at this | exact this) GW184.out)) | (show (Addr.add _ _).block ≠ _; rw [add_block]; exact Nat.ne_of_lt (Nat.lt_of_lt_of_le (by have := World.block_lt_of_cell? _ _ hw183_1; first | rwa [add_block] at this | exact this) GW184.out)) | (dsimp only; exact Nat.ne_of_lt (Nat.lt_of_lt_of_le (by have := World.block_lt_of_cell? _ _ hw183_1; first | rwa [add_block] at this | exact this) GW184.out))) _).trans (((cell_far (p := ⟨gb184, _, none⟩) (by first | exact Nat.ne_of_lt (Nat.lt_of_lt_of_le (by have := World.block_lt_of_cell? _ _ hw183_1; first | rwa [add_block] at this | exact this) GW184.out) | (rw [add_block]; exact Nat.ne_of_lt (Nat.lt_of_lt_of_le (by have := World.block_lt_of_cell? _ _ hw183_1; first | rwa [add_block] at this | exact this) GW184.out)) | (show (Addr.add _ _).block ≠ _; rw [add_block]; exact Nat.ne_of_lt (Nat.lt_of_lt_of_le (by have := World.block_lt_of_cell? _ _ hw183_1; first | rwa [add_block] at this | exact this) GW184.out)) | (dsimp only; exact Nat.ne_of_lt (Nat.lt_of_lt_of_le (by have := World.block_lt_of_cell? _ _ hw183_1; first | rwa [add_block] at this | exact this) GW184.out))) _).trans (((cell_far (p := ⟨gb184, _, none⟩) (by first | exact Nat.ne_of_lt (Nat.lt_of_lt_of_le (by have := World.block_lt_of_cell? _ _ hw183_1; first | rwa [add_block] at this | exact this) GW184.out) | (rw [add_block]; exact Nat.ne_of_lt (Nat.lt_of_lt_of_le (by have := World.block_lt_of_cell? _ _ hw183_1; first | rwa [add_block] at this | exact this) GW184.out)) | (show (Addr.add _ _).block ≠ _; rw [add_block]; exact Nat.ne_of_lt (Nat.lt_of_lt_of_le (by have := World.block_lt_of_cell? _ _ hw183_1; first | rwa [add_block] at this | exact this) GW184.out)) | (dsimp only; exact Nat.ne_of_lt (Nat.lt_of_lt_of_le (by have := World.block_lt_of_cell? _ _ hw183_1; first | rwa [add_block] at this | exact this) GW184.out))) _).trans (((cell_far (p := ⟨gb184, _, none⟩) (by first | exact Nat.ne_of_lt (Nat.lt_of_lt_of_le (by have := World.block_lt_of_cell? _ _ hw183_1; first | rwa [add_block] at this | exact this) GW184.out) | (rw [add_block]; exact Nat.ne_of_lt (Nat.lt_of_lt_of_le (by have := World.block_lt_of_cell? _ _ hw183_1; first | rwa [add_block] at this | exact this) GW184.out)) | (show (Addr.add _ _).block ≠ _; rw [add_block]; exact Nat.ne_of_lt (Nat.lt_of_lt_of_le (by have := World.block_lt_of_cell? _ _ hw183_1; first | rwa [add_block] at this | exact this) GW184.out)) | (dsimp only; exact Nat.ne_of_lt (Nat.lt_of_lt_of_le (by have := World.block_lt_of_cell? _ _ hw183_1; first | rwa [add_block] at this | exact this) GW184.out))) _).trans (((cell_far (p := ⟨gb184, _, none⟩) (by first | exact Nat.ne_of_lt (Nat.lt_of_lt_of_le (by have := World.block_lt_of_cell? _ _ hw183_1; first | rwa [add_block] at this | exact this) GW184.out) | (rw [add_block]; exact Nat.ne_of_lt (Nat.lt_of_lt_of_le (by have := World.block_lt_of_cell? _ _ hw183_1; first | rwa [add_block] at this | exact this) GW184.out)) | (show (Addr.add _ _).block ≠ _; rw [add_block]; exact Nat.ne_of_lt (Nat.lt_of_lt_of_le (by have := World.block_lt_of_cell? _ _ hw183_1; first | rwa [add_block] at this | exact this) GW184.out)) | (dsimp only; exact Nat.ne_of_lt (Nat.lt_of_lt_of_le (by have := World.block_lt_of_cell? _ _ hw183_1; first | rwa [add_block] at this | exact this) GW184.out))) _).trans (((cell_far (p := ⟨gb184, _, none⟩) (by first | exact Nat.ne_of_lt (Nat.lt_of_lt_of_le (by have := World.block_lt_of_cell? _ _ hw183_1; first | rwa [add_block] at this | exact this) GW184.out) | (rw [add_block]; exact Nat.ne_of_lt (Nat.lt_of_lt_of_le (by have := World.block_lt_of_cell? _ _ hw183_1; first | rwa [add_block] at this | exact this) GW184.out)) | (show (Addr.add _ _).block ≠ _; rw [add_block]; exact Nat.ne_of_lt (Nat.lt_of_lt_of_le (by have := World.block_lt_of_cell? _ _ hw183_1; first | rwa [add_block] at this | exact this) GW184.out)) | (dsimp only; exact Nat.ne_of_lt (Nat.lt_of_lt_of_le (by have := World.block_lt_of_cell? _ _ hw183_1; first | rwa [add_block] at this | exact this) GW184.out))) _).trans (hHeld.2.2.2.2.2.2.2.1)))))))))))), ((cell_far (p := ⟨gb184, _, none⟩) (by first | exact Nat.ne_of_lt (Nat.lt_of_lt_of_le (by have := World.block_lt_of_cell? _ _ hw183_2; first | rwa [add_block] at this | exact this) GW184.out) | (rw [add_block]; exact Nat.ne_of_lt (Nat.lt_of_lt_of_le (by have := World.block_lt_of_cell? _ _ hw183_2; first | rwa [add_block] at this | exact this) GW184.out)) | (show (Addr.add _ _).block ≠ _; rw [add_block]; exact Nat.ne_of_lt (Nat.lt_of_lt_of_le (by have := World.block_lt_of_cell? _ _ hw183_2; first | rwa [add_block] at this | exact this) GW184.out)) | (dsimp only; exact Nat.ne_of_lt (Nat.lt_of_lt_of_le (by have := World.block_lt_of_cell? _ _ hw183_2; first | rwa [add_block] at this | exact this) GW184.out))) _).trans (((cell_far (p := ⟨gb184, _, none⟩) (by first | exact Nat.ne_of_lt (Nat.lt_of_lt_of_le (by have := World.block_lt_of_cell? _ _ hw183_2; first | rwa [add_block] at this | exact this) GW184.out) | (rw [add_block]; exact Nat.ne_of_lt (Nat.lt_of_lt_of_le (by have := World.block_lt_of_cell? _ _ hw183_2; first | rwa [add_block] at this | exact this) GW184.out)) | (show (Addr.add _ _).block ≠ _; rw [add_block]; exact Nat.ne_of_lt (Nat.lt_of_lt_of_le (by have := World.block_lt_of_cell? _ _ hw183_2; first | rwa [add_block] at this | exact this) GW184.out)) | (dsimp only; exact Nat.ne_of_lt (Nat.lt_of_lt_of_le (by have := World.block_lt_of_cell? _ _ hw183_2; first | rwa [add_block] at this | exact this) GW184.out))) _).trans (((cell_far (p := ⟨gb184, _, none⟩) (by first | exact Nat.ne_of_lt (Nat.lt_of_lt_of_le (by have := World.block_lt_of_cell? _ _ hw183_2; first | rwa [add_block] at this | exact this) GW184.out) | (rw [add_block]; exact Nat.ne_of_lt (Nat.lt_of_lt_of_le (by have := World.block_lt_of_cell? _ _ hw183_2; first | rwa [add_block] at this | exact this) GW184.out)) | (show (Addr.add _ _).block ≠ _; rw [add_block]; exact Nat.ne_of_lt (Nat.lt_of_lt_of_le (by have := World.block_lt_of_cell? _ _ hw183_2; first | rwa [add_block] at this | exact this) GW184.out)) | (dsimp only; exact Nat.ne_of_lt (Nat.lt_of_lt_of_le (by have := World.block_lt_of_cell? _ _ hw183_2; first | rwa [add_block] at this | exact this) GW184.out))) _).trans (((cell_far (p := ⟨gb184, _, none⟩) (by first | exact Nat.ne_of_lt (Nat.lt_of_lt_of_le (by have := World.block_lt_of_cell? _ _ hw183_2; first | rwa [add_block] at this | exact this) GW184.out) | (rw [add_block]; exact Nat.ne_of_lt (Nat.lt_of_lt_of_le (by have := World.block_lt_of_cell? _ _ hw183_2; first | rwa [add_block] at this | exact this) GW184.out)) | (show (Addr.add _ _).block ≠ _; rw [add_block]; exact Nat.ne_of_lt (Nat.lt_of_lt_of_le (by have := World.block_lt_of_cell? _ _ hw183_2; first | rwa [add_block] at this | exact this) GW184.out)) | (dsimp only; exact Nat.ne_of_lt (Nat.lt_of_lt_of_le (by have := World.block_lt_of_cell? _ _ hw183_2; first | rwa [add_block] at this | exact this) GW184.out))) _).trans (((cell_far (p := ⟨gb184, _, none⟩) (by first | exact Nat.ne_of_lt (Nat.lt_of_lt_of_le (by have := World.block_lt_of_cell? _ _ hw183_2; first | rwa [add_block] at this | exact this) GW184.out) | (rw [add_block]; exact Nat.ne_of_lt (Nat.lt_of_lt_of_le (by have := World.block_lt_of_cell? _ _ hw183_2; first | rwa [add_block] at this | exact this) GW184.out)) | (show (Addr.add _ _).block ≠ _; rw [add_block]; exact Nat.ne_of_lt (Nat.lt_of_lt_of_le (by have := World.block_lt_of_cell? _ _ hw183_2; first | rwa [add_block] at this | exact this) GW184.out)) | (dsimp only; exact Nat.ne_of_lt (Nat.lt_of_lt_of_le (by have := World.block_lt_of_cell? _ _ hw183_2; first | rwa [add_block] at this | exact this) GW184.out))) _).trans (((cell_far (p := ⟨gb184, _, none⟩) (by first | exact Nat.ne_of_lt (Nat.lt_of_lt_of_le (by have := World.block_lt_of_cell? _ _ hw183_2; first | rwa [add_block] at this | exact this) GW184.out) | (rw [add_block]; exact Nat.ne_of_lt (Nat.lt_of_lt_of_le (by have := World.block_lt_of_cell? _ _ hw183_2; first | rwa [add_block] at this | exact this) GW184.out)) | (show (Addr.add _ _).block ≠ _; rw [add_block]; exact Nat.ne_of_lt (Nat.lt_of_lt_of_le (by have := World.block_lt_of_cell? _ _ hw183_2; first | rwa [add_block] at this | exact this) GW184.out)) | (dsimp only; exact Nat.ne_of_lt (Nat.lt_of_lt_of_le (by have := World.block_lt_of_cell? _ _ hw183_2; first | rwa [add_block] at this | exact this) GW184.out))) _).trans (hHeld.2.2.2.2.2.2.2.2.1)))))))))))), ((cell_far (p := ⟨gb184, _, none⟩) (by first | exact Nat.ne_of_lt (Nat.lt_of_lt_of_le (by have := World.block_lt_of_cell? _ _ hw183_3; first | rwa [add_block] at this | exact this) GW184.out) | (rw [add_block]; exact Nat.ne_of_lt (Nat.lt_of_lt_of_le (by have := World.block_lt_of_cell? _ _ hw183_3; first | rwa [add_block] at this | exact this) GW184.out)) | (show (Addr.add _ _).block ≠ _; rw [add_block]; exact Nat.ne_of_lt (Nat.lt_of_lt_of_le (by have := World.block_lt_of_cell? _ _ hw183_3; first | rwa [add_block] at this | exact this) GW184.out)) | (dsimp only; exact Nat.ne_of_lt (Nat.lt_of_lt_of_le (by have := World.block_lt_of_cell? _ _ hw183_3; first | rwa [add_block] at this | exact this) GW184.out))) _).trans (((cell_far (p := ⟨gb184, _, none⟩) (by first | exact Nat.ne_of_lt (Nat.lt_of_lt_of_le (by have := World.block_lt_of_cell? _ _ hw183_3; first | rwa [add_block] at this | exact this) GW184.out) | (rw [add_block]; exact Nat.ne_of_lt (Nat.lt_of_lt_of_le (by have := World.block_lt_of_cell? _ _ hw183_3; first | rwa [add_block] at this | exact this) GW184.out)) | (show (Addr.add _ _).block ≠ _; rw [add_block]; exact Nat.ne_of_lt (Nat.lt_of_lt_of_le (by have := World.block_lt_of_cell? _ _ hw183_3; first | rwa [add_block] at this | exact this) GW184.out)) | (dsimp only; exact Nat.ne_of_lt (Nat.lt_of_lt_of_le (by have := World.block_lt_of_cell? _ _ hw183_3; first | rwa [add_block] at this | exact this) GW184.out))) _).trans (((cell_far (p := ⟨gb184, _, none⟩) (by first | exact Nat.ne_of_lt (Nat.lt_of_lt_of_le (by have := World.block_lt_of_cell? _ _ hw183_3; first | rwa [add_block] at this | exact this) GW184.out) | (rw [add_block]; exact Nat.ne_of_lt (Nat.lt_of_lt_of_le (by have := World.block_lt_of_cell? _ _ hw183_3; first | rwa [add_block] at this | exact this) GW184.out)) | (show (Addr.add _ _).block ≠ _; rw [add_block]; exact Nat.ne_of_lt (Nat.lt_of_lt_of_le (by have := World.block_lt_of_cell? _ _ hw183_3; first | rwa [add_block] at this | exact this) GW184.out)) | (dsimp only; exact Nat.ne_of_lt (Nat.lt_of_lt_of_le (by have := World.block_lt_of_cell? _ _ hw183_3; first | rwa [add_block] at this | exact this) GW184.out))) _).trans (((cell_far (p := ⟨gb184, _, none⟩) (by first | exact Nat.ne_of_lt (Nat.lt_of_lt_of_le (by have := World.block_lt_of_cell? _ _ hw183_3; first | rwa [add_block] at this | exact this) GW184.out) | (rw [add_block]; exact Nat.ne_of_lt (Nat.lt_of_lt_of_le (by have := World.block_lt_of_cell? _ _ hw183_3; first | rwa [add_block] at this | exact this) GW184.out)) | (show (Addr.add _ _).block ≠ _; rw [add_block]; exact Nat.ne_of_lt (Nat.lt_of_lt_of_le (by have := World.block_lt_of_cell? _ _ hw183_3; first | rwa [add_block] at this | exact this) GW184.out)) | (dsimp only; exact Nat.ne_of_lt (Nat.lt_of_lt_of_le (by have := World.block_lt_of_cell? _ _ hw183_3; first | rwa [add_block] at this | exact this) GW184.out))) _).trans (((cell_far (p := ⟨gb184, _, none⟩) (by first | exact Nat.ne_of_lt (Nat.lt_of_lt_of_le (by have := World.block_lt_of_cell? _ _ hw183_3; first | rwa [add_block] at this | exact this) GW184.out) | (rw [add_block]; exact Nat.ne_of_lt (Nat.lt_of_lt_of_le (by have := World.block_lt_of_cell? _ _ hw183_3; first | rwa [add_block] at this | exact this) GW184.out)) | (show (Addr.add _ _).block ≠ _; rw [add_block]; exact Nat.ne_of_lt (Nat.lt_of_lt_of_le (by have := World.block_lt_of_cell? _ _ hw183_3; first | rwa [add_block] at this | exact this) GW184.out)) | (dsimp only; exact Nat.ne_of_lt (Nat.lt_of_lt_of_le (by have := World.block_lt_of_cell? _ _ hw183_3; first | rwa [add_block] at this | exact this) GW184.out))) _).trans (((cell_far (p := ⟨gb184, _, none⟩) (by first | exact Nat.ne_of_lt (Nat.lt_of_lt_of_le (by have := World.block_lt_of_cell? _ _ hw183_3; first | rwa [add_block] at this | exact this) GW184.out) | (rw [add_block]; exact Nat.ne_of_lt (Nat.lt_of_lt_of_le (by have := World.block_lt_of_cell? _ _ hw183_3; first | rwa [add_block] at this | exact this) GW184.out)) | (show (Addr.add _ _).block ≠ _; rw [add_block]; exact Nat.ne_of_lt (Nat.lt_of_lt_of_le (by have := World.block_lt_of_cell? _ _ hw183_3; first | rwa [add_block] at this | exact this) GW184.out)) | (dsimp only; exact Nat.ne_of_lt (Nat.lt_of_lt_of_le (by have := World.block_lt_of_cell? _ _ hw183_3; first | rwa [add_block] at this | exact this) GW184.out))) _).trans (hHeld.2.2.2.2.2.2.2.2.2.1)))))))))))), ((cell_far (p := ⟨gb184, _, none⟩) (by first | exact Nat.ne_of_lt (Nat.lt_of_lt_of_le (by have := World.block_lt_of_cell? _ _ hw183_4; first | rwa [add_block] at this | exact this) GW184.out) | (rw [add_block]; exact Nat.ne_of_lt (Nat.lt_of_lt_of_le (by have := World.block_lt_of_cell? _ _ hw183_4; first | rwa [add_block] at this | exact this) GW184.out)) | (show (Addr.add _ _).block ≠ _; rw [add_block]; exact Nat.ne_of_lt (Nat.lt_of_lt_of_le (by have := World.block_lt_of_cell? _ _ hw183_4; first | rwa [add_block] at this | exact this) GW184.out)) | (dsimp only; exact Nat.ne_of_lt (Nat.lt_of_lt_of_le (by have := World.block_lt_of_cell? _ _ hw183_4; first | rwa [add_block] at this | exact this) GW184.out))) _).trans (((cell_far (p := ⟨gb184, _, none⟩) (by first | exact Nat.ne_of_lt (Nat.lt_of_lt_of_le (by have := World.block_lt_of_cell? _ _ hw183_4; first | rwa [add_block] at this | exact this) GW184.out) | (rw [add_block]; exact Nat.ne_of_lt (Nat.lt_of_lt_of_le (by have := World.block_lt_of_cell? _ _ hw183_4; first | rwa [add_block] at this | exact this) GW184.out)) | (show (Addr.add _ _).block ≠ _; rw [add_block]; exact Nat.ne_of_lt (Nat.lt_of_lt_of_le (by have := World.block_lt_of_cell? _ _ hw183_4; first | rwa [add_block] at this | exact this) GW184.out)) | (dsimp only; exact Nat.ne_of_lt (Nat.lt_of_lt_of_le (by have := World.block_lt_of_cell? _ _ hw183_4; first | rwa [add_block] at this | exact this) GW184.out))) _).trans (((cell_far (p := ⟨gb184, _, none⟩) (by first | exact Nat.ne_of_lt (Nat.lt_of_lt_of_le (by have := World.block_lt_of_cell? _ _ hw183_4; first | rwa [add_block] at this | exact this) GW184.out) | (rw [add_block]; exact Nat.ne_of_lt (Nat.lt_of_lt_of_le (by have := World.block_lt_of_cell? _ _ hw183_4; first | rwa [add_block] at this | exact this) GW184.out)) | (show (Addr.add _ _).block ≠ _; rw [add_block]; exact Nat.ne_of_lt (Nat.lt_of_lt_of_le (by have := World.block_lt_of_cell? _ _ hw183_4; first | rwa [add_block] at this | exact this) GW184.out)) | (dsimp only; exact Nat.ne_of_lt (Nat.lt_of_lt_of_le (by have := World.block_lt_of_cell? _ _ hw183_4; first | rwa [add_block] at this | exact this) GW184.out))) _).trans (((cell_far (p := ⟨gb184, _, none⟩) (by first | exact Nat.ne_of_lt (Nat.lt_of_lt_of_le (by have := World.block_lt_of_cell? _ _ hw183_4; first | rwa [add_block] at this | exact this) GW184.out) | (rw [add_block]; exact Nat.ne_of_lt (Nat.lt_of_lt_of_le (by have := World.block_lt_of_cell? _ _ hw183_4; first | rwa [add_block] at this | exact this) GW184.out)) | (show (Addr.add _ _).block ≠ _; rw [add_block]; exact Nat.ne_of_lt (Nat.lt_of_lt_of_le (by have := World.block_lt_of_cell? _ _ hw183_4; first | rwa [add_block] at this | exact this) GW184.out)) | (dsimp only; exact Nat.ne_of_lt (Nat.lt_of_lt_of_le (by have := World.block_lt_of_cell? _ _ hw183_4; first | rwa [add_block] at this | exact this) GW184.out))) _).trans (((cell_far (p := ⟨gb184, _, none⟩) (by first | exact Nat.ne_of_lt (Nat.lt_of_lt_of_le (by have := World.block_lt_of_cell? _ _ hw183_4; first | rwa [add_block] at this | exact this) GW184.out) | (rw [add_block]; exact Nat.ne_of_lt (Nat.lt_of_lt_of_le (by have := World.block_lt_of_cell? _ _ hw183_4; first | rwa [add_block] at this | exact this) GW184.out)) | (show (Addr.add _ _).block ≠ _; rw [add_block]; exact Nat.ne_of_lt (Nat.lt_of_lt_of_le (by have := World.block_lt_of_cell? _ _ hw183_4; first | rwa [add_block] at this | exact this) GW184.out)) | (dsimp only; exact Nat.ne_of_lt (Nat.lt_of_lt_of_le (by have := World.block_lt_of_cell? _ _ hw183_4; first | rwa [add_block] at this | exact this) GW184.out))) _).trans (((cell_far (p := ⟨gb184, _, none⟩) (by first | exact Nat.ne_of_lt (Nat.lt_of_lt_of_le (by have := World.block_lt_of_cell? _ _ hw183_4; first | rwa [add_block] at this | exact this) GW184.out) | (rw [add_block]; exact Nat.ne_of_lt (Nat.lt_of_lt_of_le (by have := World.block_lt_of_cell? _ _ hw183_4; first | rwa [add_block] at this | exact this) GW184.out)) | (show (Addr.add _ _).block ≠ _; rw [add_block]; exact Nat.ne_of_lt (Nat.lt_of_lt_of_le (by have := World.block_lt_of_cell? _ _ hw183_4; first | rwa [add_block] at this | exact this) GW184.out)) | (dsimp only; exact Nat.ne_of_lt (Nat.lt_of_lt_of_le (by have := World.block_lt_of_cell? _ _ hw183_4; first | rwa [add_block] at this | exact this) GW184.out))) _).trans (hHeld.2.2.2.2.2.2.2.2.2.2.1)))))))))))), ((cell_far (p := ⟨gb184, _, none⟩) (by first | exact Nat.ne_of_lt (Nat.lt_of_lt_of_le (by have := World.block_lt_of_cell? _ _ hw183_5; first | rwa [add_block] at this | exact this) GW184.out) | (rw [add_block]; exact Nat.ne_of_lt (Nat.lt_of_lt_of_le (by have := World.block_lt_of_cell? _ _ hw183_5; first | rwa [add_block] at this | exact this) GW184.out)) | (show (Addr.add _ _).block ≠ _; rw [add_block]; exact Nat.ne_of_lt (Nat.lt_of_lt_of_le (by have := World.block_lt_of_cell? _ _ hw183_5; first | rwa [add_block] at this | exact this) GW184.out)) | (dsimp only; exact Nat.ne_of_lt (Nat.lt_of_lt_of_le (by have := World.block_lt_of_cell? _ _ hw183_5; first | rwa [add_block] at this | exact this) GW184.out))) _).trans (((cell_far (p := ⟨gb184, _, none⟩) (by first | exact Nat.ne_of_lt (Nat.lt_of_lt_of_le (by have := World.block_lt_of_cell? _ _ hw183_5; first | rwa [add_block] at this | exact this) GW184.out) | (rw [add_block]; exact Nat.ne_of_lt (Nat.lt_of_lt_of_le (by have := World.block_lt_of_cell? _ _ hw183_5; first | rwa [add_block] at this | exact this) GW184.out)) | (show (Addr.add _ _).block ≠ _; rw [add_block]; exact Nat.ne_of_lt (Nat.lt_of_lt_of_le (by have := World.block_lt_of_cell? _ _ hw183_5; first | rwa [add_block] at this | exact this) GW184.out)) | (dsimp only; exact Nat.ne_of_lt (Nat.lt_of_lt_of_le (by have := World.block_lt_of_cell? _ _ hw183_5; first | rwa [add_block] at this | exact this) GW184.out))) _).trans (((cell_far (p := ⟨gb184, _, none⟩) (by first | exact Nat.ne_of_lt (Nat.lt_of_lt_of_le (by have := World.block_lt_of_cell? _ _ hw183_5; first | rwa [add_block] at this | exact this) GW184.out) | (rw [add_block]; exact Nat.ne_of_lt (Nat.lt_of_lt_of_le (by have := World.block_lt_of_cell? _ _ hw183_5; first | rwa [add_block] at this | exact this) GW184.out)) | (show (Addr.add _ _).block ≠ _; rw [add_block]; exact Nat.ne_of_lt (Nat.lt_of_lt_of_le (by have := World.block_lt_of_cell? _ _ hw183_5; first | rwa [add_block] at this | exact this) GW184.out)) | (dsimp only; exact Nat.ne_of_lt (Nat.lt_of_lt_of_le (by have := World.block_lt_of_cell? _ _ hw183_5; first | rwa [add_block] at this | exact this) GW184.out))) _).trans (((cell_far (p := ⟨gb184, _, none⟩) (by first | exact Nat.ne_of_lt (Nat.lt_of_lt_of_le (by have := World.block_lt_of_cell? _ _ hw183_5; first | rwa [add_block] at this | exact this) GW184.out) | (rw [add_block]; exact Nat.ne_of_lt (Nat.lt_of_lt_of_le (by have := World.block_lt_of_cell? _ _ hw183_5; first | rwa [add_block] at this | exact this) GW184.out)) | (show (Addr.add _ _).block ≠ _; rw [add_block]; exact Nat.ne_of_lt (Nat.lt_of_lt_of_le (by have := World.block_lt_of_cell? _ _ hw183_5; first | rwa [add_block] at this | exact this) GW184.out)) | (dsimp only; exact Nat.ne_of_lt (Nat.lt_of_lt_of_le (by have := World.block_lt_of_cell? _ _ hw183_5; first | rwa [add_block] at this | exact this) GW184.out))) _).trans (((cell_far (p := ⟨gb184, _, none⟩) (by first | exact Nat.ne_of_lt (Nat.lt_of_lt_of_le (by have := World.block_lt_of_cell? _ _ hw183_5; first | rwa [add_block] at this | exact this) GW184.out) | (rw [add_block]; exact Nat.ne_of_lt (Nat.lt_of_lt_of_le (by have := World.block_lt_of_cell? _ _ hw183_5; first | rwa [add_block] at this | exact this) GW184.out)) | (show (Addr.add _ _).block ≠ _; rw [add_block]; exact Nat.ne_of_lt (Nat.lt_of_lt_of_le (by have := World.block_lt_of_cell? _ _ hw183_5; first | rwa [add_block] at this | exact this) GW184.out)) | (dsimp only; exact Nat.ne_of_lt (Nat.lt_of_lt_of_le (by have := World.block_lt_of_cell? _ _ hw183_5; first | rwa [add_block] at this | exact this) GW184.out))) _).trans (((cell_far (p := ⟨gb184, _, none⟩) (by first | exact Nat.ne_of_lt (Nat.lt_of_lt_of_le (by have := World.block_lt_of_cell? _ _ hw183_5; first | rwa [add_block] at this | exact this) GW184.out) | (rw [add_block]; exact Nat.ne_of_lt (Nat.lt_of_lt_of_le (by have := World.block_lt_of_cell? _ _ hw183_5; first | rwa [add_block] at this | exact this) GW184.out)) | (show (Addr.add _ _).block ≠ _; rw [add_block]; exact Nat.ne_of_lt (Nat.lt_of_lt_of_le (by have := World.block_lt_of_cell? _ _ hw183_5; first | rwa [add_block] at this | exact this) GW184.out)) | (dsimp only; exact Nat.ne_of_lt (Nat.lt_of_lt_of_le (by have := World.block_lt_of_cell? _ _ hw183_5; first | rwa [add_block] at this | exact this) GW184.out))) _).trans (hHeld.2.2.2.2.2.2.2.2.2.2.2))))))))))))⟩ (fun hHeld => ?_)
        clear hK K
        refine one_ (i := 12) (N := none) #[true, true, true, true, true, true, true, true, true, true, true, true, true] rfl rfl (one_of HT_.out (by kernel_rfl)) (by decide) (fun K hK => ?_)
        have hs21 : w14.cell? ⟨gb185, 0, none⟩ = some (.int .i64 0) := (blk_cell BK185.out 0).trans rfl
        have hfs21 := blk_frozen BK185.out 0
        have hns21_0 := NB180_185.out
        have hns21_1 := NB184_185.out
        have hms21_0 := NB185_180.out
        have hms21_1 := NB185_184.out
        have hs22 : w14.cell? ⟨gb185, 1, none⟩ = some (.int .i64 0) := (blk_cell BK185.out 1).trans rfl
        have hfs22 := blk_frozen BK185.out 1
        have hns22_0 := NB180_185.out
        have hns22_1 := NB184_185.out
        have hms22_0 := NB185_180.out
        have hms22_1 := NB185_184.out
        have hs23 : w14.cell? ⟨gb185, 2, none⟩ = some (.int .i64 0) := (blk_cell BK185.out 2).trans rfl
        have hfs23 := blk_frozen BK185.out 2
        have hns23_0 := NB180_185.out
        have hns23_1 := NB184_185.out
        have hms23_0 := NB185_180.out
        have hms23_1 := NB185_184.out
        have hs24 : w14.cell? ⟨gb185, 3, none⟩ = some (.int .i64 0) := (blk_cell BK185.out 3).trans rfl
        have hfs24 := blk_frozen BK185.out 3
        have hns24_0 := NB180_185.out
        have hns24_1 := NB184_185.out
        have hms24_0 := NB185_180.out
        have hms24_1 := NB185_184.out
        have hs25 : w14.cell? ⟨gb185, 4, none⟩ = some (.int .i64 0) := (blk_cell BK185.out 4).trans rfl
        have hfs25 := blk_frozen BK185.out 4
        have hns25_0 := NB180_185.out
        have hns25_1 := NB184_185.out
        have hms25_0 := NB185_180.out
        have hms25_1 := NB185_184.out
        have hs26 : w14.cell? ⟨gb185, 5, none⟩ = some (.int .i64 0) := (blk_cell BK185.out 5).trans rfl
        have hfs26 := blk_frozen BK185.out 5
        have hns26_0 := NB180_185.out
        have hns26_1 := NB184_185.out
        have hms26_0 := NB185_180.out
        have hms26_1 := NB185_184.out
        refine skip_ (w1 := ?_) (by rfl) rfl ?_ ?_
        rotate_left
        ·
         go_simp
         rfl
        refine hK.out _ _ ⟨((cell_far (p := ⟨gb185, _, none⟩) (by first | exact Nat.ne_of_lt (Nat.lt_of_lt_of_le (by have := World.block_lt_of_cell? _ _ hw182_0; first | rwa [add_block] at this | exact this) GW185.out) | (rw [add_block]; exact Nat.ne_of_lt (Nat.lt_of_lt_of_le (by have := World.block_lt_of_cell? _ _ hw182_0; first | rwa [add_block] at this | exact this) GW185.out)) | (show (Addr.add _ _).block ≠ _; rw [add_block]; exact Nat.ne_of_lt (Nat.lt_of_lt_of_le (by have := World.block_lt_of_cell? _ _ hw182_0; first | rwa [add_block] at this | exact this) GW185.out)) | (dsimp only; exact Nat.ne_of_lt (Nat.lt_of_lt_of_le (by have := World.block_lt_of_cell? _ _ hw182_0; first | rwa [add_block] at this | exact this) GW185.out))) _).trans (((cell_far (p := ⟨gb185, _, none⟩) (by first | exact Nat.ne_of_lt (Nat.lt_of_lt_of_le (by have := World.block_lt_of_cell? _ _ hw182_0; first | rwa [add_block] at this | exact this) GW185.out) | (rw [add_block]; exact Nat.ne_of_lt (Nat.lt_of_lt_of_le (by have := World.block_lt_of_cell? _ _ hw182_0; first | rwa [add_block] at this | exact this) GW185.out)) | (show (Addr.add _ _).block ≠ _; rw [add_block]; exact Nat.ne_of_lt (Nat.lt_of_lt_of_le (by have := World.block_lt_of_cell? _ _ hw182_0; first | rwa [add_block] at this | exact this) GW185.out)) | (dsimp only; exact Nat.ne_of_lt (Nat.lt_of_lt_of_le (by have := World.block_lt_of_cell? _ _ hw182_0; first | rwa [add_block] at this | exact this) GW185.out))) _).trans (((cell_far (p := ⟨gb185, _, none⟩) (by first | exact Nat.ne_of_lt (Nat.lt_of_lt_of_le (by have := World.block_lt_of_cell? _ _ hw182_0; first | rwa [add_block] at this | exact this) GW185.out) | (rw [add_block]; exact Nat.ne_of_lt (Nat.lt_of_lt_of_le (by have := World.block_lt_of_cell? _ _ hw182_0; first | rwa [add_block] at this | exact this) GW185.out)) | (show (Addr.add _ _).block ≠ _; rw [add_block]; exact Nat.ne_of_lt (Nat.lt_of_lt_of_le (by have := World.block_lt_of_cell? _ _ hw182_0; first | rwa [add_block] at this | exact this) GW185.out)) | (dsimp only; exact Nat.ne_of_lt (Nat.lt_of_lt_of_le (by have := World.block_lt_of_cell? _ _ hw182_0; first | rwa [add_block] at this | exact this) GW185.out))) _).trans (((cell_far (p := ⟨gb185, _, none⟩) (by first | exact Nat.ne_of_lt (Nat.lt_of_lt_of_le (by have := World.block_lt_of_cell? _ _ hw182_0; first | rwa [add_block] at this | exact this) GW185.out) | (rw [add_block]; exact Nat.ne_of_lt (Nat.lt_of_lt_of_le (by have := World.block_lt_of_cell? _ _ hw182_0; first | rwa [add_block] at this | exact this) GW185.out)) | (show (Addr.add _ _).block ≠ _; rw [add_block]; exact Nat.ne_of_lt (Nat.lt_of_lt_of_le (by have := World.block_lt_of_cell? _ _ hw182_0; first | rwa [add_block] at this | exact this) GW185.out)) | (dsimp only; exact Nat.ne_of_lt (Nat.lt_of_lt_of_le (by have := World.block_lt_of_cell? _ _ hw182_0; first | rwa [add_block] at this | exact this) GW185.out))) _).trans (((cell_far (p := ⟨gb185, _, none⟩) (by first | exact Nat.ne_of_lt (Nat.lt_of_lt_of_le (by have := World.block_lt_of_cell? _ _ hw182_0; first | rwa [add_block] at this | exact this) GW185.out) | (rw [add_block]; exact Nat.ne_of_lt (Nat.lt_of_lt_of_le (by have := World.block_lt_of_cell? _ _ hw182_0; first | rwa [add_block] at this | exact this) GW185.out)) | (show (Addr.add _ _).block ≠ _; rw [add_block]; exact Nat.ne_of_lt (Nat.lt_of_lt_of_le (by have := World.block_lt_of_cell? _ _ hw182_0; first | rwa [add_block] at this | exact this) GW185.out)) | (dsimp only; exact Nat.ne_of_lt (Nat.lt_of_lt_of_le (by have := World.block_lt_of_cell? _ _ hw182_0; first | rwa [add_block] at this | exact this) GW185.out))) _).trans (((cell_far (p := ⟨gb185, _, none⟩) (by first | exact Nat.ne_of_lt (Nat.lt_of_lt_of_le (by have := World.block_lt_of_cell? _ _ hw182_0; first | rwa [add_block] at this | exact this) GW185.out) | (rw [add_block]; exact Nat.ne_of_lt (Nat.lt_of_lt_of_le (by have := World.block_lt_of_cell? _ _ hw182_0; first | rwa [add_block] at this | exact this) GW185.out)) | (show (Addr.add _ _).block ≠ _; rw [add_block]; exact Nat.ne_of_lt (Nat.lt_of_lt_of_le (by have := World.block_lt_of_cell? _ _ hw182_0; first | rwa [add_block] at this | exact this) GW185.out)) | (dsimp only; exact Nat.ne_of_lt (Nat.lt_of_lt_of_le (by have := World.block_lt_of_cell? _ _ hw182_0; first | rwa [add_block] at this | exact this) GW185.out))) _).trans (hHeld.1)))))))))))), ((cell_far (p := ⟨gb185, _, none⟩) (by first | exact Nat.ne_of_lt (Nat.lt_of_lt_of_le (by have := World.block_lt_of_cell? _ _ hw182_1; first | rwa [add_block] at this | exact this) GW185.out) | (rw [add_block]; exact Nat.ne_of_lt (Nat.lt_of_lt_of_le (by have := World.block_lt_of_cell? _ _ hw182_1; first | rwa [add_block] at this | exact this) GW185.out)) | (show (Addr.add _ _).block ≠ _; rw [add_block]; exact Nat.ne_of_lt (Nat.lt_of_lt_of_le (by have := World.block_lt_of_cell? _ _ hw182_1; first | rwa [add_block] at this | exact this) GW185.out)) | (dsimp only; exact Nat.ne_of_lt (Nat.lt_of_lt_of_le (by have := World.block_lt_of_cell? _ _ hw182_1; first | rwa [add_block] at this | exact this) GW185.out))) _).trans (((cell_far (p := ⟨gb185, _, none⟩) (by first | exact Nat.ne_of_lt (Nat.lt_of_lt_of_le (by have := World.block_lt_of_cell? _ _ hw182_1; first | rwa [add_block] at this | exact this) GW185.out) | (rw [add_block]; exact Nat.ne_of_lt (Nat.lt_of_lt_of_le (by have := World.block_lt_of_cell? _ _ hw182_1; first | rwa [add_block] at this | exact this) GW185.out)) | (show (Addr.add _ _).block ≠ _; rw [add_block]; exact Nat.ne_of_lt (Nat.lt_of_lt_of_le (by have := World.block_lt_of_cell? _ _ hw182_1; first | rwa [add_block] at this | exact this) GW185.out)) | (dsimp only; exact Nat.ne_of_lt (Nat.lt_of_lt_of_le (by have := World.block_lt_of_cell? _ _ hw182_1; first | rwa [add_block] at this | exact this) GW185.out))) _).trans (((cell_far (p := ⟨gb185, _, none⟩) (by first | exact Nat.ne_of_lt (Nat.lt_of_lt_of_le (by have := World.block_lt_of_cell? _ _ hw182_1; first | rwa [add_block] at this | exact this) GW185.out) | (rw [add_block]; exact Nat.ne_of_lt (Nat.lt_of_lt_of_le (by have := World.block_lt_of_cell? _ _ hw182_1; first | rwa [add_block] at this | exact this) GW185.out)) | (show (Addr.add _ _).block ≠ _; rw [add_block]; exact Nat.ne_of_lt (Nat.lt_of_lt_of_le (by have := World.block_lt_of_cell? _ _ hw182_1; first | rwa [add_block] at this | exact this) GW185.out)) | (dsimp only; exact Nat.ne_of_lt (Nat.lt_of_lt_of_le (by have := World.block_lt_of_cell? _ _ hw182_1; first | rwa [add_block] at this | exact this) GW185.out))) _).trans (((cell_far (p := ⟨gb185, _, none⟩) (by first | exact Nat.ne_of_lt (Nat.lt_of_lt_of_le (by have := World.block_lt_of_cell? _ _ hw182_1; first | rwa [add_block] at this | exact this) GW185.out) | (rw [add_block]; exact Nat.ne_of_lt (Nat.lt_of_lt_of_le (by have := World.block_lt_of_cell? _ _ hw182_1; first | rwa [add_block] at this | exact this) GW185.out)) | (show (Addr.add _ _).block ≠ _; rw [add_block]; exact Nat.ne_of_lt (Nat.lt_of_lt_of_le (by have := World.block_lt_of_cell? _ _ hw182_1; first | rwa [add_block] at this | exact this) GW185.out)) | (dsimp only; exact Nat.ne_of_lt (Nat.lt_of_lt_of_le (by have := World.block_lt_of_cell? _ _ hw182_1; first | rwa [add_block] at this | exact this) GW185.out))) _).trans (((cell_far (p := ⟨gb185, _, none⟩) (by first | exact Nat.ne_of_lt (Nat.lt_of_lt_of_le (by have := World.block_lt_of_cell? _ _ hw182_1; first | rwa [add_block] at this | exact this) GW185.out) | (rw [add_block]; exact Nat.ne_of_lt (Nat.lt_of_lt_of_le (by have := World.block_lt_of_cell? _ _ hw182_1; first | rwa [add_block] at this | exact this) GW185.out)) | (show (Addr.add _ _).block ≠ _; rw [add_block]; exact Nat.ne_of_lt (Nat.lt_of_lt_of_le (by have := World.block_lt_of_cell? _ _ hw182_1; first | rwa [add_block] at this | exact this) GW185.out)) | (dsimp only; exact Nat.ne_of_lt (Nat.lt_of_lt_of_le (by have := World.block_lt_of_cell? _ _ hw182_1; first | rwa [add_block] at this | exact this) GW185.out))) _).trans (((cell_far (p := ⟨gb185, _, none⟩) (by first | exact Nat.ne_of_lt (Nat.lt_of_lt_of_le (by have := World.block_lt_of_cell? _ _ hw182_1; first | rwa [add_block] at this | exact this) GW185.out) | (rw [add_block]; exact Nat.ne_of_lt (Nat.lt_of_lt_of_le (by have := World.block_lt_of_cell? _ _ hw182_1; first | rwa [add_block] at this | exact this) GW185.out)) | (show (Addr.add _ _).block ≠ _; rw [add_block]; exact Nat.ne_of_lt (Nat.lt_of_lt_of_le (by have := World.block_lt_of_cell? _ _ hw182_1; first | rwa [add_block] at this | exact this) GW185.out)) | (dsimp only; exact Nat.ne_of_lt (Nat.lt_of_lt_of_le (by have := World.block_lt_of_cell? _ _ hw182_1; first | rwa [add_block] at this | exact this) GW185.out))) _).trans (hHeld.2.1)))))))))))), ((cell_far (p := ⟨gb185, _, none⟩) (by first | exact Nat.ne_of_lt (Nat.lt_of_lt_of_le (by have := World.block_lt_of_cell? _ _ hw182_2; first | rwa [add_block] at this | exact this) GW185.out) | (rw [add_block]; exact Nat.ne_of_lt (Nat.lt_of_lt_of_le (by have := World.block_lt_of_cell? _ _ hw182_2; first | rwa [add_block] at this | exact this) GW185.out)) | (show (Addr.add _ _).block ≠ _; rw [add_block]; exact Nat.ne_of_lt (Nat.lt_of_lt_of_le (by have := World.block_lt_of_cell? _ _ hw182_2; first | rwa [add_block] at this | exact this) GW185.out)) | (dsimp only; exact Nat.ne_of_lt (Nat.lt_of_lt_of_le (by have := World.block_lt_of_cell? _ _ hw182_2; first | rwa [add_block] at this | exact this) GW185.out))) _).trans (((cell_far (p := ⟨gb185, _, none⟩) (by first | exact Nat.ne_of_lt (Nat.lt_of_lt_of_le (by have := World.block_lt_of_cell? _ _ hw182_2; first | rwa [add_block] at this | exact this) GW185.out) | (rw [add_block]; exact Nat.ne_of_lt (Nat.lt_of_lt_of_le (by have := World.block_lt_of_cell? _ _ hw182_2; first | rwa [add_block] at this | exact this) GW185.out)) | (show (Addr.add _ _).block ≠ _; rw [add_block]; exact Nat.ne_of_lt (Nat.lt_of_lt_of_le (by have := World.block_lt_of_cell? _ _ hw182_2; first | rwa [add_block] at this | exact this) GW185.out)) | (dsimp only; exact Nat.ne_of_lt (Nat.lt_of_lt_of_le (by have := World.block_lt_of_cell? _ _ hw182_2; first | rwa [add_block] at this | exact this) GW185.out))) _).trans (((cell_far (p := ⟨gb185, _, none⟩) (by first | exact Nat.ne_of_lt (Nat.lt_of_lt_of_le (by have := World.block_lt_of_cell? _ _ hw182_2; first | rwa [add_block] at this | exact this) GW185.out) | (rw [add_block]; exact Nat.ne_of_lt (Nat.lt_of_lt_of_le (by have := World.block_lt_of_cell? _ _ hw182_2; first | rwa [add_block] at this | exact this) GW185.out)) | (show (Addr.add _ _).block ≠ _; rw [add_block]; exact Nat.ne_of_lt (Nat.lt_of_lt_of_le (by have := World.block_lt_of_cell? _ _ hw182_2; first | rwa [add_block] at this | exact this) GW185.out)) | (dsimp only; exact Nat.ne_of_lt (Nat.lt_of_lt_of_le (by have := World.block_lt_of_cell? _ _ hw182_2; first | rwa [add_block] at this | exact this) GW185.out))) _).trans (((cell_far (p := ⟨gb185, _, none⟩) (by first | exact Nat.ne_of_lt (Nat.lt_of_lt_of_le (by have := World.block_lt_of_cell? _ _ hw182_2; first | rwa [add_block] at this | exact this) GW185.out) | (rw [add_block]; exact Nat.ne_of_lt (Nat.lt_of_lt_of_le (by have := World.block_lt_of_cell? _ _ hw182_2; first | rwa [add_block] at this | exact this) GW185.out)) | (show (Addr.add _ _).block ≠ _; rw [add_block]; exact Nat.ne_of_lt (Nat.lt_of_lt_of_le (by have := World.block_lt_of_cell? _ _ hw182_2; first | rwa [add_block] at this | exact this) GW185.out)) | (dsimp only; exact Nat.ne_of_lt (Nat.lt_of_lt_of_le (by have := World.block_lt_of_cell? _ _ hw182_2; first | rwa [add_block] at this | exact this) GW185.out))) _).trans (((cell_far (p := ⟨gb185, _, none⟩) (by first | exact Nat.ne_of_lt (Nat.lt_of_lt_of_le (by have := World.block_lt_of_cell? _ _ hw182_2; first | rwa [add_block] at this | exact this) GW185.out) | (rw [add_block]; exact Nat.ne_of_lt (Nat.lt_of_lt_of_le (by have := World.block_lt_of_cell? _ _ hw182_2; first | rwa [add_block] at this | exact this) GW185.out)) | (show (Addr.add _ _).block ≠ _; rw [add_block]; exact Nat.ne_of_lt (Nat.lt_of_lt_of_le (by have := World.block_lt_of_cell? _ _ hw182_2; first | rwa [add_block] at this | exact this) GW185.out)) | (dsimp only; exact Nat.ne_of_lt (Nat.lt_of_lt_of_le (by have := World.block_lt_of_cell? _ _ hw182_2; first | rwa [add_block] at this | exact this) GW185.out))) _).trans (((cell_far (p := ⟨gb185, _, none⟩) (by first | exact Nat.ne_of_lt (Nat.lt_of_lt_of_le (by have := World.block_lt_of_cell? _ _ hw182_2; first | rwa [add_block] at this | exact this) GW185.out) | (rw [add_block]; exact Nat.ne_of_lt (Nat.lt_of_lt_of_le (by have := World.block_lt_of_cell? _ _ hw182_2; first | rwa [add_block] at this | exact this) GW185.out)) | (show (Addr.add _ _).block ≠ _; rw [add_block]; exact Nat.ne_of_lt (Nat.lt_of_lt_of_le (by have := World.block_lt_of_cell? _ _ hw182_2; first | rwa [add_block] at this | exact this) GW185.out)) | (dsimp only; exact Nat.ne_of_lt (Nat.lt_of_lt_of_le (by have := World.block_lt_of_cell? _ _ hw182_2; first | rwa [add_block] at this | exact this) GW185.out))) _).trans (hHeld.2.2.1)))))))))))), ((cell_far (p := ⟨gb185, _, none⟩) (by first | exact Nat.ne_of_lt (Nat.lt_of_lt_of_le (by have := World.block_lt_of_cell? _ _ hw182_3; first | rwa [add_block] at this | exact this) GW185.out) | (rw [add_block]; exact Nat.ne_of_lt (Nat.lt_of_lt_of_le (by have := World.block_lt_of_cell? _ _ hw182_3; first | rwa [add_block] at this | exact this) GW185.out)) | (show (Addr.add _ _).block ≠ _; rw [add_block]; exact Nat.ne_of_lt (Nat.lt_of_lt_of_le (by have := World.block_lt_of_cell? _ _ hw182_3; first | rwa [add_block] at this | exact this) GW185.out)) | (dsimp only; exact Nat.ne_of_lt (Nat.lt_of_lt_of_le (by have := World.block_lt_of_cell? _ _ hw182_3; first | rwa [add_block] at this | exact this) GW185.out))) _).trans (((cell_far (p := ⟨gb185, _, none⟩) (by first | exact Nat.ne_of_lt (Nat.lt_of_lt_of_le (by have := World.block_lt_of_cell? _ _ hw182_3; first | rwa [add_block] at this | exact this) GW185.out) | (rw [add_block]; exact Nat.ne_of_lt (Nat.lt_of_lt_of_le (by have := World.block_lt_of_cell? _ _ hw182_3; first | rwa [add_block] at this | exact this) GW185.out)) | (show (Addr.add _ _).block ≠ _; rw [add_block]; exact Nat.ne_of_lt (Nat.lt_of_lt_of_le (by have := World.block_lt_of_cell? _ _ hw182_3; first | rwa [add_block] at this | exact this) GW185.out)) | (dsimp only; exact Nat.ne_of_lt (Nat.lt_of_lt_of_le (by have := World.block_lt_of_cell? _ _ hw182_3; first | rwa [add_block] at this | exact this) GW185.out))) _).trans (((cell_far (p := ⟨gb185, _, none⟩) (by first | exact Nat.ne_of_lt (Nat.lt_of_lt_of_le (by have := World.block_lt_of_cell? _ _ hw182_3; first | rwa [add_block] at this | exact this) GW185.out) | (rw [add_block]; exact Nat.ne_of_lt (Nat.lt_of_lt_of_le (by have := World.block_lt_of_cell? _ _ hw182_3; first | rwa [add_block] at this | exact this) GW185.out)) | (show (Addr.add _ _).block ≠ _; rw [add_block]; exact Nat.ne_of_lt (Nat.lt_of_lt_of_le (by have := World.block_lt_of_cell? _ _ hw182_3; first | rwa [add_block] at this | exact this) GW185.out)) | (dsimp only; exact Nat.ne_of_lt (Nat.lt_of_lt_of_le (by have := World.block_lt_of_cell? _ _ hw182_3; first | rwa [add_block] at this | exact this) GW185.out))) _).trans (((cell_far (p := ⟨gb185, _, none⟩) (by first | exact Nat.ne_of_lt (Nat.lt_of_lt_of_le (by have := World.block_lt_of_cell? _ _ hw182_3; first | rwa [add_block] at this | exact this) GW185.out) | (rw [add_block]; exact Nat.ne_of_lt (Nat.lt_of_lt_of_le (by have := World.block_lt_of_cell? _ _ hw182_3; first | rwa [add_block] at this | exact this) GW185.out)) | (show (Addr.add _ _).block ≠ _; rw [add_block]; exact Nat.ne_of_lt (Nat.lt_of_lt_of_le (by have := World.block_lt_of_cell? _ _ hw182_3; first | rwa [add_block] at this | exact this) GW185.out)) | (dsimp only; exact Nat.ne_of_lt (Nat.lt_of_lt_of_le (by have := World.block_lt_of_cell? _ _ hw182_3; first | rwa [add_block] at this | exact this) GW185.out))) _).trans (((cell_far (p := ⟨gb185, _, none⟩) (by first | exact Nat.ne_of_lt (Nat.lt_of_lt_of_le (by have := World.block_lt_of_cell? _ _ hw182_3; first | rwa [add_block] at this | exact this) GW185.out) | (rw [add_block]; exact Nat.ne_of_lt (Nat.lt_of_lt_of_le (by have := World.block_lt_of_cell? _ _ hw182_3; first | rwa [add_block] at this | exact this) GW185.out)) | (show (Addr.add _ _).block ≠ _; rw [add_block]; exact Nat.ne_of_lt (Nat.lt_of_lt_of_le (by have := World.block_lt_of_cell? _ _ hw182_3; first | rwa [add_block] at this | exact this) GW185.out)) | (dsimp only; exact Nat.ne_of_lt (Nat.lt_of_lt_of_le (by have := World.block_lt_of_cell? _ _ hw182_3; first | rwa [add_block] at this | exact this) GW185.out))) _).trans (((cell_far (p := ⟨gb185, _, none⟩) (by first | exact Nat.ne_of_lt (Nat.lt_of_lt_of_le (by have := World.block_lt_of_cell? _ _ hw182_3; first | rwa [add_block] at this | exact this) GW185.out) | (rw [add_block]; exact Nat.ne_of_lt (Nat.lt_of_lt_of_le (by have := World.block_lt_of_cell? _ _ hw182_3; first | rwa [add_block] at this | exact this) GW185.out)) | (show (Addr.add _ _).block ≠ _; rw [add_block]; exact Nat.ne_of_lt (Nat.lt_of_lt_of_le (by have := World.block_lt_of_cell? _ _ hw182_3; first | rwa [add_block] at this | exact this) GW185.out)) | (dsimp only; exact Nat.ne_of_lt (Nat.lt_of_lt_of_le (by have := World.block_lt_of_cell? _ _ hw182_3; first | rwa [add_block] at this | exact this) GW185.out))) _).trans (hHeld.2.2.2.1)))))))))))), ((cell_far (p := ⟨gb185, _, none⟩) (by first | exact Nat.ne_of_lt (Nat.lt_of_lt_of_le (by have := World.block_lt_of_cell? _ _ hw182_4; first | rwa [add_block] at this | exact this) GW185.out) | (rw [add_block]; exact Nat.ne_of_lt (Nat.lt_of_lt_of_le (by have := World.block_lt_of_cell? _ _ hw182_4; first | rwa [add_block] at this | exact this) GW185.out)) | (show (Addr.add _ _).block ≠ _; rw [add_block]; exact Nat.ne_of_lt (Nat.lt_of_lt_of_le (by have := World.block_lt_of_cell? _ _ hw182_4; first | rwa [add_block] at this | exact this) GW185.out)) | (dsimp only; exact Nat.ne_of_lt (Nat.lt_of_lt_of_le (by have := World.block_lt_of_cell? _ _ hw182_4; first | rwa [add_block] at this | exact this) GW185.out))) _).trans (((cell_far (p := ⟨gb185, _, none⟩) (by first | exact Nat.ne_of_lt (Nat.lt_of_lt_of_le (by have := World.block_lt_of_cell? _ _ hw182_4; first | rwa [add_block] at this | exact this) GW185.out) | (rw [add_block]; exact Nat.ne_of_lt (Nat.lt_of_lt_of_le (by have := World.block_lt_of_cell? _ _ hw182_4; first | rwa [add_block] at this | exact this) GW185.out)) | (show (Addr.add _ _).block ≠ _; rw [add_block]; exact Nat.ne_of_lt (Nat.lt_of_lt_of_le (by have := World.block_lt_of_cell? _ _ hw182_4; first | rwa [add_block] at this | exact this) GW185.out)) | (dsimp only; exact Nat.ne_of_lt (Nat.lt_of_lt_of_le (by have := World.block_lt_of_cell? _ _ hw182_4; first | rwa [add_block] at this | exact this) GW185.out))) _).trans (((cell_far (p := ⟨gb185, _, none⟩) (by first | exact Nat.ne_of_lt (Nat.lt_of_lt_of_le (by have := World.block_lt_of_cell? _ _ hw182_4; first | rwa [add_block] at this | exact this) GW185.out) | (rw [add_block]; exact Nat.ne_of_lt (Nat.lt_of_lt_of_le (by have := World.block_lt_of_cell? _ _ hw182_4; first | rwa [add_block] at this | exact this) GW185.out)) | (show (Addr.add _ _).block ≠ _; rw [add_block]; exact Nat.ne_of_lt (Nat.lt_of_lt_of_le (by have := World.block_lt_of_cell? _ _ hw182_4; first | rwa [add_block] at this | exact this) GW185.out)) | (dsimp only; exact Nat.ne_of_lt (Nat.lt_of_lt_of_le (by have := World.block_lt_of_cell? _ _ hw182_4; first | rwa [add_block] at this | exact this) GW185.out))) _).trans (((cell_far (p := ⟨gb185, _, none⟩) (by first | exact Nat.ne_of_lt (Nat.lt_of_lt_of_le (by have := World.block_lt_of_cell? _ _ hw182_4; first | rwa [add_block] at this | exact this) GW185.out) | (rw [add_block]; exact Nat.ne_of_lt (Nat.lt_of_lt_of_le (by have := World.block_lt_of_cell? _ _ hw182_4; first | rwa [add_block] at this | exact this) GW185.out)) | (show (Addr.add _ _).block ≠ _; rw [add_block]; exact Nat.ne_of_lt (Nat.lt_of_lt_of_le (by have := World.block_lt_of_cell? _ _ hw182_4; first | rwa [add_block] at this | exact this) GW185.out)) | (dsimp only; exact Nat.ne_of_lt (Nat.lt_of_lt_of_le (by have := World.block_lt_of_cell? _ _ hw182_4; first | rwa [add_block] at this | exact this) GW185.out))) _).trans (((cell_far (p := ⟨gb185, _, none⟩) (by first | exact Nat.ne_of_lt (Nat.lt_of_lt_of_le (by have := World.block_lt_of_cell? _ _ hw182_4; first | rwa [add_block] at this | exact this) GW185.out) | (rw [add_block]; exact Nat.ne_of_lt (Nat.lt_of_lt_of_le (by have := World.block_lt_of_cell? _ _ hw182_4; first | rwa [add_block] at this | exact this) GW185.out)) | (show (Addr.add _ _).block ≠ _; rw [add_block]; exact Nat.ne_of_lt (Nat.lt_of_lt_of_le (by have := World.block_lt_of_cell? _ _ hw182_4; first | rwa [add_block] at this | exact this) GW185.out)) | (dsimp only; exact Nat.ne_of_lt (Nat.lt_of_lt_of_le (by have := World.block_lt_of_cell? _ _ hw182_4; first | rwa [add_block] at this | exact this) GW185.out))) _).trans (((cell_far (p := ⟨gb185, _, none⟩) (by first | exact Nat.ne_of_lt (Nat.lt_of_lt_of_le (by have := World.block_lt_of_cell? _ _ hw182_4; first | rwa [add_block] at this | exact this) GW185.out) | (rw [add_block]; exact Nat.ne_of_lt (Nat.lt_of_lt_of_le (by have := World.block_lt_of_cell? _ _ hw182_4; first | rwa [add_block] at this | exact this) GW185.out)) | (show (Addr.add _ _).block ≠ _; rw [add_block]; exact Nat.ne_of_lt (Nat.lt_of_lt_of_le (by have := World.block_lt_of_cell? _ _ hw182_4; first | rwa [add_block] at this | exact this) GW185.out)) | (dsimp only; exact Nat.ne_of_lt (Nat.lt_of_lt_of_le (by have := World.block_lt_of_cell? _ _ hw182_4; first | rwa [add_block] at this | exact this) GW185.out))) _).trans (hHeld.2.2.2.2.1)))))))))))), ((cell_far (p := ⟨gb185, _, none⟩) (by first | exact Nat.ne_of_lt (Nat.lt_of_lt_of_le (by have := World.block_lt_of_cell? _ _ hw182_5; first | rwa [add_block] at this | exact this) GW185.out) | (rw [add_block]; exact Nat.ne_of_lt (Nat.lt_of_lt_of_le (by have := World.block_lt_of_cell? _ _ hw182_5; first | rwa [add_block] at this | exact this) GW185.out)) | (show (Addr.add _ _).block ≠ _; rw [add_block]; exact Nat.ne_of_lt (Nat.lt_of_lt_of_le (by have := World.block_lt_of_cell? _ _ hw182_5; first | rwa [add_block] at this | exact this) GW185.out)) | (dsimp only; exact Nat.ne_of_lt (Nat.lt_of_lt_of_le (by have := World.block_lt_of_cell? _ _ hw182_5; first | rwa [add_block] at this | exact this) GW185.out))) _).trans (((cell_far (p := ⟨gb185, _, none⟩) (by first | exact Nat.ne_of_lt (Nat.lt_of_lt_of_le (by have := World.block_lt_of_cell? _ _ hw182_5; first | rwa [add_block] at this | exact this) GW185.out) | (rw [add_block]; exact Nat.ne_of_lt (Nat.lt_of_lt_of_le (by have := World.block_lt_of_cell? _ _ hw182_5; first | rwa [add_block] at this | exact this) GW185.out)) | (show (Addr.add _ _).block ≠ _; rw [add_block]; exact Nat.ne_of_lt (Nat.lt_of_lt_of_le (by have := World.block_lt_of_cell? _ _ hw182_5; first | rwa [add_block] at this | exact this) GW185.out)) | (dsimp only; exact Nat.ne_of_lt (Nat.lt_of_lt_of_le (by have := World.block_lt_of_cell? _ _ hw182_5; first | rwa [add_block] at this | exact this) GW185.out))) _).trans (((cell_far (p := ⟨gb185, _, none⟩) (by first | exact Nat.ne_of_lt (Nat.lt_of_lt_of_le (by have := World.block_lt_of_cell? _ _ hw182_5; first | rwa [add_block] at this | exact this) GW185.out) | (rw [add_block]; exact Nat.ne_of_lt (Nat.lt_of_lt_of_le (by have := World.block_lt_of_cell? _ _ hw182_5; first | rwa [add_block] at this | exact this) GW185.out)) | (show (Addr.add _ _).block ≠ _; rw [add_block]; exact Nat.ne_of_lt (Nat.lt_of_lt_of_le (by have := World.block_lt_of_cell? _ _ hw182_5; first | rwa [add_block] at this | exact this) GW185.out)) | (dsimp only; exact Nat.ne_of_lt (Nat.lt_of_lt_of_le (by have := World.block_lt_of_cell? _ _ hw182_5; first | rwa [add_block] at this | exact this) GW185.out))) _).trans (((cell_far (p := ⟨gb185, _, none⟩) (by first | exact Nat.ne_of_lt (Nat.lt_of_lt_of_le (by have := World.block_lt_of_cell? _ _ hw182_5; first | rwa [add_block] at this | exact this) GW185.out) | (rw [add_block]; exact Nat.ne_of_lt (Nat.lt_of_lt_of_le (by have := World.block_lt_of_cell? _ _ hw182_5; first | rwa [add_block] at this | exact this) GW185.out)) | (show (Addr.add _ _).block ≠ _; rw [add_block]; exact Nat.ne_of_lt (Nat.lt_of_lt_of_le (by have := World.block_lt_of_cell? _ _ hw182_5; first | rwa [add_block] at this | exact this) GW185.out)) | (dsimp only; exact Nat.ne_of_lt (Nat.lt_of_lt_of_le (by have := World.block_lt_of_cell? _ _ hw182_5; first | rwa [add_block] at this | exact this) GW185.out))) _).trans (((cell_far (p := ⟨gb185, _, none⟩) (by first | exact Nat.ne_of_lt (Nat.lt_of_lt_of_le (by have := World.block_lt_of_cell? _ _ hw182_5; first | rwa [add_block] at this | exact this) GW185.out) | (rw [add_block]; exact Nat.ne_of_lt (Nat.lt_of_lt_of_le (by have := World.block_lt_of_cell? _ _ hw182_5; first | rwa [add_block] at this | exact this) GW185.out)) | (show (Addr.add _ _).block ≠ _; rw [add_block]; exact Nat.ne_of_lt (Nat.lt_of_lt_of_le (by have := World.block_lt_of_cell? _ _ hw182_5; first | rwa [add_block] at this | exact this) GW185.out)) | (dsimp only; exact Nat.ne_of_lt (Nat.lt_of_lt_of_le (by have := World.block_lt_of_cell? _ _ hw182_5; first | rwa [add_block] at this | exact this) GW185.out))) _).trans (((cell_far (p := ⟨gb185, _, none⟩) (by first | exact Nat.ne_of_lt (Nat.lt_of_lt_of_le (by have := World.block_lt_of_cell? _ _ hw182_5; first | rwa [add_block] at this | exact this) GW185.out) | (rw [add_block]; exact Nat.ne_of_lt (Nat.lt_of_lt_of_le (by have := World.block_lt_of_cell? _ _ hw182_5; first | rwa [add_block] at this | exact this) GW185.out)) | (show (Addr.add _ _).block ≠ _; rw [add_block]; exact Nat.ne_of_lt (Nat.lt_of_lt_of_le (by have := World.block_lt_of_cell? _ _ hw182_5; first | rwa [add_block] at this | exact this) GW185.out)) | (dsimp only; exact Nat.ne_of_lt (Nat.lt_of_lt_of_le (by have := World.block_lt_of_cell? _ _ hw182_5; first | rwa [add_block] at this | exact this) GW185.out))) _).trans (hHeld.2.2.2.2.2.1)))))))))))), ((cell_far (p := ⟨gb185, _, none⟩) (by first | exact Nat.ne_of_lt (Nat.lt_of_lt_of_le (by have := World.block_lt_of_cell? _ _ hw183_0; first | rwa [add_block] at this | exact this) GW185.out) | (rw [add_block]; exact Nat.ne_of_lt (Nat.lt_of_lt_of_le (by have := World.block_lt_of_cell? _ _ hw183_0; first | rwa [add_block] at this | exact this) GW185.out)) | (show (Addr.add _ _).block ≠ _; rw [add_block]; exact Nat.ne_of_lt (Nat.lt_of_lt_of_le (by have := World.block_lt_of_cell? _ _ hw183_0; first | rwa [add_block] at this | exact this) GW185.out)) | (dsimp only; exact Nat.ne_of_lt (Nat.lt_of_lt_of_le (by have := World.block_lt_of_cell? _ _ hw183_0; first | rwa [add_block] at this | exact this) GW185.out))) _).trans (((cell_far (p := ⟨gb185, _, none⟩) (by first | exact Nat.ne_of_lt (Nat.lt_of_lt_of_le (by have := World.block_lt_of_cell? _ _ hw183_0; first | rwa [add_block] at this | exact this) GW185.out) | (rw [add_block]; exact Nat.ne_of_lt (Nat.lt_of_lt_of_le (by have := World.block_lt_of_cell? _ _ hw183_0; first | rwa [add_block] at this | exact this) GW185.out)) | (show (Addr.add _ _).block ≠ _; rw [add_block]; exact Nat.ne_of_lt (Nat.lt_of_lt_of_le (by have := World.block_lt_of_cell? _ _ hw183_0; first | rwa [add_block] at this | exact this) GW185.out)) | (dsimp only; exact Nat.ne_of_lt (Nat.lt_of_lt_of_le (by have := World.block_lt_of_cell? _ _ hw183_0; first | rwa [add_block] at this | exact this) GW185.out))) _).trans (((cell_far (p := ⟨gb185, _, none⟩) (by first | exact Nat.ne_of_lt (Nat.lt_of_lt_of_le (by have := World.block_lt_of_cell? _ _ hw183_0; first | rwa [add_block] at this | exact this) GW185.out) | (rw [add_block]; exact Nat.ne_of_lt (Nat.lt_of_lt_of_le (by have := World.block_lt_of_cell? _ _ hw183_0; first | rwa [add_block] at this | exact this) GW185.out)) | (show (Addr.add _ _).block ≠ _; rw [add_block]; exact Nat.ne_of_lt (Nat.lt_of_lt_of_le (by have := World.block_lt_of_cell? _ _ hw183_0; first | rwa [add_block] at this | exact this) GW185.out)) | (dsimp only; exact Nat.ne_of_lt (Nat.lt_of_lt_of_le (by have := World.block_lt_of_cell? _ _ hw183_0; first | rwa [add_block] at this | exact this) GW185.out))) _).trans (((cell_far (p := ⟨gb185, _, none⟩) (by first | exact Nat.ne_of_lt (Nat.lt_of_lt_of_le (by have := World.block_lt_of_cell? _ _ hw183_0; first | rwa [add_block] at this | exact this) GW185.out) | (rw [add_block]; exact Nat.ne_of_lt (Nat.lt_of_lt_of_le (by have := World.block_lt_of_cell? _ _ hw183_0; first | rwa [add_block] at this | exact this) GW185.out)) | (show (Addr.add _ _).block ≠ _; rw [add_block]; exact Nat.ne_of_lt (Nat.lt_of_lt_of_le (by have := World.block_lt_of_cell? _ _ hw183_0; first | rwa [add_block] at this | exact this) GW185.out)) | (dsimp only; exact Nat.ne_of_lt (Nat.lt_of_lt_of_le (by have := World.block_lt_of_cell? _ _ hw183_0; first | rwa [add_block] at this | exact this) GW185.out))) _).trans (((cell_far (p := ⟨gb185, _, none⟩) (by first | exact Nat.ne_of_lt (Nat.lt_of_lt_of_le (by have := World.block_lt_of_cell? _ _ hw183_0; first | rwa [add_block] at this | exact this) GW185.out) | (rw [add_block]; exact Nat.ne_of_lt (Nat.lt_of_lt_of_le (by have := World.block_lt_of_cell? _ _ hw183_0; first | rwa [add_block] at this | exact this) GW185.out)) | (show (Addr.add _ _).block ≠ _; rw [add_block]; exact Nat.ne_of_lt (Nat.lt_of_lt_of_le (by have := World.block_lt_of_cell? _ _ hw183_0; first | rwa [add_block] at this | exact this) GW185.out)) | (dsimp only; exact Nat.ne_of_lt (Nat.lt_of_lt_of_le (by have := World.block_lt_of_cell? _ _ hw183_0; first | rwa [add_block] at this | exact this) GW185.out))) _).trans (((cell_far (p := ⟨gb185, _, none⟩) (by first | exact Nat.ne_of_lt (Nat.lt_of_lt_of_le (by have := World.block_lt_of_cell? _ _ hw183_0; first | rwa [add_block] at this | exact this) GW185.out) | (rw [add_block]; exact Nat.ne_of_lt (Nat.lt_of_lt_of_le (by have := World.block_lt_of_cell? _ _ hw183_0; first | rwa [add_block] at this | exact this) GW185.out)) | (show (Addr.add _ _).block ≠ _; rw [add_block]; exact Nat.ne_of_lt (Nat.lt_of_lt_of_le (by have := World.block_lt_of_cell? _ _ hw183_0; first | rwa [add_block] at this | exact this) GW185.out)) | (dsimp only; exact Nat.ne_of_lt (Nat.lt_of_lt_of_le (by have := World.block_lt_of_cell? _ _ hw183_0; first | rwa [add_block] at this | exact this) GW185.out))) _).trans (hHeld.2.2.2.2.2.2.1)))))))))))), ((cell_far (p := ⟨gb185, _, none⟩) (by first | exact Nat.ne_of_lt (Nat.lt_of_lt_of_le (by have := World.block_lt_of_cell? _ _ hw183_1; first | rwa [add_block] at this | exact this) GW185.out) | (rw [add_block]; exact Nat.ne_of_lt (Nat.lt_of_lt_of_le (by have := World.block_lt_of_cell? _ _ hw183_1; first | rwa [add_block] at this | exact this) GW185.out)) | (show (Addr.add _ _).block ≠ _; rw [add_block]; exact Nat.ne_of_lt (Nat.lt_of_lt_of_le (by have := World.block_lt_of_cell? _ _ hw183_1; first | rwa [add_block] at this | exact this) GW185.out)) | (dsimp only; exact Nat.ne_of_lt (Nat.lt_of_lt_of_le (by have := World.block_lt_of_cell? _ _ hw183_1; first | rwa [add_block] at this | exact this) GW185.out))) _).trans (((cell_far (p := ⟨gb185, _, none⟩) (by first | exact Nat.ne_of_lt (Nat.lt_of_lt_of_le (by have := World.block_lt_of_cell? _ _ hw183_1; first | rwa [add_block] at this | exact this) GW185.out) | (rw [add_block]; exact Nat.ne_of_lt (Nat.lt_of_lt_of_le (by have := World.block_lt_of_cell? _ _ hw183_1; first | rwa [add_block] at this | exact this) GW185.out)) | (show (Addr.add _ _).block ≠ _; rw [add_block]; exact Nat.ne_of_lt (Nat.lt_of_lt_of_le (by have := World.block_lt_of_cell? _ _ hw183_1; first | rwa [add_block] at this | exact this) GW185.out)) | (dsimp only; exact Nat.ne_of_lt (Nat.lt_of_lt_of_le (by have := World.block_lt_of_cell? _ _ hw183_1; first | rwa [add_block] at this | exact this) GW185.out))) _).trans (((cell_far (p := ⟨gb185, _, none⟩) (by first | exact Nat.ne_of_lt (Nat.lt_of_lt_of_le (by have := World.block_lt_of_cell? _ _ hw183_1; first | rwa [add_block] at this | exact this) GW185.out) | (rw [add_block]; exact Nat.ne_of_lt (Nat.lt_of_lt_of_le (by have := World.block_lt_of_cell? _ _ hw183_1; first | rwa [add_block] at this | exact this) GW185.out)) | (show (Addr.add _ _).block ≠ _; rw [add_block]; exact Nat.ne_of_lt (Nat.lt_of_lt_of_le (by have := World.block_lt_of_cell? _ _ hw183_1; first | rwa [add_block] at this | exact this) GW185.out)) | (dsimp only; exact Nat.ne_of_lt (Nat.lt_of_lt_of_le (by have := World.block_lt_of_cell? _ _ hw183_1; first | rwa [add_block] at this | exact this) GW185.out))) _).trans (((cell_far (p := ⟨gb185, _, none⟩) (by first | exact Nat.ne_of_lt (Nat.lt_of_lt_of_le (by have := World.block_lt_of_cell? _ _ hw183_1; first | rwa [add_block] at this | exact this) GW185.out) | (rw [add_block]; exact Nat.ne_of_lt (Nat.lt_of_lt_of_le (by have := World.block_lt_of_cell? _ _ hw183_1; first | rwa [add_block] at this | exact this) GW185.out)) | (show (Addr.add _ _).block ≠ _; rw [add_block]; exact Nat.ne_of_lt (Nat.lt_of_lt_of_le (by have := World.block_lt_of_cell? _ _ hw183_1; first | rwa [add_block] at this | exact this) GW185.out)) | (dsimp only; exact Nat.ne_of_lt (Nat.lt_of_lt_of_le (by have := World.block_lt_of_cell? _ _ hw183_1; first | rwa [add_block] at this | exact this) GW185.out))) _).trans (((cell_far (p := ⟨gb185, _, none⟩) (by first | exact Nat.ne_of_lt (Nat.lt_of_lt_of_le (by have := World.block_lt_of_cell? _ _ hw183_1; first | rwa [add_block] at this | exact this) GW185.out) | (rw [add_block]; exact Nat.ne_of_lt (Nat.lt_of_lt_of_le (by have := World.block_lt_of_cell? _ _ hw183_1; first | rwa [add_block] at this | exact this) GW185.out)) | (show (Addr.add _ _).block ≠ _; rw [add_block]; exact Nat.ne_of_lt (Nat.lt_of_lt_of_le (by have := World.block_lt_of_cell? _ _ hw183_1; first | rwa [add_block] at this | exact this) GW185.out)) | (dsimp only; exact Nat.ne_of_lt (Nat.lt_of_lt_of_le (by have := World.block_lt_of_cell? _ _ hw183_1; first | rwa [add_block] at this | exact this) GW185.out))) _).trans (((cell_far (p := ⟨gb185, _, none⟩) (by first | exact Nat.ne_of_lt (Nat.lt_of_lt_of_le (by have := World.block_lt_of_cell? _ _ hw183_1; first | rwa [add_block] at this | exact this) GW185.out) | (rw [add_block]; exact Nat.ne_of_lt (Nat.lt_of_lt_of_le (by have := World.block_lt_of_cell? _ _ hw183_1; first | rwa [add_block] at this | exact this) GW185.out)) | (show (Addr.add _ _).block ≠ _; rw [add_block]; exact Nat.ne_of_lt (Nat.lt_of_lt_of_le (by have := World.block_lt_of_cell? _ _ hw183_1; first | rwa [add_block] at this | exact this) GW185.out)) | (dsimp only; exact Nat.ne_of_lt (Nat.lt_of_lt_of_le (by have := World.block_lt_of_cell? _ _ hw183_1; first | rwa [add_block] at this | exact this) GW185.out))) _).trans (hHeld.2.2.2.2.2.2.2.1)))))))))))), ((cell_far (p := ⟨gb185, _, none⟩) (by first | exact Nat.ne_of_lt (Nat.lt_of_lt_of_le (by have := World.block_lt_of_cell? _ _ hw183_2; first | rwa [add_block] at this | exact this) GW185.out) | (rw [add_block]; exact Nat.ne_of_lt (Nat.lt_of_lt_of_le (by have := World.block_lt_of_cell? _ _ hw183_2; first | rwa [add_block] at this | exact this) GW185.out)) | (show (Addr.add _ _).block ≠ _; rw [add_block]; exact Nat.ne_of_lt (Nat.lt_of_lt_of_le (by have := World.block_lt_of_cell? _ _ hw183_2; first | rwa [add_block] at this | exact this) GW185.out)) | (dsimp only; exact Nat.ne_of_lt (Nat.lt_of_lt_of_le (by have := World.block_lt_of_cell? _ _ hw183_2; first | rwa [add_block] at this | exact this) GW185.out))) _).trans (((cell_far (p := ⟨gb185, _, none⟩) (by first | exact Nat.ne_of_lt (Nat.lt_of_lt_of_le (by have := World.block_lt_of_cell? _ _ hw183_2; first | rwa [add_block] at this | exact this) GW185.out) | (rw [add_block]; exact Nat.ne_of_lt (Nat.lt_of_lt_of_le (by have := World.block_lt_of_cell? _ _ hw183_2; first | rwa [add_block] at this | exact this) GW185.out)) | (show (Addr.add _ _).block ≠ _; rw [add_block]; exact Nat.ne_of_lt (Nat.lt_of_lt_of_le (by have := World.block_lt_of_cell? _ _ hw183_2; first | rwa [add_block] at this | exact this) GW185.out)) | (dsimp only; exact Nat.ne_of_lt (Nat.lt_of_lt_of_le (by have := World.block_lt_of_cell? _ _ hw183_2; first | rwa [add_block] at this | exact this) GW185.out))) _).trans (((cell_far (p := ⟨gb185, _, none⟩) (by first | exact Nat.ne_of_lt (Nat.lt_of_lt_of_le (by have := World.block_lt_of_cell? _ _ hw183_2; first | rwa [add_block] at this | exact this) GW185.out) | (rw [add_block]; exact Nat.ne_of_lt (Nat.lt_of_lt_of_le (by have := World.block_lt_of_cell? _ _ hw183_2; first | rwa [add_block] at this | exact this) GW185.out)) | (show (Addr.add _ _).block ≠ _; rw [add_block]; exact Nat.ne_of_lt (Nat.lt_of_lt_of_le (by have := World.block_lt_of_cell? _ _ hw183_2; first | rwa [add_block] at this | exact this) GW185.out)) | (dsimp only; exact Nat.ne_of_lt (Nat.lt_of_lt_of_le (by have := World.block_lt_of_cell? _ _ hw183_2; first | rwa [add_block] at this | exact this) GW185.out))) _).trans (((cell_far (p := ⟨gb185, _, none⟩) (by first | exact Nat.ne_of_lt (Nat.lt_of_lt_of_le (by have := World.block_lt_of_cell? _ _ hw183_2; first | rwa [add_block] at this | exact this) GW185.out) | (rw [add_block]; exact Nat.ne_of_lt (Nat.lt_of_lt_of_le (by have := World.block_lt_of_cell? _ _ hw183_2; first | rwa [add_block] at this | exact this) GW185.out)) | (show (Addr.add _ _).block ≠ _; rw [add_block]; exact Nat.ne_of_lt (Nat.lt_of_lt_of_le (by have := World.block_lt_of_cell? _ _ hw183_2; first | rwa [add_block] at this | exact this) GW185.out)) | (dsimp only; exact Nat.ne_of_lt (Nat.lt_of_lt_of_le (by have := World.block_lt_of_cell? _ _ hw183_2; first | rwa [add_block] at this | exact this) GW185.out))) _).trans (((cell_far (p := ⟨gb185, _, none⟩) (by first | exact Nat.ne_of_lt (Nat.lt_of_lt_of_le (by have := World.block_lt_of_cell? _ _ hw183_2; first | rwa [add_block] at this | exact this) GW185.out) | (rw [add_block]; exact Nat.ne_of_lt (Nat.lt_of_lt_of_le (by have := World.block_lt_of_cell? _ _ hw183_2; first | rwa [add_block] at this | exact this) GW185.out)) | (show (Addr.add _ _).block ≠ _; rw [add_block]; exact Nat.ne_of_lt (Nat.lt_of_lt_of_le (by have := World.block_lt_of_cell? _ _ hw183_2; first | rwa [add_block] at this | exact this) GW185.out)) | (dsimp only; exact Nat.ne_of_lt (Nat.lt_of_lt_of_le (by have := World.block_lt_of_cell? _ _ hw183_2; first | rwa [add_block] at this | exact this) GW185.out))) _).trans (((cell_far (p := ⟨gb185, _, none⟩) (by first | exact Nat.ne_of_lt (Nat.lt_of_lt_of_le (by have := World.block_lt_of_cell? _ _ hw183_2; first | rwa [add_block] at this | exact this) GW185.out) | (rw [add_block]; exact Nat.ne_of_lt (Nat.lt_of_lt_of_le (by have := World.block_lt_of_cell? _ _ hw183_2; first | rwa [add_block] at this | exact this) GW185.out)) | (show (Addr.add _ _).block ≠ _; rw [add_block]; exact Nat.ne_of_lt (Nat.lt_of_lt_of_le (by have := World.block_lt_of_cell? _ _ hw183_2; first | rwa [add_block] at this | exact this) GW185.out)) | (dsimp only; exact Nat.ne_of_lt (Nat.lt_of_lt_of_le (by have := World.block_lt_of_cell? _ _ hw183_2; first | rwa [add_block] at this | exact this) GW185.out))) _).trans (hHeld.2.2.2.2.2.2.2.2.1)))))))))))), ((cell_far (p := ⟨gb185, _, none⟩) (by first | exact Nat.ne_of_lt (Nat.lt_of_lt_of_le (by have := World.block_lt_of_cell? _ _ hw183_3; first | rwa [add_block] at this | exact this) GW185.out) | (rw [add_block]; exact Nat.ne_of_lt (Nat.lt_of_lt_of_le (by have := World.block_lt_of_cell? _ _ hw183_3; first | rwa [add_block] at this | exact this) GW185.out)) | (show (Addr.add _ _).block ≠ _; rw [add_block]; exact Nat.ne_of_lt (Nat.lt_of_lt_of_le (by have := World.block_lt_of_cell? _ _ hw183_3; first | rwa [add_block] at this | exact this) GW185.out)) | (dsimp only; exact Nat.ne_of_lt (Nat.lt_of_lt_of_le (by have := World.block_lt_of_cell? _ _ hw183_3; first | rwa [add_block] at this | exact this) GW185.out))) _).trans (((cell_far (p := ⟨gb185, _, none⟩) (by first | exact Nat.ne_of_lt (Nat.lt_of_lt_of_le (by have := World.block_lt_of_cell? _ _ hw183_3; first | rwa [add_block] at this | exact this) GW185.out) | (rw [add_block]; exact Nat.ne_of_lt (Nat.lt_of_lt_of_le (by have := World.block_lt_of_cell? _ _ hw183_3; first | rwa [add_block] at this | exact this) GW185.out)) | (show (Addr.add _ _).block ≠ _; rw [add_block]; exact Nat.ne_of_lt (Nat.lt_of_lt_of_le (by have := World.block_lt_of_cell? _ _ hw183_3; first | rwa [add_block] at this | exact this) GW185.out)) | (dsimp only; exact Nat.ne_of_lt (Nat.lt_of_lt_of_le (by have := World.block_lt_of_cell? _ _ hw183_3; first | rwa [add_block] at this | exact this) GW185.out))) _).trans (((cell_far (p := ⟨gb185, _, none⟩) (by first | exact Nat.ne_of_lt (Nat.lt_of_lt_of_le (by have := World.block_lt_of_cell? _ _ hw183_3; first | rwa [add_block] at this | exact this) GW185.out) | (rw [add_block]; exact Nat.ne_of_lt (Nat.lt_of_lt_of_le (by have := World.block_lt_of_cell? _ _ hw183_3; first | rwa [add_block] at this | exact this) GW185.out)) | (show (Addr.add _ _).block ≠ _; rw [add_block]; exact Nat.ne_of_lt (Nat.lt_of_lt_of_le (by have := World.block_lt_of_cell? _ _ hw183_3; first | rwa [add_block] at this | exact this) GW185.out)) | (dsimp only; exact Nat.ne_of_lt (Nat.lt_of_lt_of_le (by have := World.block_lt_of_cell? _ _ hw183_3; first | rwa [add_block] at this | exact this) GW185.out))) _).trans (((cell_far (p := ⟨gb185, _, none⟩) (by first | exact Nat.ne_of_lt (Nat.lt_of_lt_of_le (by have := World.block_lt_of_cell? _ _ hw183_3; first | rwa [add_block] at this | exact this) GW185.out) | (rw [add_block]; exact Nat.ne_of_lt (Nat.lt_of_lt_of_le (by have := World.block_lt_of_cell? _ _ hw183_3; first | rwa [add_block] at this | exact this) GW185.out)) | (show (Addr.add _ _).block ≠ _; rw [add_block]; exact Nat.ne_of_lt (Nat.lt_of_lt_of_le (by have := World.block_lt_of_cell? _ _ hw183_3; first | rwa [add_block] at this | exact this) GW185.out)) | (dsimp only; exact Nat.ne_of_lt (Nat.lt_of_lt_of_le (by have := World.block_lt_of_cell? _ _ hw183_3; first | rwa [add_block] at this | exact this) GW185.out))) _).trans (((cell_far (p := ⟨gb185, _, none⟩) (by first | exact Nat.ne_of_lt (Nat.lt_of_lt_of_le (by have := World.block_lt_of_cell? _ _ hw183_3; first | rwa [add_block] at this | exact this) GW185.out) | (rw [add_block]; exact Nat.ne_of_lt (Nat.lt_of_lt_of_le (by have := World.block_lt_of_cell? _ _ hw183_3; first | rwa [add_block] at this | exact this) GW185.out)) | (show (Addr.add _ _).block ≠ _; rw [add_block]; exact Nat.ne_of_lt (Nat.lt_of_lt_of_le (by have := World.block_lt_of_cell? _ _ hw183_3; first | rwa [add_block] at this | exact this) GW185.out)) | (dsimp only; exact Nat.ne_of_lt (Nat.lt_of_lt_of_le (by have := World.block_lt_of_cell? _ _ hw183_3; first | rwa [add_block] at this | exact this) GW185.out))) _).trans (((cell_far (p := ⟨gb185, _, none⟩) (by first | exact Nat.ne_of_lt (Nat.lt_of_lt_of_le (by have := World.block_lt_of_cell? _ _ hw183_3; first | rwa [add_block] at this | exact this) GW185.out) | (rw [add_block]; exact Nat.ne_of_lt (Nat.lt_of_lt_of_le (by have := World.block_lt_of_cell? _ _ hw183_3; first | rwa [add_block] at this | exact this) GW185.out)) | (show (Addr.add _ _).block ≠ _; rw [add_block]; exact Nat.ne_of_lt (Nat.lt_of_lt_of_le (by have := World.block_lt_of_cell? _ _ hw183_3; first | rwa [add_block] at this | exact this) GW185.out)) | (dsimp only; exact Nat.ne_of_lt (Nat.lt_of_lt_of_le (by have := World.block_lt_of_cell? _ _ hw183_3; first | rwa [add_block] at this | exact this) GW185.out))) _).trans (hHeld.2.2.2.2.2.2.2.2.2.1)))))))))))), ((cell_far (p := ⟨gb185, _, none⟩) (by first | exact Nat.ne_of_lt (Nat.lt_of_lt_of_le (by have := World.block_lt_of_cell? _ _ hw183_4; first | rwa [add_block] at this | exact this) GW185.out) | (rw [add_block]; exact Nat.ne_of_lt (Nat.lt_of_lt_of_le (by have := World.block_lt_of_cell? _ _ hw183_4; first | rwa [add_block] at this | exact this) GW185.out)) | (show (Addr.add _ _).block ≠ _; rw [add_block]; exact Nat.ne_of_lt (Nat.lt_of_lt_of_le (by have := World.block_lt_of_cell? _ _ hw183_4; first | rwa [add_block] at this | exact this) GW185.out)) | (dsimp only; exact Nat.ne_of_lt (Nat.lt_of_lt_of_le (by have := World.block_lt_of_cell? _ _ hw183_4; first | rwa [add_block] at this | exact this) GW185.out))) _).trans (((cell_far (p := ⟨gb185, _, none⟩) (by first | exact Nat.ne_of_lt (Nat.lt_of_lt_of_le (by have := World.block_lt_of_cell? _ _ hw183_4; first | rwa [add_block] at this | exact this) GW185.out) | (rw [add_block]; exact Nat.ne_of_lt (Nat.lt_of_lt_of_le (by have := World.block_lt_of_cell? _ _ hw183_4; first | rwa [add_block] at this | exact this) GW185.out)) | (show (Addr.add _ _).block ≠ _; rw [add_block]; exact Nat.ne_of_lt (Nat.lt_of_lt_of_le (by have := World.block_lt_of_cell? _ _ hw183_4; first | rwa [add_block] at this | exact this) GW185.out)) | (dsimp only; exact Nat.ne_of_lt (Nat.lt_of_lt_of_le (by have := World.block_lt_of_cell? _ _ hw183_4; first | rwa [add_block] at this | exact this) GW185.out))) _).trans (((cell_far (p := ⟨gb185, _, none⟩) (by first | exact Nat.ne_of_lt (Nat.lt_of_lt_of_le (by have := World.block_lt_of_cell? _ _ hw183_4; first | rwa [add_block] at this | exact this) GW185.out) | (rw [add_block]; exact Nat.ne_of_lt (Nat.lt_of_lt_of_le (by have := World.block_lt_of_cell? _ _ hw183_4; first | rwa [add_block] at this | exact this) GW185.out)) | (show (Addr.add _ _).block ≠ _; rw [add_block]; exact Nat.ne_of_lt (Nat.lt_of_lt_of_le (by have := World.block_lt_of_cell? _ _ hw183_4; first | rwa [add_block] at this | exact this) GW185.out)) | (dsimp only; exact Nat.ne_of_lt (Nat.lt_of_lt_of_le (by have := World.block_lt_of_cell? _ _ hw183_4; first | rwa [add_block] at this | exact this) GW185.out))) _).trans (((cell_far (p := ⟨gb185, _, none⟩) (by first | exact Nat.ne_of_lt (Nat.lt_of_lt_of_le (by have := World.block_lt_of_cell? _ _ hw183_4; first | rwa [add_block] at this | exact this) GW185.out) | (rw [add_block]; exact Nat.ne_of_lt (Nat.lt_of_lt_of_le (by have := World.block_lt_of_cell? _ _ hw183_4; first | rwa [add_block] at this | exact this) GW185.out)) | (show (Addr.add _ _).block ≠ _; rw [add_block]; exact Nat.ne_of_lt (Nat.lt_of_lt_of_le (by have := World.block_lt_of_cell? _ _ hw183_4; first | rwa [add_block] at this | exact this) GW185.out)) | (dsimp only; exact Nat.ne_of_lt (Nat.lt_of_lt_of_le (by have := World.block_lt_of_cell? _ _ hw183_4; first | rwa [add_block] at this | exact this) GW185.out))) _).trans (((cell_far (p := ⟨gb185, _, none⟩) (by first | exact Nat.ne_of_lt (Nat.lt_of_lt_of_le (by have := World.block_lt_of_cell? _ _ hw183_4; first | rwa [add_block] at this | exact this) GW185.out) | (rw [add_block]; exact Nat.ne_of_lt (Nat.lt_of_lt_of_le (by have := World.block_lt_of_cell? _ _ hw183_4; first | rwa [add_block] at this | exact this) GW185.out)) | (show (Addr.add _ _).block ≠ _; rw [add_block]; exact Nat.ne_of_lt (Nat.lt_of_lt_of_le (by have := World.block_lt_of_cell? _ _ hw183_4; first | rwa [add_block] at this | exact this) GW185.out)) | (dsimp only; exact Nat.ne_of_lt (Nat.lt_of_lt_of_le (by have := World.block_lt_of_cell? _ _ hw183_4; first | rwa [add_block] at this | exact this) GW185.out))) _).trans (((cell_far (p := ⟨gb185, _, none⟩) (by first | exact Nat.ne_of_lt (Nat.lt_of_lt_of_le (by have := World.block_lt_of_cell? _ _ hw183_4; first | rwa [add_block] at this | exact this) GW185.out) | (rw [add_block]; exact Nat.ne_of_lt (Nat.lt_of_lt_of_le (by have := World.block_lt_of_cell? _ _ hw183_4; first | rwa [add_block] at this | exact this) GW185.out)) | (show (Addr.add _ _).block ≠ _; rw [add_block]; exact Nat.ne_of_lt (Nat.lt_of_lt_of_le (by have := World.block_lt_of_cell? _ _ hw183_4; first | rwa [add_block] at this | exact this) GW185.out)) | (dsimp only; exact Nat.ne_of_lt (Nat.lt_of_lt_of_le (by have := World.block_lt_of_cell? _ _ hw183_4; first | rwa [add_block] at this | exact this) GW185.out))) _).trans (hHeld.2.2.2.2.2.2.2.2.2.2.1)))))))))))), ((cell_far (p := ⟨gb185, _, none⟩) (by first | exact Nat.ne_of_lt (Nat.lt_of_lt_of_le (by have := World.block_lt_of_cell? _ _ hw183_5; first | rwa [add_block] at this | exact this) GW185.out) | (rw [add_block]; exact Nat.ne_of_lt (Nat.lt_of_lt_of_le (by have := World.block_lt_of_cell? _ _ hw183_5; first | rwa [add_block] at this | exact this) GW185.out)) | (show (Addr.add _ _).block ≠ _; rw [add_block]; exact Nat.ne_of_lt (Nat.lt_of_lt_of_le (by have := World.block_lt_of_cell? _ _ hw183_5; first | rwa [add_block] at this | exact this) GW185.out)) | (dsimp only; exact Nat.ne_of_lt (Nat.lt_of_lt_of_le (by have := World.block_lt_of_cell? _ _ hw183_5; first | rwa [add_block] at this | exact this) GW185.out))) _).trans (((cell_far (p := ⟨gb185, _, none⟩) (by first | exact Nat.ne_of_lt (Nat.lt_of_lt_of_le (by have := World.block_lt_of_cell? _ _ hw183_5; first | rwa [add_block] at this | exact this) GW185.out) | (rw [add_block]; exact Nat.ne_of_lt (Nat.lt_of_lt_of_le (by have := World.block_lt_of_cell? _ _ hw183_5; first | rwa [add_block] at this | exact this) GW185.out)) | (show (Addr.add _ _).block ≠ _; rw [add_block]; exact Nat.ne_of_lt (Nat.lt_of_lt_of_le (by have := World.block_lt_of_cell? _ _ hw183_5; first | rwa [add_block] at this | exact this) GW185.out)) | (dsimp only; exact Nat.ne_of_lt (Nat.lt_of_lt_of_le (by have := World.block_lt_of_cell? _ _ hw183_5; first | rwa [add_block] at this | exact this) GW185.out))) _).trans (((cell_far (p := ⟨gb185, _, none⟩) (by first | exact Nat.ne_of_lt (Nat.lt_of_lt_of_le (by have := World.block_lt_of_cell? _ _ hw183_5; first | rwa [add_block] at this | exact this) GW185.out) | (rw [add_block]; exact Nat.ne_of_lt (Nat.lt_of_lt_of_le (by have := World.block_lt_of_cell? _ _ hw183_5; first | rwa [add_block] at this | exact this) GW185.out)) | (show (Addr.add _ _).block ≠ _; rw [add_block]; exact Nat.ne_of_lt (Nat.lt_of_lt_of_le (by have := World.block_lt_of_cell? _ _ hw183_5; first | rwa [add_block] at this | exact this) GW185.out)) | (dsimp only; exact Nat.ne_of_lt (Nat.lt_of_lt_of_le (by have := World.block_lt_of_cell? _ _ hw183_5; first | rwa [add_block] at this | exact this) GW185.out))) _).trans (((cell_far (p := ⟨gb185, _, none⟩) (by first | exact Nat.ne_of_lt (Nat.lt_of_lt_of_le (by have := World.block_lt_of_cell? _ _ hw183_5; first | rwa [add_block] at this | exact this) GW185.out) | (rw [add_block]; exact Nat.ne_of_lt (Nat.lt_of_lt_of_le (by have := World.block_lt_of_cell? _ _ hw183_5; first | rwa [add_block] at this | exact this) GW185.out)) | (show (Addr.add _ _).block ≠ _; rw [add_block]; exact Nat.ne_of_lt (Nat.lt_of_lt_of_le (by have := World.block_lt_of_cell? _ _ hw183_5; first | rwa [add_block] at this | exact this) GW185.out)) | (dsimp only; exact Nat.ne_of_lt (Nat.lt_of_lt_of_le (by have := World.block_lt_of_cell? _ _ hw183_5; first | rwa [add_block] at this | exact this) GW185.out))) _).trans (((cell_far (p := ⟨gb185, _, none⟩) (by first | exact Nat.ne_of_lt (Nat.lt_of_lt_of_le (by have := World.block_lt_of_cell? _ _ hw183_5; first | rwa [add_block] at this | exact this) GW185.out) | (rw [add_block]; exact Nat.ne_of_lt (Nat.lt_of_lt_of_le (by have := World.block_lt_of_cell? _ _ hw183_5; first | rwa [add_block] at this | exact this) GW185.out)) | (show (Addr.add _ _).block ≠ _; rw [add_block]; exact Nat.ne_of_lt (Nat.lt_of_lt_of_le (by have := World.block_lt_of_cell? _ _ hw183_5; first | rwa [add_block] at this | exact this) GW185.out)) | (dsimp only; exact Nat.ne_of_lt (Nat.lt_of_lt_of_le (by have := World.block_lt_of_cell? _ _ hw183_5; first | rwa [add_block] at this | exact this) GW185.out))) _).trans (((cell_far (p := ⟨gb185, _, none⟩) (by first | exact Nat.ne_of_lt (Nat.lt_of_lt_of_le (by have := World.block_lt_of_cell? _ _ hw183_5; first | rwa [add_block] at this | exact this) GW185.out) | (rw [add_block]; exact Nat.ne_of_lt (Nat.lt_of_lt_of_le (by have := World.block_lt_of_cell? _ _ hw183_5; first | rwa [add_block] at this | exact this) GW185.out)) | (show (Addr.add _ _).block ≠ _; rw [add_block]; exact Nat.ne_of_lt (Nat.lt_of_lt_of_le (by have := World.block_lt_of_cell? _ _ hw183_5; first | rwa [add_block] at this | exact this) GW185.out)) | (dsimp only; exact Nat.ne_of_lt (Nat.lt_of_lt_of_le (by have := World.block_lt_of_cell? _ _ hw183_5; first | rwa [add_block] at this | exact this) GW185.out))) _).trans (hHeld.2.2.2.2.2.2.2.2.2.2.2))))))))))))⟩ (fun hHeld => ?_)
        clear hK K
        refine done_ (done_of HT_.out (by kernel_rfl)) ?_
        go_upto_region 5 with (fail)
        go_cut [37] (fun v37 wc => ∃ (kq : Nat) (x37_9 : Bool), v37 = .bool x37_9 ∧ Aside0 (skywayref1_Node.j1 kq l0 a1 x5_1 x37_9 ((rd_T91 l0 (ji5)).f0.f0) ((rd_T91 l0 (ji5)).f0.f1.f0) ((rd_T91 l0 (ji5)).f0.f1.f1) ((rd_T91 l0 (ji5)).f0.f2) ((rd_T91 l0 (ji5)).f1) ((rd_T91 l0 (ji5)).f2) ((rd_T91 l0 x5_1).f0.f0) ((rd_T91 l0 x5_1).f0.f1.f0) ((rd_T91 l0 x5_1).f0.f1.f1) ((rd_T91 l0 x5_1).f0.f2) ((rd_T91 l0 x5_1).f1) ((rd_T91 l0 x5_1).f2) = some (r1, r2, r3, r4, r5, r6)) ∧ Aside0 (kq ≤ k1) ∧ Aside0 (wc.heap[gb180]? = some (.cells #[.int .i64 x181000_1, .int .i64 x181001_1, .int .i64 x181002_1, .int .i64 x181003_1, .int .i64 x181004_1, .int .i64 x181005_1] 91 (0, 0))) ∧ Aside0 (wc.heap[gb184]? = some (.cells #[.int .i64 ((rd_T91 l0 (ji5)).f0.f0), .int .i64 ((rd_T91 l0 (ji5)).f0.f1.f0), .int .i64 ((rd_T91 l0 (ji5)).f0.f1.f1), .int .i64 ((rd_T91 l0 (ji5)).f0.f2), .int .i64 ((rd_T91 l0 (ji5)).f1), .int .i64 ((rd_T91 l0 (ji5)).f2)] 91 (0, 0))) ∧ Aside0 (wc.heap[gb185]? = some (.cells #[.int .i64 ((rd_T91 l0 x5_1).f0.f0), .int .i64 ((rd_T91 l0 x5_1).f0.f1.f0), .int .i64 ((rd_T91 l0 x5_1).f0.f1.f1), .int .i64 ((rd_T91 l0 x5_1).f0.f2), .int .i64 ((rd_T91 l0 x5_1).f1), .int .i64 ((rd_T91 l0 x5_1).f2)] 91 (0, 0))) ∧ Aside0 (Below w.heap.size w wc))
        case first =>
         have H := HC10.out
         clear HC10
         by_cases c27 : a1 > ((rd_T91 l0 x5_1).f0.f0)
         ·
          rw [if_pos c27] at H
          have c27b0 : decide (((rd_T91 l0 x5_1).f0.f0) < a1) = true := decide_eq_true c27
          clear c27
          (first | rw [c27b0] | (simp only [i64_w, i32_w]; rw [c27b0]) | skip)
          have H' := Aside0.mk H
          clear H
          have hnb28 := NB185_180.out
          have hnc28 := NB180_185.out
          have hnb29 := NB185_184.out
          have hnc29 := NB184_185.out
          obtain ⟨hcz30_0, hfz30_0⟩ := blkc6 BK185.out
          go_wp2
          go_meet
          case rel => exact ⟨_, (true), (by first | rfl | (simp; done) | (simp [*]; done)), H', ⟨by have := HK1.out; first | omega | exact Nat.le_refl _⟩, ⟨by (with_reducible repeat (first | refine blk_drewN ?_ _ | refine blk_drew ?_ | refine blk_alloc ?_ _)); refine blk_far ?_ NB180_185.out _; (with_reducible repeat (first | refine blk_drewN ?_ _ | refine blk_drew ?_ | refine blk_alloc ?_ _)); refine blk_far ?_ NB180_185.out _; (with_reducible repeat (first | refine blk_drewN ?_ _ | refine blk_drew ?_ | refine blk_alloc ?_ _)); refine blk_far ?_ NB180_185.out _; (with_reducible repeat (first | refine blk_drewN ?_ _ | refine blk_drew ?_ | refine blk_alloc ?_ _)); refine blk_far ?_ NB180_185.out _; (with_reducible repeat (first | refine blk_drewN ?_ _ | refine blk_drew ?_ | refine blk_alloc ?_ _)); refine blk_far ?_ NB180_185.out _; (with_reducible repeat (first | refine blk_drewN ?_ _ | refine blk_drew ?_ | refine blk_alloc ?_ _)); refine blk_far ?_ NB180_185.out _; (with_reducible repeat (first | refine blk_drewN ?_ _ | refine blk_drew ?_ | refine blk_alloc ?_ _)); refine blk_far ?_ NB180_184.out _; (with_reducible repeat (first | refine blk_drewN ?_ _ | refine blk_drew ?_ | refine blk_alloc ?_ _)); refine blk_far ?_ NB180_184.out _; (with_reducible repeat (first | refine blk_drewN ?_ _ | refine blk_drew ?_ | refine blk_alloc ?_ _)); refine blk_far ?_ NB180_184.out _; (with_reducible repeat (first | refine blk_drewN ?_ _ | refine blk_drew ?_ | refine blk_alloc ?_ _)); refine blk_far ?_ NB180_184.out _; (with_reducible repeat (first | refine blk_drewN ?_ _ | refine blk_drew ?_ | refine blk_alloc ?_ _)); refine blk_far ?_ NB180_184.out _; (with_reducible repeat (first | refine blk_drewN ?_ _ | refine blk_drew ?_ | refine blk_alloc ?_ _)); refine blk_far ?_ NB180_184.out _; (with_reducible repeat (first | refine blk_drewN ?_ _ | refine blk_drew ?_ | refine blk_alloc ?_ _)); exact BK180.out⟩, ⟨by (with_reducible repeat (first | refine blk_drewN ?_ _ | refine blk_drew ?_ | refine blk_alloc ?_ _)); refine blk_far ?_ NB184_185.out _; (with_reducible repeat (first | refine blk_drewN ?_ _ | refine blk_drew ?_ | refine blk_alloc ?_ _)); refine blk_far ?_ NB184_185.out _; (with_reducible repeat (first | refine blk_drewN ?_ _ | refine blk_drew ?_ | refine blk_alloc ?_ _)); refine blk_far ?_ NB184_185.out _; (with_reducible repeat (first | refine blk_drewN ?_ _ | refine blk_drew ?_ | refine blk_alloc ?_ _)); refine blk_far ?_ NB184_185.out _; (with_reducible repeat (first | refine blk_drewN ?_ _ | refine blk_drew ?_ | refine blk_alloc ?_ _)); refine blk_far ?_ NB184_185.out _; (with_reducible repeat (first | refine blk_drewN ?_ _ | refine blk_drew ?_ | refine blk_alloc ?_ _)); refine blk_far ?_ NB184_185.out _; (with_reducible repeat (first | refine blk_drewN ?_ _ | refine blk_drew ?_ | refine blk_alloc ?_ _)); refine blk_put (cs := #[.int .i64 ((rd_T91 l0 (ji5)).f0.f0), .int .i64 ((rd_T91 l0 (ji5)).f0.f1.f0), .int .i64 ((rd_T91 l0 (ji5)).f0.f1.f1), .int .i64 ((rd_T91 l0 (ji5)).f0.f2), .int .i64 ((rd_T91 l0 (ji5)).f1), .int .i64 0]) ?_ 5 _ rfl; (with_reducible repeat (first | refine blk_drewN ?_ _ | refine blk_drew ?_ | refine blk_alloc ?_ _)); refine blk_put (cs := #[.int .i64 ((rd_T91 l0 (ji5)).f0.f0), .int .i64 ((rd_T91 l0 (ji5)).f0.f1.f0), .int .i64 ((rd_T91 l0 (ji5)).f0.f1.f1), .int .i64 ((rd_T91 l0 (ji5)).f0.f2), .int .i64 0, .int .i64 0]) ?_ 4 _ rfl; (with_reducible repeat (first | refine blk_drewN ?_ _ | refine blk_drew ?_ | refine blk_alloc ?_ _)); refine blk_put (cs := #[.int .i64 ((rd_T91 l0 (ji5)).f0.f0), .int .i64 ((rd_T91 l0 (ji5)).f0.f1.f0), .int .i64 ((rd_T91 l0 (ji5)).f0.f1.f1), .int .i64 0, .int .i64 0, .int .i64 0]) ?_ 3 _ rfl; (with_reducible repeat (first | refine blk_drewN ?_ _ | refine blk_drew ?_ | refine blk_alloc ?_ _)); refine blk_put (cs := #[.int .i64 ((rd_T91 l0 (ji5)).f0.f0), .int .i64 ((rd_T91 l0 (ji5)).f0.f1.f0), .int .i64 0, .int .i64 0, .int .i64 0, .int .i64 0]) ?_ 2 _ rfl; (with_reducible repeat (first | refine blk_drewN ?_ _ | refine blk_drew ?_ | refine blk_alloc ?_ _)); refine blk_put (cs := #[.int .i64 ((rd_T91 l0 (ji5)).f0.f0), .int .i64 0, .int .i64 0, .int .i64 0, .int .i64 0, .int .i64 0]) ?_ 1 _ rfl; (with_reducible repeat (first | refine blk_drewN ?_ _ | refine blk_drew ?_ | refine blk_alloc ?_ _)); refine blk_put (cs := #[.int .i64 0, .int .i64 0, .int .i64 0, .int .i64 0, .int .i64 0, .int .i64 0]) ?_ 0 _ rfl; (with_reducible repeat (first | refine blk_drewN ?_ _ | refine blk_drew ?_ | refine blk_alloc ?_ _)); exact BK184.out⟩, ⟨by (with_reducible repeat (first | refine blk_drewN ?_ _ | refine blk_drew ?_ | refine blk_alloc ?_ _)); refine blk_put (cs := #[.int .i64 ((rd_T91 l0 x5_1).f0.f0), .int .i64 ((rd_T91 l0 x5_1).f0.f1.f0), .int .i64 ((rd_T91 l0 x5_1).f0.f1.f1), .int .i64 ((rd_T91 l0 x5_1).f0.f2), .int .i64 ((rd_T91 l0 x5_1).f1), .int .i64 0]) ?_ 5 _ rfl; (with_reducible repeat (first | refine blk_drewN ?_ _ | refine blk_drew ?_ | refine blk_alloc ?_ _)); refine blk_put (cs := #[.int .i64 ((rd_T91 l0 x5_1).f0.f0), .int .i64 ((rd_T91 l0 x5_1).f0.f1.f0), .int .i64 ((rd_T91 l0 x5_1).f0.f1.f1), .int .i64 ((rd_T91 l0 x5_1).f0.f2), .int .i64 0, .int .i64 0]) ?_ 4 _ rfl; (with_reducible repeat (first | refine blk_drewN ?_ _ | refine blk_drew ?_ | refine blk_alloc ?_ _)); refine blk_put (cs := #[.int .i64 ((rd_T91 l0 x5_1).f0.f0), .int .i64 ((rd_T91 l0 x5_1).f0.f1.f0), .int .i64 ((rd_T91 l0 x5_1).f0.f1.f1), .int .i64 0, .int .i64 0, .int .i64 0]) ?_ 3 _ rfl; (with_reducible repeat (first | refine blk_drewN ?_ _ | refine blk_drew ?_ | refine blk_alloc ?_ _)); refine blk_put (cs := #[.int .i64 ((rd_T91 l0 x5_1).f0.f0), .int .i64 ((rd_T91 l0 x5_1).f0.f1.f0), .int .i64 0, .int .i64 0, .int .i64 0, .int .i64 0]) ?_ 2 _ rfl; (with_reducible repeat (first | refine blk_drewN ?_ _ | refine blk_drew ?_ | refine blk_alloc ?_ _)); refine blk_put (cs := #[.int .i64 ((rd_T91 l0 x5_1).f0.f0), .int .i64 0, .int .i64 0, .int .i64 0, .int .i64 0, .int .i64 0]) ?_ 1 _ rfl; (with_reducible repeat (first | refine blk_drewN ?_ _ | refine blk_drew ?_ | refine blk_alloc ?_ _)); refine blk_put (cs := #[.int .i64 0, .int .i64 0, .int .i64 0, .int .i64 0, .int .i64 0, .int .i64 0]) ?_ 0 _ rfl; (with_reducible repeat (first | refine blk_drewN ?_ _ | refine blk_drew ?_ | refine blk_alloc ?_ _)); refine blk_far ?_ NB185_184.out _; (with_reducible repeat (first | refine blk_drewN ?_ _ | refine blk_drew ?_ | refine blk_alloc ?_ _)); refine blk_far ?_ NB185_184.out _; (with_reducible repeat (first | refine blk_drewN ?_ _ | refine blk_drew ?_ | refine blk_alloc ?_ _)); refine blk_far ?_ NB185_184.out _; (with_reducible repeat (first | refine blk_drewN ?_ _ | refine blk_drew ?_ | refine blk_alloc ?_ _)); refine blk_far ?_ NB185_184.out _; (with_reducible repeat (first | refine blk_drewN ?_ _ | refine blk_drew ?_ | refine blk_alloc ?_ _)); refine blk_far ?_ NB185_184.out _; (with_reducible repeat (first | refine blk_drewN ?_ _ | refine blk_drew ?_ | refine blk_alloc ?_ _)); refine blk_far ?_ NB185_184.out _; (with_reducible repeat (first | refine blk_drewN ?_ _ | refine blk_drew ?_ | refine blk_alloc ?_ _)); exact BK185.out⟩, ⟨by repeat (first | (with_reducible first | exact HB.out | apply below_alloc | apply pw_below_drewN | apply below_drew1 | refine below_set ?_ GE180.out | refine below_set ?_ GE184.out | refine below_set ?_ GE185.out) | exact HB.out)⟩⟩
         ·
          rw [if_neg c27] at H
          have c27b0 : decide (((rd_T91 l0 x5_1).f0.f0) < a1) = false := decide_eq_false c27
          clear c27
          (first | rw [c27b0] | (simp only [i64_w, i32_w]; rw [c27b0]) | skip)
          have H' := Aside0.mk H
          clear H
          have hnb31 := NB185_180.out
          have hnc31 := NB180_185.out
          have hnb32 := NB185_184.out
          have hnc32 := NB184_185.out
          obtain ⟨hcz33_0, hfz33_0⟩ := blkc6 BK185.out
          have hnb34 := NB184_180.out
          have hnc34 := NB180_184.out
          obtain ⟨hcz35_0, hfz35_0⟩ := blkc6 BK184.out
          go_wp2
          go_meet
          case rel => exact ⟨_, (decide (a1 < ((rd_T91 l0 (ji5)).f0.f0))), (by first | rfl | (simp; done) | (simp only [← hji5] <;> (first | rfl | simp)) | (simp [*]; done)), H', ⟨by have := HK1.out; first | omega | exact Nat.le_refl _⟩, ⟨by (with_reducible repeat (first | refine blk_drewN ?_ _ | refine blk_drew ?_ | refine blk_alloc ?_ _)); refine blk_far ?_ NB180_185.out _; (with_reducible repeat (first | refine blk_drewN ?_ _ | refine blk_drew ?_ | refine blk_alloc ?_ _)); refine blk_far ?_ NB180_185.out _; (with_reducible repeat (first | refine blk_drewN ?_ _ | refine blk_drew ?_ | refine blk_alloc ?_ _)); refine blk_far ?_ NB180_185.out _; (with_reducible repeat (first | refine blk_drewN ?_ _ | refine blk_drew ?_ | refine blk_alloc ?_ _)); refine blk_far ?_ NB180_185.out _; (with_reducible repeat (first | refine blk_drewN ?_ _ | refine blk_drew ?_ | refine blk_alloc ?_ _)); refine blk_far ?_ NB180_185.out _; (with_reducible repeat (first | refine blk_drewN ?_ _ | refine blk_drew ?_ | refine blk_alloc ?_ _)); refine blk_far ?_ NB180_185.out _; (with_reducible repeat (first | refine blk_drewN ?_ _ | refine blk_drew ?_ | refine blk_alloc ?_ _)); refine blk_far ?_ NB180_184.out _; (with_reducible repeat (first | refine blk_drewN ?_ _ | refine blk_drew ?_ | refine blk_alloc ?_ _)); refine blk_far ?_ NB180_184.out _; (with_reducible repeat (first | refine blk_drewN ?_ _ | refine blk_drew ?_ | refine blk_alloc ?_ _)); refine blk_far ?_ NB180_184.out _; (with_reducible repeat (first | refine blk_drewN ?_ _ | refine blk_drew ?_ | refine blk_alloc ?_ _)); refine blk_far ?_ NB180_184.out _; (with_reducible repeat (first | refine blk_drewN ?_ _ | refine blk_drew ?_ | refine blk_alloc ?_ _)); refine blk_far ?_ NB180_184.out _; (with_reducible repeat (first | refine blk_drewN ?_ _ | refine blk_drew ?_ | refine blk_alloc ?_ _)); refine blk_far ?_ NB180_184.out _; (with_reducible repeat (first | refine blk_drewN ?_ _ | refine blk_drew ?_ | refine blk_alloc ?_ _)); exact BK180.out⟩, ⟨by (with_reducible repeat (first | refine blk_drewN ?_ _ | refine blk_drew ?_ | refine blk_alloc ?_ _)); refine blk_far ?_ NB184_185.out _; (with_reducible repeat (first | refine blk_drewN ?_ _ | refine blk_drew ?_ | refine blk_alloc ?_ _)); refine blk_far ?_ NB184_185.out _; (with_reducible repeat (first | refine blk_drewN ?_ _ | refine blk_drew ?_ | refine blk_alloc ?_ _)); refine blk_far ?_ NB184_185.out _; (with_reducible repeat (first | refine blk_drewN ?_ _ | refine blk_drew ?_ | refine blk_alloc ?_ _)); refine blk_far ?_ NB184_185.out _; (with_reducible repeat (first | refine blk_drewN ?_ _ | refine blk_drew ?_ | refine blk_alloc ?_ _)); refine blk_far ?_ NB184_185.out _; (with_reducible repeat (first | refine blk_drewN ?_ _ | refine blk_drew ?_ | refine blk_alloc ?_ _)); refine blk_far ?_ NB184_185.out _; (with_reducible repeat (first | refine blk_drewN ?_ _ | refine blk_drew ?_ | refine blk_alloc ?_ _)); refine blk_put (cs := #[.int .i64 ((rd_T91 l0 (ji5)).f0.f0), .int .i64 ((rd_T91 l0 (ji5)).f0.f1.f0), .int .i64 ((rd_T91 l0 (ji5)).f0.f1.f1), .int .i64 ((rd_T91 l0 (ji5)).f0.f2), .int .i64 ((rd_T91 l0 (ji5)).f1), .int .i64 0]) ?_ 5 _ rfl; (with_reducible repeat (first | refine blk_drewN ?_ _ | refine blk_drew ?_ | refine blk_alloc ?_ _)); refine blk_put (cs := #[.int .i64 ((rd_T91 l0 (ji5)).f0.f0), .int .i64 ((rd_T91 l0 (ji5)).f0.f1.f0), .int .i64 ((rd_T91 l0 (ji5)).f0.f1.f1), .int .i64 ((rd_T91 l0 (ji5)).f0.f2), .int .i64 0, .int .i64 0]) ?_ 4 _ rfl; (with_reducible repeat (first | refine blk_drewN ?_ _ | refine blk_drew ?_ | refine blk_alloc ?_ _)); refine blk_put (cs := #[.int .i64 ((rd_T91 l0 (ji5)).f0.f0), .int .i64 ((rd_T91 l0 (ji5)).f0.f1.f0), .int .i64 ((rd_T91 l0 (ji5)).f0.f1.f1), .int .i64 0, .int .i64 0, .int .i64 0]) ?_ 3 _ rfl; (with_reducible repeat (first | refine blk_drewN ?_ _ | refine blk_drew ?_ | refine blk_alloc ?_ _)); refine blk_put (cs := #[.int .i64 ((rd_T91 l0 (ji5)).f0.f0), .int .i64 ((rd_T91 l0 (ji5)).f0.f1.f0), .int .i64 0, .int .i64 0, .int .i64 0, .int .i64 0]) ?_ 2 _ rfl; (with_reducible repeat (first | refine blk_drewN ?_ _ | refine blk_drew ?_ | refine blk_alloc ?_ _)); refine blk_put (cs := #[.int .i64 ((rd_T91 l0 (ji5)).f0.f0), .int .i64 0, .int .i64 0, .int .i64 0, .int .i64 0, .int .i64 0]) ?_ 1 _ rfl; (with_reducible repeat (first | refine blk_drewN ?_ _ | refine blk_drew ?_ | refine blk_alloc ?_ _)); refine blk_put (cs := #[.int .i64 0, .int .i64 0, .int .i64 0, .int .i64 0, .int .i64 0, .int .i64 0]) ?_ 0 _ rfl; (with_reducible repeat (first | refine blk_drewN ?_ _ | refine blk_drew ?_ | refine blk_alloc ?_ _)); exact BK184.out⟩, ⟨by (with_reducible repeat (first | refine blk_drewN ?_ _ | refine blk_drew ?_ | refine blk_alloc ?_ _)); refine blk_put (cs := #[.int .i64 ((rd_T91 l0 x5_1).f0.f0), .int .i64 ((rd_T91 l0 x5_1).f0.f1.f0), .int .i64 ((rd_T91 l0 x5_1).f0.f1.f1), .int .i64 ((rd_T91 l0 x5_1).f0.f2), .int .i64 ((rd_T91 l0 x5_1).f1), .int .i64 0]) ?_ 5 _ rfl; (with_reducible repeat (first | refine blk_drewN ?_ _ | refine blk_drew ?_ | refine blk_alloc ?_ _)); refine blk_put (cs := #[.int .i64 ((rd_T91 l0 x5_1).f0.f0), .int .i64 ((rd_T91 l0 x5_1).f0.f1.f0), .int .i64 ((rd_T91 l0 x5_1).f0.f1.f1), .int .i64 ((rd_T91 l0 x5_1).f0.f2), .int .i64 0, .int .i64 0]) ?_ 4 _ rfl; (with_reducible repeat (first | refine blk_drewN ?_ _ | refine blk_drew ?_ | refine blk_alloc ?_ _)); refine blk_put (cs := #[.int .i64 ((rd_T91 l0 x5_1).f0.f0), .int .i64 ((rd_T91 l0 x5_1).f0.f1.f0), .int .i64 ((rd_T91 l0 x5_1).f0.f1.f1), .int .i64 0, .int .i64 0, .int .i64 0]) ?_ 3 _ rfl; (with_reducible repeat (first | refine blk_drewN ?_ _ | refine blk_drew ?_ | refine blk_alloc ?_ _)); refine blk_put (cs := #[.int .i64 ((rd_T91 l0 x5_1).f0.f0), .int .i64 ((rd_T91 l0 x5_1).f0.f1.f0), .int .i64 0, .int .i64 0, .int .i64 0, .int .i64 0]) ?_ 2 _ rfl; (with_reducible repeat (first | refine blk_drewN ?_ _ | refine blk_drew ?_ | refine blk_alloc ?_ _)); refine blk_put (cs := #[.int .i64 ((rd_T91 l0 x5_1).f0.f0), .int .i64 0, .int .i64 0, .int .i64 0, .int .i64 0, .int .i64 0]) ?_ 1 _ rfl; (with_reducible repeat (first | refine blk_drewN ?_ _ | refine blk_drew ?_ | refine blk_alloc ?_ _)); refine blk_put (cs := #[.int .i64 0, .int .i64 0, .int .i64 0, .int .i64 0, .int .i64 0, .int .i64 0]) ?_ 0 _ rfl; (with_reducible repeat (first | refine blk_drewN ?_ _ | refine blk_drew ?_ | refine blk_alloc ?_ _)); refine blk_far ?_ NB185_184.out _; (with_reducible repeat (first | refine blk_drewN ?_ _ | refine blk_drew ?_ | refine blk_alloc ?_ _)); refine blk_far ?_ NB185_184.out _; (with_reducible repeat (first | refine blk_drewN ?_ _ | refine blk_drew ?_ | refine blk_alloc ?_ _)); refine blk_far ?_ NB185_184.out _; (with_reducible repeat (first | refine blk_drewN ?_ _ | refine blk_drew ?_ | refine blk_alloc ?_ _)); refine blk_far ?_ NB185_184.out _; (with_reducible repeat (first | refine blk_drewN ?_ _ | refine blk_drew ?_ | refine blk_alloc ?_ _)); refine blk_far ?_ NB185_184.out _; (with_reducible repeat (first | refine blk_drewN ?_ _ | refine blk_drew ?_ | refine blk_alloc ?_ _)); refine blk_far ?_ NB185_184.out _; (with_reducible repeat (first | refine blk_drewN ?_ _ | refine blk_drew ?_ | refine blk_alloc ?_ _)); exact BK185.out⟩, ⟨by repeat (first | (with_reducible first | exact HB.out | apply below_alloc | apply pw_below_drewN | apply below_drew1 | refine below_set ?_ GE180.out | refine below_set ?_ GE184.out | refine below_set ?_ GE185.out) | exact HB.out)⟩⟩
        case rest =>
         clear HC10
         try clear p1
         try clear q1
         try clear hx1
         try clear c2
         try clear p2
         try clear c3
         try clear c4
         try clear c4b0
         try clear c6
         try clear c6b0
         try clear p6
         try clear c7
         try clear c7b0
         try clear c8
         try clear c8b0
         try clear c9
         try clear c9b0
         try clear p18
         try clear q18
         try clear hx18
         try clear c27
         try clear c27b0
         try clear c28
         try clear c29
         try clear c31
         try clear c32
         try clear c34
         try clear hcz30_0
         try clear hcz33_0
         try clear hcz35_0
         try clear hfz30_0
         try clear hfz33_0
         try clear hfz35_0
         try clear hx182_0
         try clear hx182_1
         try clear hx182_2
         try clear hx182_3
         try clear hx182_4
         try clear hx182_5
         try clear hx183_0
         try clear hx183_1
         try clear hx183_2
         try clear hx183_3
         try clear hx183_4
         try clear hx183_5
         try clear p182
         try clear p183
         try clear p2
         try clear q182
         try clear q183
         obtain ⟨kq, x37_9, rfl, HA, HJ9, BK180, BK184, BK185, HB⟩ := hcut
         cases kq with
         | zero => exact absurd HA.out (by simp [skywayref1_Node.j1])
         | succ kj9 =>
          have H := HA.out
          clear HA
          simp only [skywayref1_Node.j1] at H
          by_cases c36 : x37_9 = true
          ·
           subst c36
           have H1 : (skywayref1_Node.l0 kj9 l0 a1 (wrap64 (x5_1 - 1))) = some (r1, r2, r3, r4, r5, r6) := by rw [if_pos rfl] at H; exact H
           clear H
           have H := H1
           clear H1
           have H' := Aside0.mk H
           clear H
           go_wp2
           go_roundg kj9
           case measure => have := HK1.out; have := HJ9.out; omega
           case rel => exact ⟨(wrap64 (x5_1 - 1)), (x181000_1), (x181001_1), (x181002_1), (x181003_1), (x181004_1), (x181005_1), (by first | rfl | (simp; done) | (simp [*]; done)), H', ⟨by have := HK1.out; have := HJ9.out; omega⟩, ⟨by (with_reducible repeat (first | refine blk_drewN ?_ _ | refine blk_drew ?_ | refine blk_alloc ?_ _)); exact BK180.out⟩, ⟨by repeat (first | (with_reducible first | exact HB.out | apply below_alloc | apply pw_below_drewN | apply below_drew1 | refine below_set ?_ GE180.out | refine below_set ?_ GE184.out | refine below_set ?_ GE185.out) | exact HB.out)⟩⟩
          ·
           replace c36 := Bool.eq_false_iff.mpr c36
           subst c36
           have H1 : ((skywayref1_Mix.f kj9 ((rd_T91 l0 (ji5)).f0.f1.f0) ((rd_T91 l0 x5_1).f0.f1.f0) (wrap64 (a1 - ((rd_T91 l0 (ji5)).f0.f0))) (wrap64 (((rd_T91 l0 x5_1).f0.f0) - ((rd_T91 l0 (ji5)).f0.f0)))).bind fun t186 => ((skywayref1_Mix.f kj9 ((rd_T91 l0 (ji5)).f0.f1.f1) ((rd_T91 l0 x5_1).f0.f1.f1) (wrap64 (a1 - ((rd_T91 l0 (ji5)).f0.f0))) (wrap64 (((rd_T91 l0 x5_1).f0.f0) - ((rd_T91 l0 (ji5)).f0.f0)))).bind fun t187 => ((skywayref1_Mix.f kj9 ((rd_T91 l0 (ji5)).f0.f2) ((rd_T91 l0 x5_1).f0.f2) (wrap64 (a1 - ((rd_T91 l0 (ji5)).f0.f0))) (wrap64 (((rd_T91 l0 x5_1).f0.f0) - ((rd_T91 l0 (ji5)).f0.f0)))).bind fun t188 => ((skywayref1_MixUp.f kj9 ((rd_T91 l0 (ji5)).f1) ((rd_T91 l0 x5_1).f1) (wrap64 (a1 - ((rd_T91 l0 (ji5)).f0.f0))) (wrap64 (((rd_T91 l0 x5_1).f0.f0) - ((rd_T91 l0 (ji5)).f0.f0)))).bind fun t189 => ((skywayref1_MixUp.f kj9 ((rd_T91 l0 (ji5)).f2) ((rd_T91 l0 x5_1).f2) (wrap64 (a1 - ((rd_T91 l0 (ji5)).f0.f0))) (wrap64 (((rd_T91 l0 x5_1).f0.f0) - ((rd_T91 l0 (ji5)).f0.f0)))).bind fun t190 => (some (a1, t186, t187, t188, t189, t190))))))) = some (r1, r2, r3, r4, r5, r6) := by rw [if_neg (show ¬ (false = true) by decide)] at H; exact H
           clear H
           have H := H1
           clear H1
           replace H := Option.bind_eq_some_iff.mp H
           obtain ⟨t186, A370, H⟩ := H
           replace H : ((skywayref1_Mix.f kj9 ((rd_T91 l0 (ji5)).f0.f1.f1) ((rd_T91 l0 x5_1).f0.f1.f1) (wrap64 (a1 - ((rd_T91 l0 (ji5)).f0.f0))) (wrap64 (((rd_T91 l0 x5_1).f0.f0) - ((rd_T91 l0 (ji5)).f0.f0)))).bind fun t187 => ((skywayref1_Mix.f kj9 ((rd_T91 l0 (ji5)).f0.f2) ((rd_T91 l0 x5_1).f0.f2) (wrap64 (a1 - ((rd_T91 l0 (ji5)).f0.f0))) (wrap64 (((rd_T91 l0 x5_1).f0.f0) - ((rd_T91 l0 (ji5)).f0.f0)))).bind fun t188 => ((skywayref1_MixUp.f kj9 ((rd_T91 l0 (ji5)).f1) ((rd_T91 l0 x5_1).f1) (wrap64 (a1 - ((rd_T91 l0 (ji5)).f0.f0))) (wrap64 (((rd_T91 l0 x5_1).f0.f0) - ((rd_T91 l0 (ji5)).f0.f0)))).bind fun t189 => ((skywayref1_MixUp.f kj9 ((rd_T91 l0 (ji5)).f2) ((rd_T91 l0 x5_1).f2) (wrap64 (a1 - ((rd_T91 l0 (ji5)).f0.f0))) (wrap64 (((rd_T91 l0 x5_1).f0.f0) - ((rd_T91 l0 (ji5)).f0.f0)))).bind fun t190 => (some (a1, t186, t187, t188, t189, t190)))))) = some (r1, r2, r3, r4, r5, r6) := H
           have A37 := Aside0.mk A370
           have CA37 := Aside0.mk (fun W_ => skywayref1_Mix.calls kj9 ((rd_T91 l0 (ji5)).f0.f1.f0) ((rd_T91 l0 x5_1).f0.f1.f0) (wrap64 (a1 - ((rd_T91 l0 (ji5)).f0.f0))) (wrap64 (((rd_T91 l0 x5_1).f0.f0) - ((rd_T91 l0 (ji5)).f0.f0))) t186 W_ A370)
           clear A370
           replace H := Option.bind_eq_some_iff.mp H
           obtain ⟨t187, A380, H⟩ := H
           replace H : ((skywayref1_Mix.f kj9 ((rd_T91 l0 (ji5)).f0.f2) ((rd_T91 l0 x5_1).f0.f2) (wrap64 (a1 - ((rd_T91 l0 (ji5)).f0.f0))) (wrap64 (((rd_T91 l0 x5_1).f0.f0) - ((rd_T91 l0 (ji5)).f0.f0)))).bind fun t188 => ((skywayref1_MixUp.f kj9 ((rd_T91 l0 (ji5)).f1) ((rd_T91 l0 x5_1).f1) (wrap64 (a1 - ((rd_T91 l0 (ji5)).f0.f0))) (wrap64 (((rd_T91 l0 x5_1).f0.f0) - ((rd_T91 l0 (ji5)).f0.f0)))).bind fun t189 => ((skywayref1_MixUp.f kj9 ((rd_T91 l0 (ji5)).f2) ((rd_T91 l0 x5_1).f2) (wrap64 (a1 - ((rd_T91 l0 (ji5)).f0.f0))) (wrap64 (((rd_T91 l0 x5_1).f0.f0) - ((rd_T91 l0 (ji5)).f0.f0)))).bind fun t190 => (some (a1, t186, t187, t188, t189, t190))))) = some (r1, r2, r3, r4, r5, r6) := H
           have A38 := Aside0.mk A380
           have CA38 := Aside0.mk (fun W_ => skywayref1_Mix.calls kj9 ((rd_T91 l0 (ji5)).f0.f1.f1) ((rd_T91 l0 x5_1).f0.f1.f1) (wrap64 (a1 - ((rd_T91 l0 (ji5)).f0.f0))) (wrap64 (((rd_T91 l0 x5_1).f0.f0) - ((rd_T91 l0 (ji5)).f0.f0))) t187 W_ A380)
           clear A380
           replace H := Option.bind_eq_some_iff.mp H
           obtain ⟨t188, A390, H⟩ := H
           replace H : ((skywayref1_MixUp.f kj9 ((rd_T91 l0 (ji5)).f1) ((rd_T91 l0 x5_1).f1) (wrap64 (a1 - ((rd_T91 l0 (ji5)).f0.f0))) (wrap64 (((rd_T91 l0 x5_1).f0.f0) - ((rd_T91 l0 (ji5)).f0.f0)))).bind fun t189 => ((skywayref1_MixUp.f kj9 ((rd_T91 l0 (ji5)).f2) ((rd_T91 l0 x5_1).f2) (wrap64 (a1 - ((rd_T91 l0 (ji5)).f0.f0))) (wrap64 (((rd_T91 l0 x5_1).f0.f0) - ((rd_T91 l0 (ji5)).f0.f0)))).bind fun t190 => (some (a1, t186, t187, t188, t189, t190)))) = some (r1, r2, r3, r4, r5, r6) := H
           have A39 := Aside0.mk A390
           have CA39 := Aside0.mk (fun W_ => skywayref1_Mix.calls kj9 ((rd_T91 l0 (ji5)).f0.f2) ((rd_T91 l0 x5_1).f0.f2) (wrap64 (a1 - ((rd_T91 l0 (ji5)).f0.f0))) (wrap64 (((rd_T91 l0 x5_1).f0.f0) - ((rd_T91 l0 (ji5)).f0.f0))) t188 W_ A390)
           clear A390
           replace H := Option.bind_eq_some_iff.mp H
           obtain ⟨t189, A400, H⟩ := H
           replace H : ((skywayref1_MixUp.f kj9 ((rd_T91 l0 (ji5)).f2) ((rd_T91 l0 x5_1).f2) (wrap64 (a1 - ((rd_T91 l0 (ji5)).f0.f0))) (wrap64 (((rd_T91 l0 x5_1).f0.f0) - ((rd_T91 l0 (ji5)).f0.f0)))).bind fun t190 => (some (a1, t186, t187, t188, t189, t190))) = some (r1, r2, r3, r4, r5, r6) := H
           have A40 := Aside0.mk A400
           have CA40 := Aside0.mk (fun W_ => skywayref1_MixUp.calls kj9 ((rd_T91 l0 (ji5)).f1) ((rd_T91 l0 x5_1).f1) (wrap64 (a1 - ((rd_T91 l0 (ji5)).f0.f0))) (wrap64 (((rd_T91 l0 x5_1).f0.f0) - ((rd_T91 l0 (ji5)).f0.f0))) t189 W_ A400)
           clear A400
           replace H := Option.bind_eq_some_iff.mp H
           obtain ⟨t190, A410, H⟩ := H
           replace H : (some (a1, t186, t187, t188, t189, t190)) = some (r1, r2, r3, r4, r5, r6) := H
           have A41 := Aside0.mk A410
           have CA41 := Aside0.mk (fun W_ => skywayref1_MixUp.calls kj9 ((rd_T91 l0 (ji5)).f2) ((rd_T91 l0 x5_1).f2) (wrap64 (a1 - ((rd_T91 l0 (ji5)).f0.f0))) (wrap64 (((rd_T91 l0 x5_1).f0.f0) - ((rd_T91 l0 (ji5)).f0.f0))) t190 W_ A410)
           clear A410
           simp only [Option.some.injEq, Prod.mk.injEq] at H
           obtain ⟨rfl, rfl, rfl, rfl, rfl, rfl⟩ := H
           try go_wp2
           have n0_ := Aside0.mk (blk_drew BK180.out)
           have n1_ := Aside0.mk (blk_drew BK184.out)
           have n2_ := Aside0.mk (blk_drew BK185.out)
           have n3_ := Aside0.mk (below_drew1 HB.out)
           clear BK180
           clear BK184
           clear BK185
           clear HB
           have BK180 := n0_
           have BK184 := n1_
           have BK185 := n2_
           have HB := n3_
           clear n0_ n1_ n2_ n3_
           refine start_ (n := 14) (S := fun w' => w'.cell? ⟨gb184, 0, none⟩ = some (.int .i64 ((rd_T91 l0 (ji5)).f0.f0)) ∧ w'.cell? ⟨gb184, 1, none⟩ = some (.int .i64 ((rd_T91 l0 (ji5)).f0.f1.f0)) ∧ w'.cell? ⟨gb184, 2, none⟩ = some (.int .i64 ((rd_T91 l0 (ji5)).f0.f1.f1)) ∧ w'.cell? ⟨gb184, 3, none⟩ = some (.int .i64 ((rd_T91 l0 (ji5)).f0.f2)) ∧ w'.cell? ⟨gb184, 4, none⟩ = some (.int .i64 ((rd_T91 l0 (ji5)).f1)) ∧ w'.cell? ⟨gb184, 5, none⟩ = some (.int .i64 ((rd_T91 l0 (ji5)).f2)) ∧ w'.cell? ⟨gb185, 0, none⟩ = some (.int .i64 ((rd_T91 l0 x5_1).f0.f0)) ∧ w'.cell? ⟨gb185, 1, none⟩ = some (.int .i64 ((rd_T91 l0 x5_1).f0.f1.f0)) ∧ w'.cell? ⟨gb185, 2, none⟩ = some (.int .i64 ((rd_T91 l0 x5_1).f0.f1.f1)) ∧ w'.cell? ⟨gb185, 3, none⟩ = some (.int .i64 ((rd_T91 l0 x5_1).f0.f2)) ∧ w'.cell? ⟨gb185, 4, none⟩ = some (.int .i64 ((rd_T91 l0 x5_1).f1)) ∧ w'.cell? ⟨gb185, 5, none⟩ = some (.int .i64 ((rd_T91 l0 x5_1).f2))) (ds := []) #[false, false, false, false, false, false, false, false, false, false, false, false, false, false] (by kernel_rfl) rfl rfl ⟨(blk_cell BK184.out 0).trans rfl, (blk_cell BK184.out 1).trans rfl, (blk_cell BK184.out 2).trans rfl, (blk_cell BK184.out 3).trans rfl, (blk_cell BK184.out 4).trans rfl, (blk_cell BK184.out 5).trans rfl, (blk_cell BK185.out 0).trans rfl, (blk_cell BK185.out 1).trans rfl, (blk_cell BK185.out 2).trans rfl, (blk_cell BK185.out 3).trans rfl, (blk_cell BK185.out 4).trans rfl, (blk_cell BK185.out 5).trans rfl⟩ (fun hHeld => ?_); refine with_tabW skywayref1_Node.tab6 skywayref1_Node.bits6 (fun HT_ HW_ => ?_)
           generalize wc.drew = w42 at BK180 BK184 BK185 HB hHeld ⊢
           refine pure_ (i := 0) (N := some 38) (v := ?_) (a' := ?_) #[true, false, false, false, false, false, false, false, false, false, false, false, false, false] rfl rfl (any_of HT_.out (by kernel_rfl)) (fun _ _ _ h => h) (Or.inl ⟨by rfl, ?_⟩) ?_ ?_
           rotate_left
           ·
            intro w'
            go_simp
            with_reducible rfl
           rotate_left
           ·
            simp only [Act.put, List.setIfInBounds_toArray, List.set_cons_zero, List.set_cons_succ, i64_w, i32_w]
            rfl
           refine pure_ (i := 1) (N := some 39) (v := ?_) (a' := ?_) #[true, true, false, false, false, false, false, false, false, false, false, false, false, false] rfl rfl (any_of HT_.out (by kernel_rfl)) (fun _ _ _ h => h) (Or.inl ⟨by rfl, ?_⟩) ?_ ?_
           rotate_left
           ·
            intro w'
            go_simp
            with_reducible rfl
           rotate_left
           ·
            simp only [Act.put, List.setIfInBounds_toArray, List.set_cons_zero, List.set_cons_succ, i64_w, i32_w]
            rfl
           refine pure_ (i := 2) (N := some 40) (v := ?_) (a' := ?_) #[true, true, true, false, false, false, false, false, false, false, false, false, false, false] rfl rfl (any_of HT_.out (by kernel_rfl)) (fun _ _ _ h => h) (Or.inl ⟨by rfl, ?_⟩) ?_ ?_
           rotate_left
           ·
            intro w'
            go_simp
            with_reducible rfl
           rotate_left
           ·
            simp only [Act.put, List.setIfInBounds_toArray, List.set_cons_zero, List.set_cons_succ, i64_w, i32_w]
            rfl
           refine pure_ (i := 5) (N := some 43) (v := ?_) (a' := ?_) #[true, true, true, false, false, true, false, false, false, false, false, false, false, false] rfl rfl (any_of HT_.out (by kernel_rfl)) (fun _ _ _ h => h) (Or.inl ⟨by rfl, ?_⟩) ?_ ?_
           rotate_left
           ·
            intro w'
            go_simp
            with_reducible rfl
           rotate_left
           ·
            simp only [Act.put, List.setIfInBounds_toArray, List.set_cons_zero, List.set_cons_succ, i64_w, i32_w]
            rfl
           refine pure_ (i := 6) (N := some 44) (v := ?_) (a' := ?_) #[true, true, true, false, false, true, true, false, false, false, false, false, false, false] rfl rfl (any_of HT_.out (by kernel_rfl)) (fun _ _ _ h => h) (Or.inl ⟨by rfl, ?_⟩) ?_ ?_
           rotate_left
           ·
            intro w'
            go_simp
            with_reducible rfl
           rotate_left
           ·
            simp only [Act.put, List.setIfInBounds_toArray, List.set_cons_zero, List.set_cons_succ, i64_w, i32_w]
            rfl
           refine pure_ (i := 8) (N := some 46) (v := ?_) (a' := ?_) #[true, true, true, false, false, true, true, false, true, false, false, false, false, false] rfl rfl (any_of HT_.out (by kernel_rfl)) (fun _ _ _ h => h) (Or.inl ⟨by rfl, ?_⟩) ?_ ?_
           rotate_left
           ·
            intro w'
            go_simp
            with_reducible rfl
           rotate_left
           ·
            simp only [Act.put, List.setIfInBounds_toArray, List.set_cons_zero, List.set_cons_succ, i64_w, i32_w]
            rfl
           refine pure_ (i := 9) (N := some 47) (v := ?_) (a' := ?_) #[true, true, true, false, false, true, true, false, true, true, false, false, false, false] rfl rfl (any_of HT_.out (by kernel_rfl)) (fun _ _ _ h => h) (Or.inl ⟨by rfl, ?_⟩) ?_ ?_
           rotate_left
           ·
            intro w'
            go_simp
            with_reducible rfl
           rotate_left
           ·
            simp only [Act.put, List.setIfInBounds_toArray, List.set_cons_zero, List.set_cons_succ, i64_w, i32_w]
            rfl
           refine take_ (i := 3) (N := some 41) (v := ?_) (a' := ?_) #[true, true, true, true, false, true, true, false, true, true, false, false, false, false] rfl rfl (take_ofW HT_.out HW_.out (by kernel_rfl)) (fun _ _ _ h => h) (Or.inl ⟨by rfl, ?_⟩) hHeld ?_ ?_
           rotate_left
           ·
            rintro w' ⟨s0, s1, s2, s3, s4, s5, s6, s7, s8, s9, s10, s11⟩
            go_simp
            with_reducible rfl
           rotate_left
           ·
            simp only [Act.put, List.setIfInBounds_toArray, List.set_cons_zero, List.set_cons_succ, i64_w, i32_w]
            rfl
           refine pure_ (i := 4) (N := some 42) (v := ?_) (a' := ?_) #[true, true, true, true, true, true, true, false, true, true, false, false, false, false] rfl rfl (any_of HT_.out (by kernel_rfl)) (fun _ _ _ h => h) (Or.inl ⟨by rfl, ?_⟩) ?_ ?_
           rotate_left
           ·
            intro w'
            go_simp
            with_reducible rfl
           rotate_left
           ·
            simp only [Act.put, List.setIfInBounds_toArray, List.set_cons_zero, List.set_cons_succ, i64_w, i32_w]
            rfl
           refine pure_ (i := 12) (N := some 8) (v := ?_) (a' := ?_) #[true, true, true, true, true, true, true, false, true, true, false, false, true, false] rfl rfl (any_of HT_.out (by kernel_rfl)) (fun _ _ _ h => h) (Or.inl ⟨by rfl, ?_⟩) ?_ ?_
           rotate_left
           ·
            intro w'
            go_simp
            with_reducible rfl
           rotate_left
           ·
            simp only [Act.put, List.setIfInBounds_toArray, List.set_cons_zero, List.set_cons_succ, i64_w, i32_w]
            rfl
           refine take_ (i := 7) (N := some 45) (v := ?_) (a' := ?_) #[true, true, true, true, true, true, true, true, true, true, false, false, true, false] rfl rfl (take_ofW HT_.out HW_.out (by kernel_rfl)) (fun _ _ _ h => h) (Or.inl ⟨by rfl, ?_⟩) hHeld ?_ ?_
           rotate_left
           ·
            rintro w' ⟨s0, s1, s2, s3, s4, s5, s6, s7, s8, s9, s10, s11⟩
            go_simp
            with_reducible rfl
           rotate_left
           ·
            simp only [Act.put, List.setIfInBounds_toArray, List.set_cons_zero, List.set_cons_succ, i64_w, i32_w]
            rfl
           refine take_ (i := 10) (N := some 48) (v := ?_) (a' := ?_) #[true, true, true, true, true, true, true, true, true, true, true, false, true, false] rfl rfl (take_ofW HT_.out HW_.out (by kernel_rfl)) (fun _ _ _ h => h) (Or.inl ⟨by rfl, ?_⟩) hHeld ?_ ?_
           rotate_left
           ·
            rintro w' ⟨s0, s1, s2, s3, s4, s5, s6, s7, s8, s9, s10, s11⟩
            go_simp
            with_reducible rfl
           rotate_left
           ·
            simp only [Act.put, List.setIfInBounds_toArray, List.set_cons_zero, List.set_cons_succ, i64_w, i32_w]
            rfl
           refine pure_ (i := 11) (N := some 49) (v := ?_) (a' := ?_) #[true, true, true, true, true, true, true, true, true, true, true, true, true, false] rfl rfl (any_of HT_.out (by kernel_rfl)) (fun _ _ _ h => h) (Or.inl ⟨by rfl, ?_⟩) ?_ ?_
           rotate_left
           ·
            intro w'
            go_simp
            with_reducible rfl
           rotate_left
           ·
            simp only [Act.put, List.setIfInBounds_toArray, List.set_cons_zero, List.set_cons_succ, i64_w, i32_w]
            rfl
           refine pure_ (i := 13) (N := some 9) (v := ?_) (a' := ?_) #[true, true, true, true, true, true, true, true, true, true, true, true, true, true] rfl rfl (any_of HT_.out (by kernel_rfl)) (fun _ _ _ h => h) (Or.inl ⟨by rfl, ?_⟩) ?_ ?_
           rotate_left
           ·
            intro w'
            go_simp
            with_reducible rfl
           rotate_left
           ·
            simp only [Act.put, List.setIfInBounds_toArray, List.set_cons_zero, List.set_cons_succ, i64_w, i32_w]
            rfl
           refine done_ (done_of HT_.out (by kernel_rfl)) ?_
           try go_wp2
           have n0_ := Aside0.mk (blk_drew BK180.out)
           have n1_ := Aside0.mk (blk_drew BK184.out)
           have n2_ := Aside0.mk (blk_drew BK185.out)
           have n3_ := Aside0.mk (below_drew1 HB.out)
           clear BK180
           clear BK184
           clear BK185
           clear HB
           have BK180 := n0_
           have BK184 := n1_
           have BK185 := n2_
           have HB := n3_
           clear n0_ n1_ n2_ n3_
           refine start_ (n := 50) (S := fun w' => w'.cell? ⟨gb184, 0, none⟩ = some (.int .i64 ((rd_T91 l0 (ji5)).f0.f0)) ∧ w'.cell? ⟨gb184, 1, none⟩ = some (.int .i64 ((rd_T91 l0 (ji5)).f0.f1.f0)) ∧ w'.cell? ⟨gb184, 2, none⟩ = some (.int .i64 ((rd_T91 l0 (ji5)).f0.f1.f1)) ∧ w'.cell? ⟨gb184, 3, none⟩ = some (.int .i64 ((rd_T91 l0 (ji5)).f0.f2)) ∧ w'.cell? ⟨gb184, 4, none⟩ = some (.int .i64 ((rd_T91 l0 (ji5)).f1)) ∧ w'.cell? ⟨gb184, 5, none⟩ = some (.int .i64 ((rd_T91 l0 (ji5)).f2)) ∧ w'.cell? ⟨gb185, 0, none⟩ = some (.int .i64 ((rd_T91 l0 x5_1).f0.f0)) ∧ w'.cell? ⟨gb185, 1, none⟩ = some (.int .i64 ((rd_T91 l0 x5_1).f0.f1.f0)) ∧ w'.cell? ⟨gb185, 2, none⟩ = some (.int .i64 ((rd_T91 l0 x5_1).f0.f1.f1)) ∧ w'.cell? ⟨gb185, 3, none⟩ = some (.int .i64 ((rd_T91 l0 x5_1).f0.f2)) ∧ w'.cell? ⟨gb185, 4, none⟩ = some (.int .i64 ((rd_T91 l0 x5_1).f1)) ∧ w'.cell? ⟨gb185, 5, none⟩ = some (.int .i64 ((rd_T91 l0 x5_1).f2))) (ds := []) #[false, false, false, false, false, false, false, false, false, false, false, false, false, false, false, false, false, false, false, false, false, false, false, false, false, false, false, false, false, false, false, false, false, false, false, false, false, false, false, false, false, false, false, false, false, false, false, false, false, false] (by kernel_rfl) rfl rfl ⟨(blk_cell BK184.out 0).trans rfl, (blk_cell BK184.out 1).trans rfl, (blk_cell BK184.out 2).trans rfl, (blk_cell BK184.out 3).trans rfl, (blk_cell BK184.out 4).trans rfl, (blk_cell BK184.out 5).trans rfl, (blk_cell BK185.out 0).trans rfl, (blk_cell BK185.out 1).trans rfl, (blk_cell BK185.out 2).trans rfl, (blk_cell BK185.out 3).trans rfl, (blk_cell BK185.out 4).trans rfl, (blk_cell BK185.out 5).trans rfl⟩ (fun hHeld => ?_); refine with_tabW skywayref1_Node.tab7 skywayref1_Node.bits7 (fun HT_ HW_ => ?_)
           generalize w42.drew = w43 at BK180 BK184 BK185 HB hHeld ⊢
           refine pure_ (i := 0) (N := some 50) (v := ?_) (a' := ?_) #[true, false, false, false, false, false, false, false, false, false, false, false, false, false, false, false, false, false, false, false, false, false, false, false, false, false, false, false, false, false, false, false, false, false, false, false, false, false, false, false, false, false, false, false, false, false, false, false, false, false] rfl rfl (any_of HT_.out (by kernel_rfl)) (fun _ _ _ h => h) (Or.inl ⟨by rfl, ?_⟩) ?_ ?_
           rotate_left
           ·
            intro w'
            go_simp
            with_reducible rfl
           rotate_left
           ·
            simp only [Act.put, List.setIfInBounds_toArray, List.set_cons_zero, List.set_cons_succ, i64_w, i32_w]
            rfl
           refine pure_ (i := 1) (N := some 51) (v := ?_) (a' := ?_) #[true, true, false, false, false, false, false, false, false, false, false, false, false, false, false, false, false, false, false, false, false, false, false, false, false, false, false, false, false, false, false, false, false, false, false, false, false, false, false, false, false, false, false, false, false, false, false, false, false, false] rfl rfl (any_of HT_.out (by kernel_rfl)) (fun _ _ _ h => h) (Or.inl ⟨by rfl, ?_⟩) ?_ ?_
           rotate_left
           ·
            intro w'
            go_simp
            with_reducible rfl
           rotate_left
           ·
            simp only [Act.put, List.setIfInBounds_toArray, List.set_cons_zero, List.set_cons_succ, i64_w, i32_w]
            rfl
           refine pure_ (i := 2) (N := some 52) (v := ?_) (a' := ?_) #[true, true, true, false, false, false, false, false, false, false, false, false, false, false, false, false, false, false, false, false, false, false, false, false, false, false, false, false, false, false, false, false, false, false, false, false, false, false, false, false, false, false, false, false, false, false, false, false, false, false] rfl rfl (any_of HT_.out (by kernel_rfl)) (fun _ _ _ h => h) (Or.inl ⟨by rfl, ?_⟩) ?_ ?_
           rotate_left
           ·
            intro w'
            go_simp
            with_reducible rfl
           rotate_left
           ·
            simp only [Act.put, List.setIfInBounds_toArray, List.set_cons_zero, List.set_cons_succ, i64_w, i32_w]
            rfl
           refine pure_ (i := 3) (N := some 53) (v := ?_) (a' := ?_) #[true, true, true, true, false, false, false, false, false, false, false, false, false, false, false, false, false, false, false, false, false, false, false, false, false, false, false, false, false, false, false, false, false, false, false, false, false, false, false, false, false, false, false, false, false, false, false, false, false, false] rfl rfl (any_of HT_.out (by kernel_rfl)) (fun _ _ _ h => h) (Or.inl ⟨by rfl, ?_⟩) ?_ ?_
           rotate_left
           ·
            intro w'
            go_simp
            with_reducible rfl
           rotate_left
           ·
            simp only [Act.put, List.setIfInBounds_toArray, List.set_cons_zero, List.set_cons_succ, i64_w, i32_w]
            rfl
           refine pure_ (i := 5) (N := some 55) (v := ?_) (a' := ?_) #[true, true, true, true, false, true, false, false, false, false, false, false, false, false, false, false, false, false, false, false, false, false, false, false, false, false, false, false, false, false, false, false, false, false, false, false, false, false, false, false, false, false, false, false, false, false, false, false, false, false] rfl rfl (any_of HT_.out (by kernel_rfl)) (fun _ _ _ h => h) (Or.inl ⟨by rfl, ?_⟩) ?_ ?_
           rotate_left
           ·
            intro w'
            go_simp
            with_reducible rfl
           rotate_left
           ·
            simp only [Act.put, List.setIfInBounds_toArray, List.set_cons_zero, List.set_cons_succ, i64_w, i32_w]
            rfl
           refine pure_ (i := 6) (N := some 56) (v := ?_) (a' := ?_) #[true, true, true, true, false, true, true, false, false, false, false, false, false, false, false, false, false, false, false, false, false, false, false, false, false, false, false, false, false, false, false, false, false, false, false, false, false, false, false, false, false, false, false, false, false, false, false, false, false, false] rfl rfl (any_of HT_.out (by kernel_rfl)) (fun _ _ _ h => h) (Or.inl ⟨by rfl, ?_⟩) ?_ ?_
           rotate_left
           ·
            intro w'
            go_simp
            with_reducible rfl
           rotate_left
           ·
            simp only [Act.put, List.setIfInBounds_toArray, List.set_cons_zero, List.set_cons_succ, i64_w, i32_w]
            rfl
           refine pure_ (i := 7) (N := some 57) (v := ?_) (a' := ?_) #[true, true, true, true, false, true, true, true, false, false, false, false, false, false, false, false, false, false, false, false, false, false, false, false, false, false, false, false, false, false, false, false, false, false, false, false, false, false, false, false, false, false, false, false, false, false, false, false, false, false] rfl rfl (any_of HT_.out (by kernel_rfl)) (fun _ _ _ h => h) (Or.inl ⟨by rfl, ?_⟩) ?_ ?_
           rotate_left
           ·
            intro w'
            go_simp
            with_reducible rfl
           rotate_left
           ·
            simp only [Act.put, List.setIfInBounds_toArray, List.set_cons_zero, List.set_cons_succ, i64_w, i32_w]
            rfl
           refine pure_ (i := 9) (N := some 59) (v := ?_) (a' := ?_) #[true, true, true, true, false, true, true, true, false, true, false, false, false, false, false, false, false, false, false, false, false, false, false, false, false, false, false, false, false, false, false, false, false, false, false, false, false, false, false, false, false, false, false, false, false, false, false, false, false, false] rfl rfl (any_of HT_.out (by kernel_rfl)) (fun _ _ _ h => h) (Or.inl ⟨by rfl, ?_⟩) ?_ ?_
           rotate_left
           ·
            intro w'
            go_simp
            with_reducible rfl
           rotate_left
           ·
            simp only [Act.put, List.setIfInBounds_toArray, List.set_cons_zero, List.set_cons_succ, i64_w, i32_w]
            rfl
           refine pure_ (i := 10) (N := some 60) (v := ?_) (a' := ?_) #[true, true, true, true, false, true, true, true, false, true, true, false, false, false, false, false, false, false, false, false, false, false, false, false, false, false, false, false, false, false, false, false, false, false, false, false, false, false, false, false, false, false, false, false, false, false, false, false, false, false] rfl rfl (any_of HT_.out (by kernel_rfl)) (fun _ _ _ h => h) (Or.inl ⟨by rfl, ?_⟩) ?_ ?_
           rotate_left
           ·
            intro w'
            go_simp
            with_reducible rfl
           rotate_left
           ·
            simp only [Act.put, List.setIfInBounds_toArray, List.set_cons_zero, List.set_cons_succ, i64_w, i32_w]
            rfl
           refine pure_ (i := 12) (N := some 62) (v := ?_) (a' := ?_) #[true, true, true, true, false, true, true, true, false, true, true, false, true, false, false, false, false, false, false, false, false, false, false, false, false, false, false, false, false, false, false, false, false, false, false, false, false, false, false, false, false, false, false, false, false, false, false, false, false, false] rfl rfl (any_of HT_.out (by kernel_rfl)) (fun _ _ _ h => h) (Or.inl ⟨by rfl, ?_⟩) ?_ ?_
           rotate_left
           ·
            intro w'
            go_simp
            with_reducible rfl
           rotate_left
           ·
            simp only [Act.put, List.setIfInBounds_toArray, List.set_cons_zero, List.set_cons_succ, i64_w, i32_w]
            rfl
           refine pure_ (i := 13) (N := some 63) (v := ?_) (a' := ?_) #[true, true, true, true, false, true, true, true, false, true, true, false, true, true, false, false, false, false, false, false, false, false, false, false, false, false, false, false, false, false, false, false, false, false, false, false, false, false, false, false, false, false, false, false, false, false, false, false, false, false] rfl rfl (any_of HT_.out (by kernel_rfl)) (fun _ _ _ h => h) (Or.inl ⟨by rfl, ?_⟩) ?_ ?_
           rotate_left
           ·
            intro w'
            go_simp
            with_reducible rfl
           rotate_left
           ·
            simp only [Act.put, List.setIfInBounds_toArray, List.set_cons_zero, List.set_cons_succ, i64_w, i32_w]
            rfl
           refine pure_ (i := 14) (N := some 64) (v := ?_) (a' := ?_) #[true, true, true, true, false, true, true, true, false, true, true, false, true, true, true, false, false, false, false, false, false, false, false, false, false, false, false, false, false, false, false, false, false, false, false, false, false, false, false, false, false, false, false, false, false, false, false, false, false, false] rfl rfl (any_of HT_.out (by kernel_rfl)) (fun _ _ _ h => h) (Or.inl ⟨by rfl, ?_⟩) ?_ ?_
           rotate_left
           ·
            intro w'
            go_simp
            with_reducible rfl
           rotate_left
           ·
            simp only [Act.put, List.setIfInBounds_toArray, List.set_cons_zero, List.set_cons_succ, i64_w, i32_w]
            rfl
           refine pure_ (i := 16) (N := some 66) (v := ?_) (a' := ?_) #[true, true, true, true, false, true, true, true, false, true, true, false, true, true, true, false, true, false, false, false, false, false, false, false, false, false, false, false, false, false, false, false, false, false, false, false, false, false, false, false, false, false, false, false, false, false, false, false, false, false] rfl rfl (any_of HT_.out (by kernel_rfl)) (fun _ _ _ h => h) (Or.inl ⟨by rfl, ?_⟩) ?_ ?_
           rotate_left
           ·
            intro w'
            go_simp
            with_reducible rfl
           rotate_left
           ·
            simp only [Act.put, List.setIfInBounds_toArray, List.set_cons_zero, List.set_cons_succ, i64_w, i32_w]
            rfl
           refine pure_ (i := 17) (N := some 67) (v := ?_) (a' := ?_) #[true, true, true, true, false, true, true, true, false, true, true, false, true, true, true, false, true, true, false, false, false, false, false, false, false, false, false, false, false, false, false, false, false, false, false, false, false, false, false, false, false, false, false, false, false, false, false, false, false, false] rfl rfl (any_of HT_.out (by kernel_rfl)) (fun _ _ _ h => h) (Or.inl ⟨by rfl, ?_⟩) ?_ ?_
           rotate_left
           ·
            intro w'
            go_simp
            with_reducible rfl
           rotate_left
           ·
            simp only [Act.put, List.setIfInBounds_toArray, List.set_cons_zero, List.set_cons_succ, i64_w, i32_w]
            rfl
           refine pure_ (i := 18) (N := some 68) (v := ?_) (a' := ?_) #[true, true, true, true, false, true, true, true, false, true, true, false, true, true, true, false, true, true, true, false, false, false, false, false, false, false, false, false, false, false, false, false, false, false, false, false, false, false, false, false, false, false, false, false, false, false, false, false, false, false] rfl rfl (any_of HT_.out (by kernel_rfl)) (fun _ _ _ h => h) (Or.inl ⟨by rfl, ?_⟩) ?_ ?_
           rotate_left
           ·
            intro w'
            go_simp
            with_reducible rfl
           rotate_left
           ·
            simp only [Act.put, List.setIfInBounds_toArray, List.set_cons_zero, List.set_cons_succ, i64_w, i32_w]
            rfl
           refine pure_ (i := 20) (N := some 70) (v := ?_) (a' := ?_) #[true, true, true, true, false, true, true, true, false, true, true, false, true, true, true, false, true, true, true, false, true, false, false, false, false, false, false, false, false, false, false, false, false, false, false, false, false, false, false, false, false, false, false, false, false, false, false, false, false, false] rfl rfl (any_of HT_.out (by kernel_rfl)) (fun _ _ _ h => h) (Or.inl ⟨by rfl, ?_⟩) ?_ ?_
           rotate_left
           ·
            intro w'
            go_simp
            with_reducible rfl
           rotate_left
           ·
            simp only [Act.put, List.setIfInBounds_toArray, List.set_cons_zero, List.set_cons_succ, i64_w, i32_w]
            rfl
           refine pure_ (i := 21) (N := some 71) (v := ?_) (a' := ?_) #[true, true, true, true, false, true, true, true, false, true, true, false, true, true, true, false, true, true, true, false, true, true, false, false, false, false, false, false, false, false, false, false, false, false, false, false, false, false, false, false, false, false, false, false, false, false, false, false, false, false] rfl rfl (any_of HT_.out (by kernel_rfl)) (fun _ _ _ h => h) (Or.inl ⟨by rfl, ?_⟩) ?_ ?_
           rotate_left
           ·
            intro w'
            go_simp
            with_reducible rfl
           rotate_left
           ·
            simp only [Act.put, List.setIfInBounds_toArray, List.set_cons_zero, List.set_cons_succ, i64_w, i32_w]
            rfl
           refine pure_ (i := 24) (N := some 74) (v := ?_) (a' := ?_) #[true, true, true, true, false, true, true, true, false, true, true, false, true, true, true, false, true, true, true, false, true, true, false, false, true, false, false, false, false, false, false, false, false, false, false, false, false, false, false, false, false, false, false, false, false, false, false, false, false, false] rfl rfl (any_of HT_.out (by kernel_rfl)) (fun _ _ _ h => h) (Or.inl ⟨by rfl, ?_⟩) ?_ ?_
           rotate_left
           ·
            intro w'
            go_simp
            with_reducible rfl
           rotate_left
           ·
            simp only [Act.put, List.setIfInBounds_toArray, List.set_cons_zero, List.set_cons_succ, i64_w, i32_w]
            rfl
           refine pure_ (i := 25) (N := some 75) (v := ?_) (a' := ?_) #[true, true, true, true, false, true, true, true, false, true, true, false, true, true, true, false, true, true, true, false, true, true, false, false, true, true, false, false, false, false, false, false, false, false, false, false, false, false, false, false, false, false, false, false, false, false, false, false, false, false] rfl rfl (any_of HT_.out (by kernel_rfl)) (fun _ _ _ h => h) (Or.inl ⟨by rfl, ?_⟩) ?_ ?_
           rotate_left
           ·
            intro w'
            go_simp
            with_reducible rfl
           rotate_left
           ·
            simp only [Act.put, List.setIfInBounds_toArray, List.set_cons_zero, List.set_cons_succ, i64_w, i32_w]
            rfl
           refine pure_ (i := 27) (N := some 77) (v := ?_) (a' := ?_) #[true, true, true, true, false, true, true, true, false, true, true, false, true, true, true, false, true, true, true, false, true, true, false, false, true, true, false, true, false, false, false, false, false, false, false, false, false, false, false, false, false, false, false, false, false, false, false, false, false, false] rfl rfl (any_of HT_.out (by kernel_rfl)) (fun _ _ _ h => h) (Or.inl ⟨by rfl, ?_⟩) ?_ ?_
           rotate_left
           ·
            intro w'
            go_simp
            with_reducible rfl
           rotate_left
           ·
            simp only [Act.put, List.setIfInBounds_toArray, List.set_cons_zero, List.set_cons_succ, i64_w, i32_w]
            rfl
           refine pure_ (i := 28) (N := some 78) (v := ?_) (a' := ?_) #[true, true, true, true, false, true, true, true, false, true, true, false, true, true, true, false, true, true, true, false, true, true, false, false, true, true, false, true, true, false, false, false, false, false, false, false, false, false, false, false, false, false, false, false, false, false, false, false, false, false] rfl rfl (any_of HT_.out (by kernel_rfl)) (fun _ _ _ h => h) (Or.inl ⟨by rfl, ?_⟩) ?_ ?_
           rotate_left
           ·
            intro w'
            go_simp
            with_reducible rfl
           rotate_left
           ·
            simp only [Act.put, List.setIfInBounds_toArray, List.set_cons_zero, List.set_cons_succ, i64_w, i32_w]
            rfl
           refine pure_ (i := 30) (N := some 80) (v := ?_) (a' := ?_) #[true, true, true, true, false, true, true, true, false, true, true, false, true, true, true, false, true, true, true, false, true, true, false, false, true, true, false, true, true, false, true, false, false, false, false, false, false, false, false, false, false, false, false, false, false, false, false, false, false, false] rfl rfl (any_of HT_.out (by kernel_rfl)) (fun _ _ _ h => h) (Or.inl ⟨by rfl, ?_⟩) ?_ ?_
           rotate_left
           ·
            intro w'
            go_simp
            with_reducible rfl
           rotate_left
           ·
            simp only [Act.put, List.setIfInBounds_toArray, List.set_cons_zero, List.set_cons_succ, i64_w, i32_w]
            rfl
           refine pure_ (i := 31) (N := some 81) (v := ?_) (a' := ?_) #[true, true, true, true, false, true, true, true, false, true, true, false, true, true, true, false, true, true, true, false, true, true, false, false, true, true, false, true, true, false, true, true, false, false, false, false, false, false, false, false, false, false, false, false, false, false, false, false, false, false] rfl rfl (any_of HT_.out (by kernel_rfl)) (fun _ _ _ h => h) (Or.inl ⟨by rfl, ?_⟩) ?_ ?_
           rotate_left
           ·
            intro w'
            go_simp
            with_reducible rfl
           rotate_left
           ·
            simp only [Act.put, List.setIfInBounds_toArray, List.set_cons_zero, List.set_cons_succ, i64_w, i32_w]
            rfl
           refine pure_ (i := 34) (N := some 84) (v := ?_) (a' := ?_) #[true, true, true, true, false, true, true, true, false, true, true, false, true, true, true, false, true, true, true, false, true, true, false, false, true, true, false, true, true, false, true, true, false, false, true, false, false, false, false, false, false, false, false, false, false, false, false, false, false, false] rfl rfl (any_of HT_.out (by kernel_rfl)) (fun _ _ _ h => h) (Or.inl ⟨by rfl, ?_⟩) ?_ ?_
           rotate_left
           ·
            intro w'
            go_simp
            with_reducible rfl
           rotate_left
           ·
            simp only [Act.put, List.setIfInBounds_toArray, List.set_cons_zero, List.set_cons_succ, i64_w, i32_w]
            rfl
           refine pure_ (i := 36) (N := some 86) (v := ?_) (a' := ?_) #[true, true, true, true, false, true, true, true, false, true, true, false, true, true, true, false, true, true, true, false, true, true, false, false, true, true, false, true, true, false, true, true, false, false, true, false, true, false, false, false, false, false, false, false, false, false, false, false, false, false] rfl rfl (any_of HT_.out (by kernel_rfl)) (fun _ _ _ h => h) (Or.inl ⟨by rfl, ?_⟩) ?_ ?_
           rotate_left
           ·
            intro w'
            go_simp
            with_reducible rfl
           rotate_left
           ·
            simp only [Act.put, List.setIfInBounds_toArray, List.set_cons_zero, List.set_cons_succ, i64_w, i32_w]
            rfl
           refine pure_ (i := 38) (N := some 88) (v := ?_) (a' := ?_) #[true, true, true, true, false, true, true, true, false, true, true, false, true, true, true, false, true, true, true, false, true, true, false, false, true, true, false, true, true, false, true, true, false, false, true, false, true, false, true, false, false, false, false, false, false, false, false, false, false, false] rfl rfl (any_of HT_.out (by kernel_rfl)) (fun _ _ _ h => h) (Or.inl ⟨by rfl, ?_⟩) ?_ ?_
           rotate_left
           ·
            intro w'
            go_simp
            with_reducible rfl
           rotate_left
           ·
            simp only [Act.put, List.setIfInBounds_toArray, List.set_cons_zero, List.set_cons_succ, i64_w, i32_w]
            rfl
           refine pure_ (i := 39) (N := some 89) (v := ?_) (a' := ?_) #[true, true, true, true, false, true, true, true, false, true, true, false, true, true, true, false, true, true, true, false, true, true, false, false, true, true, false, true, true, false, true, true, false, false, true, false, true, false, true, true, false, false, false, false, false, false, false, false, false, false] rfl rfl (any_of HT_.out (by kernel_rfl)) (fun _ _ _ h => h) (Or.inl ⟨by rfl, ?_⟩) ?_ ?_
           rotate_left
           ·
            intro w'
            go_simp
            with_reducible rfl
           rotate_left
           ·
            simp only [Act.put, List.setIfInBounds_toArray, List.set_cons_zero, List.set_cons_succ, i64_w, i32_w]
            rfl
           refine pure_ (i := 41) (N := some 91) (v := ?_) (a' := ?_) #[true, true, true, true, false, true, true, true, false, true, true, false, true, true, true, false, true, true, true, false, true, true, false, false, true, true, false, true, true, false, true, true, false, false, true, false, true, false, true, true, false, true, false, false, false, false, false, false, false, false] rfl rfl (any_of HT_.out (by kernel_rfl)) (fun _ _ _ h => h) (Or.inl ⟨by rfl, ?_⟩) ?_ ?_
           rotate_left
           ·
            intro w'
            go_simp
            with_reducible rfl
           rotate_left
           ·
            simp only [Act.put, List.setIfInBounds_toArray, List.set_cons_zero, List.set_cons_succ, i64_w, i32_w]
            rfl
           refine pure_ (i := 43) (N := some 93) (v := ?_) (a' := ?_) #[true, true, true, true, false, true, true, true, false, true, true, false, true, true, true, false, true, true, true, false, true, true, false, false, true, true, false, true, true, false, true, true, false, false, true, false, true, false, true, true, false, true, false, true, false, false, false, false, false, false] rfl rfl (any_of HT_.out (by kernel_rfl)) (fun _ _ _ h => h) (Or.inl ⟨by rfl, ?_⟩) ?_ ?_
           rotate_left
           ·
            intro w'
            go_simp
            with_reducible rfl
           rotate_left
           ·
            simp only [Act.put, List.setIfInBounds_toArray, List.set_cons_zero, List.set_cons_succ, i64_w, i32_w]
            rfl
           refine pure_ (i := 45) (N := some 95) (v := ?_) (a' := ?_) #[true, true, true, true, false, true, true, true, false, true, true, false, true, true, true, false, true, true, true, false, true, true, false, false, true, true, false, true, true, false, true, true, false, false, true, false, true, false, true, true, false, true, false, true, false, true, false, false, false, false] rfl rfl (any_of HT_.out (by kernel_rfl)) (fun _ _ _ h => h) (Or.inl ⟨by rfl, ?_⟩) ?_ ?_
           rotate_left
           ·
            intro w'
            go_simp
            with_reducible rfl
           rotate_left
           ·
            simp only [Act.put, List.setIfInBounds_toArray, List.set_cons_zero, List.set_cons_succ, i64_w, i32_w]
            rfl
           refine pure_ (i := 46) (N := some 96) (v := ?_) (a' := ?_) #[true, true, true, true, false, true, true, true, false, true, true, false, true, true, true, false, true, true, true, false, true, true, false, false, true, true, false, true, true, false, true, true, false, false, true, false, true, false, true, true, false, true, false, true, false, true, true, false, false, false] rfl rfl (any_of HT_.out (by kernel_rfl)) (fun _ _ _ h => h) (Or.inl ⟨by rfl, ?_⟩) ?_ ?_
           rotate_left
           ·
            intro w'
            go_simp
            with_reducible rfl
           rotate_left
           ·
            simp only [Act.put, List.setIfInBounds_toArray, List.set_cons_zero, List.set_cons_succ, i64_w, i32_w]
            rfl
           refine take_ (i := 4) (N := some 54) (v := ?_) (a' := ?_) #[true, true, true, true, true, true, true, true, false, true, true, false, true, true, true, false, true, true, true, false, true, true, false, false, true, true, false, true, true, false, true, true, false, false, true, false, true, false, true, true, false, true, false, true, false, true, true, false, false, false] rfl rfl (take_ofW HT_.out HW_.out (by kernel_rfl)) (fun _ _ _ h => h) (Or.inl ⟨by rfl, ?_⟩) hHeld ?_ ?_
           rotate_left
           ·
            rintro w' ⟨s0, s1, s2, s3, s4, s5, s6, s7, s8, s9, s10, s11⟩
            go_simp
            with_reducible rfl
           rotate_left
           ·
            simp only [Act.put, List.setIfInBounds_toArray, List.set_cons_zero, List.set_cons_succ, i64_w, i32_w]
            rfl
           refine take_ (i := 8) (N := some 58) (v := ?_) (a' := ?_) #[true, true, true, true, true, true, true, true, true, true, true, false, true, true, true, false, true, true, true, false, true, true, false, false, true, true, false, true, true, false, true, true, false, false, true, false, true, false, true, true, false, true, false, true, false, true, true, false, false, false] rfl rfl (take_ofW HT_.out HW_.out (by kernel_rfl)) (fun _ _ _ h => h) (Or.inl ⟨by rfl, ?_⟩) hHeld ?_ ?_
           rotate_left
           ·
            rintro w' ⟨s0, s1, s2, s3, s4, s5, s6, s7, s8, s9, s10, s11⟩
            go_simp
            with_reducible rfl
           rotate_left
           ·
            simp only [Act.put, List.setIfInBounds_toArray, List.set_cons_zero, List.set_cons_succ, i64_w, i32_w]
            rfl
           refine take_ (i := 15) (N := some 65) (v := ?_) (a' := ?_) #[true, true, true, true, true, true, true, true, true, true, true, false, true, true, true, true, true, true, true, false, true, true, false, false, true, true, false, true, true, false, true, true, false, false, true, false, true, false, true, true, false, true, false, true, false, true, true, false, false, false] rfl rfl (take_ofW HT_.out HW_.out (by kernel_rfl)) (fun _ _ _ h => h) (Or.inl ⟨by rfl, ?_⟩) hHeld ?_ ?_
           rotate_left
           ·
            rintro w' ⟨s0, s1, s2, s3, s4, s5, s6, s7, s8, s9, s10, s11⟩
            go_simp
            with_reducible rfl
           rotate_left
           ·
            simp only [Act.put, List.setIfInBounds_toArray, List.set_cons_zero, List.set_cons_succ, i64_w, i32_w]
            rfl
           refine take_ (i := 19) (N := some 69) (v := ?_) (a' := ?_) #[true, true, true, true, true, true, true, true, true, true, true, false, true, true, true, true, true, true, true, true, true, true, false, false, true, true, false, true, true, false, true, true, false, false, true, false, true, false, true, true, false, true, false, true, false, true, true, false, false, false] rfl rfl (take_ofW HT_.out HW_.out (by kernel_rfl)) (fun _ _ _ h => h) (Or.inl ⟨by rfl, ?_⟩) hHeld ?_ ?_
           rotate_left
           ·
            rintro w' ⟨s0, s1, s2, s3, s4, s5, s6, s7, s8, s9, s10, s11⟩
            go_simp
            with_reducible rfl
           rotate_left
           ·
            simp only [Act.put, List.setIfInBounds_toArray, List.set_cons_zero, List.set_cons_succ, i64_w, i32_w]
            rfl
           refine take_ (i := 26) (N := some 76) (v := ?_) (a' := ?_) #[true, true, true, true, true, true, true, true, true, true, true, false, true, true, true, true, true, true, true, true, true, true, false, false, true, true, true, true, true, false, true, true, false, false, true, false, true, false, true, true, false, true, false, true, false, true, true, false, false, false] rfl rfl (take_ofW HT_.out HW_.out (by kernel_rfl)) (fun _ _ _ h => h) (Or.inl ⟨by rfl, ?_⟩) hHeld ?_ ?_
           rotate_left
           ·
            rintro w' ⟨s0, s1, s2, s3, s4, s5, s6, s7, s8, s9, s10, s11⟩
            go_simp
            with_reducible rfl
           rotate_left
           ·
            simp only [Act.put, List.setIfInBounds_toArray, List.set_cons_zero, List.set_cons_succ, i64_w, i32_w]
            rfl
           refine take_ (i := 29) (N := some 79) (v := ?_) (a' := ?_) #[true, true, true, true, true, true, true, true, true, true, true, false, true, true, true, true, true, true, true, true, true, true, false, false, true, true, true, true, true, true, true, true, false, false, true, false, true, false, true, true, false, true, false, true, false, true, true, false, false, false] rfl rfl (take_ofW HT_.out HW_.out (by kernel_rfl)) (fun _ _ _ h => h) (Or.inl ⟨by rfl, ?_⟩) hHeld ?_ ?_
           rotate_left
           ·
            rintro w' ⟨s0, s1, s2, s3, s4, s5, s6, s7, s8, s9, s10, s11⟩
            go_simp
            with_reducible rfl
           rotate_left
           ·
            simp only [Act.put, List.setIfInBounds_toArray, List.set_cons_zero, List.set_cons_succ, i64_w, i32_w]
            rfl
           refine take_ (i := 35) (N := some 85) (v := ?_) (a' := ?_) #[true, true, true, true, true, true, true, true, true, true, true, false, true, true, true, true, true, true, true, true, true, true, false, false, true, true, true, true, true, true, true, true, false, false, true, true, true, false, true, true, false, true, false, true, false, true, true, false, false, false] rfl rfl (take_ofW HT_.out HW_.out (by kernel_rfl)) (fun _ _ _ h => h) (Or.inl ⟨by rfl, ?_⟩) hHeld ?_ ?_
           rotate_left
           ·
            rintro w' ⟨s0, s1, s2, s3, s4, s5, s6, s7, s8, s9, s10, s11⟩
            go_simp
            with_reducible rfl
           rotate_left
           ·
            simp only [Act.put, List.setIfInBounds_toArray, List.set_cons_zero, List.set_cons_succ, i64_w, i32_w]
            rfl
           refine take_ (i := 37) (N := some 87) (v := ?_) (a' := ?_) #[true, true, true, true, true, true, true, true, true, true, true, false, true, true, true, true, true, true, true, true, true, true, false, false, true, true, true, true, true, true, true, true, false, false, true, true, true, true, true, true, false, true, false, true, false, true, true, false, false, false] rfl rfl (take_ofW HT_.out HW_.out (by kernel_rfl)) (fun _ _ _ h => h) (Or.inl ⟨by rfl, ?_⟩) hHeld ?_ ?_
           rotate_left
           ·
            rintro w' ⟨s0, s1, s2, s3, s4, s5, s6, s7, s8, s9, s10, s11⟩
            go_simp
            with_reducible rfl
           rotate_left
           ·
            simp only [Act.put, List.setIfInBounds_toArray, List.set_cons_zero, List.set_cons_succ, i64_w, i32_w]
            rfl
           refine take_ (i := 42) (N := some 92) (v := ?_) (a' := ?_) #[true, true, true, true, true, true, true, true, true, true, true, false, true, true, true, true, true, true, true, true, true, true, false, false, true, true, true, true, true, true, true, true, false, false, true, true, true, true, true, true, false, true, true, true, false, true, true, false, false, false] rfl rfl (take_ofW HT_.out HW_.out (by kernel_rfl)) (fun _ _ _ h => h) (Or.inl ⟨by rfl, ?_⟩) hHeld ?_ ?_
           rotate_left
           ·
            rintro w' ⟨s0, s1, s2, s3, s4, s5, s6, s7, s8, s9, s10, s11⟩
            go_simp
            with_reducible rfl
           rotate_left
           ·
            simp only [Act.put, List.setIfInBounds_toArray, List.set_cons_zero, List.set_cons_succ, i64_w, i32_w]
            rfl
           refine take_ (i := 44) (N := some 94) (v := ?_) (a' := ?_) #[true, true, true, true, true, true, true, true, true, true, true, false, true, true, true, true, true, true, true, true, true, true, false, false, true, true, true, true, true, true, true, true, false, false, true, true, true, true, true, true, false, true, true, true, true, true, true, false, false, false] rfl rfl (take_ofW HT_.out HW_.out (by kernel_rfl)) (fun _ _ _ h => h) (Or.inl ⟨by rfl, ?_⟩) hHeld ?_ ?_
           rotate_left
           ·
            rintro w' ⟨s0, s1, s2, s3, s4, s5, s6, s7, s8, s9, s10, s11⟩
            go_simp
            with_reducible rfl
           rotate_left
           ·
            simp only [Act.put, List.setIfInBounds_toArray, List.set_cons_zero, List.set_cons_succ, i64_w, i32_w]
            rfl
           refine one_ (i := 11) (N := some 61) #[true, true, true, true, true, true, true, true, true, true, true, true, true, true, true, true, true, true, true, true, true, true, false, false, true, true, true, true, true, true, true, true, false, false, true, true, true, true, true, true, false, true, true, true, true, true, true, false, false, false] rfl rfl (one_of HT_.out (by kernel_rfl)) (by decide) (fun K hK => ?_)
           refine goes_ Try.func67 (by kernel_rfl) rfl #[.int .i64 ((rd_T91 l0 (ji5)).f0.f1.f0), .int .i64 ((rd_T91 l0 x5_1).f0.f1.f0), .int .i64 (wrap64 (a1 - ((rd_T91 l0 (ji5)).f0.f0))), .int .i64 (wrap64 (((rd_T91 l0 x5_1).f0.f0) - ((rd_T91 l0 (ji5)).f0.f0)))] (by rfl) rfl rfl (by (try simp only [List.map_toArray, List.map_cons, List.map_nil]); first | done | (simp only [hji5]; rfl) | rfl | (simp only [List.length_drop, List.length_take]; rfl)) ?_
           with_reducible refine (CA37.out _).mono ?_
           rintro e w' ⟨rfl, ⟨nd, rfl⟩⟩
           refine ⟨_, rfl, ?_⟩
           refine hK.out _ _ ⟨(blk_cell BK184.out 0).trans rfl, (blk_cell BK184.out 1).trans rfl, (blk_cell BK184.out 2).trans rfl, (blk_cell BK184.out 3).trans rfl, (blk_cell BK184.out 4).trans rfl, (blk_cell BK184.out 5).trans rfl, (blk_cell BK185.out 0).trans rfl, (blk_cell BK185.out 1).trans rfl, (blk_cell BK185.out 2).trans rfl, (blk_cell BK185.out 3).trans rfl, (blk_cell BK185.out 4).trans rfl, (blk_cell BK185.out 5).trans rfl⟩ (fun hHeld => ?_)
           clear hK K
           refine norm_ (a' := ?_) ?_ ?_
           rotate_left
           ·
            show Act.put _ (some 61) _ = _
            simp only [Act.put, List.setIfInBounds_toArray, List.set_cons_zero, List.set_cons_succ, i64_w, i32_w]
            rfl
           refine one_ (i := 22) (N := some 72) #[true, true, true, true, true, true, true, true, true, true, true, true, true, true, true, true, true, true, true, true, true, true, true, false, true, true, true, true, true, true, true, true, false, false, true, true, true, true, true, true, false, true, true, true, true, true, true, false, false, false] rfl rfl (one_of HT_.out (by kernel_rfl)) (by decide) (fun K hK => ?_)
           refine goes_ Try.func67 (by kernel_rfl) rfl #[.int .i64 ((rd_T91 l0 (ji5)).f0.f1.f1), .int .i64 ((rd_T91 l0 x5_1).f0.f1.f1), .int .i64 (wrap64 (a1 - ((rd_T91 l0 (ji5)).f0.f0))), .int .i64 (wrap64 (((rd_T91 l0 x5_1).f0.f0) - ((rd_T91 l0 (ji5)).f0.f0)))] (by rfl) rfl rfl (by (try simp only [List.map_toArray, List.map_cons, List.map_nil]); first | done | (simp only [hji5]; rfl) | rfl | (simp only [List.length_drop, List.length_take]; rfl)) ?_
           with_reducible refine (CA38.out _).mono ?_
           rintro e w' ⟨rfl, ⟨nd, rfl⟩⟩
           refine ⟨_, rfl, ?_⟩
           refine hK.out _ _ ⟨(blk_cell BK184.out 0).trans rfl, (blk_cell BK184.out 1).trans rfl, (blk_cell BK184.out 2).trans rfl, (blk_cell BK184.out 3).trans rfl, (blk_cell BK184.out 4).trans rfl, (blk_cell BK184.out 5).trans rfl, (blk_cell BK185.out 0).trans rfl, (blk_cell BK185.out 1).trans rfl, (blk_cell BK185.out 2).trans rfl, (blk_cell BK185.out 3).trans rfl, (blk_cell BK185.out 4).trans rfl, (blk_cell BK185.out 5).trans rfl⟩ (fun hHeld => ?_)
           clear hK K
           refine norm_ (a' := ?_) ?_ ?_
           rotate_left
           ·
            show Act.put _ (some 72) _ = _
            simp only [Act.put, List.setIfInBounds_toArray, List.set_cons_zero, List.set_cons_succ, i64_w, i32_w]
            rfl
           refine pure_ (i := 23) (N := some 73) (v := ?_) (a' := ?_) #[true, true, true, true, true, true, true, true, true, true, true, true, true, true, true, true, true, true, true, true, true, true, true, true, true, true, true, true, true, true, true, true, false, false, true, true, true, true, true, true, false, true, true, true, true, true, true, false, false, false] rfl rfl (any_of HT_.out (by kernel_rfl)) (fun _ _ _ h => h) (Or.inl ⟨by rfl, ?_⟩) ?_ ?_
           rotate_left
           ·
            intro w'
            go_simp
            with_reducible rfl
           rotate_left
           ·
            simp only [Act.put, List.setIfInBounds_toArray, List.set_cons_zero, List.set_cons_succ, i64_w, i32_w]
            rfl
           refine one_ (i := 32) (N := some 82) #[true, true, true, true, true, true, true, true, true, true, true, true, true, true, true, true, true, true, true, true, true, true, true, true, true, true, true, true, true, true, true, true, true, false, true, true, true, true, true, true, false, true, true, true, true, true, true, false, false, false] rfl rfl (one_of HT_.out (by kernel_rfl)) (by decide) (fun K hK => ?_)
           refine goes_ Try.func67 (by kernel_rfl) rfl #[.int .i64 ((rd_T91 l0 (ji5)).f0.f2), .int .i64 ((rd_T91 l0 x5_1).f0.f2), .int .i64 (wrap64 (a1 - ((rd_T91 l0 (ji5)).f0.f0))), .int .i64 (wrap64 (((rd_T91 l0 x5_1).f0.f0) - ((rd_T91 l0 (ji5)).f0.f0)))] (by rfl) rfl rfl (by (try simp only [List.map_toArray, List.map_cons, List.map_nil]); first | done | (simp only [hji5]; rfl) | rfl | (simp only [List.length_drop, List.length_take]; rfl)) ?_
           with_reducible refine (CA39.out _).mono ?_
           rintro e w' ⟨rfl, ⟨nd, rfl⟩⟩
           refine ⟨_, rfl, ?_⟩
           refine hK.out _ _ ⟨(blk_cell BK184.out 0).trans rfl, (blk_cell BK184.out 1).trans rfl, (blk_cell BK184.out 2).trans rfl, (blk_cell BK184.out 3).trans rfl, (blk_cell BK184.out 4).trans rfl, (blk_cell BK184.out 5).trans rfl, (blk_cell BK185.out 0).trans rfl, (blk_cell BK185.out 1).trans rfl, (blk_cell BK185.out 2).trans rfl, (blk_cell BK185.out 3).trans rfl, (blk_cell BK185.out 4).trans rfl, (blk_cell BK185.out 5).trans rfl⟩ (fun hHeld => ?_)
           clear hK K
           refine norm_ (a' := ?_) ?_ ?_
           rotate_left
           ·
            show Act.put _ (some 82) _ = _
            simp only [Act.put, List.setIfInBounds_toArray, List.set_cons_zero, List.set_cons_succ, i64_w, i32_w]
            rfl
           refine pure_ (i := 33) (N := some 83) (v := ?_) (a' := ?_) #[true, true, true, true, true, true, true, true, true, true, true, true, true, true, true, true, true, true, true, true, true, true, true, true, true, true, true, true, true, true, true, true, true, true, true, true, true, true, true, true, false, true, true, true, true, true, true, false, false, false] rfl rfl (any_of HT_.out (by kernel_rfl)) (fun _ _ _ h => h) (Or.inl ⟨by rfl, ?_⟩) ?_ ?_
           rotate_left
           ·
            intro w'
            go_simp
            with_reducible rfl
           rotate_left
           ·
            simp only [Act.put, List.setIfInBounds_toArray, List.set_cons_zero, List.set_cons_succ, i64_w, i32_w]
            rfl
           refine one_ (i := 40) (N := some 90) #[true, true, true, true, true, true, true, true, true, true, true, true, true, true, true, true, true, true, true, true, true, true, true, true, true, true, true, true, true, true, true, true, true, true, true, true, true, true, true, true, true, true, true, true, true, true, true, false, false, false] rfl rfl (one_of HT_.out (by kernel_rfl)) (by decide) (fun K hK => ?_)
           refine goes_ Try.func68 (by kernel_rfl) rfl #[.int .i64 ((rd_T91 l0 (ji5)).f1), .int .i64 ((rd_T91 l0 x5_1).f1), .int .i64 (wrap64 (a1 - ((rd_T91 l0 (ji5)).f0.f0))), .int .i64 (wrap64 (((rd_T91 l0 x5_1).f0.f0) - ((rd_T91 l0 (ji5)).f0.f0)))] (by rfl) rfl rfl (by (try simp only [List.map_toArray, List.map_cons, List.map_nil]); first | done | (simp only [hji5]; rfl) | rfl | (simp only [List.length_drop, List.length_take]; rfl)) ?_
           with_reducible refine (CA40.out _).mono ?_
           rintro e w' ⟨rfl, ⟨nd, rfl⟩⟩
           refine ⟨_, rfl, ?_⟩
           refine hK.out _ _ ⟨(blk_cell BK184.out 0).trans rfl, (blk_cell BK184.out 1).trans rfl, (blk_cell BK184.out 2).trans rfl, (blk_cell BK184.out 3).trans rfl, (blk_cell BK184.out 4).trans rfl, (blk_cell BK184.out 5).trans rfl, (blk_cell BK185.out 0).trans rfl, (blk_cell BK185.out 1).trans rfl, (blk_cell BK185.out 2).trans rfl, (blk_cell BK185.out 3).trans rfl, (blk_cell BK185.out 4).trans rfl, (blk_cell BK185.out 5).trans rfl⟩ (fun hHeld => ?_)
           clear hK K
           refine norm_ (a' := ?_) ?_ ?_
           rotate_left
           ·
            show Act.put _ (some 90) _ = _
            simp only [Act.put, List.setIfInBounds_toArray, List.set_cons_zero, List.set_cons_succ, i64_w, i32_w]
            rfl
           refine one_ (i := 47) (N := some 97) #[true, true, true, true, true, true, true, true, true, true, true, true, true, true, true, true, true, true, true, true, true, true, true, true, true, true, true, true, true, true, true, true, true, true, true, true, true, true, true, true, true, true, true, true, true, true, true, true, false, false] rfl rfl (one_of HT_.out (by kernel_rfl)) (by decide) (fun K hK => ?_)
           refine goes_ Try.func68 (by kernel_rfl) rfl #[.int .i64 ((rd_T91 l0 (ji5)).f2), .int .i64 ((rd_T91 l0 x5_1).f2), .int .i64 (wrap64 (a1 - ((rd_T91 l0 (ji5)).f0.f0))), .int .i64 (wrap64 (((rd_T91 l0 x5_1).f0.f0) - ((rd_T91 l0 (ji5)).f0.f0)))] (by rfl) rfl rfl (by (try simp only [List.map_toArray, List.map_cons, List.map_nil]); first | done | (simp only [hji5]; rfl) | rfl | (simp only [List.length_drop, List.length_take]; rfl)) ?_
           with_reducible refine (CA41.out _).mono ?_
           rintro e w' ⟨rfl, ⟨nd, rfl⟩⟩
           refine ⟨_, rfl, ?_⟩
           refine hK.out _ _ ⟨(blk_cell BK184.out 0).trans rfl, (blk_cell BK184.out 1).trans rfl, (blk_cell BK184.out 2).trans rfl, (blk_cell BK184.out 3).trans rfl, (blk_cell BK184.out 4).trans rfl, (blk_cell BK184.out 5).trans rfl, (blk_cell BK185.out 0).trans rfl, (blk_cell BK185.out 1).trans rfl, (blk_cell BK185.out 2).trans rfl, (blk_cell BK185.out 3).trans rfl, (blk_cell BK185.out 4).trans rfl, (blk_cell BK185.out 5).trans rfl⟩ (fun hHeld => ?_)
           clear hK K
           refine norm_ (a' := ?_) ?_ ?_
           rotate_left
           ·
            show Act.put _ (some 97) _ = _
            simp only [Act.put, List.setIfInBounds_toArray, List.set_cons_zero, List.set_cons_succ, i64_w, i32_w]
            rfl
           refine pure_ (i := 48) (N := some 98) (v := ?_) (a' := ?_) #[true, true, true, true, true, true, true, true, true, true, true, true, true, true, true, true, true, true, true, true, true, true, true, true, true, true, true, true, true, true, true, true, true, true, true, true, true, true, true, true, true, true, true, true, true, true, true, true, true, false] rfl rfl (any_of HT_.out (by kernel_rfl)) (fun _ _ _ h => h) (Or.inl ⟨by rfl, ?_⟩) ?_ ?_
           rotate_left
           ·
            intro w'
            go_simp
            with_reducible rfl
           rotate_left
           ·
            simp only [Act.put, List.setIfInBounds_toArray, List.set_cons_zero, List.set_cons_succ, i64_w, i32_w]
            rfl
           refine one_ (i := 49) (N := none) #[true, true, true, true, true, true, true, true, true, true, true, true, true, true, true, true, true, true, true, true, true, true, true, true, true, true, true, true, true, true, true, true, true, true, true, true, true, true, true, true, true, true, true, true, true, true, true, true, true, true] rfl rfl (one_of HT_.out (by kernel_rfl)) (by decide) (fun K hK => ?_)
           have hs44 : w43.cell? ⟨gb180, 0, none⟩ = some (.int .i64 x181000_1) := (blk_cell BK180.out 0).trans rfl
           have hfs44 := blk_frozen BK180.out 0
           have hns44_1 := NB184_180.out
           have hns44_2 := NB185_180.out
           have hms44_1 := NB180_184.out
           have hms44_2 := NB180_185.out
           have hs45 : w43.cell? ⟨gb180, 1, none⟩ = some (.int .i64 x181001_1) := (blk_cell BK180.out 1).trans rfl
           have hfs45 := blk_frozen BK180.out 1
           have hns45_1 := NB184_180.out
           have hns45_2 := NB185_180.out
           have hms45_1 := NB180_184.out
           have hms45_2 := NB180_185.out
           have hs46 : w43.cell? ⟨gb180, 2, none⟩ = some (.int .i64 x181002_1) := (blk_cell BK180.out 2).trans rfl
           have hfs46 := blk_frozen BK180.out 2
           have hns46_1 := NB184_180.out
           have hns46_2 := NB185_180.out
           have hms46_1 := NB180_184.out
           have hms46_2 := NB180_185.out
           have hs47 : w43.cell? ⟨gb180, 3, none⟩ = some (.int .i64 x181003_1) := (blk_cell BK180.out 3).trans rfl
           have hfs47 := blk_frozen BK180.out 3
           have hns47_1 := NB184_180.out
           have hns47_2 := NB185_180.out
           have hms47_1 := NB180_184.out
           have hms47_2 := NB180_185.out
           have hs48 : w43.cell? ⟨gb180, 4, none⟩ = some (.int .i64 x181004_1) := (blk_cell BK180.out 4).trans rfl
           have hfs48 := blk_frozen BK180.out 4
           have hns48_1 := NB184_180.out
           have hns48_2 := NB185_180.out
           have hms48_1 := NB180_184.out
           have hms48_2 := NB180_185.out
           have hs49 : w43.cell? ⟨gb180, 5, none⟩ = some (.int .i64 x181005_1) := (blk_cell BK180.out 5).trans rfl
           have hfs49 := blk_frozen BK180.out 5
           have hns49_1 := NB184_180.out
           have hns49_2 := NB185_180.out
           have hms49_1 := NB180_184.out
           have hms49_2 := NB180_185.out
           refine skip_ (w1 := ?_) (by rfl) rfl ?_ ?_
           rotate_left
           ·
            go_simp
            rfl
           refine hK.out _ _ ⟨((cell_far (p := ⟨gb180, _, none⟩) NB184_180.out _).trans (((cell_far (p := ⟨gb180, _, none⟩) NB184_180.out _).trans (((cell_far (p := ⟨gb180, _, none⟩) NB184_180.out _).trans (((cell_far (p := ⟨gb180, _, none⟩) NB184_180.out _).trans (((cell_far (p := ⟨gb180, _, none⟩) NB184_180.out _).trans (((cell_far (p := ⟨gb180, _, none⟩) NB184_180.out _).trans (hHeld.1)))))))))))), ((cell_far (p := ⟨gb180, _, none⟩) NB184_180.out _).trans (((cell_far (p := ⟨gb180, _, none⟩) NB184_180.out _).trans (((cell_far (p := ⟨gb180, _, none⟩) NB184_180.out _).trans (((cell_far (p := ⟨gb180, _, none⟩) NB184_180.out _).trans (((cell_far (p := ⟨gb180, _, none⟩) NB184_180.out _).trans (((cell_far (p := ⟨gb180, _, none⟩) NB184_180.out _).trans (hHeld.2.1)))))))))))), ((cell_far (p := ⟨gb180, _, none⟩) NB184_180.out _).trans (((cell_far (p := ⟨gb180, _, none⟩) NB184_180.out _).trans (((cell_far (p := ⟨gb180, _, none⟩) NB184_180.out _).trans (((cell_far (p := ⟨gb180, _, none⟩) NB184_180.out _).trans (((cell_far (p := ⟨gb180, _, none⟩) NB184_180.out _).trans (((cell_far (p := ⟨gb180, _, none⟩) NB184_180.out _).trans (hHeld.2.2.1)))))))))))), ((cell_far (p := ⟨gb180, _, none⟩) NB184_180.out _).trans (((cell_far (p := ⟨gb180, _, none⟩) NB184_180.out _).trans (((cell_far (p := ⟨gb180, _, none⟩) NB184_180.out _).trans (((cell_far (p := ⟨gb180, _, none⟩) NB184_180.out _).trans (((cell_far (p := ⟨gb180, _, none⟩) NB184_180.out _).trans (((cell_far (p := ⟨gb180, _, none⟩) NB184_180.out _).trans (hHeld.2.2.2.1)))))))))))), ((cell_far (p := ⟨gb180, _, none⟩) NB184_180.out _).trans (((cell_far (p := ⟨gb180, _, none⟩) NB184_180.out _).trans (((cell_far (p := ⟨gb180, _, none⟩) NB184_180.out _).trans (((cell_far (p := ⟨gb180, _, none⟩) NB184_180.out _).trans (((cell_far (p := ⟨gb180, _, none⟩) NB184_180.out _).trans (((cell_far (p := ⟨gb180, _, none⟩) NB184_180.out _).trans (hHeld.2.2.2.2.1)))))))))))), ((cell_far (p := ⟨gb180, _, none⟩) NB184_180.out _).trans (((cell_far (p := ⟨gb180, _, none⟩) NB184_180.out _).trans (((cell_far (p := ⟨gb180, _, none⟩) NB184_180.out _).trans (((cell_far (p := ⟨gb180, _, none⟩) NB184_180.out _).trans (((cell_far (p := ⟨gb180, _, none⟩) NB184_180.out _).trans (((cell_far (p := ⟨gb180, _, none⟩) NB184_180.out _).trans (hHeld.2.2.2.2.2.1)))))))))))), ((cell_far (p := ⟨gb180, _, none⟩) NB185_180.out _).trans (((cell_far (p := ⟨gb180, _, none⟩) NB185_180.out _).trans (((cell_far (p := ⟨gb180, _, none⟩) NB185_180.out _).trans (((cell_far (p := ⟨gb180, _, none⟩) NB185_180.out _).trans (((cell_far (p := ⟨gb180, _, none⟩) NB185_180.out _).trans (((cell_far (p := ⟨gb180, _, none⟩) NB185_180.out _).trans (hHeld.2.2.2.2.2.2.1)))))))))))), ((cell_far (p := ⟨gb180, _, none⟩) NB185_180.out _).trans (((cell_far (p := ⟨gb180, _, none⟩) NB185_180.out _).trans (((cell_far (p := ⟨gb180, _, none⟩) NB185_180.out _).trans (((cell_far (p := ⟨gb180, _, none⟩) NB185_180.out _).trans (((cell_far (p := ⟨gb180, _, none⟩) NB185_180.out _).trans (((cell_far (p := ⟨gb180, _, none⟩) NB185_180.out _).trans (hHeld.2.2.2.2.2.2.2.1)))))))))))), ((cell_far (p := ⟨gb180, _, none⟩) NB185_180.out _).trans (((cell_far (p := ⟨gb180, _, none⟩) NB185_180.out _).trans (((cell_far (p := ⟨gb180, _, none⟩) NB185_180.out _).trans (((cell_far (p := ⟨gb180, _, none⟩) NB185_180.out _).trans (((cell_far (p := ⟨gb180, _, none⟩) NB185_180.out _).trans (((cell_far (p := ⟨gb180, _, none⟩) NB185_180.out _).trans (hHeld.2.2.2.2.2.2.2.2.1)))))))))))), ((cell_far (p := ⟨gb180, _, none⟩) NB185_180.out _).trans (((cell_far (p := ⟨gb180, _, none⟩) NB185_180.out _).trans (((cell_far (p := ⟨gb180, _, none⟩) NB185_180.out _).trans (((cell_far (p := ⟨gb180, _, none⟩) NB185_180.out _).trans (((cell_far (p := ⟨gb180, _, none⟩) NB185_180.out _).trans (((cell_far (p := ⟨gb180, _, none⟩) NB185_180.out _).trans (hHeld.2.2.2.2.2.2.2.2.2.1)))))))))))), ((cell_far (p := ⟨gb180, _, none⟩) NB185_180.out _).trans (((cell_far (p := ⟨gb180, _, none⟩) NB185_180.out _).trans (((cell_far (p := ⟨gb180, _, none⟩) NB185_180.out _).trans (((cell_far (p := ⟨gb180, _, none⟩) NB185_180.out _).trans (((cell_far (p := ⟨gb180, _, none⟩) NB185_180.out _).trans (((cell_far (p := ⟨gb180, _, none⟩) NB185_180.out _).trans (hHeld.2.2.2.2.2.2.2.2.2.2.1)))))))))))), ((cell_far (p := ⟨gb180, _, none⟩) NB185_180.out _).trans (((cell_far (p := ⟨gb180, _, none⟩) NB185_180.out _).trans (((cell_far (p := ⟨gb180, _, none⟩) NB185_180.out _).trans (((cell_far (p := ⟨gb180, _, none⟩) NB185_180.out _).trans (((cell_far (p := ⟨gb180, _, none⟩) NB185_180.out _).trans (((cell_far (p := ⟨gb180, _, none⟩) NB185_180.out _).trans (hHeld.2.2.2.2.2.2.2.2.2.2.2))))))))))))⟩ (fun hHeld => ?_)
           clear hK K
           refine done_ (done_of HT_.out (by kernel_rfl)) ?_
           try go_wp2
           refine bodyPost_ret (results_cell_row rfl _ _ gb180 91 #[.int .i64 a1, .int .i64 t186, .int .i64 t187, .int .i64 t188, .int .i64 t189, .int .i64 t190] (0, 0) _ rfl (by (with_reducible repeat (first | refine blk_drewN ?_ _ | refine blk_drew ?_ | refine blk_alloc ?_ _)); refine blk_put (cs := #[.int .i64 a1, .int .i64 t186, .int .i64 t187, .int .i64 t188, .int .i64 t189, .int .i64 x181005_1]) ?_ 5 _ rfl; (with_reducible repeat (first | refine blk_drewN ?_ _ | refine blk_drew ?_ | refine blk_alloc ?_ _)); refine blk_put (cs := #[.int .i64 a1, .int .i64 t186, .int .i64 t187, .int .i64 t188, .int .i64 x181004_1, .int .i64 x181005_1]) ?_ 4 _ rfl; (with_reducible repeat (first | refine blk_drewN ?_ _ | refine blk_drew ?_ | refine blk_alloc ?_ _)); refine blk_put (cs := #[.int .i64 a1, .int .i64 t186, .int .i64 t187, .int .i64 x181003_1, .int .i64 x181004_1, .int .i64 x181005_1]) ?_ 3 _ rfl; (with_reducible repeat (first | refine blk_drewN ?_ _ | refine blk_drew ?_ | refine blk_alloc ?_ _)); refine blk_put (cs := #[.int .i64 a1, .int .i64 t186, .int .i64 x181002_1, .int .i64 x181003_1, .int .i64 x181004_1, .int .i64 x181005_1]) ?_ 2 _ rfl; (with_reducible repeat (first | refine blk_drewN ?_ _ | refine blk_drew ?_ | refine blk_alloc ?_ _)); refine blk_put (cs := #[.int .i64 a1, .int .i64 x181001_1, .int .i64 x181002_1, .int .i64 x181003_1, .int .i64 x181004_1, .int .i64 x181005_1]) ?_ 1 _ rfl; (with_reducible repeat (first | refine blk_drewN ?_ _ | refine blk_drew ?_ | refine blk_alloc ?_ _)); refine blk_put (cs := #[.int .i64 x181000_1, .int .i64 x181001_1, .int .i64 x181002_1, .int .i64 x181003_1, .int .i64 x181004_1, .int .i64 x181005_1]) ?_ 0 _ rfl; (with_reducible repeat (first | refine blk_drewN ?_ _ | refine blk_drew ?_ | refine blk_alloc ?_ _)); exact BK180.out) Try.underlying91 rfl (by kernel_rfl)) rfl ?_
           exact ⟨by first | rfl | (simp [errW_none, errW_some] <;> rfl) | (simp only [← hji5]; first | rfl | (simp [errW_none, errW_some] <;> rfl)) | (simp [*, errW_none, errW_some] <;> rfl), by repeat (first | (with_reducible first | exact HB.out | apply below_alloc | apply pw_below_drewN | apply below_drew1 | refine below_set ?_ GE180.out | refine below_set ?_ GE184.out | refine below_set ?_ GE185.out) | exact HB.out)⟩
       ·
        rw [if_neg c9] at H
        exact absurd H (by simp)
      ·
       rw [if_neg c8] at H
       exact absurd H (by simp)
     ·
      rw [if_neg c7] at H
      exact absurd H (by simp)
    ·
     rw [if_neg c6] at H
     exact absurd H (by simp)
   ·
    rw [if_neg c4] at H
    have c4b0 : decide (0 < x5_1) = false := decide_eq_false c4
    clear c4
    by_cases c50 : 0 < (l0.length : Int)
    ·
     rw [if_pos c50] at H
     have c50b0 : decide (0 < (l0.length : Int)) = true := decide_eq_true c50
     have c50b1 : decide (0 < l0.length) = true := decide_eq_true (by omega)
     clear c50
     simp only [Option.some.injEq, Prod.mk.injEq] at H
     obtain ⟨rfl, rfl, rfl, rfl, rfl, rfl⟩ := H
     have p181 : 0 ≤ (0 : Int) := (by omega)
     have q181 : 0 < (l0.length : Int) := of_decide_eq_true (by first | (with_reducible assumption) | assumption)
     obtain ⟨ad181, e181, hx181_0, hx181_1, hx181_2, hx181_3, hx181_4, hx181_5⟩ := at_T91 HR0.out 0 p181 q181
     cases e181
     have qi181 : (0 < l0.length) = True := eq_true (by omega)
     (try rw [show ((0 : Int)).toNat = 0 from rfl] at hx181_0)
     (try rw [show 0 * 6 = 0 from rfl] at hx181_0)
     (try rw [Addr.add_zero'] at hx181_0)
     (try rw [show ((0 : Int)).toNat = 0 from rfl] at hx181_1)
     (try rw [show 0 * 6 = 0 from rfl] at hx181_1)
     (try rw [Addr.add_zero'] at hx181_1)
     (try rw [show ((0 : Int)).toNat = 0 from rfl] at hx181_2)
     (try rw [show 0 * 6 = 0 from rfl] at hx181_2)
     (try rw [Addr.add_zero'] at hx181_2)
     (try rw [show ((0 : Int)).toNat = 0 from rfl] at hx181_3)
     (try rw [show 0 * 6 = 0 from rfl] at hx181_3)
     (try rw [Addr.add_zero'] at hx181_3)
     (try rw [show ((0 : Int)).toNat = 0 from rfl] at hx181_4)
     (try rw [show 0 * 6 = 0 from rfl] at hx181_4)
     (try rw [Addr.add_zero'] at hx181_4)
     (try rw [show ((0 : Int)).toNat = 0 from rfl] at hx181_5)
     (try rw [show 0 * 6 = 0 from rfl] at hx181_5)
     (try rw [Addr.add_zero'] at hx181_5)
     replace hx181_0 := (HB.out.cell (World.block_lt_of_cell? w _ hx181_0)).trans hx181_0
     replace hx181_1 := (HB.out.cell (World.block_lt_of_cell? w _ hx181_1)).trans hx181_1
     replace hx181_2 := (HB.out.cell (World.block_lt_of_cell? w _ hx181_2)).trans hx181_2
     replace hx181_3 := (HB.out.cell (World.block_lt_of_cell? w _ hx181_3)).trans hx181_3
     replace hx181_4 := (HB.out.cell (World.block_lt_of_cell? w _ hx181_4)).trans hx181_4
     replace hx181_5 := (HB.out.cell (World.block_lt_of_cell? w _ hx181_5)).trans hx181_5
     replace p181 := eq_true p181
     replace q181 := eq_true q181
     go_wp2_with (first | ((with_reducible refine gate_store (t := 91) (p := 4) rfl ?_); refine st_row rfl rfl 91 4 _ rfl gb180 0 rfl (t := 91) (cs := #[.int .i64 x181000_1, .int .i64 x181001_1, .int .i64 x181002_1, .int .i64 x181003_1, .int .i64 x181004_1, .int .i64 x181005_1]) [.int .i64 ((rd_T91 l0 0).f0.f0), .int .i64 ((rd_T91 l0 0).f0.f1.f0), .int .i64 ((rd_T91 l0 0).f0.f1.f1), .int .i64 ((rd_T91 l0 0).f0.f2), .int .i64 ((rd_T91 l0 0).f1), .int .i64 ((rd_T91 l0 0).f2)] _ rfl rfl isz91 (by (with_reducible repeat (first | refine blk_drewN ?_ _ | refine blk_drew ?_ | refine blk_alloc ?_ _)); exact BK180.out) (Nat.le_of_ble_eq_true rfl) rfl #[.int .i64 ((rd_T91 l0 0).f0.f0), .int .i64 ((rd_T91 l0 0).f0.f1.f0), .int .i64 ((rd_T91 l0 0).f0.f1.f1), .int .i64 ((rd_T91 l0 0).f0.f2), .int .i64 ((rd_T91 l0 0).f1), .int .i64 ((rd_T91 l0 0).f2)] rfl ?_; intro w51 hx_ hy_ hz_; have n0_ := Aside0.mk (hx_); have n1_ := Aside0.mk (hz_ _ _ (by repeat (first | (with_reducible first | exact HB.out | apply below_alloc | apply pw_below_drewN | apply below_drew1 | refine below_set ?_ GE180.out) | exact HB.out)) GE180.out); clear BK180; clear HB; have BK180 := n0_; have HB := n1_; clear n0_ n1_; clear hx_ hy_ hz_))
     refine bodyPost_ret (results_cell_row rfl _ _ gb180 91 #[.int .i64 ((rd_T91 l0 0).f0.f0), .int .i64 ((rd_T91 l0 0).f0.f1.f0), .int .i64 ((rd_T91 l0 0).f0.f1.f1), .int .i64 ((rd_T91 l0 0).f0.f2), .int .i64 ((rd_T91 l0 0).f1), .int .i64 ((rd_T91 l0 0).f2)] (0, 0) _ rfl (by (with_reducible repeat (first | refine blk_drewN ?_ _ | refine blk_drew ?_ | refine blk_alloc ?_ _)); exact BK180.out) Try.underlying91 rfl (by kernel_rfl)) rfl ?_
     exact ⟨by first | rfl | (simp [errW_none, errW_some] <;> rfl) | (simp [*, errW_none, errW_some] <;> rfl), by repeat (first | (with_reducible first | exact HB.out | apply below_alloc | apply pw_below_drewN | apply below_drew1 | refine below_set ?_ GE180.out) | exact HB.out)⟩
    ·
     rw [if_neg c50] at H
     exact absurd H (by simp)

end Go.Proofs.Ytpcmmbbkidojoaa.MTubeNodes
