/- The law ConformLate: the abstract machine answers true. No condition. -/
import Derived.Test.YtehgapcmngdcnaaInConformLate
import Derived.Test.YtehgapcmngdcnaaEvaY
import Derived.Test.YtehgapcmngdcnaaTbD
import Derived.Test.YtehgapcmngdcnaaTbP
import Derived.Test.YtehgapcmngdcnaaFlA
namespace Go.Proofs.Ytehgapcmngdcnaa.MyConformLate
open Go Go.Proofs.Ytehgapcmngdcnaa.Eva Go.Proofs.Ytehgapcmngdcnaa.CodeAll Go.Proofs.Ytehgapcmngdcnaa.InConformLate Go.Proofs.Ytehgapcmngdcnaa.Fl
set_option linter.unusedVariables false
set_option linter.unusedSimpArgs false
set_option maxRecDepth 10000
set_option maxHeartbeats 4000000

theorem lgo_near {x : K} {l : List Nd} {m : Nat} : ∀ n k : Nat, k ≤ m → m < k + n → m ≤ 1000 → (lateTry x l (m : Int) = true ∨ lateTry x l (w (0 - (m : Int))) = true) → ∃ d, lgo x l n k = (d, 0) ∧ -(m : Int) ≤ d ∧ d ≤ m
  | 0, k, h1, h2, _, _ => by omega
  | n + 1, k, h1, h2, h3, h4 => by
    simp only [lgo]
    have hw : w (0 - (k : Int)) = 0 - (k : Int) := w_id (by omega) (by omega)
    split
    · exact ⟨k, rfl, by omega, by omega⟩
    · rename_i c1
      split
      · exact ⟨_, rfl, by rw [hw]; omega, by rw [hw]; omega⟩
      · rename_i c2
        by_cases hkm : k = m
        · subst hkm
          rcases h4 with h4 | h4
          · exact absurd h4 c1
          · exact absurd h4 c2
        · exact lgo_near n (k + 1) (by omega) (by omega) h3 h4

theorem sq_nn' (a : Int) : 0 ≤ a * a := by
  rcases Int.le_total 0 a with h | h
  · exact Int.mul_nonneg h h
  · have := Int.mul_nonneg (show 0 ≤ -a by omega) (show 0 ≤ -a by omega)
    rwa [Int.neg_mul_neg] at this
/-- A track that is where the tube is, is not outside. -/
theorem try_on {l : List Nd} (hc : tchk l = 0) {at' later : Int} {n : Nd} (hn : tat l at' = (n, 0)) (h0 : 0 ≤ at' + later) (h1 : at' + later ≤ 200000) : lateTry ⟨0, 0, at' + later, n.x, n.y, 0, 0, n.h, 0, 0, 0, 0, 0⟩ l later = true := by
  obtain ⟨g1, g2, ho, g3, g4⟩ := tat_ok hc hn
  have hw : w (at' + later - later) = at' := by rw [w_id (by omega) (by omega)]; omega
  unfold lateTry
  simp only
  rw [hw]
  have x0 := ho.x0; have x1 := ho.x1; have y0 := ho.y0; have y1 := ho.y1; have hh0 := ho.h0; have hh1 := ho.h1; have r0 := ho.r0; have r1 := ho.r1; have b0 := ho.b0; have b1 := ho.b1
  have hk : K.chk (K.at ⟨0, 0, at' + later, n.x, n.y, 0, 0, n.h, 0, 0, 0, 0, 0⟩ at') = 0 := by
    unfold K.chk K.at
    rw [if_neg]
    simp only [Bool.or_eq_true, decide_eq_true_eq]; omega
  have hcn : cnode (K.at ⟨0, 0, at' + later, n.x, n.y, 0, 0, n.h, 0, 0, 0, 0, 0⟩ at') l = (n, 0) := by
    unfold cnode
    rw [hk, if_neg (by decide)]
    unfold tAt
    rw [hc, if_neg (by decide)]
    exact hn
  have hcm : (cmpT (K.at ⟨0, 0, at' + later, n.x, n.y, 0, 0, n.h, 0, 0, 0, 0, 0⟩ at') l).2 = 0 ∧ (cmpT (K.at ⟨0, 0, at' + later, n.x, n.y, 0, 0, n.h, 0, 0, 0, 0, 0⟩ at') l).1 ≠ 2 := by
    unfold cmpT
    rw [hcn]
    simp only
    have e1 : w (n.r + 0) = n.r := by rw [Int.add_zero]; exact w_id (by omega) (by omega)
    have e2 : csq n.x n.y n.x n.y = 0 := by unfold csq; simp only [Int.sub_self]; decide
    have e3 : w (n.r * n.r) = n.r * n.r := by
      have k1 := Int.mul_le_mul (show n.r ≤ 1000000 by omega) (show n.r ≤ 1000000 by omega) r0 (by omega)
      have k2 := sq_nn' n.r
      exact w_id (by omega) (by omega)
    have e4 : w (n.h - n.h) = 0 := by simp only [Int.sub_self]; decide
    have e5 : w (n.b + 100) = n.b + 100 := w_id (by omega) (by omega)
    have k2 := sq_nn' n.r
    simp only [K.at, e1, e2, e3, e4, e5, bne_self_eq_false, Bool.false_eq_true, if_false]
    rw [if_neg (by simp only [Bool.or_eq_true, decide_eq_true_eq]; omega)]
    split
    · exact ⟨rfl, by decide⟩
    · exact ⟨rfl, by decide⟩
  have a1 : decide (at' < 0) = false := decide_eq_false (by omega)
  have a2 : decide (200000 < at') = false := decide_eq_false (by omega)
  rw [a1, a2, hcm.1]
  have a3 : ((cmpT (K.at ⟨0, 0, at' + later, n.x, n.y, 0, 0, n.h, 0, 0, 0, 0, 0⟩ at') l).1 != 2) = true := by simpa using hcm.2
  rw [a3]; rfl
theorem late_ok {l : List Nd} (hc : tchk l = 0) {at' later : Int} {n : Nd} (hn : tat l at' = (n, 0)) (h0 : 0 ≤ at' + later) (h1 : at' + later ≤ 200000) (l0 : -40 ≤ later) (l1 : later ≤ 40) :
    ∃ d, lateT ⟨0, 0, at' + later, n.x, n.y, 0, 0, n.h, 0, 0, 0, 0, 0⟩ l = (d, 0) ∧ -1000 ≤ d ∧ d ≤ 1000 ∧ max d (0 - d) ≤ max later (0 - later) := by
  obtain ⟨g1, g2, ho, g3, g4⟩ := tat_ok hc hn
  have x0 := ho.x0; have x1 := ho.x1; have y0 := ho.y0; have y1 := ho.y1; have hh0 := ho.h0; have hh1 := ho.h1
  have hk : K.chk ⟨0, 0, at' + later, n.x, n.y, 0, 0, n.h, 0, 0, 0, 0, 0⟩ = 0 := by
    unfold K.chk
    rw [if_neg]
    simp only [Bool.or_eq_true, decide_eq_true_eq]; omega
  unfold lateT
  rw [hk, hc, if_neg (by decide), if_neg (by decide)]
  have ht := try_on hc hn h0 h1
  have hm : ((later.natAbs : Nat) : Int) = later ∨ w (0 - ((later.natAbs : Nat) : Int)) = later := by
    rcases Int.le_total 0 later with h | h
    · exact Or.inl (by omega)
    · exact Or.inr (by rw [w_id (by omega) (by omega)]; omega)
  obtain ⟨d, h2, h3, h4⟩ := lgo_near (x := ⟨0, 0, at' + later, n.x, n.y, 0, 0, n.h, 0, 0, 0, 0, 0⟩) (l := l) (m := later.natAbs) 601 0 (by omega) (by omega) (by omega) (by
    rcases hm with h | h
    · rw [h]; exact Or.inl ht
    · rw [h]; exact Or.inr ht)
  exact ⟨d, h2, by omega, by omega, by omega⟩

theorem law (l : List Nd) (V : AV) (later at' : Int) (H : List Ob) (hs : SlL H V Nd.c 6 l) : ∃ r, ecall E 12 [V, .int .i64 later, .int .i64 at'] H = some (.bool true, r) := by
  refine call_true e12 rfl (Nat.le_of_ble_eq_true rfl) ?_
  have hlen := hs.len
  have hL1 : ∀ A, pcall E 37 [.agg (K.c ⟨0, 0, 50, 8000, 0, 0, 0, 5000, 0, 0, 0, 0, 0⟩), .sl false (H.length + 1) 0 6 0 2] (H ++ [A, ⟨flat Nd.c (lineL 10 300), 0, 6, true, true⟩]) = some (.tup [.int .i64 10, .int .i64 0]) := by
    intro A
    have h2 : SlL (H ++ [A, ⟨flat Nd.c (lineL 10 300), 0, 6, true, true⟩]) (.sl false (H.length + 1) 0 6 0 2) Nd.c 6 (lineL 10 300) :=
      ⟨fun _ => rfl, by decide, rfl, Or.inr ⟨_, 0, 0, ⟨flat Nd.c (lineL 10 300), 0, 6, true, true⟩, rfl, by simp [rdObj], by decide, rfl⟩⟩
    rw [late_pc h2]; rfl
  simp only [K.c] at hL1
  have hw1 := fun H => within_pc later (-40) 40 H (by decide)
  obtain ⟨l0, l1⟩ := wi_bd (n := later) (lo := -40) (hi := 40) (by decide) (by decide) (by decide)
  generalize wi later (-40) 40 = la at hw1 l0 l1
  have htc := fun x => tchk_pc (hs.keep x)
  by_cases hc : tchk l = 0
  · obtain ⟨hne, hok, hinc⟩ := tchk_ok hc
    have hl64 := tchk_len hc
    have hpos : 0 < l.length := List.length_pos_iff.2 hne
    have o0 := hok _ (nd_mem hpos)
    have o1 := hok _ (nd_mem (show l.length - 1 < l.length by omega))
    have hget : ∀ i, i < l.length → l[i]? = some (nd l i) := fun i hi => by rw [nd, List.getD_eq_getElem?_getD, List.getElem?_eq_getElem hi]; rfl
    have hmono : ∀ k : Nat, k < l.length → (nd l 0).t ≤ (nd l k).t := by
      intro k
      induction k with
      | zero => intro _; omega
      | succ k ih => intro hk; have := ih (by omega); have := hinc k hk; omega
    have hle := hmono (l.length - 1) (by omega)
    have t0 := o0.t0; have t1 := o1.t1
    have hwl : IntKind.i64.wrap ((l.length : Int) - 1) = ((l.length - 1 : Nat) : Int) := by rw [wrap64 (by omega) (by omega)]; omega
    have hok0 : idxOk 6 V (.int .i64 0) := hs.ok (by omega) (by omega)
    have hok1 : idxOk 6 V (.int .i64 ((l.length - 1 : Nat) : Int)) := hs.ok (by omega) (by omega)
    have hl0 : ∀ x, ld1A (H ++ x) (fadA (0 + 0) (idxV 6 V (.int .i64 0))) = _ := fun x => (hs.keep x).ldc (i := 0) (x := nd l 0) (by omega) (hget 0 hpos) (by decide)
    have hl1 : ∀ x, ld1A (H ++ x) (fadA (0 + 0) (idxV 6 V (.int .i64 ((l.length - 1 : Nat) : Int)))) = _ := fun x => (hs.keep x).ldc (x := nd l (l.length - 1)) (by omega) (by rw [Int.toNat_natCast]; exact hget (l.length - 1) (by omega)) (by decide)
    simp only [Nd.c, Nat.add_zero] at hl0 hl1
    have hw2 := fun H => within_pc at' (nd l 0).t (nd l (l.length - 1)).t H (wi_nz hle (by omega) (by omega))
    obtain ⟨a0, a1⟩ := wi_bd (n := at') (lo := (nd l 0).t) (hi := (nd l (l.length - 1)).t) hle (by omega) (by omega)
    generalize wi at' (nd l 0).t (nd l (l.length - 1)).t = ta at hw2 a0 a1
    have hat : ∀ x, pcall E 39 [V, .int .i64 ta] (H ++ x) = some (nout (tat l ta)) := fun x => by
      rw [tAt_pc (hs.keep x) ta]; unfold tAt; rw [hc]; rfl
    generalize hN : tat l ta = P at hat
    obtain ⟨n, e⟩ := P
    simp only [nout, Nd.c] at hat
    have hwt : IntKind.i64.wrap (ta + la) = ta + la := wrap64 (by omega) (by omega)
    by_cases hb : (e != 0 || decide (ta + la < 0) || decide (200000 < ta + la)) = true
    · have hc' : (tchk l != 0) = false := by simpa using hc
      simp (config := {maxSteps := 8000000}) only [c12, line_nc, rg_calln, ncallV_fn, hL1, htc, hc', hlen, hwl, hok0, hok1, isPtr_idx hok0, isPtr_idx hok1, hl0, hl1, hw1, hw2, hat, hwt, hb, Int.reduceLT, BEq.rfl, bne_self_eq_false, wc_seq, wc_reg, wc_cond_t, wc_cond_k, wc_blk, wc_loop, wc_exit, wc_ret, wc_skip, thenQ_n, thenQ_e, thenQ_r, leaveQ_n, leaveQ_e, leaveQ_r, exOk_n, exOk_r, rvq_nil, rvq_t, rvq_c1, rvq_cn, mkRes1, mkRes2, mkRes3, rg_nil, rg_gcall, rg_callp, avoids_nil, avoids_st, ptrId_ptr, apart_ptr, bne_self_eq_false, Nat.add_eq_left, Nat.left_eq_add, Nat.add_left_cancel_iff, decide_true, decide_false, decide_not, Nat.succ_ne_self, pcallV_fn, im_pcf, gv_pcf, im_pc10, gv_pc10, im_pc20, gv_pc20, im_pc21, gv_pc21, im_pc30, gv_pc30, im_pc31, gv_pc31, im_pc32, gv_pc32, im_pc40, gv_pc40, im_pc41, gv_pc41, im_pc42, gv_pc42, im_pc43, gv_pc43, im_pc50, gv_pc50, im_pc51, gv_pc51, im_pc52, gv_pc52, im_pc53, gv_pc53, im_pc54, gv_pc54, rg_new, rg_box, rg_mks, rg_st, rg_iad, rg_iadg, rg_q, rg_qg, updO_some, updO_none, ev_t, ev_k, upd_at, ofL_zero, ofL_succ, ofL_nil, qt_mv, qt_pick, qt_mk, qt_ld1, qt_ldn, qt_nchk, qt_bin, qt_eqs, qt_eqn, qt_un, qt_cvi, qt_cvs, qt_mkf, qt_slc, qt_slz, qt_sla, qt_sls, qt_fad, qt_fld1, qt_fldn, qt_iaa, qt_ixa, qt_ixs, qt_ext, qt_lenv, qt_lenc, qt_capv, qt_mnx, kq_mv, vq_mv, kq_pick, vq_pick, kq_fad, vq_fad, kq_ld1, vq_ld1, kq_ldn, vq_ldn, kq_bin, vq_bin, kq_un, vq_un, kq_ext, vq_ext, kq_nchk, vq_nchk, kq_mk, vq_mk, kq_eqb, vq_eqb, kq_eqs, vq_eqs, kq_eqn, vq_eqn, kq_cvi, vq_cvi, kq_mkf, vq_mkf, kq_slc, vq_slc, kq_fld1, vq_fld1, kq_fldn, vq_fldn, kq_lenv, vq_lenv, kq_lenc, vq_lenc, kq_mnx, vq_mnx, isPtr_ptr, isBool_bool, bv_bool, fadA_ptr, ld1A_ptr, ldnA_ptr, getC_zero, getC_succ, cells_agg, cells_int, cells_bool, cells_str, cells_sl, cells_ptr, isTup_agg, isTup_int, isTup_bool, isTup_str, isTup_sl, isTup_ptr, sc_int, sc_bool, sc_str, pick_t, pick_f, nchkA_ptr, nchkA_fn, lay_nil, lay_cons, wr_def, eqbA_b, eqsA_agg, aeqs_nil, aeqs_i, aeqs_b, aeqs_s, eqnA_sl, eqnA_s0, cviA_i, obd_none, obd_some, toI_int, fld1A_agg, fldnA_agg, lenvA_sl, lenvA_s0, lenvA_str, amn_nil, amn_max, amn_min, idxOk_sl, idxV_sl, abin_add, abin_sub, abin_mul, abin_quo, abin_rem, abin_eql, abin_neq, abin_lss, abin_leq, abin_gtr, abin_geq, abin_seql, abin_sneq, aun_neg, aun_not, aext_tup, im_true, im_fad, im_ld1, im_ldn, im_binl, im_binr, im_un, im_bool, im_ext, gv_gv, gv_fad, gv_ld1, gv_ldn, gv_binl, gv_binr, gv_un, gv_ext, gv_pick, pick_or, pick_and, rd_new, rd_new0, rd_cons0, rd_consS, obOf, stOk_ptr, stH_ptr, put_new, put_new0, put_0, put_s, List.all_cons, List.all_nil, List.map_cons, List.map_nil, List.length_cons, List.length_nil, List.take_zero, List.take_succ_cons, List.take_nil, List.drop_zero, List.drop_succ_cons, List.drop_nil, Nat.reduceAdd, Nat.reduceMul, Nat.reduceSub, if_true, Nat.reduceLT, Nat.reduceLeDiff, ite_true, ite_false, Nat.reduceEqDiff, if_false, Bool.not_false, Bool.not_true, Bool.and_true, Bool.true_and, Bool.false_and, Bool.and_false, Bool.or_true, Bool.true_or, Bool.or_false, Bool.false_or, reduceCtorEq, ne_eq, not_false_eq_true, not_true_eq_false, List.getD, List.getElem?_cons_zero, List.getElem?_cons_succ, Option.getD_some, Option.bind_some, Option.map_some, Option.isSome_some, Nat.zero_add, Nat.add_zero, Bool.false_eq_true, reduceIte, List.length_append, List.append_assoc, List.cons_append, List.nil_append, true_and, and_true, and_self, Nat.le_refl, Nat.le_add_right, Option.some.injEq, true_implies, false_implies, forall_const, implies_true, Int.reduceNeg, avoids_none, eq_self, Prod.mk.injEq, AV.fn.injEq, List.self_eq_append_right, List.append_nil, exists_eq_left, exists_eq_left', exists_and_left, exists_eq_right, exists_and_right, and_assoc, List.cons_append, List.nil_append, List.map_cons, List.map_nil, gd_tt, gd_tf, gd_ft, gd_ff, im_t, im_f, gv_t, gv_f, im_eqbl, im_eqbr, gv_eqbl, gv_eqbr, im_eqsl, im_eqsr, gv_eqsl, gv_eqsr, im_eqn, gv_eqn, im_cvi, gv_cvi, im_fld1, gv_fld1, im_fldn, gv_fldn, im_lenv, gv_lenv, wnt_bool, wnt_gv, wnt_und, gv_pk1, gv_pk2, rg_appk, idx_gl, idx_gr, iok_gl, iok_gr, isPtr_fad, fad_fad, kq_ixa, vq_ixa, ixaA_0, ixaA_1]
    · have hb' : (e != 0 || decide (ta + la < 0) || decide (200000 < ta + la)) = false := by simpa using hb
      simp only [Bool.or_eq_true, decide_eq_true_eq, bne_iff_ne, ne_eq, not_or, Int.not_lt, Classical.not_not] at hb
      obtain ⟨⟨rfl, b1⟩, b2⟩ := hb
      obtain ⟨d, k1, k2, k3, k4⟩ := late_ok hc hN b1 b2 l0 l1
      have hL2 := fun x => late_pc (hs.keep x) ⟨0, 0, ta + la, n.x, n.y, 0, 0, n.h, 0, 0, 0, 0, 0⟩
      simp only [k1, iout, K.c] at hL2
      have hd : IntKind.i64.wrap (0 - d) = 0 - d := wrap64 (by omega) (by omega)
      have hla : IntKind.i64.wrap (0 - la) = 0 - la := wrap64 (by omega) (by omega)
      have hfin : decide (max d (0 - d) ≤ max la (0 - la)) = true := decide_eq_true k4
      have hc' : (tchk l != 0) = false := by simpa using hc
      simp (config := {maxSteps := 8000000}) only [c12, line_nc, rg_calln, ncallV_fn, hL1, hL2, htc, hc', hlen, hwl, hok0, hok1, isPtr_idx hok0, isPtr_idx hok1, hl0, hl1, hw1, hw2, hat, hwt, hb', hd, hla, hfin, Int.reduceLT, BEq.rfl, bne_self_eq_false, wc_seq, wc_reg, wc_cond_t, wc_cond_k, wc_blk, wc_loop, wc_exit, wc_ret, wc_skip, thenQ_n, thenQ_e, thenQ_r, leaveQ_n, leaveQ_e, leaveQ_r, exOk_n, exOk_r, rvq_nil, rvq_t, rvq_c1, rvq_cn, mkRes1, mkRes2, mkRes3, rg_nil, rg_gcall, rg_callp, avoids_nil, avoids_st, ptrId_ptr, apart_ptr, bne_self_eq_false, Nat.add_eq_left, Nat.left_eq_add, Nat.add_left_cancel_iff, decide_true, decide_false, decide_not, Nat.succ_ne_self, pcallV_fn, im_pcf, gv_pcf, im_pc10, gv_pc10, im_pc20, gv_pc20, im_pc21, gv_pc21, im_pc30, gv_pc30, im_pc31, gv_pc31, im_pc32, gv_pc32, im_pc40, gv_pc40, im_pc41, gv_pc41, im_pc42, gv_pc42, im_pc43, gv_pc43, im_pc50, gv_pc50, im_pc51, gv_pc51, im_pc52, gv_pc52, im_pc53, gv_pc53, im_pc54, gv_pc54, rg_new, rg_box, rg_mks, rg_st, rg_iad, rg_iadg, rg_q, rg_qg, updO_some, updO_none, ev_t, ev_k, upd_at, ofL_zero, ofL_succ, ofL_nil, qt_mv, qt_pick, qt_mk, qt_ld1, qt_ldn, qt_nchk, qt_bin, qt_eqs, qt_eqn, qt_un, qt_cvi, qt_cvs, qt_mkf, qt_slc, qt_slz, qt_sla, qt_sls, qt_fad, qt_fld1, qt_fldn, qt_iaa, qt_ixa, qt_ixs, qt_ext, qt_lenv, qt_lenc, qt_capv, qt_mnx, kq_mv, vq_mv, kq_pick, vq_pick, kq_fad, vq_fad, kq_ld1, vq_ld1, kq_ldn, vq_ldn, kq_bin, vq_bin, kq_un, vq_un, kq_ext, vq_ext, kq_nchk, vq_nchk, kq_mk, vq_mk, kq_eqb, vq_eqb, kq_eqs, vq_eqs, kq_eqn, vq_eqn, kq_cvi, vq_cvi, kq_mkf, vq_mkf, kq_slc, vq_slc, kq_fld1, vq_fld1, kq_fldn, vq_fldn, kq_lenv, vq_lenv, kq_lenc, vq_lenc, kq_mnx, vq_mnx, isPtr_ptr, isBool_bool, bv_bool, fadA_ptr, ld1A_ptr, ldnA_ptr, getC_zero, getC_succ, cells_agg, cells_int, cells_bool, cells_str, cells_sl, cells_ptr, isTup_agg, isTup_int, isTup_bool, isTup_str, isTup_sl, isTup_ptr, sc_int, sc_bool, sc_str, pick_t, pick_f, nchkA_ptr, nchkA_fn, lay_nil, lay_cons, wr_def, eqbA_b, eqsA_agg, aeqs_nil, aeqs_i, aeqs_b, aeqs_s, eqnA_sl, eqnA_s0, cviA_i, obd_none, obd_some, toI_int, fld1A_agg, fldnA_agg, lenvA_sl, lenvA_s0, lenvA_str, amn_nil, amn_max, amn_min, idxOk_sl, idxV_sl, abin_add, abin_sub, abin_mul, abin_quo, abin_rem, abin_eql, abin_neq, abin_lss, abin_leq, abin_gtr, abin_geq, abin_seql, abin_sneq, aun_neg, aun_not, aext_tup, im_true, im_fad, im_ld1, im_ldn, im_binl, im_binr, im_un, im_bool, im_ext, gv_gv, gv_fad, gv_ld1, gv_ldn, gv_binl, gv_binr, gv_un, gv_ext, gv_pick, pick_or, pick_and, rd_new, rd_new0, rd_cons0, rd_consS, obOf, stOk_ptr, stH_ptr, put_new, put_new0, put_0, put_s, List.all_cons, List.all_nil, List.map_cons, List.map_nil, List.length_cons, List.length_nil, List.take_zero, List.take_succ_cons, List.take_nil, List.drop_zero, List.drop_succ_cons, List.drop_nil, Nat.reduceAdd, Nat.reduceMul, Nat.reduceSub, if_true, Nat.reduceLT, Nat.reduceLeDiff, ite_true, ite_false, Nat.reduceEqDiff, if_false, Bool.not_false, Bool.not_true, Bool.and_true, Bool.true_and, Bool.false_and, Bool.and_false, Bool.or_true, Bool.true_or, Bool.or_false, Bool.false_or, reduceCtorEq, ne_eq, not_false_eq_true, not_true_eq_false, List.getD, List.getElem?_cons_zero, List.getElem?_cons_succ, Option.getD_some, Option.bind_some, Option.map_some, Option.isSome_some, Nat.zero_add, Nat.add_zero, Bool.false_eq_true, reduceIte, List.length_append, List.append_assoc, List.cons_append, List.nil_append, true_and, and_true, and_self, Nat.le_refl, Nat.le_add_right, Option.some.injEq, true_implies, false_implies, forall_const, implies_true, Int.reduceNeg, avoids_none, eq_self, Prod.mk.injEq, AV.fn.injEq, List.self_eq_append_right, List.append_nil, exists_eq_left, exists_eq_left', exists_and_left, exists_eq_right, exists_and_right, and_assoc, List.cons_append, List.nil_append, List.map_cons, List.map_nil, gd_tt, gd_tf, gd_ft, gd_ff, im_t, im_f, gv_t, gv_f, im_eqbl, im_eqbr, gv_eqbl, gv_eqbr, im_eqsl, im_eqsr, gv_eqsl, gv_eqsr, im_eqn, gv_eqn, im_cvi, gv_cvi, im_fld1, gv_fld1, im_fldn, gv_fldn, im_lenv, gv_lenv, wnt_bool, wnt_gv, wnt_und, gv_pk1, gv_pk2, rg_appk, idx_gl, idx_gr, iok_gl, iok_gr, isPtr_fad, fad_fad, kq_ixa, vq_ixa, ixaA_0, ixaA_1]
  · have hc' : (tchk l != 0) = true := by simpa using hc
    simp (config := {maxSteps := 8000000}) only [c12, line_nc, rg_calln, ncallV_fn, hL1, htc, hc', Int.reduceLT, BEq.rfl, bne_self_eq_false, wc_seq, wc_reg, wc_cond_t, wc_cond_k, wc_blk, wc_loop, wc_exit, wc_ret, wc_skip, thenQ_n, thenQ_e, thenQ_r, leaveQ_n, leaveQ_e, leaveQ_r, exOk_n, exOk_r, rvq_nil, rvq_t, rvq_c1, rvq_cn, mkRes1, mkRes2, mkRes3, rg_nil, rg_gcall, rg_callp, avoids_nil, avoids_st, ptrId_ptr, apart_ptr, bne_self_eq_false, Nat.add_eq_left, Nat.left_eq_add, Nat.add_left_cancel_iff, decide_true, decide_false, decide_not, Nat.succ_ne_self, pcallV_fn, im_pcf, gv_pcf, im_pc10, gv_pc10, im_pc20, gv_pc20, im_pc21, gv_pc21, im_pc30, gv_pc30, im_pc31, gv_pc31, im_pc32, gv_pc32, im_pc40, gv_pc40, im_pc41, gv_pc41, im_pc42, gv_pc42, im_pc43, gv_pc43, im_pc50, gv_pc50, im_pc51, gv_pc51, im_pc52, gv_pc52, im_pc53, gv_pc53, im_pc54, gv_pc54, rg_new, rg_box, rg_mks, rg_st, rg_iad, rg_iadg, rg_q, rg_qg, updO_some, updO_none, ev_t, ev_k, upd_at, ofL_zero, ofL_succ, ofL_nil, qt_mv, qt_pick, qt_mk, qt_ld1, qt_ldn, qt_nchk, qt_bin, qt_eqs, qt_eqn, qt_un, qt_cvi, qt_cvs, qt_mkf, qt_slc, qt_slz, qt_sla, qt_sls, qt_fad, qt_fld1, qt_fldn, qt_iaa, qt_ixa, qt_ixs, qt_ext, qt_lenv, qt_lenc, qt_capv, qt_mnx, kq_mv, vq_mv, kq_pick, vq_pick, kq_fad, vq_fad, kq_ld1, vq_ld1, kq_ldn, vq_ldn, kq_bin, vq_bin, kq_un, vq_un, kq_ext, vq_ext, kq_nchk, vq_nchk, kq_mk, vq_mk, kq_eqb, vq_eqb, kq_eqs, vq_eqs, kq_eqn, vq_eqn, kq_cvi, vq_cvi, kq_mkf, vq_mkf, kq_slc, vq_slc, kq_fld1, vq_fld1, kq_fldn, vq_fldn, kq_lenv, vq_lenv, kq_lenc, vq_lenc, kq_mnx, vq_mnx, isPtr_ptr, isBool_bool, bv_bool, fadA_ptr, ld1A_ptr, ldnA_ptr, getC_zero, getC_succ, cells_agg, cells_int, cells_bool, cells_str, cells_sl, cells_ptr, isTup_agg, isTup_int, isTup_bool, isTup_str, isTup_sl, isTup_ptr, sc_int, sc_bool, sc_str, pick_t, pick_f, nchkA_ptr, nchkA_fn, lay_nil, lay_cons, wr_def, eqbA_b, eqsA_agg, aeqs_nil, aeqs_i, aeqs_b, aeqs_s, eqnA_sl, eqnA_s0, cviA_i, obd_none, obd_some, toI_int, fld1A_agg, fldnA_agg, lenvA_sl, lenvA_s0, lenvA_str, amn_nil, amn_max, amn_min, idxOk_sl, idxV_sl, abin_add, abin_sub, abin_mul, abin_quo, abin_rem, abin_eql, abin_neq, abin_lss, abin_leq, abin_gtr, abin_geq, abin_seql, abin_sneq, aun_neg, aun_not, aext_tup, im_true, im_fad, im_ld1, im_ldn, im_binl, im_binr, im_un, im_bool, im_ext, gv_gv, gv_fad, gv_ld1, gv_ldn, gv_binl, gv_binr, gv_un, gv_ext, gv_pick, pick_or, pick_and, rd_new, rd_new0, rd_cons0, rd_consS, obOf, stOk_ptr, stH_ptr, put_new, put_new0, put_0, put_s, List.all_cons, List.all_nil, List.map_cons, List.map_nil, List.length_cons, List.length_nil, List.take_zero, List.take_succ_cons, List.take_nil, List.drop_zero, List.drop_succ_cons, List.drop_nil, Nat.reduceAdd, Nat.reduceMul, Nat.reduceSub, if_true, Nat.reduceLT, Nat.reduceLeDiff, ite_true, ite_false, Nat.reduceEqDiff, if_false, Bool.not_false, Bool.not_true, Bool.and_true, Bool.true_and, Bool.false_and, Bool.and_false, Bool.or_true, Bool.true_or, Bool.or_false, Bool.false_or, reduceCtorEq, ne_eq, not_false_eq_true, not_true_eq_false, List.getD, List.getElem?_cons_zero, List.getElem?_cons_succ, Option.getD_some, Option.bind_some, Option.map_some, Option.isSome_some, Nat.zero_add, Nat.add_zero, Bool.false_eq_true, reduceIte, List.length_append, List.append_assoc, List.cons_append, List.nil_append, true_and, and_true, and_self, Nat.le_refl, Nat.le_add_right, Option.some.injEq, true_implies, false_implies, forall_const, implies_true, Int.reduceNeg, avoids_none, eq_self, Prod.mk.injEq, AV.fn.injEq, List.self_eq_append_right, List.append_nil, exists_eq_left, exists_eq_left', exists_and_left, exists_eq_right, exists_and_right, and_assoc, List.cons_append, List.nil_append, List.map_cons, List.map_nil, gd_tt, gd_tf, gd_ft, gd_ff, im_t, im_f, gv_t, gv_f, im_eqbl, im_eqbr, gv_eqbl, gv_eqbr, im_eqsl, im_eqsr, gv_eqsl, gv_eqsr, im_eqn, gv_eqn, im_cvi, gv_cvi, im_fld1, gv_fld1, im_fldn, gv_fldn, im_lenv, gv_lenv, wnt_bool, wnt_gv, wnt_und, gv_pk1, gv_pk2, rg_appk, idx_gl, idx_gr, iok_gl, iok_gr, isPtr_fad, fad_fad, kq_ixa, vq_ixa, ixaA_0, ixaA_1]
theorem dv_Nd (d : DV) (h : goodD (.st [.st [.int .i64, .st [.int .i64, .int .i64], .int .i64], .int .i64, .int .i64]) d) : ∃ x : Nd, (fun _ => True) x ∧ ∀ n, layD n (.st [.st [.int .i64, .st [.int .i64, .int .i64], .int .i64], .int .i64, .int .i64]) d = (Nd.c x, []) := by
  obtain ⟨l1, rfl, q1⟩ := good_st h
  obtain ⟨d1_0, r1_0, rfl, h1_0, g1_0⟩ := goodL_cons q1
  obtain ⟨l2, rfl, q2⟩ := good_st h1_0
  obtain ⟨d2_0, r2_0, rfl, h2_0, g2_0⟩ := goodL_cons q2
  obtain ⟨n3, rfl, lo3, hi3⟩ := good_i64 h2_0
  obtain ⟨d2_1, r2_1, rfl, h2_1, g2_1⟩ := goodL_cons g2_0
  obtain ⟨l4, rfl, q4⟩ := good_st h2_1
  obtain ⟨d4_0, r4_0, rfl, h4_0, g4_0⟩ := goodL_cons q4
  obtain ⟨n5, rfl, lo5, hi5⟩ := good_i64 h4_0
  obtain ⟨d4_1, r4_1, rfl, h4_1, g4_1⟩ := goodL_cons g4_0
  obtain ⟨n6, rfl, lo6, hi6⟩ := good_i64 h4_1
  obtain rfl := goodL_nil g4_1
  obtain ⟨d2_2, r2_2, rfl, h2_2, g2_2⟩ := goodL_cons g2_1
  obtain ⟨n7, rfl, lo7, hi7⟩ := good_i64 h2_2
  obtain rfl := goodL_nil g2_2
  obtain ⟨d1_1, r1_1, rfl, h1_1, g1_1⟩ := goodL_cons g1_0
  obtain ⟨n8, rfl, lo8, hi8⟩ := good_i64 h1_1
  obtain ⟨d1_2, r1_2, rfl, h1_2, g1_2⟩ := goodL_cons g1_1
  obtain ⟨n9, rfl, lo9, hi9⟩ := good_i64 h1_2
  obtain rfl := goodL_nil g1_2
  exact ⟨⟨n3, n5, n6, n7, n8, n9⟩, trivial, fun n => rfl⟩

theorem proved : Pure := by
  intro xs hg
  obtain ⟨e0, s0, rfl, u0, v0⟩ := goodL_cons hg
  obtain ⟨x0, p0, b0, k0⟩ := in_sl (c := Nd.c) dv_Nd (fun x => rfl) (by decide) u0
  obtain ⟨w0, o0, e0', r0⟩ := k0 (0)
  obtain ⟨e1, s1, rfl, u1, v1⟩ := goodL_cons v0
  obtain ⟨n10, rfl, lo10, hi10⟩ := good_i64 u1
  obtain ⟨e2, s2, rfl, u2, v2⟩ := goodL_cons v1
  obtain ⟨n11, rfl, lo11, hi11⟩ := good_i64 u2
  obtain rfl := goodL_nil v2
  have := law x0 w0 n10 n11 (o0) (by have := r0 ([] : List Ob) [] (by simp); simp only [List.append_nil, List.nil_append, List.append_assoc] at this; exact this)
  simpa only [layA, layD, layL, argA, shapes, e0', List.nil_append, List.cons_append, List.append_nil, List.append_assoc, List.length_nil, List.length_append, Nat.add_zero, Nat.zero_add, List.headD_cons] using this

end Go.Proofs.Ytehgapcmngdcnaa.MyConformLate
