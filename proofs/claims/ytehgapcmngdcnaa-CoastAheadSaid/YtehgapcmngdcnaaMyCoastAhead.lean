/- The law CoastAhead: the abstract machine answers true. No condition. -/
import Derived.Test.YtehgapcmngdcnaaInCoastAhead
import Derived.Test.YtehgapcmngdcnaaEvaY
import Derived.Test.YtehgapcmngdcnaaFlG
namespace Go.Proofs.Ytehgapcmngdcnaa.MyCoastAhead
open Go Go.Proofs.Ytehgapcmngdcnaa.Eva Go.Proofs.Ytehgapcmngdcnaa.CodeAll Go.Proofs.Ytehgapcmngdcnaa.InCoastAhead Go.Proofs.Ytehgapcmngdcnaa.Fl
set_option linter.unusedVariables false
set_option linter.unusedSimpArgs false
set_option maxRecDepth 10000
set_option maxHeartbeats 4000000

theorem first_nc (H : List Ob) : ncall E 25 [.agg [.int .i64 0, .int .i64 0, .int .i64 0, .int .i64 0, .int .i64 0, .int .i64 0, .int .i64 0, .int .i64 0, .int .i64 0, .int .i64 0, .int .i64 0, .int .i64 0, .int .i64 0, .int .i64 0, .int .i64 0, .int .i64 0, .int .i64 0, .int .i64 0, .int .i64 0, .int .i64 0], .int .i64 2, .int .i64 0] H =
    some (.tup [.sl false H.length 0 20 0 2, .int .i64 0], [⟨flat T.c (T.preds T.zero 0 2), 0, 20, true, true⟩]) := by
  have h := ahead_run T.zero 2 0 H
  have e : T.zero.ahead 2 0 = (2, 0) := by rfl
  rw [e] at h
  exact ncall_some.2 h
theorem first_rad : getC (flat T.c (T.preds T.zero 0 2)) (20 + 9) = some (.int .i64 2) := rfl

theorem law (f : T) (seconds radius accel : Int) (H : List Ob) : ∃ r, ecall E 7 [.agg f.c, .int .i64 seconds, .int .i64 radius, .int .i64 accel] H = some (.bool true, r) := by
  refine call_true e7 rfl (Nat.le_of_ble_eq_true rfl) ?_
  have hw := fun H => within_pc seconds 0 60 H (by decide)
  obtain ⟨s0, s1⟩ := wi_bd (n := seconds) (lo := 0) (hi := 60) (by decide) (by decide) (by decide)
  generalize wi seconds 0 60 = s at hw s0 s1
  have hA : ∀ H, ncall E 25 [.agg f.c, .int .i64 s, .int .i64 accel] H = some (.tup [outV H.length 20 (f.ahead s accel).1, .int .i64 (f.ahead s accel).2], outO 20 (f.ahead s accel).1 (flat T.c (f.preds accel (f.ahead s accel).1))) := fun H => ncall_some.2 (ahead_run f s accel H)
  have hL : ∀ H, pcall E 26 [.agg f.c, .int .i64 radius, .int .i64 accel] H = some (.tup [.int .i64 (f.lost radius accel).1, .int .i64 (f.lost radius accel).2]) := fun H => pcall_some.2 (lost_run f radius accel H)
  generalize hR : f.ahead s accel = R at hA
  generalize hM : f.lost radius accel = M at hL
  obtain ⟨m, e⟩ := R
  obtain ⟨n, x⟩ := M
  simp only [T.c] at hA hL
  have hlen : ∀ k, lenvA false (outV k 20 m) = some (.int .i64 m) := fun k => by
    unfold outV
    split
    · rename_i h; subst h; rfl
    · rfl
  simp (config := {maxSteps := 8000000}) only [c7, T.c, first_nc, first_rad, rg_calln, ncallV_fn, hw, hA, hL, hlen, Int.reduceBNe, Int.reduceToNat, Int.reduceLE, Int.reduceLT, Int.cast_ofNat_Int, wc_seq, wc_reg, wc_cond_t, wc_cond_k, wc_blk, wc_loop, wc_exit, wc_ret, wc_skip, thenQ_n, thenQ_e, thenQ_r, leaveQ_n, leaveQ_e, leaveQ_r, exOk_n, exOk_r, rvq_nil, rvq_t, rvq_c1, rvq_cn, mkRes1, mkRes2, mkRes3, rg_nil, rg_gcall, rg_callp, avoids_nil, avoids_st, ptrId_ptr, apart_ptr, bne_self_eq_false, Nat.add_eq_left, Nat.left_eq_add, Nat.add_left_cancel_iff, decide_true, decide_false, decide_not, Nat.succ_ne_self, pcallV_fn, im_pcf, gv_pcf, im_pc10, gv_pc10, im_pc20, gv_pc20, im_pc21, gv_pc21, im_pc30, gv_pc30, im_pc31, gv_pc31, im_pc32, gv_pc32, im_pc40, gv_pc40, im_pc41, gv_pc41, im_pc42, gv_pc42, im_pc43, gv_pc43, im_pc50, gv_pc50, im_pc51, gv_pc51, im_pc52, gv_pc52, im_pc53, gv_pc53, im_pc54, gv_pc54, rg_new, rg_box, rg_mks, rg_st, rg_iad, rg_iadg, rg_q, rg_qg, updO_some, updO_none, ev_t, ev_k, upd_at, ofL_zero, ofL_succ, ofL_nil, qt_mv, qt_pick, qt_mk, qt_ld1, qt_ldn, qt_nchk, qt_bin, qt_eqs, qt_eqn, qt_un, qt_cvi, qt_cvs, qt_mkf, qt_slc, qt_slz, qt_sla, qt_sls, qt_fad, qt_fld1, qt_fldn, qt_iaa, qt_ixa, qt_ixs, qt_ext, qt_lenv, qt_lenc, qt_capv, qt_mnx, kq_mv, vq_mv, kq_pick, vq_pick, kq_fad, vq_fad, kq_ld1, vq_ld1, kq_ldn, vq_ldn, kq_bin, vq_bin, kq_un, vq_un, kq_ext, vq_ext, kq_nchk, vq_nchk, kq_mk, vq_mk, kq_eqb, vq_eqb, kq_eqs, vq_eqs, kq_eqn, vq_eqn, kq_cvi, vq_cvi, kq_mkf, vq_mkf, kq_slc, vq_slc, kq_fld1, vq_fld1, kq_fldn, vq_fldn, kq_lenv, vq_lenv, kq_lenc, vq_lenc, kq_mnx, vq_mnx, isPtr_ptr, isBool_bool, bv_bool, fadA_ptr, ld1A_ptr, ldnA_ptr, getC_zero, getC_succ, cells_agg, cells_int, cells_bool, cells_str, cells_sl, cells_ptr, isTup_agg, isTup_int, isTup_bool, isTup_str, isTup_sl, isTup_ptr, sc_int, sc_bool, sc_str, pick_t, pick_f, nchkA_ptr, nchkA_fn, lay_nil, lay_cons, wr_def, eqbA_b, eqsA_agg, aeqs_nil, aeqs_i, aeqs_b, aeqs_s, eqnA_sl, eqnA_s0, cviA_i, obd_none, obd_some, toI_int, fld1A_agg, fldnA_agg, lenvA_sl, lenvA_s0, lenvA_str, amn_nil, amn_max, amn_min, idxOk_sl, idxV_sl, abin_add, abin_sub, abin_mul, abin_quo, abin_rem, abin_eql, abin_neq, abin_lss, abin_leq, abin_gtr, abin_geq, abin_seql, abin_sneq, aun_neg, aun_not, aext_tup, im_true, im_fad, im_ld1, im_ldn, im_binl, im_binr, im_un, im_bool, im_ext, gv_gv, gv_fad, gv_ld1, gv_ldn, gv_binl, gv_binr, gv_un, gv_ext, gv_pick, pick_or, pick_and, rd_new, rd_new0, rd_cons0, rd_consS, obOf, stOk_ptr, stH_ptr, put_new, put_new0, put_0, put_s, List.all_cons, List.all_nil, List.map_cons, List.map_nil, List.length_cons, List.length_nil, List.take_zero, List.take_succ_cons, List.take_nil, List.drop_zero, List.drop_succ_cons, List.drop_nil, Nat.reduceAdd, Nat.reduceMul, Nat.reduceSub, if_true, Nat.reduceLT, Nat.reduceLeDiff, ite_true, ite_false, Nat.reduceEqDiff, if_false, Bool.not_false, Bool.not_true, Bool.and_true, Bool.true_and, Bool.false_and, Bool.and_false, Bool.or_true, Bool.true_or, Bool.or_false, Bool.false_or, reduceCtorEq, ne_eq, not_false_eq_true, not_true_eq_false, List.getD, List.getElem?_cons_zero, List.getElem?_cons_succ, Option.getD_some, Option.bind_some, Option.map_some, Option.isSome_some, Nat.zero_add, Nat.add_zero, Bool.false_eq_true, reduceIte, List.length_append, List.append_assoc, List.cons_append, List.nil_append, true_and, and_true, and_self, Nat.le_refl, Nat.le_add_right, Option.some.injEq, true_implies, false_implies, forall_const, implies_true, Int.reduceNeg, avoids_none, eq_self, Prod.mk.injEq, AV.fn.injEq, List.self_eq_append_right, List.append_nil, exists_eq_left, exists_eq_left', exists_and_left, exists_eq_right, exists_and_right, and_assoc, List.cons_append, List.nil_append, List.map_cons, List.map_nil, gd_tt, gd_tf, gd_ft, gd_ff, im_t, im_f, gv_t, gv_f, im_eqbl, im_eqbr, gv_eqbl, gv_eqbr, im_eqsl, im_eqsr, gv_eqsl, gv_eqsr, im_eqn, gv_eqn, im_cvi, gv_cvi, im_fld1, gv_fld1, im_fldn, gv_fldn, im_lenv, gv_lenv, wnt_bool, wnt_gv, wnt_und, gv_pk1, gv_pk2, rg_appk, idx_gl, idx_gr, iok_gl, iok_gr, isPtr_fad, fad_fad, kq_ixa, vq_ixa, ixaA_0, ixaA_1]
  refine ⟨fun he => ?_, fun he => ?_⟩
  · have := ahead_err hR (by simpa using he)
    subst this; rfl
  have he' : e = 0 := by simpa using he
  subst he'
  obtain ⟨hf, _, hms, _, hpr⟩ := ahead_ok hR
  have ht0 := hf.ti0; have ht1 := hf.ti1
  refine W_loop (fun q f1 h1 => ∃ j : Nat, q = m - j ∧ j ≤ m ∧ f1 1 = .int .i64 s ∧ f1 2 = .int .i64 radius ∧ f1 3 = .int .i64 accel ∧ f1 4 = .ptr H.length 0 0 ∧ f1 13 = .int .i64 n ∧ f1 14 = .int .i64 x ∧ f1 61 = .int .i64 m ∧ f1 62 = .int .i64 j ∧ f1 60 = f1 11 ∧
    rdObj h1 H.length 0 = some ⟨f.c, 0, 0, true, true⟩ ∧ SlL h1 (f1 11) T.c 20 (f.preds accel m)) (by simp) m ⟨0, rfl, Nat.zero_le _, rfl, rfl, rfl, rfl, rfl, rfl, rfl, rfl, rfl, ?_, fun x => rfl, by decide, ?_⟩ ?_
  · simp [rdObj, T.c]
  · have := out_rd (h := H ++ [⟨f.c, 0, 0, true, true⟩, ⟨flat T.c (T.preds T.zero 0 2), 0, 20, true, true⟩]) (sz := 20) (k := m) (cs := flat T.c (f.preds accel m)) (by rw [flat_len (k := 20) (fun x => rfl)]; simp [T.preds])
    have hl : (f.preds accel m).length = m := by simp [T.preds]
    rw [hl]
    refine (?_ : RdL _ (outV (H.length + 2) 20 m) 20 _ m)
    simpa [T.c] using this
  rintro q f1 h1 hn1 _ ⟨j, rfl, hj, e1, e2, e3, e4, e13, e14, e61, e62, e60, r4, hs⟩
  have r4' : ∀ l, rdObj (h1 ++ l) H.length 0 = _ := fun l => rd_keep r4
  simp only [T.c] at r4 r4'
  have hLl : (f.preds accel m).length = m := by simp [T.preds]
  have hlen1 : lenvA false (f1 11) = some (.int .i64 m) := by rw [hs.len, hLl]
  by_cases hjm : j < m
  · have hjm' : decide ((j : Int) < (m : Int)) = true := by simpa using hjm
    have hwj : IntKind.i64.wrap ((j : Int) + 1) = ((j + 1 : Nat) : Int) := by rw [wrap64 (by omega) (by omega)]; omega
    have hwt : IntKind.i64.wrap (IntKind.i64.wrap (f.ti + (j : Int)) + 1) = w (f.ti + ((j : Int) + 1)) := by
      rw [wrap64 (x := f.ti + (j : Int)) (by omega) (by omega), Int.add_assoc]
    have hwt2 : w (f.ti + ((j : Int) + 1)) = f.ti + ((j : Int) + 1) := w_id (by omega) (by omega)
    have hp0 := hpr j hjm
    have hp := pred_pc f (w (f.ti + ((j : Int) + 1))) accel
    have hLj : (f.preds accel m)[j]? = some (f.pred (w (f.ti + ((j : Int) + 1))) accel).1 := by simp [T.preds, hjm]
    have hrel : x = 0 → decide (radius < (f.pred (w (f.ti + ((j : Int) + 1))) accel).1.rad) = decide (n ≤ ((j + 1 : Nat) : Int)) := by
      intro hx
      subst hx
      obtain ⟨_, k, rfl, hk, k1, k2, k3⟩ := lost_ok hM
      rw [decide_eq_decide]
      constructor
      · intro hr
        by_cases hle : j + 1 < k
        · have := (k3 (j + 1) hle).2
          have e : f.ti + ((j + 1 : Nat) : Int) = f.ti + ((j : Int) + 1) := by omega
          rw [e] at this; omega
        · omega
      · intro hr
        have g1 : f.pred (w (f.ti + (k : Int))) accel = ((f.pred (w (f.ti + (k : Int))) accel).1, 0) := by rw [← k1]
        have g2 : f.pred (w (f.ti + ((j : Int) + 1))) accel = ((f.pred (w (f.ti + ((j : Int) + 1))) accel).1, 0) := by rw [← hp0]
        have hwk : w (f.ti + (k : Int)) = f.ti + (k : Int) := w_id (by omega) (by omega)
        have := pred_grow g1 g2 (by rw [hwk, hwt2]; omega)
        omega
    have hmono : 0 < j → (f.pred (w (f.ti + (((j - 1 : Nat) : Int) + 1))) accel).1.rad ≤ (f.pred (w (f.ti + ((j : Int) + 1))) accel).1.rad := by
      intro hj0
      have k1 := hpr (j - 1) (by omega)
      have g1 : f.pred (w (f.ti + (((j - 1 : Nat) : Int) + 1))) accel = ((f.pred (w (f.ti + (((j - 1 : Nat) : Int) + 1))) accel).1, 0) := by rw [← k1]
      have g2 : f.pred (w (f.ti + ((j : Int) + 1))) accel = ((f.pred (w (f.ti + ((j : Int) + 1))) accel).1, 0) := by rw [← hp0]
      exact pred_grow g1 g2 (by rw [hwt2, w_id (by omega) (by omega)]; omega)
    have hok : idxOk 20 (f1 11) (.int .i64 (j : Int)) := hs.ok (by omega) (by rw [hLl]; omega)
    have hld : ldnA 20 h1 (idxV 20 (f1 11) (.int .i64 (j : Int))) = _ := hs.ldn (x := (f.pred (w (f.ti + ((j : Int) + 1))) accel).1) (by omega) (by simpa using hLj)
    generalize hP : f.pred (w (f.ti + ((j : Int) + 1))) accel = P at hp hp0 hld hrel hmono
    obtain ⟨p, er⟩ := P
    simp only at hp0
    subst hp0
    simp only [out, T.c] at hp hld
    have hxr : (x == 0 && (true ^^ decide (radius < p.rad) == decide (n ≤ ((j + 1 : Nat) : Int)))) = false := by
      by_cases hx : x = 0
      · rw [hrel hx]; simp
      · simp [hx]
    by_cases hj0 : 0 < j
    · have hgt : decide ((0 : Int) < (j : Int)) = true := by simpa using hj0
      have hwm : IntKind.i64.wrap ((j : Int) - 1) = ((j - 1 : Nat) : Int) := by rw [wrap64 (by omega) (by omega)]; omega
      have hok' : idxOk 20 (f1 11) (.int .i64 ((j - 1 : Nat) : Int)) := hs.ok (by omega) (by rw [hLl]; omega)
      have hLj' : (f.preds accel m)[j - 1]? = some (f.pred (w (f.ti + (((j - 1 : Nat) : Int) + 1))) accel).1 := by simp [T.preds, show j - 1 < m by omega]
      have hld' : ∀ l, ld1A (h1 ++ l) (fadA (0 + 9) (idxV 20 (f1 11) (.int .i64 ((j - 1 : Nat) : Int)))) = _ := fun l => (hs.keep l).ldc (x := (f.pred (w (f.ti + (((j - 1 : Nat) : Int) + 1))) accel).1) (by omega) (by simpa using hLj') (by decide)
      have hmn : decide (p.rad < (f.pred (w (f.ti + (((j - 1 : Nat) : Int) + 1))) accel).1.rad) = false := by
        have := hmono hj0
        simp only [decide_eq_false_iff_not]; simp only at this; omega
      simp only [T.c] at hld'
      simp (config := {maxSteps := 8000000}) only [e1, e2, e3, e4, e13, e14, e61, e62, e60, r4, r4', hjm', hwj, hwt, hok, hld, hp, hgt, hwm, hok', isPtr_idx hok', isPtr_fad, hld', hmn, hxr, fad_fad, BEq.rfl, bne_self_eq_false, Int.reduceBNe, wc_seq, wc_reg, wc_cond_t, wc_cond_k, wc_blk, wc_loop, wc_exit, wc_ret, wc_skip, thenQ_n, thenQ_e, thenQ_r, leaveQ_n, leaveQ_e, leaveQ_r, exOk_n, exOk_r, rvq_nil, rvq_t, rvq_c1, rvq_cn, mkRes1, mkRes2, mkRes3, rg_nil, rg_gcall, rg_callp, avoids_nil, avoids_st, ptrId_ptr, apart_ptr, bne_self_eq_false, Nat.add_eq_left, Nat.left_eq_add, Nat.add_left_cancel_iff, decide_true, decide_false, decide_not, Nat.succ_ne_self, pcallV_fn, im_pcf, gv_pcf, im_pc10, gv_pc10, im_pc20, gv_pc20, im_pc21, gv_pc21, im_pc30, gv_pc30, im_pc31, gv_pc31, im_pc32, gv_pc32, im_pc40, gv_pc40, im_pc41, gv_pc41, im_pc42, gv_pc42, im_pc43, gv_pc43, im_pc50, gv_pc50, im_pc51, gv_pc51, im_pc52, gv_pc52, im_pc53, gv_pc53, im_pc54, gv_pc54, rg_new, rg_box, rg_mks, rg_st, rg_iad, rg_iadg, rg_q, rg_qg, updO_some, updO_none, ev_t, ev_k, upd_at, ofL_zero, ofL_succ, ofL_nil, qt_mv, qt_pick, qt_mk, qt_ld1, qt_ldn, qt_nchk, qt_bin, qt_eqs, qt_eqn, qt_un, qt_cvi, qt_cvs, qt_mkf, qt_slc, qt_slz, qt_sla, qt_sls, qt_fad, qt_fld1, qt_fldn, qt_iaa, qt_ixa, qt_ixs, qt_ext, qt_lenv, qt_lenc, qt_capv, qt_mnx, kq_mv, vq_mv, kq_pick, vq_pick, kq_fad, vq_fad, kq_ld1, vq_ld1, kq_ldn, vq_ldn, kq_bin, vq_bin, kq_un, vq_un, kq_ext, vq_ext, kq_nchk, vq_nchk, kq_mk, vq_mk, kq_eqb, vq_eqb, kq_eqs, vq_eqs, kq_eqn, vq_eqn, kq_cvi, vq_cvi, kq_mkf, vq_mkf, kq_slc, vq_slc, kq_fld1, vq_fld1, kq_fldn, vq_fldn, kq_lenv, vq_lenv, kq_lenc, vq_lenc, kq_mnx, vq_mnx, isPtr_ptr, isBool_bool, bv_bool, fadA_ptr, ld1A_ptr, ldnA_ptr, getC_zero, getC_succ, cells_agg, cells_int, cells_bool, cells_str, cells_sl, cells_ptr, isTup_agg, isTup_int, isTup_bool, isTup_str, isTup_sl, isTup_ptr, sc_int, sc_bool, sc_str, pick_t, pick_f, nchkA_ptr, nchkA_fn, lay_nil, lay_cons, wr_def, eqbA_b, eqsA_agg, aeqs_nil, aeqs_i, aeqs_b, aeqs_s, eqnA_sl, eqnA_s0, cviA_i, obd_none, obd_some, toI_int, fld1A_agg, fldnA_agg, lenvA_sl, lenvA_s0, lenvA_str, amn_nil, amn_max, amn_min, idxOk_sl, idxV_sl, abin_add, abin_sub, abin_mul, abin_quo, abin_rem, abin_eql, abin_neq, abin_lss, abin_leq, abin_gtr, abin_geq, abin_seql, abin_sneq, aun_neg, aun_not, aext_tup, im_true, im_fad, im_ld1, im_ldn, im_binl, im_binr, im_un, im_bool, im_ext, gv_gv, gv_fad, gv_ld1, gv_ldn, gv_binl, gv_binr, gv_un, gv_ext, gv_pick, pick_or, pick_and, rd_new, rd_new0, rd_cons0, rd_consS, obOf, stOk_ptr, stH_ptr, put_new, put_new0, put_0, put_s, List.all_cons, List.all_nil, List.map_cons, List.map_nil, List.length_cons, List.length_nil, List.take_zero, List.take_succ_cons, List.take_nil, List.drop_zero, List.drop_succ_cons, List.drop_nil, Nat.reduceAdd, Nat.reduceMul, Nat.reduceSub, if_true, Nat.reduceLT, Nat.reduceLeDiff, ite_true, ite_false, Nat.reduceEqDiff, if_false, Bool.not_false, Bool.not_true, Bool.and_true, Bool.true_and, Bool.false_and, Bool.and_false, Bool.or_true, Bool.true_or, Bool.or_false, Bool.false_or, reduceCtorEq, ne_eq, not_false_eq_true, not_true_eq_false, List.getD, List.getElem?_cons_zero, List.getElem?_cons_succ, Option.getD_some, Option.bind_some, Option.map_some, Option.isSome_some, Nat.zero_add, Nat.add_zero, Bool.false_eq_true, reduceIte, List.length_append, List.append_assoc, List.cons_append, List.nil_append, true_and, and_true, and_self, Nat.le_refl, Nat.le_add_right, Option.some.injEq, true_implies, false_implies, forall_const, implies_true, Int.reduceNeg, avoids_none, eq_self, Prod.mk.injEq, AV.fn.injEq, List.self_eq_append_right, List.append_nil, exists_eq_left, exists_eq_left', exists_and_left, exists_eq_right, exists_and_right, and_assoc, List.cons_append, List.nil_append, List.map_cons, List.map_nil, gd_tt, gd_tf, gd_ft, gd_ff, im_t, im_f, gv_t, gv_f, im_eqbl, im_eqbr, gv_eqbl, gv_eqbr, im_eqsl, im_eqsr, gv_eqsl, gv_eqsr, im_eqn, gv_eqn, im_cvi, gv_cvi, im_fld1, gv_fld1, im_fldn, gv_fldn, im_lenv, gv_lenv, wnt_bool, wnt_gv, wnt_und, gv_pk1, gv_pk2, rg_appk, idx_gl, idx_gr, iok_gl, iok_gr, isPtr_fad, fad_fad, kq_ixa, vq_ixa, ixaA_0, ixaA_1]
      exact ⟨hn1, by omega, by omega, _, by omega, j + 1, rfl, by omega, rfl, rfl, hs.keep _⟩
    · have hgt : decide ((0 : Int) < (j : Int)) = false := by simpa using hj0
      simp (config := {maxSteps := 8000000}) only [e1, e2, e3, e4, e13, e14, e61, e62, e60, r4, r4', hjm', hwj, hwt, hok, hld, hp, hgt, hxr, fad_fad, BEq.rfl, bne_self_eq_false, Int.reduceBNe, wc_seq, wc_reg, wc_cond_t, wc_cond_k, wc_blk, wc_loop, wc_exit, wc_ret, wc_skip, thenQ_n, thenQ_e, thenQ_r, leaveQ_n, leaveQ_e, leaveQ_r, exOk_n, exOk_r, rvq_nil, rvq_t, rvq_c1, rvq_cn, mkRes1, mkRes2, mkRes3, rg_nil, rg_gcall, rg_callp, avoids_nil, avoids_st, ptrId_ptr, apart_ptr, bne_self_eq_false, Nat.add_eq_left, Nat.left_eq_add, Nat.add_left_cancel_iff, decide_true, decide_false, decide_not, Nat.succ_ne_self, pcallV_fn, im_pcf, gv_pcf, im_pc10, gv_pc10, im_pc20, gv_pc20, im_pc21, gv_pc21, im_pc30, gv_pc30, im_pc31, gv_pc31, im_pc32, gv_pc32, im_pc40, gv_pc40, im_pc41, gv_pc41, im_pc42, gv_pc42, im_pc43, gv_pc43, im_pc50, gv_pc50, im_pc51, gv_pc51, im_pc52, gv_pc52, im_pc53, gv_pc53, im_pc54, gv_pc54, rg_new, rg_box, rg_mks, rg_st, rg_iad, rg_iadg, rg_q, rg_qg, updO_some, updO_none, ev_t, ev_k, upd_at, ofL_zero, ofL_succ, ofL_nil, qt_mv, qt_pick, qt_mk, qt_ld1, qt_ldn, qt_nchk, qt_bin, qt_eqs, qt_eqn, qt_un, qt_cvi, qt_cvs, qt_mkf, qt_slc, qt_slz, qt_sla, qt_sls, qt_fad, qt_fld1, qt_fldn, qt_iaa, qt_ixa, qt_ixs, qt_ext, qt_lenv, qt_lenc, qt_capv, qt_mnx, kq_mv, vq_mv, kq_pick, vq_pick, kq_fad, vq_fad, kq_ld1, vq_ld1, kq_ldn, vq_ldn, kq_bin, vq_bin, kq_un, vq_un, kq_ext, vq_ext, kq_nchk, vq_nchk, kq_mk, vq_mk, kq_eqb, vq_eqb, kq_eqs, vq_eqs, kq_eqn, vq_eqn, kq_cvi, vq_cvi, kq_mkf, vq_mkf, kq_slc, vq_slc, kq_fld1, vq_fld1, kq_fldn, vq_fldn, kq_lenv, vq_lenv, kq_lenc, vq_lenc, kq_mnx, vq_mnx, isPtr_ptr, isBool_bool, bv_bool, fadA_ptr, ld1A_ptr, ldnA_ptr, getC_zero, getC_succ, cells_agg, cells_int, cells_bool, cells_str, cells_sl, cells_ptr, isTup_agg, isTup_int, isTup_bool, isTup_str, isTup_sl, isTup_ptr, sc_int, sc_bool, sc_str, pick_t, pick_f, nchkA_ptr, nchkA_fn, lay_nil, lay_cons, wr_def, eqbA_b, eqsA_agg, aeqs_nil, aeqs_i, aeqs_b, aeqs_s, eqnA_sl, eqnA_s0, cviA_i, obd_none, obd_some, toI_int, fld1A_agg, fldnA_agg, lenvA_sl, lenvA_s0, lenvA_str, amn_nil, amn_max, amn_min, idxOk_sl, idxV_sl, abin_add, abin_sub, abin_mul, abin_quo, abin_rem, abin_eql, abin_neq, abin_lss, abin_leq, abin_gtr, abin_geq, abin_seql, abin_sneq, aun_neg, aun_not, aext_tup, im_true, im_fad, im_ld1, im_ldn, im_binl, im_binr, im_un, im_bool, im_ext, gv_gv, gv_fad, gv_ld1, gv_ldn, gv_binl, gv_binr, gv_un, gv_ext, gv_pick, pick_or, pick_and, rd_new, rd_new0, rd_cons0, rd_consS, obOf, stOk_ptr, stH_ptr, put_new, put_new0, put_0, put_s, List.all_cons, List.all_nil, List.map_cons, List.map_nil, List.length_cons, List.length_nil, List.take_zero, List.take_succ_cons, List.take_nil, List.drop_zero, List.drop_succ_cons, List.drop_nil, Nat.reduceAdd, Nat.reduceMul, Nat.reduceSub, if_true, Nat.reduceLT, Nat.reduceLeDiff, ite_true, ite_false, Nat.reduceEqDiff, if_false, Bool.not_false, Bool.not_true, Bool.and_true, Bool.true_and, Bool.false_and, Bool.and_false, Bool.or_true, Bool.true_or, Bool.or_false, Bool.false_or, reduceCtorEq, ne_eq, not_false_eq_true, not_true_eq_false, List.getD, List.getElem?_cons_zero, List.getElem?_cons_succ, Option.getD_some, Option.bind_some, Option.map_some, Option.isSome_some, Nat.zero_add, Nat.add_zero, Bool.false_eq_true, reduceIte, List.length_append, List.append_assoc, List.cons_append, List.nil_append, true_and, and_true, and_self, Nat.le_refl, Nat.le_add_right, Option.some.injEq, true_implies, false_implies, forall_const, implies_true, Int.reduceNeg, avoids_none, eq_self, Prod.mk.injEq, AV.fn.injEq, List.self_eq_append_right, List.append_nil, exists_eq_left, exists_eq_left', exists_and_left, exists_eq_right, exists_and_right, and_assoc, List.cons_append, List.nil_append, List.map_cons, List.map_nil, gd_tt, gd_tf, gd_ft, gd_ff, im_t, im_f, gv_t, gv_f, im_eqbl, im_eqbr, gv_eqbl, gv_eqbr, im_eqsl, im_eqsr, gv_eqsl, gv_eqsr, im_eqn, gv_eqn, im_cvi, gv_cvi, im_fld1, gv_fld1, im_fldn, gv_fldn, im_lenv, gv_lenv, wnt_bool, wnt_gv, wnt_und, gv_pk1, gv_pk2, rg_appk, idx_gl, idx_gr, iok_gl, iok_gr, isPtr_fad, fad_fad, kq_ixa, vq_ixa, ixaA_0, ixaA_1]
      exact ⟨hn1, by omega, by omega, _, by omega, j + 1, rfl, by omega, rfl, rfl, hs.keep _⟩
  · have hjm' : decide ((j : Int) < (m : Int)) = false := by simpa using hjm
    have hms' : decide ((m : Int) ≤ s) = true := by simpa using hms
    simp (config := {maxSteps := 8000000}) only [e1, e2, e3, e4, e13, e14, e61, e62, e60, r4, r4', hjm', hlen1, hms', fad_fad, wc_seq, wc_reg, wc_cond_t, wc_cond_k, wc_blk, wc_loop, wc_exit, wc_ret, wc_skip, thenQ_n, thenQ_e, thenQ_r, leaveQ_n, leaveQ_e, leaveQ_r, exOk_n, exOk_r, rvq_nil, rvq_t, rvq_c1, rvq_cn, mkRes1, mkRes2, mkRes3, rg_nil, rg_gcall, rg_callp, avoids_nil, avoids_st, ptrId_ptr, apart_ptr, bne_self_eq_false, Nat.add_eq_left, Nat.left_eq_add, Nat.add_left_cancel_iff, decide_true, decide_false, decide_not, Nat.succ_ne_self, pcallV_fn, im_pcf, gv_pcf, im_pc10, gv_pc10, im_pc20, gv_pc20, im_pc21, gv_pc21, im_pc30, gv_pc30, im_pc31, gv_pc31, im_pc32, gv_pc32, im_pc40, gv_pc40, im_pc41, gv_pc41, im_pc42, gv_pc42, im_pc43, gv_pc43, im_pc50, gv_pc50, im_pc51, gv_pc51, im_pc52, gv_pc52, im_pc53, gv_pc53, im_pc54, gv_pc54, rg_new, rg_box, rg_mks, rg_st, rg_iad, rg_iadg, rg_q, rg_qg, updO_some, updO_none, ev_t, ev_k, upd_at, ofL_zero, ofL_succ, ofL_nil, qt_mv, qt_pick, qt_mk, qt_ld1, qt_ldn, qt_nchk, qt_bin, qt_eqs, qt_eqn, qt_un, qt_cvi, qt_cvs, qt_mkf, qt_slc, qt_slz, qt_sla, qt_sls, qt_fad, qt_fld1, qt_fldn, qt_iaa, qt_ixa, qt_ixs, qt_ext, qt_lenv, qt_lenc, qt_capv, qt_mnx, kq_mv, vq_mv, kq_pick, vq_pick, kq_fad, vq_fad, kq_ld1, vq_ld1, kq_ldn, vq_ldn, kq_bin, vq_bin, kq_un, vq_un, kq_ext, vq_ext, kq_nchk, vq_nchk, kq_mk, vq_mk, kq_eqb, vq_eqb, kq_eqs, vq_eqs, kq_eqn, vq_eqn, kq_cvi, vq_cvi, kq_mkf, vq_mkf, kq_slc, vq_slc, kq_fld1, vq_fld1, kq_fldn, vq_fldn, kq_lenv, vq_lenv, kq_lenc, vq_lenc, kq_mnx, vq_mnx, isPtr_ptr, isBool_bool, bv_bool, fadA_ptr, ld1A_ptr, ldnA_ptr, getC_zero, getC_succ, cells_agg, cells_int, cells_bool, cells_str, cells_sl, cells_ptr, isTup_agg, isTup_int, isTup_bool, isTup_str, isTup_sl, isTup_ptr, sc_int, sc_bool, sc_str, pick_t, pick_f, nchkA_ptr, nchkA_fn, lay_nil, lay_cons, wr_def, eqbA_b, eqsA_agg, aeqs_nil, aeqs_i, aeqs_b, aeqs_s, eqnA_sl, eqnA_s0, cviA_i, obd_none, obd_some, toI_int, fld1A_agg, fldnA_agg, lenvA_sl, lenvA_s0, lenvA_str, amn_nil, amn_max, amn_min, idxOk_sl, idxV_sl, abin_add, abin_sub, abin_mul, abin_quo, abin_rem, abin_eql, abin_neq, abin_lss, abin_leq, abin_gtr, abin_geq, abin_seql, abin_sneq, aun_neg, aun_not, aext_tup, im_true, im_fad, im_ld1, im_ldn, im_binl, im_binr, im_un, im_bool, im_ext, gv_gv, gv_fad, gv_ld1, gv_ldn, gv_binl, gv_binr, gv_un, gv_ext, gv_pick, pick_or, pick_and, rd_new, rd_new0, rd_cons0, rd_consS, obOf, stOk_ptr, stH_ptr, put_new, put_new0, put_0, put_s, List.all_cons, List.all_nil, List.map_cons, List.map_nil, List.length_cons, List.length_nil, List.take_zero, List.take_succ_cons, List.take_nil, List.drop_zero, List.drop_succ_cons, List.drop_nil, Nat.reduceAdd, Nat.reduceMul, Nat.reduceSub, if_true, Nat.reduceLT, Nat.reduceLeDiff, ite_true, ite_false, Nat.reduceEqDiff, if_false, Bool.not_false, Bool.not_true, Bool.and_true, Bool.true_and, Bool.false_and, Bool.and_false, Bool.or_true, Bool.true_or, Bool.or_false, Bool.false_or, reduceCtorEq, ne_eq, not_false_eq_true, not_true_eq_false, List.getD, List.getElem?_cons_zero, List.getElem?_cons_succ, Option.getD_some, Option.bind_some, Option.map_some, Option.isSome_some, Nat.zero_add, Nat.add_zero, Bool.false_eq_true, reduceIte, List.length_append, List.append_assoc, List.cons_append, List.nil_append, true_and, and_true, and_self, Nat.le_refl, Nat.le_add_right, Option.some.injEq, true_implies, false_implies, forall_const, implies_true, Int.reduceNeg, avoids_none, eq_self, Prod.mk.injEq, AV.fn.injEq, List.self_eq_append_right, List.append_nil, exists_eq_left, exists_eq_left', exists_and_left, exists_eq_right, exists_and_right, and_assoc, List.cons_append, List.nil_append, List.map_cons, List.map_nil, gd_tt, gd_tf, gd_ft, gd_ff, im_t, im_f, gv_t, gv_f, im_eqbl, im_eqbr, gv_eqbl, gv_eqbr, im_eqsl, im_eqsr, gv_eqsl, gv_eqsr, im_eqn, gv_eqn, im_cvi, gv_cvi, im_fld1, gv_fld1, im_fldn, gv_fldn, im_lenv, gv_lenv, wnt_bool, wnt_gv, wnt_und, gv_pk1, gv_pk2, rg_appk, idx_gl, idx_gr, iok_gl, iok_gr, isPtr_fad, fad_fad, kq_ixa, vq_ixa, ixaA_0, ixaA_1]
    by_cases hx : x = 0
    · subst hx
      obtain ⟨_, k, rfl, hk, k1, k2, k3⟩ := lost_ok hM
      have e0 : w (f.ti + ((0 : Nat) : Int)) = f.ti := by
        have : f.ti + ((0 : Nat) : Int) = f.ti := by omega
        rw [this]; exact w_id (by omega) (by omega)
      have hd0 : ∀ g, f.pred f.ti accel = (g, 0) → g = f := by
        intro g hg
        obtain ⟨_, _, _, _, _, _, _, _, h | h⟩ := pred_ok hg
        · exact h.2
        · omega
      have : decide ((k : Int) = 0) = decide (radius < f.rad) := by
        rw [decide_eq_decide]
        constructor
        · intro h
          have : k = 0 := by omega
          subst this
          rw [e0] at k1 k2
          have := hd0 _ (show f.pred f.ti accel = ((f.pred f.ti accel).1, 0) by rw [← k1])
          rw [this] at k2; exact k2
        · intro h
          by_cases hk0 : k = 0
          · omega
          · have := k3 0 (by omega)
            rw [e0] at this
            have h2 := hd0 _ (show f.pred f.ti accel = ((f.pred f.ti accel).1, 0) by rw [← this.1])
            rw [h2] at this; omega
      have h3 : ((k : Int) == 0) = decide ((k : Int) = 0) := by rfl
      rw [h3, this]; simp
    · have : (x != 0) = true := by simpa using hx
      rw [this]; simp


theorem proved : Pure := by
  intro xs hg
  obtain ⟨e0, s0, rfl, u0, v0⟩ := goodL_cons hg
  obtain ⟨l1, rfl, q1⟩ := good_st u0
  obtain ⟨d1_0, r1_0, rfl, h1_0, g1_0⟩ := goodL_cons q1
  obtain ⟨l2, rfl, q2⟩ := good_st h1_0
  obtain ⟨d2_0, r2_0, rfl, h2_0, g2_0⟩ := goodL_cons q2
  obtain ⟨n3, rfl, lo3, hi3⟩ := good_i64 h2_0
  obtain ⟨d2_1, r2_1, rfl, h2_1, g2_1⟩ := goodL_cons g2_0
  obtain ⟨n4, rfl, lo4, hi4⟩ := good_i64 h2_1
  obtain ⟨d2_2, r2_2, rfl, h2_2, g2_2⟩ := goodL_cons g2_1
  obtain ⟨n5, rfl, lo5, hi5⟩ := good_i64 h2_2
  obtain ⟨d2_3, r2_3, rfl, h2_3, g2_3⟩ := goodL_cons g2_2
  obtain ⟨l6, rfl, q6⟩ := good_st h2_3
  obtain ⟨d6_0, r6_0, rfl, h6_0, g6_0⟩ := goodL_cons q6
  obtain ⟨n7, rfl, lo7, hi7⟩ := good_i64 h6_0
  obtain ⟨d6_1, r6_1, rfl, h6_1, g6_1⟩ := goodL_cons g6_0
  obtain ⟨n8, rfl, lo8, hi8⟩ := good_i64 h6_1
  obtain rfl := goodL_nil g6_1
  obtain ⟨d2_4, r2_4, rfl, h2_4, g2_4⟩ := goodL_cons g2_3
  obtain ⟨l9, rfl, q9⟩ := good_st h2_4
  obtain ⟨d9_0, r9_0, rfl, h9_0, g9_0⟩ := goodL_cons q9
  obtain ⟨n10, rfl, lo10, hi10⟩ := good_i64 h9_0
  obtain ⟨d9_1, r9_1, rfl, h9_1, g9_1⟩ := goodL_cons g9_0
  obtain ⟨n11, rfl, lo11, hi11⟩ := good_i64 h9_1
  obtain rfl := goodL_nil g9_1
  obtain ⟨d2_5, r2_5, rfl, h2_5, g2_5⟩ := goodL_cons g2_4
  obtain ⟨n12, rfl, lo12, hi12⟩ := good_i64 h2_5
  obtain ⟨d2_6, r2_6, rfl, h2_6, g2_6⟩ := goodL_cons g2_5
  obtain ⟨n13, rfl, lo13, hi13⟩ := good_i64 h2_6
  obtain ⟨d2_7, r2_7, rfl, h2_7, g2_7⟩ := goodL_cons g2_6
  obtain ⟨n14, rfl, lo14, hi14⟩ := good_i64 h2_7
  obtain ⟨d2_8, r2_8, rfl, h2_8, g2_8⟩ := goodL_cons g2_7
  obtain ⟨n15, rfl, lo15, hi15⟩ := good_i64 h2_8
  obtain ⟨d2_9, r2_9, rfl, h2_9, g2_9⟩ := goodL_cons g2_8
  obtain ⟨n16, rfl, lo16, hi16⟩ := good_i64 h2_9
  obtain ⟨d2_10, r2_10, rfl, h2_10, g2_10⟩ := goodL_cons g2_9
  obtain ⟨n17, rfl, lo17, hi17⟩ := good_i64 h2_10
  obtain rfl := goodL_nil g2_10
  obtain ⟨d1_1, r1_1, rfl, h1_1, g1_1⟩ := goodL_cons g1_0
  obtain ⟨n18, rfl, lo18, hi18⟩ := good_i64 h1_1
  obtain ⟨d1_2, r1_2, rfl, h1_2, g1_2⟩ := goodL_cons g1_1
  obtain ⟨l19, rfl, q19⟩ := good_st h1_2
  obtain ⟨d19_0, r19_0, rfl, h19_0, g19_0⟩ := goodL_cons q19
  obtain ⟨n20, rfl, lo20, hi20⟩ := good_i64 h19_0
  obtain ⟨d19_1, r19_1, rfl, h19_1, g19_1⟩ := goodL_cons g19_0
  obtain ⟨l21, rfl, q21⟩ := good_st h19_1
  obtain ⟨d21_0, r21_0, rfl, h21_0, g21_0⟩ := goodL_cons q21
  obtain ⟨n22, rfl, lo22, hi22⟩ := good_i64 h21_0
  obtain ⟨d21_1, r21_1, rfl, h21_1, g21_1⟩ := goodL_cons g21_0
  obtain ⟨n23, rfl, lo23, hi23⟩ := good_i64 h21_1
  obtain rfl := goodL_nil g21_1
  obtain ⟨d19_2, r19_2, rfl, h19_2, g19_2⟩ := goodL_cons g19_1
  obtain ⟨n24, rfl, lo24, hi24⟩ := good_i64 h19_2
  obtain ⟨d19_3, r19_3, rfl, h19_3, g19_3⟩ := goodL_cons g19_2
  obtain ⟨n25, rfl, lo25, hi25⟩ := good_i64 h19_3
  obtain ⟨d19_4, r19_4, rfl, h19_4, g19_4⟩ := goodL_cons g19_3
  obtain ⟨n26, rfl, lo26, hi26⟩ := good_i64 h19_4
  obtain rfl := goodL_nil g19_4
  obtain rfl := goodL_nil g1_2
  obtain ⟨e1, s1, rfl, u1, v1⟩ := goodL_cons v0
  obtain ⟨n27, rfl, lo27, hi27⟩ := good_i64 u1
  obtain ⟨e2, s2, rfl, u2, v2⟩ := goodL_cons v1
  obtain ⟨n28, rfl, lo28, hi28⟩ := good_i64 u2
  obtain ⟨e3, s3, rfl, u3, v3⟩ := goodL_cons v2
  obtain ⟨n29, rfl, lo29, hi29⟩ := good_i64 u3
  obtain rfl := goodL_nil v3
  have := law ⟨n3, n4, n5, n7, n8, n10, n11, n12, n13, n14, n15, n16, n17, n18, n20, n22, n23, n24, n25, n26⟩ n27 n28 n29 [] 
  simpa only [T.c, layA, layD, layL, argA, shapes, List.nil_append, List.cons_append, List.append_nil, List.append_assoc, List.length_nil, List.length_append, Nat.add_zero, Nat.zero_add, List.headD_cons] using this

end Go.Proofs.Ytehgapcmngdcnaa.MyCoastAhead
