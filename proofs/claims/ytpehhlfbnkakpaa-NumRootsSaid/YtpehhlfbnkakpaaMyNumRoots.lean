/- The law NumRoots: the abstract machine answers true. No condition. -/
import Derived.Test.YtpehhlfbnkakpaaInNumRoots
import Derived.Test.YtpehhlfbnkakpaaRtF
namespace Go.Proofs.Ytpehhlfbnkakpaa.MyNumRoots
open Go Go.Proofs.Ytpehhlfbnkakpaa.Eva Go.Proofs.Ytpehhlfbnkakpaa.CodeAll Go.Proofs.Ytpehhlfbnkakpaa.InNumRoots Go.Proofs.Ytpehhlfbnkakpaa.Fl
set_option linter.unusedVariables false
set_option linter.unusedSimpArgs false
set_option maxRecDepth 10000
set_option maxHeartbeats 4000000

theorem law (n : Int) (H : List Ob) (lo : -9223372036854775808 ≤ n) (hi : n ≤ 9223372036854775807) : ∃ r, ecall E 11 [.int .i64 n] H = some (.bool true, r) := by
  refine call_true e11 rfl (Nat.le_of_ble_eq_true rfl) ?_
  have h0 := numWorks_pc
  have h1 := fun H => root_pc (n := n) (by omega) H
  have h2 := fun H => rroot_pc (n := n) (by omega) H
  have h3 : (rt n == rt n) = true := beq_self_eq_true _
  simp (config := {maxSteps := 8000000}) only [c11, h0, h1, h2, h3, wc_seq, wc_reg, wc_cond_t, wc_cond_k, wc_blk, wc_loop, wc_exit, wc_ret, wc_skip, thenQ_n, thenQ_e, thenQ_r, leaveQ_n, leaveQ_e, leaveQ_r, exOk_n, exOk_r, rvq_nil, rvq_t, rvq_c1, rvq_cn, mkRes1, mkRes2, mkRes3, rg_nil, rg_gcall, rg_callp, avoids_nil, avoids_st, ptrId_ptr, apart_ptr, bne_self_eq_false, Nat.add_eq_left, Nat.left_eq_add, Nat.add_left_cancel_iff, decide_true, decide_false, decide_not, Nat.succ_ne_self, pcallV_fn, im_pcf, gv_pcf, im_pc10, gv_pc10, im_pc20, gv_pc20, im_pc21, gv_pc21, im_pc30, gv_pc30, im_pc31, gv_pc31, im_pc32, gv_pc32, im_pc40, gv_pc40, im_pc41, gv_pc41, im_pc42, gv_pc42, im_pc43, gv_pc43, im_pc50, gv_pc50, im_pc51, gv_pc51, im_pc52, gv_pc52, im_pc53, gv_pc53, im_pc54, gv_pc54, rg_new, rg_box, rg_mks, rg_st, rg_iad, rg_iadg, rg_q, rg_qg, updO_some, updO_none, ev_t, ev_k, upd_at, ofL_zero, ofL_succ, ofL_nil, qt_mv, qt_pick, qt_mk, qt_ld1, qt_ldn, qt_nchk, qt_bin, qt_eqs, qt_eqn, qt_un, qt_cvi, qt_cvs, qt_mkf, qt_slc, qt_slz, qt_sla, qt_sls, qt_fad, qt_fld1, qt_fldn, qt_iaa, qt_ixa, qt_ixs, qt_ext, qt_lenv, qt_lenc, qt_capv, qt_mnx, kq_mv, vq_mv, kq_pick, vq_pick, kq_fad, vq_fad, kq_ld1, vq_ld1, kq_ldn, vq_ldn, kq_bin, vq_bin, kq_un, vq_un, kq_ext, vq_ext, kq_nchk, vq_nchk, kq_mk, vq_mk, kq_eqb, vq_eqb, kq_eqs, vq_eqs, kq_eqn, vq_eqn, kq_cvi, vq_cvi, kq_mkf, vq_mkf, kq_slc, vq_slc, kq_fld1, vq_fld1, kq_fldn, vq_fldn, kq_lenv, vq_lenv, kq_lenc, vq_lenc, kq_mnx, vq_mnx, isPtr_ptr, isBool_bool, bv_bool, fadA_ptr, ld1A_ptr, ldnA_ptr, getC_zero, getC_succ, cells_agg, cells_int, cells_bool, cells_str, cells_sl, cells_ptr, isTup_agg, isTup_int, isTup_bool, isTup_str, isTup_sl, isTup_ptr, sc_int, sc_bool, sc_str, pick_t, pick_f, nchkA_ptr, nchkA_fn, lay_nil, lay_cons, wr_def, eqbA_b, eqsA_agg, aeqs_nil, aeqs_i, aeqs_b, aeqs_s, eqnA_sl, eqnA_s0, cviA_i, obd_none, obd_some, toI_int, fld1A_agg, fldnA_agg, lenvA_sl, lenvA_s0, lenvA_str, amn_nil, amn_max, amn_min, idxOk_sl, idxV_sl, abin_add, abin_sub, abin_mul, abin_quo, abin_rem, abin_eql, abin_neq, abin_lss, abin_leq, abin_gtr, abin_geq, abin_seql, abin_sneq, aun_neg, aun_not, aext_tup, im_true, im_fad, im_ld1, im_ldn, im_binl, im_binr, im_un, im_bool, im_ext, gv_gv, gv_fad, gv_ld1, gv_ldn, gv_binl, gv_binr, gv_un, gv_ext, gv_pick, pick_or, pick_and, rd_new, rd_new0, rd_cons0, rd_consS, obOf, stOk_ptr, stH_ptr, put_new, put_new0, put_0, put_s, List.all_cons, List.all_nil, List.map_cons, List.map_nil, List.length_cons, List.length_nil, List.take_zero, List.take_succ_cons, List.take_nil, List.drop_zero, List.drop_succ_cons, List.drop_nil, Nat.reduceAdd, Nat.reduceMul, Nat.reduceSub, if_true, Nat.reduceLT, Nat.reduceLeDiff, ite_true, ite_false, Nat.reduceEqDiff, if_false, Bool.not_false, Bool.not_true, Bool.and_true, Bool.true_and, Bool.false_and, Bool.and_false, Bool.or_true, Bool.true_or, Bool.or_false, Bool.false_or, reduceCtorEq, ne_eq, not_false_eq_true, not_true_eq_false, List.getD, List.getElem?_cons_zero, List.getElem?_cons_succ, Option.getD_some, Option.bind_some, Option.map_some, Option.isSome_some, Nat.zero_add, Nat.add_zero, Bool.false_eq_true, reduceIte, List.length_append, List.append_assoc, List.cons_append, List.nil_append, true_and, and_true, and_self, Nat.le_refl, Nat.le_add_right, Option.some.injEq, true_implies, false_implies, forall_const, implies_true, Int.reduceNeg, avoids_none, eq_self, Prod.mk.injEq, AV.fn.injEq, List.self_eq_append_right, List.append_nil, exists_eq_left, exists_eq_left', exists_and_left, exists_eq_right, exists_and_right, and_assoc, List.cons_append, List.nil_append, List.map_cons, List.map_nil, gd_tt, gd_tf, gd_ft, gd_ff, im_t, im_f, gv_t, gv_f, im_eqbl, im_eqbr, gv_eqbl, gv_eqbr, im_eqsl, im_eqsr, gv_eqsl, gv_eqsr, im_eqn, gv_eqn, im_cvi, gv_cvi, im_fld1, gv_fld1, im_fldn, gv_fldn, im_lenv, gv_lenv, wnt_bool, wnt_gv, wnt_und, gv_pk1, gv_pk2, rg_appk, idx_gl, idx_gr, iok_gl, iok_gr, isPtr_fad, fad_fad, kq_ixa, vq_ixa, ixaA_0, ixaA_1, ixaA_t0, ixaA_t1, le_pl, rg_mkk, mkK_int, qt_cvf, qt_cfi, qt_xf, kq_cvf, vq_cvf, kq_cfi, vq_cfi, kq_xf, vq_xf, cvfA_i, axf_bits, axf_frombits, im_cvf, gv_cvf, abin_feql, abin_fneq, abin_flss, abin_fgtr, isTup_flt, sc_flt, cells_flt, kq_ixs, vq_ixs]


theorem proved : Pure := by
  intro xs hg
  obtain ⟨e0, s0, rfl, u0, v0⟩ := goodL_cons hg
  obtain ⟨n1, rfl, lo1, hi1⟩ := good_i64 u0
  obtain rfl := goodL_nil v0
  have := law n1 [] lo1 hi1
  simpa only [layA, layD, layL, argA, shapes, List.nil_append, List.cons_append, List.append_nil, List.append_assoc, List.length_nil, List.length_append, Nat.add_zero, Nat.zero_add, List.headD_cons] using this

end Go.Proofs.Ytpehhlfbnkakpaa.MyNumRoots
