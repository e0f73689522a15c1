/- What Height of the package terrain answers; the highest terrain is at least that of a place within the radius. Conditions stand in each lemma. -/
import Derived.Test.YtpehhlfbnkakpaaTrA
import Derived.Test.YtpehhlfbnkakpaaCrP
namespace Go.Proofs.Ytpehhlfbnkakpaa.Fl
open Go Go.Proofs.Ytpehhlfbnkakpaa.Eva Go.Proofs.Ytpehhlfbnkakpaa.CodeAll
set_option linter.unusedVariables false
set_option linter.unusedSimpArgs false
set_option maxRecDepth 10000
set_option maxHeartbeats 4000000

theorem cell_pc (n fr size : Int) (H : List Ob) : pcall E 79 [.int .i64 n, .int .i64 fr, .int .i64 size] H = some (.int .i64 (dvd (w (n - fr)) size)) := by
  refine pcall_some.2 (call_plain e79 rfl (Nat.le_of_ble_eq_true rfl) rfl ?_)
  simp (config := {maxSteps := 4000000}) only [c79, dvd_pc, wc_seq, wc_reg, wc_cond_t, wc_cond_k, wc_blk, wc_loop, wc_exit, wc_ret, wc_skip, thenQ_n, thenQ_e, thenQ_r, leaveQ_n, leaveQ_e, leaveQ_r, exOk_n, exOk_r, rvq_nil, rvq_t, rvq_c1, rvq_cn, mkRes1, mkRes2, mkRes3, rg_nil, rg_gcall, rg_callp, avoids_nil, avoids_st, ptrId_ptr, apart_ptr, bne_self_eq_false, Nat.add_eq_left, Nat.left_eq_add, Nat.add_left_cancel_iff, decide_true, decide_false, decide_not, Nat.succ_ne_self, pcallV_fn, im_pcf, gv_pcf, im_pc10, gv_pc10, im_pc20, gv_pc20, im_pc21, gv_pc21, im_pc30, gv_pc30, im_pc31, gv_pc31, im_pc32, gv_pc32, im_pc40, gv_pc40, im_pc41, gv_pc41, im_pc42, gv_pc42, im_pc43, gv_pc43, im_pc50, gv_pc50, im_pc51, gv_pc51, im_pc52, gv_pc52, im_pc53, gv_pc53, im_pc54, gv_pc54, rg_new, rg_box, rg_mks, rg_st, rg_iad, rg_iadg, rg_q, rg_qg, updO_some, updO_none, ev_t, ev_k, upd_at, ofL_zero, ofL_succ, ofL_nil, qt_mv, qt_pick, qt_mk, qt_ld1, qt_ldn, qt_nchk, qt_bin, qt_eqs, qt_eqn, qt_un, qt_cvi, qt_cvs, qt_mkf, qt_slc, qt_slz, qt_sla, qt_sls, qt_fad, qt_fld1, qt_fldn, qt_iaa, qt_ixa, qt_ixs, qt_ext, qt_lenv, qt_lenc, qt_capv, qt_mnx, kq_mv, vq_mv, kq_pick, vq_pick, kq_fad, vq_fad, kq_ld1, vq_ld1, kq_ldn, vq_ldn, kq_bin, vq_bin, kq_un, vq_un, kq_ext, vq_ext, kq_nchk, vq_nchk, kq_mk, vq_mk, kq_eqb, vq_eqb, kq_eqs, vq_eqs, kq_eqn, vq_eqn, kq_cvi, vq_cvi, kq_mkf, vq_mkf, kq_slc, vq_slc, kq_fld1, vq_fld1, kq_fldn, vq_fldn, kq_lenv, vq_lenv, kq_lenc, vq_lenc, kq_mnx, vq_mnx, isPtr_ptr, isBool_bool, bv_bool, fadA_ptr, ld1A_ptr, ldnA_ptr, getC_zero, getC_succ, cells_agg, cells_int, cells_bool, cells_str, cells_sl, cells_ptr, isTup_agg, isTup_int, isTup_bool, isTup_str, isTup_sl, isTup_ptr, sc_int, sc_bool, sc_str, pick_t, pick_f, nchkA_ptr, nchkA_fn, lay_nil, lay_cons, wr_def, eqbA_b, eqsA_agg, aeqs_nil, aeqs_i, aeqs_b, aeqs_s, eqnA_sl, eqnA_s0, cviA_i, obd_none, obd_some, toI_int, fld1A_agg, fldnA_agg, lenvA_sl, lenvA_s0, lenvA_str, amn_nil, amn_max, amn_min, idxOk_sl, idxV_sl, abin_add, abin_sub, abin_mul, abin_quo, abin_rem, abin_eql, abin_neq, abin_lss, abin_leq, abin_gtr, abin_geq, abin_seql, abin_sneq, aun_neg, aun_not, aext_tup, im_true, im_fad, im_ld1, im_ldn, im_binl, im_binr, im_un, im_bool, im_ext, gv_gv, gv_fad, gv_ld1, gv_ldn, gv_binl, gv_binr, gv_un, gv_ext, gv_pick, pick_or, pick_and, rd_new, rd_new0, rd_cons0, rd_consS, obOf, stOk_ptr, stH_ptr, put_new, put_new0, put_0, put_s, List.all_cons, List.all_nil, List.map_cons, List.map_nil, List.length_cons, List.length_nil, List.take_zero, List.take_succ_cons, List.take_nil, List.drop_zero, List.drop_succ_cons, List.drop_nil, Nat.reduceAdd, Nat.reduceMul, Nat.reduceSub, if_true, Nat.reduceLT, Nat.reduceLeDiff, ite_true, ite_false, Nat.reduceEqDiff, if_false, Bool.not_false, Bool.not_true, Bool.and_true, Bool.true_and, Bool.false_and, Bool.and_false, Bool.or_true, Bool.true_or, Bool.or_false, Bool.false_or, reduceCtorEq, ne_eq, not_false_eq_true, not_true_eq_false, List.getD, List.getElem?_cons_zero, List.getElem?_cons_succ, Option.getD_some, Option.bind_some, Option.map_some, Option.isSome_some, Nat.zero_add, Nat.add_zero, Bool.false_eq_true, reduceIte, List.length_append, List.append_assoc, List.cons_append, List.nil_append, true_and, and_true, and_self, Nat.le_refl, Nat.le_add_right, Option.some.injEq, true_implies, false_implies, forall_const, implies_true, Int.reduceNeg, avoids_none, eq_self, Prod.mk.injEq, AV.fn.injEq, List.self_eq_append_right, List.append_nil, exists_eq_left, exists_eq_left', exists_and_left, exists_eq_right, exists_and_right, and_assoc, List.cons_append, List.nil_append, List.map_cons, List.map_nil, gd_tt, gd_tf, gd_ft, gd_ff, im_t, im_f, gv_t, gv_f, im_eqbl, im_eqbr, gv_eqbl, gv_eqbr, im_eqsl, im_eqsr, gv_eqsl, gv_eqsr, im_eqn, gv_eqn, im_cvi, gv_cvi, im_fld1, gv_fld1, im_fldn, gv_fldn, im_lenv, gv_lenv, wnt_bool, wnt_gv, wnt_und, gv_pk1, gv_pk2, rg_appk, idx_gl, idx_gr, iok_gl, iok_gr, isPtr_fad, fad_fad, kq_ixa, vq_ixa, ixaA_0, ixaA_1, ixaA_t0, ixaA_t1, le_pl, rg_mkk, mkK_int]
def heightT (g : G) (hs : List Int) (px py : Int) : Int × Int :=
  if (gchk g hs != 0) = true then (0, gchk g hs)
  else if (decide (px < -1000000) || decide (1000000 < px) || decide (py < -1000000) || decide (1000000 < py)) = true then (0, 4)
  else if (decide (dvd (w (px - g.x)) g.size < 0) || decide (g.nx ≤ dvd (w (px - g.x)) g.size) || decide (dvd (w (py - g.y)) g.size < 0) || decide (g.ny ≤ dvd (w (py - g.y)) g.size)) = true then (0, 0)
  else (hs.getD (dvd (w (py - g.y)) g.size * g.nx + dvd (w (px - g.x)) g.size).toNat 0, 0)
theorem cell_in {g : G} {hs : List Int} (hg : gchk g hs = 0) {x y : Int} (x0 : 0 ≤ x) (x1 : x < g.nx) (y0 : 0 ≤ y) (y1 : y < g.ny) : 0 ≤ y * g.nx + x ∧ y * g.nx + x < hs.length ∧ y * g.nx + x ≤ 1024 ∧ 0 ≤ y * g.nx ∧ y * g.nx ≤ 1024 := by
  obtain ⟨n0, n1, m0, m1, _, _, _, _, _, _, hl, _, _⟩ := gchk_ok hg
  have k1 := Int.mul_nonneg y0 (show 0 ≤ g.nx by omega)
  have k2 := Int.mul_le_mul_of_nonneg_right (show y + 1 ≤ g.ny by omega) (show 0 ≤ g.nx by omega)
  rw [Int.add_mul, Int.mul_comm g.ny] at k2
  have k3 := mul_le (a := y) (b := g.nx) (A := 31) (B := 32) (by omega) (by omega) (by omega) (by omega)
  omega
theorem height_pc {H : List Ob} {V : AV} {hs : List Int} (g : G) (hv : SlL H V intC 1 hs) (px py : Int) : pcall E 40 [.agg (g.c V), .agg [.int .i64 px, .int .i64 py]] H = some (tout (heightT g hs px py)) := by
  refine pcall_some.2 (call_plain e40 rfl (Nat.le_of_ble_eq_true rfl) rfl ?_)
  generalize hR : heightT g hs px py = R
  unfold heightT at hR
  have hck := fun x => gchk_pc g (hv.keep x)
  simp only [G.c] at hck
  by_cases c1 : (gchk g hs != 0) = true
  · rw [if_pos c1] at hR
    subst hR
    simp (config := {maxSteps := 4000000}) only [c40, G.c, hck, c1, wc_seq, wc_reg, wc_cond_t, wc_cond_k, wc_blk, wc_loop, wc_exit, wc_ret, wc_skip, thenQ_n, thenQ_e, thenQ_r, leaveQ_n, leaveQ_e, leaveQ_r, exOk_n, exOk_r, rvq_nil, rvq_t, rvq_c1, rvq_cn, mkRes1, mkRes2, mkRes3, rg_nil, rg_gcall, rg_callp, avoids_nil, avoids_st, ptrId_ptr, apart_ptr, bne_self_eq_false, Nat.add_eq_left, Nat.left_eq_add, Nat.add_left_cancel_iff, decide_true, decide_false, decide_not, Nat.succ_ne_self, pcallV_fn, im_pcf, gv_pcf, im_pc10, gv_pc10, im_pc20, gv_pc20, im_pc21, gv_pc21, im_pc30, gv_pc30, im_pc31, gv_pc31, im_pc32, gv_pc32, im_pc40, gv_pc40, im_pc41, gv_pc41, im_pc42, gv_pc42, im_pc43, gv_pc43, im_pc50, gv_pc50, im_pc51, gv_pc51, im_pc52, gv_pc52, im_pc53, gv_pc53, im_pc54, gv_pc54, rg_new, rg_box, rg_mks, rg_st, rg_iad, rg_iadg, rg_q, rg_qg, updO_some, updO_none, ev_t, ev_k, upd_at, ofL_zero, ofL_succ, ofL_nil, qt_mv, qt_pick, qt_mk, qt_ld1, qt_ldn, qt_nchk, qt_bin, qt_eqs, qt_eqn, qt_un, qt_cvi, qt_cvs, qt_mkf, qt_slc, qt_slz, qt_sla, qt_sls, qt_fad, qt_fld1, qt_fldn, qt_iaa, qt_ixa, qt_ixs, qt_ext, qt_lenv, qt_lenc, qt_capv, qt_mnx, kq_mv, vq_mv, kq_pick, vq_pick, kq_fad, vq_fad, kq_ld1, vq_ld1, kq_ldn, vq_ldn, kq_bin, vq_bin, kq_un, vq_un, kq_ext, vq_ext, kq_nchk, vq_nchk, kq_mk, vq_mk, kq_eqb, vq_eqb, kq_eqs, vq_eqs, kq_eqn, vq_eqn, kq_cvi, vq_cvi, kq_mkf, vq_mkf, kq_slc, vq_slc, kq_fld1, vq_fld1, kq_fldn, vq_fldn, kq_lenv, vq_lenv, kq_lenc, vq_lenc, kq_mnx, vq_mnx, isPtr_ptr, isBool_bool, bv_bool, fadA_ptr, ld1A_ptr, ldnA_ptr, getC_zero, getC_succ, cells_agg, cells_int, cells_bool, cells_str, cells_sl, cells_ptr, isTup_agg, isTup_int, isTup_bool, isTup_str, isTup_sl, isTup_ptr, sc_int, sc_bool, sc_str, pick_t, pick_f, nchkA_ptr, nchkA_fn, lay_nil, lay_cons, wr_def, eqbA_b, eqsA_agg, aeqs_nil, aeqs_i, aeqs_b, aeqs_s, eqnA_sl, eqnA_s0, cviA_i, obd_none, obd_some, toI_int, fld1A_agg, fldnA_agg, lenvA_sl, lenvA_s0, lenvA_str, amn_nil, amn_max, amn_min, idxOk_sl, idxV_sl, abin_add, abin_sub, abin_mul, abin_quo, abin_rem, abin_eql, abin_neq, abin_lss, abin_leq, abin_gtr, abin_geq, abin_seql, abin_sneq, aun_neg, aun_not, aext_tup, im_true, im_fad, im_ld1, im_ldn, im_binl, im_binr, im_un, im_bool, im_ext, gv_gv, gv_fad, gv_ld1, gv_ldn, gv_binl, gv_binr, gv_un, gv_ext, gv_pick, pick_or, pick_and, rd_new, rd_new0, rd_cons0, rd_consS, obOf, stOk_ptr, stH_ptr, put_new, put_new0, put_0, put_s, List.all_cons, List.all_nil, List.map_cons, List.map_nil, List.length_cons, List.length_nil, List.take_zero, List.take_succ_cons, List.take_nil, List.drop_zero, List.drop_succ_cons, List.drop_nil, Nat.reduceAdd, Nat.reduceMul, Nat.reduceSub, if_true, Nat.reduceLT, Nat.reduceLeDiff, ite_true, ite_false, Nat.reduceEqDiff, if_false, Bool.not_false, Bool.not_true, Bool.and_true, Bool.true_and, Bool.false_and, Bool.and_false, Bool.or_true, Bool.true_or, Bool.or_false, Bool.false_or, reduceCtorEq, ne_eq, not_false_eq_true, not_true_eq_false, List.getD, List.getElem?_cons_zero, List.getElem?_cons_succ, Option.getD_some, Option.bind_some, Option.map_some, Option.isSome_some, Nat.zero_add, Nat.add_zero, Bool.false_eq_true, reduceIte, List.length_append, List.append_assoc, List.cons_append, List.nil_append, true_and, and_true, and_self, Nat.le_refl, Nat.le_add_right, Option.some.injEq, true_implies, false_implies, forall_const, implies_true, Int.reduceNeg, avoids_none, eq_self, Prod.mk.injEq, AV.fn.injEq, List.self_eq_append_right, List.append_nil, exists_eq_left, exists_eq_left', exists_and_left, exists_eq_right, exists_and_right, and_assoc, List.cons_append, List.nil_append, List.map_cons, List.map_nil, gd_tt, gd_tf, gd_ft, gd_ff, im_t, im_f, gv_t, gv_f, im_eqbl, im_eqbr, gv_eqbl, gv_eqbr, im_eqsl, im_eqsr, gv_eqsl, gv_eqsr, im_eqn, gv_eqn, im_cvi, gv_cvi, im_fld1, gv_fld1, im_fldn, gv_fldn, im_lenv, gv_lenv, wnt_bool, wnt_gv, wnt_und, gv_pk1, gv_pk2, rg_appk, idx_gl, idx_gr, iok_gl, iok_gr, isPtr_fad, fad_fad, kq_ixa, vq_ixa, ixaA_0, ixaA_1, ixaA_t0, ixaA_t1, le_pl, rg_mkk, mkK_int]
    rfl
  rw [if_neg c1] at hR
  have c1' : (gchk g hs != 0) = false := by simpa using c1
  by_cases c2 : (decide (px < -1000000) || decide (1000000 < px) || decide (py < -1000000) || decide (1000000 < py)) = true
  · rw [if_pos c2] at hR
    subst hR
    simp (config := {maxSteps := 4000000}) only [c40, G.c, hck, c1', c2, wc_seq, wc_reg, wc_cond_t, wc_cond_k, wc_blk, wc_loop, wc_exit, wc_ret, wc_skip, thenQ_n, thenQ_e, thenQ_r, leaveQ_n, leaveQ_e, leaveQ_r, exOk_n, exOk_r, rvq_nil, rvq_t, rvq_c1, rvq_cn, mkRes1, mkRes2, mkRes3, rg_nil, rg_gcall, rg_callp, avoids_nil, avoids_st, ptrId_ptr, apart_ptr, bne_self_eq_false, Nat.add_eq_left, Nat.left_eq_add, Nat.add_left_cancel_iff, decide_true, decide_false, decide_not, Nat.succ_ne_self, pcallV_fn, im_pcf, gv_pcf, im_pc10, gv_pc10, im_pc20, gv_pc20, im_pc21, gv_pc21, im_pc30, gv_pc30, im_pc31, gv_pc31, im_pc32, gv_pc32, im_pc40, gv_pc40, im_pc41, gv_pc41, im_pc42, gv_pc42, im_pc43, gv_pc43, im_pc50, gv_pc50, im_pc51, gv_pc51, im_pc52, gv_pc52, im_pc53, gv_pc53, im_pc54, gv_pc54, rg_new, rg_box, rg_mks, rg_st, rg_iad, rg_iadg, rg_q, rg_qg, updO_some, updO_none, ev_t, ev_k, upd_at, ofL_zero, ofL_succ, ofL_nil, qt_mv, qt_pick, qt_mk, qt_ld1, qt_ldn, qt_nchk, qt_bin, qt_eqs, qt_eqn, qt_un, qt_cvi, qt_cvs, qt_mkf, qt_slc, qt_slz, qt_sla, qt_sls, qt_fad, qt_fld1, qt_fldn, qt_iaa, qt_ixa, qt_ixs, qt_ext, qt_lenv, qt_lenc, qt_capv, qt_mnx, kq_mv, vq_mv, kq_pick, vq_pick, kq_fad, vq_fad, kq_ld1, vq_ld1, kq_ldn, vq_ldn, kq_bin, vq_bin, kq_un, vq_un, kq_ext, vq_ext, kq_nchk, vq_nchk, kq_mk, vq_mk, kq_eqb, vq_eqb, kq_eqs, vq_eqs, kq_eqn, vq_eqn, kq_cvi, vq_cvi, kq_mkf, vq_mkf, kq_slc, vq_slc, kq_fld1, vq_fld1, kq_fldn, vq_fldn, kq_lenv, vq_lenv, kq_lenc, vq_lenc, kq_mnx, vq_mnx, isPtr_ptr, isBool_bool, bv_bool, fadA_ptr, ld1A_ptr, ldnA_ptr, getC_zero, getC_succ, cells_agg, cells_int, cells_bool, cells_str, cells_sl, cells_ptr, isTup_agg, isTup_int, isTup_bool, isTup_str, isTup_sl, isTup_ptr, sc_int, sc_bool, sc_str, pick_t, pick_f, nchkA_ptr, nchkA_fn, lay_nil, lay_cons, wr_def, eqbA_b, eqsA_agg, aeqs_nil, aeqs_i, aeqs_b, aeqs_s, eqnA_sl, eqnA_s0, cviA_i, obd_none, obd_some, toI_int, fld1A_agg, fldnA_agg, lenvA_sl, lenvA_s0, lenvA_str, amn_nil, amn_max, amn_min, idxOk_sl, idxV_sl, abin_add, abin_sub, abin_mul, abin_quo, abin_rem, abin_eql, abin_neq, abin_lss, abin_leq, abin_gtr, abin_geq, abin_seql, abin_sneq, aun_neg, aun_not, aext_tup, im_true, im_fad, im_ld1, im_ldn, im_binl, im_binr, im_un, im_bool, im_ext, gv_gv, gv_fad, gv_ld1, gv_ldn, gv_binl, gv_binr, gv_un, gv_ext, gv_pick, pick_or, pick_and, rd_new, rd_new0, rd_cons0, rd_consS, obOf, stOk_ptr, stH_ptr, put_new, put_new0, put_0, put_s, List.all_cons, List.all_nil, List.map_cons, List.map_nil, List.length_cons, List.length_nil, List.take_zero, List.take_succ_cons, List.take_nil, List.drop_zero, List.drop_succ_cons, List.drop_nil, Nat.reduceAdd, Nat.reduceMul, Nat.reduceSub, if_true, Nat.reduceLT, Nat.reduceLeDiff, ite_true, ite_false, Nat.reduceEqDiff, if_false, Bool.not_false, Bool.not_true, Bool.and_true, Bool.true_and, Bool.false_and, Bool.and_false, Bool.or_true, Bool.true_or, Bool.or_false, Bool.false_or, reduceCtorEq, ne_eq, not_false_eq_true, not_true_eq_false, List.getD, List.getElem?_cons_zero, List.getElem?_cons_succ, Option.getD_some, Option.bind_some, Option.map_some, Option.isSome_some, Nat.zero_add, Nat.add_zero, Bool.false_eq_true, reduceIte, List.length_append, List.append_assoc, List.cons_append, List.nil_append, true_and, and_true, and_self, Nat.le_refl, Nat.le_add_right, Option.some.injEq, true_implies, false_implies, forall_const, implies_true, Int.reduceNeg, avoids_none, eq_self, Prod.mk.injEq, AV.fn.injEq, List.self_eq_append_right, List.append_nil, exists_eq_left, exists_eq_left', exists_and_left, exists_eq_right, exists_and_right, and_assoc, List.cons_append, List.nil_append, List.map_cons, List.map_nil, gd_tt, gd_tf, gd_ft, gd_ff, im_t, im_f, gv_t, gv_f, im_eqbl, im_eqbr, gv_eqbl, gv_eqbr, im_eqsl, im_eqsr, gv_eqsl, gv_eqsr, im_eqn, gv_eqn, im_cvi, gv_cvi, im_fld1, gv_fld1, im_fldn, gv_fldn, im_lenv, gv_lenv, wnt_bool, wnt_gv, wnt_und, gv_pk1, gv_pk2, rg_appk, idx_gl, idx_gr, iok_gl, iok_gr, isPtr_fad, fad_fad, kq_ixa, vq_ixa, ixaA_0, ixaA_1, ixaA_t0, ixaA_t1, le_pl, rg_mkk, mkK_int]
    rfl
  rw [if_neg c2] at hR
  have c2' : (decide (px < -1000000) || decide (1000000 < px) || decide (py < -1000000) || decide (1000000 < py)) = false := by simpa using c2
  by_cases c3 : (decide (dvd (w (px - g.x)) g.size < 0) || decide (g.nx ≤ dvd (w (px - g.x)) g.size) || decide (dvd (w (py - g.y)) g.size < 0) || decide (g.ny ≤ dvd (w (py - g.y)) g.size)) = true
  · rw [if_pos c3] at hR
    subst hR
    simp (config := {maxSteps := 4000000}) only [c40, G.c, hck, c1', c2', cell_pc, c3, wc_seq, wc_reg, wc_cond_t, wc_cond_k, wc_blk, wc_loop, wc_exit, wc_ret, wc_skip, thenQ_n, thenQ_e, thenQ_r, leaveQ_n, leaveQ_e, leaveQ_r, exOk_n, exOk_r, rvq_nil, rvq_t, rvq_c1, rvq_cn, mkRes1, mkRes2, mkRes3, rg_nil, rg_gcall, rg_callp, avoids_nil, avoids_st, ptrId_ptr, apart_ptr, bne_self_eq_false, Nat.add_eq_left, Nat.left_eq_add, Nat.add_left_cancel_iff, decide_true, decide_false, decide_not, Nat.succ_ne_self, pcallV_fn, im_pcf, gv_pcf, im_pc10, gv_pc10, im_pc20, gv_pc20, im_pc21, gv_pc21, im_pc30, gv_pc30, im_pc31, gv_pc31, im_pc32, gv_pc32, im_pc40, gv_pc40, im_pc41, gv_pc41, im_pc42, gv_pc42, im_pc43, gv_pc43, im_pc50, gv_pc50, im_pc51, gv_pc51, im_pc52, gv_pc52, im_pc53, gv_pc53, im_pc54, gv_pc54, rg_new, rg_box, rg_mks, rg_st, rg_iad, rg_iadg, rg_q, rg_qg, updO_some, updO_none, ev_t, ev_k, upd_at, ofL_zero, ofL_succ, ofL_nil, qt_mv, qt_pick, qt_mk, qt_ld1, qt_ldn, qt_nchk, qt_bin, qt_eqs, qt_eqn, qt_un, qt_cvi, qt_cvs, qt_mkf, qt_slc, qt_slz, qt_sla, qt_sls, qt_fad, qt_fld1, qt_fldn, qt_iaa, qt_ixa, qt_ixs, qt_ext, qt_lenv, qt_lenc, qt_capv, qt_mnx, kq_mv, vq_mv, kq_pick, vq_pick, kq_fad, vq_fad, kq_ld1, vq_ld1, kq_ldn, vq_ldn, kq_bin, vq_bin, kq_un, vq_un, kq_ext, vq_ext, kq_nchk, vq_nchk, kq_mk, vq_mk, kq_eqb, vq_eqb, kq_eqs, vq_eqs, kq_eqn, vq_eqn, kq_cvi, vq_cvi, kq_mkf, vq_mkf, kq_slc, vq_slc, kq_fld1, vq_fld1, kq_fldn, vq_fldn, kq_lenv, vq_lenv, kq_lenc, vq_lenc, kq_mnx, vq_mnx, isPtr_ptr, isBool_bool, bv_bool, fadA_ptr, ld1A_ptr, ldnA_ptr, getC_zero, getC_succ, cells_agg, cells_int, cells_bool, cells_str, cells_sl, cells_ptr, isTup_agg, isTup_int, isTup_bool, isTup_str, isTup_sl, isTup_ptr, sc_int, sc_bool, sc_str, pick_t, pick_f, nchkA_ptr, nchkA_fn, lay_nil, lay_cons, wr_def, eqbA_b, eqsA_agg, aeqs_nil, aeqs_i, aeqs_b, aeqs_s, eqnA_sl, eqnA_s0, cviA_i, obd_none, obd_some, toI_int, fld1A_agg, fldnA_agg, lenvA_sl, lenvA_s0, lenvA_str, amn_nil, amn_max, amn_min, idxOk_sl, idxV_sl, abin_add, abin_sub, abin_mul, abin_quo, abin_rem, abin_eql, abin_neq, abin_lss, abin_leq, abin_gtr, abin_geq, abin_seql, abin_sneq, aun_neg, aun_not, aext_tup, im_true, im_fad, im_ld1, im_ldn, im_binl, im_binr, im_un, im_bool, im_ext, gv_gv, gv_fad, gv_ld1, gv_ldn, gv_binl, gv_binr, gv_un, gv_ext, gv_pick, pick_or, pick_and, rd_new, rd_new0, rd_cons0, rd_consS, obOf, stOk_ptr, stH_ptr, put_new, put_new0, put_0, put_s, List.all_cons, List.all_nil, List.map_cons, List.map_nil, List.length_cons, List.length_nil, List.take_zero, List.take_succ_cons, List.take_nil, List.drop_zero, List.drop_succ_cons, List.drop_nil, Nat.reduceAdd, Nat.reduceMul, Nat.reduceSub, if_true, Nat.reduceLT, Nat.reduceLeDiff, ite_true, ite_false, Nat.reduceEqDiff, if_false, Bool.not_false, Bool.not_true, Bool.and_true, Bool.true_and, Bool.false_and, Bool.and_false, Bool.or_true, Bool.true_or, Bool.or_false, Bool.false_or, reduceCtorEq, ne_eq, not_false_eq_true, not_true_eq_false, List.getD, List.getElem?_cons_zero, List.getElem?_cons_succ, Option.getD_some, Option.bind_some, Option.map_some, Option.isSome_some, Nat.zero_add, Nat.add_zero, Bool.false_eq_true, reduceIte, List.length_append, List.append_assoc, List.cons_append, List.nil_append, true_and, and_true, and_self, Nat.le_refl, Nat.le_add_right, Option.some.injEq, true_implies, false_implies, forall_const, implies_true, Int.reduceNeg, avoids_none, eq_self, Prod.mk.injEq, AV.fn.injEq, List.self_eq_append_right, List.append_nil, exists_eq_left, exists_eq_left', exists_and_left, exists_eq_right, exists_and_right, and_assoc, List.cons_append, List.nil_append, List.map_cons, List.map_nil, gd_tt, gd_tf, gd_ft, gd_ff, im_t, im_f, gv_t, gv_f, im_eqbl, im_eqbr, gv_eqbl, gv_eqbr, im_eqsl, im_eqsr, gv_eqsl, gv_eqsr, im_eqn, gv_eqn, im_cvi, gv_cvi, im_fld1, gv_fld1, im_fldn, gv_fldn, im_lenv, gv_lenv, wnt_bool, wnt_gv, wnt_und, gv_pk1, gv_pk2, rg_appk, idx_gl, idx_gr, iok_gl, iok_gr, isPtr_fad, fad_fad, kq_ixa, vq_ixa, ixaA_0, ixaA_1, ixaA_t0, ixaA_t1, le_pl, rg_mkk, mkK_int]
    rfl
  rw [if_neg c3] at hR
  have c3' : (decide (dvd (w (px - g.x)) g.size < 0) || decide (g.nx ≤ dvd (w (px - g.x)) g.size) || decide (dvd (w (py - g.y)) g.size < 0) || decide (g.ny ≤ dvd (w (py - g.y)) g.size)) = false := by simpa using c3
  simp only [Bool.or_eq_true, decide_eq_true_eq, not_or, Int.not_lt, Int.not_le] at c3
  have hce := cell_in (g := g) (hs := hs) (by simpa using c1) c3.1.1.1 c3.1.1.2 c3.1.2 c3.2
  have hcell := cell_pc
  have hc1 := cell_pc px g.x g.size
  have hc2 := cell_pc py g.y g.size
  generalize dvd (w (px - g.x)) g.size = x at *
  generalize dvd (w (py - g.y)) g.size = y at *
  have u1 : IntKind.i64.wrap (y * g.nx) = y * g.nx := wrap64 (by omega) (by omega)
  have u2 : IntKind.i64.wrap (y * g.nx + x) = y * g.nx + x := wrap64 (by omega) (by omega)
  have hok : idxOk 1 V (.int .i64 (y * g.nx + x)) := hv.ok hce.1 hce.2.1
  have hld := fun z => (hv.keep z).ld0 (i := y * g.nx + x) (kk := .i64) (x := hs.getD (y * g.nx + x).toNat 0) hce.1 (by
    rw [List.getD_eq_getElem?_getD, List.getElem?_eq_getElem (show (y * g.nx + x).toNat < hs.length by omega)]; rfl)
  simp only [intC, getC_zero] at hld
  generalize hs.getD (y * g.nx + x).toNat 0 = hh at hld hR
  subst hR
  simp (config := {maxSteps := 4000000}) only [c40, G.c, hck, c1', c2', c3', hc1, hc2, u1, u2, hok, isPtr_idx hok, hld, wc_seq, wc_reg, wc_cond_t, wc_cond_k, wc_blk, wc_loop, wc_exit, wc_ret, wc_skip, thenQ_n, thenQ_e, thenQ_r, leaveQ_n, leaveQ_e, leaveQ_r, exOk_n, exOk_r, rvq_nil, rvq_t, rvq_c1, rvq_cn, mkRes1, mkRes2, mkRes3, rg_nil, rg_gcall, rg_callp, avoids_nil, avoids_st, ptrId_ptr, apart_ptr, bne_self_eq_false, Nat.add_eq_left, Nat.left_eq_add, Nat.add_left_cancel_iff, decide_true, decide_false, decide_not, Nat.succ_ne_self, pcallV_fn, im_pcf, gv_pcf, im_pc10, gv_pc10, im_pc20, gv_pc20, im_pc21, gv_pc21, im_pc30, gv_pc30, im_pc31, gv_pc31, im_pc32, gv_pc32, im_pc40, gv_pc40, im_pc41, gv_pc41, im_pc42, gv_pc42, im_pc43, gv_pc43, im_pc50, gv_pc50, im_pc51, gv_pc51, im_pc52, gv_pc52, im_pc53, gv_pc53, im_pc54, gv_pc54, rg_new, rg_box, rg_mks, rg_st, rg_iad, rg_iadg, rg_q, rg_qg, updO_some, updO_none, ev_t, ev_k, upd_at, ofL_zero, ofL_succ, ofL_nil, qt_mv, qt_pick, qt_mk, qt_ld1, qt_ldn, qt_nchk, qt_bin, qt_eqs, qt_eqn, qt_un, qt_cvi, qt_cvs, qt_mkf, qt_slc, qt_slz, qt_sla, qt_sls, qt_fad, qt_fld1, qt_fldn, qt_iaa, qt_ixa, qt_ixs, qt_ext, qt_lenv, qt_lenc, qt_capv, qt_mnx, kq_mv, vq_mv, kq_pick, vq_pick, kq_fad, vq_fad, kq_ld1, vq_ld1, kq_ldn, vq_ldn, kq_bin, vq_bin, kq_un, vq_un, kq_ext, vq_ext, kq_nchk, vq_nchk, kq_mk, vq_mk, kq_eqb, vq_eqb, kq_eqs, vq_eqs, kq_eqn, vq_eqn, kq_cvi, vq_cvi, kq_mkf, vq_mkf, kq_slc, vq_slc, kq_fld1, vq_fld1, kq_fldn, vq_fldn, kq_lenv, vq_lenv, kq_lenc, vq_lenc, kq_mnx, vq_mnx, isPtr_ptr, isBool_bool, bv_bool, fadA_ptr, ld1A_ptr, ldnA_ptr, getC_zero, getC_succ, cells_agg, cells_int, cells_bool, cells_str, cells_sl, cells_ptr, isTup_agg, isTup_int, isTup_bool, isTup_str, isTup_sl, isTup_ptr, sc_int, sc_bool, sc_str, pick_t, pick_f, nchkA_ptr, nchkA_fn, lay_nil, lay_cons, wr_def, eqbA_b, eqsA_agg, aeqs_nil, aeqs_i, aeqs_b, aeqs_s, eqnA_sl, eqnA_s0, cviA_i, obd_none, obd_some, toI_int, fld1A_agg, fldnA_agg, lenvA_sl, lenvA_s0, lenvA_str, amn_nil, amn_max, amn_min, idxOk_sl, idxV_sl, abin_add, abin_sub, abin_mul, abin_quo, abin_rem, abin_eql, abin_neq, abin_lss, abin_leq, abin_gtr, abin_geq, abin_seql, abin_sneq, aun_neg, aun_not, aext_tup, im_true, im_fad, im_ld1, im_ldn, im_binl, im_binr, im_un, im_bool, im_ext, gv_gv, gv_fad, gv_ld1, gv_ldn, gv_binl, gv_binr, gv_un, gv_ext, gv_pick, pick_or, pick_and, rd_new, rd_new0, rd_cons0, rd_consS, obOf, stOk_ptr, stH_ptr, put_new, put_new0, put_0, put_s, List.all_cons, List.all_nil, List.map_cons, List.map_nil, List.length_cons, List.length_nil, List.take_zero, List.take_succ_cons, List.take_nil, List.drop_zero, List.drop_succ_cons, List.drop_nil, Nat.reduceAdd, Nat.reduceMul, Nat.reduceSub, if_true, Nat.reduceLT, Nat.reduceLeDiff, ite_true, ite_false, Nat.reduceEqDiff, if_false, Bool.not_false, Bool.not_true, Bool.and_true, Bool.true_and, Bool.false_and, Bool.and_false, Bool.or_true, Bool.true_or, Bool.or_false, Bool.false_or, reduceCtorEq, ne_eq, not_false_eq_true, not_true_eq_false, List.getD, List.getElem?_cons_zero, List.getElem?_cons_succ, Option.getD_some, Option.bind_some, Option.map_some, Option.isSome_some, Nat.zero_add, Nat.add_zero, Bool.false_eq_true, reduceIte, List.length_append, List.append_assoc, List.cons_append, List.nil_append, true_and, and_true, and_self, Nat.le_refl, Nat.le_add_right, Option.some.injEq, true_implies, false_implies, forall_const, implies_true, Int.reduceNeg, avoids_none, eq_self, Prod.mk.injEq, AV.fn.injEq, List.self_eq_append_right, List.append_nil, exists_eq_left, exists_eq_left', exists_and_left, exists_eq_right, exists_and_right, and_assoc, List.cons_append, List.nil_append, List.map_cons, List.map_nil, gd_tt, gd_tf, gd_ft, gd_ff, im_t, im_f, gv_t, gv_f, im_eqbl, im_eqbr, gv_eqbl, gv_eqbr, im_eqsl, im_eqsr, gv_eqsl, gv_eqsr, im_eqn, gv_eqn, im_cvi, gv_cvi, im_fld1, gv_fld1, im_fldn, gv_fldn, im_lenv, gv_lenv, wnt_bool, wnt_gv, wnt_und, gv_pk1, gv_pk2, rg_appk, idx_gl, idx_gr, iok_gl, iok_gr, isPtr_fad, fad_fad, kq_ixa, vq_ixa, ixaA_0, ixaA_1, ixaA_t0, ixaA_t1, le_pl, rg_mkk, mkK_int]
  rfl

theorem hi_le {g : G} {px py rad : Int} : ∀ (l : List Int) (i : Nat) (o : Int), o ≤ hiGo g px py rad l i o ∧ ∀ j : Nat, j < l.length → touchT g (((i + j : Nat) : Int).tmod g.nx) (w (((i + j : Nat) : Int).tdiv g.nx)) px py rad = true → l.getD j 0 ≤ hiGo g px py rad l i o
  | [], i, o => ⟨Int.le_refl _, fun j h => by simp at h⟩
  | h :: r, i, o => by
    simp only [hiGo]
    by_cases c : (decide (o < h) && touchT g ((i : Int).tmod g.nx) (w ((i : Int).tdiv g.nx)) px py rad) = true
    · rw [if_pos c]
      obtain ⟨k1, k2⟩ := hi_le (g := g) (px := px) (py := py) (rad := rad) r (i + 1) h
      simp only [Bool.and_eq_true, decide_eq_true_eq] at c
      refine ⟨by omega, fun j hj ht => ?_⟩
      cases j with
      | zero => simpa using k1
      | succ j =>
        have e : i + (j + 1) = i + 1 + j := by omega
        rw [e] at ht
        exact k2 j (by simp at hj; omega) ht
    · rw [if_neg c]
      obtain ⟨k1, k2⟩ := hi_le (g := g) (px := px) (py := py) (rad := rad) r (i + 1) o
      refine ⟨k1, fun j hj ht => ?_⟩
      cases j with
      | zero =>
        simp only [Bool.and_eq_true, decide_eq_true_eq, not_and] at c
        simp only [Nat.add_zero] at ht
        by_cases ho : o < h
        · exact absurd ht (c ho)
        · have : (h :: r).getD 0 0 = h := rfl
          rw [this]; omega
      | succ j =>
        have e : i + (j + 1) = i + 1 + j := by omega
        rw [e] at ht
        exact k2 j (by simp at hj; omega) ht

theorem otsd_eq {n lo hi : Int} (h1 : -100000000 ≤ n) (h2 : n ≤ 100000000) (h3 : -100000000 ≤ lo) (h4 : lo ≤ 100000000) (h5 : -100000000 ≤ hi) (h6 : hi ≤ 100000000) : otsd n lo hi = max (max (lo - n) (n - hi)) 0 := by
  unfold otsd
  rw [w_id (x := lo - n) (by omega) (by omega), w_id (x := n - hi) (by omega) (by omega)]
theorem abs_sq {u d : Int} (u0 : 0 ≤ u) (h : u ≤ d ∨ u ≤ -d) : u * u ≤ d * d := by
  rcases h with h | h
  · exact Int.mul_self_le_mul_self u0 h
  · have := Int.mul_self_le_mul_self u0 h
    rwa [Int.neg_mul_neg] at this

/-- The highest terrain within a radius. -/
theorem high_ge {g : G} {hs : List Int} (hg : gchk g hs = 0) {px py qx qy r : Int} (p0 : -1000000 ≤ px) (p1 : px ≤ 1000000) (p2 : -1000000 ≤ py) (p3 : py ≤ 1000000) (q0 : -1000000 ≤ qx) (q1 : qx ≤ 1000000) (q2 : -1000000 ≤ qy) (q3 : qy ≤ 1000000) (r1 : r ≤ 4000000)
    (h : InD (qx - px) (qy - py) r) : (heightT g hs qx qy).2 = 0 ∧ (heightT g hs qx qy).1 ≤ (highT g hs px py r).1 ∧ (highT g hs px py r).2 = 0 := by
  have hr0 := h.1
  have hhi : highT g hs px py r = (hiGo g px py r hs 0 0, 0) := by
    unfold highT
    rw [hg, if_neg (by decide), if_neg (by simp only [Bool.or_eq_true, decide_eq_true_eq]; omega)]
  obtain ⟨b0, b1⟩ := high_bd (g := g) (hs := hs) (px := px) (py := py) (rad := r)
  refine ⟨?_, ?_, by rw [hhi]⟩
  · unfold heightT
    rw [hg, if_neg (by decide), if_neg (by simp only [Bool.or_eq_true, decide_eq_true_eq]; omega)]
    split <;> rfl
  obtain ⟨n0, n1, m0, m1, s0, s1, x0, x1, y0, y1, hl, hl2, _⟩ := gchk_ok hg
  unfold heightT
  rw [hg, if_neg (by decide), if_neg (by simp only [Bool.or_eq_true, decide_eq_true_eq]; omega)]
  have dx : dvd (w (qx - g.x)) g.size = (qx - g.x) / g.size := by rw [w_id (by omega) (by omega), dvd_eq (by omega) (by omega) (by omega)]
  have dy : dvd (w (qy - g.y)) g.size = (qy - g.y) / g.size := by rw [w_id (by omega) (by omega), dvd_eq (by omega) (by omega) (by omega)]
  rw [dx, dy]
  have fx := floor_bd (p := qx - g.x) (k := g.size) (by omega)
  have fy := floor_bd (p := qy - g.y) (k := g.size) (by omega)
  generalize (qx - g.x) / g.size = x at *
  generalize (qy - g.y) / g.size = y at *
  by_cases c3 : (decide (x < 0) || decide (g.nx ≤ x) || decide (y < 0) || decide (g.ny ≤ y)) = true
  · rw [if_pos c3]; exact b0
  rw [if_neg c3]
  simp only [Bool.or_eq_true, decide_eq_true_eq, not_or, Int.not_lt, Int.not_le] at c3
  obtain ⟨i0, i1, i2, i3, i4⟩ := cell_in hg c3.1.1.1 c3.1.1.2 c3.1.2 c3.2
  rw [hhi]
  have hj : ((0 + (y * g.nx + x).toNat : Nat) : Int) = y * g.nx + x := by omega
  have hmod : (y * g.nx + x).tmod g.nx = x := by
    rw [Int.tmod_eq_emod_of_nonneg i0, Int.add_comm, Int.add_mul_emod_self_right, Int.emod_eq_of_lt c3.1.1.1 c3.1.1.2]
  have hdiv : (y * g.nx + x).tdiv g.nx = y := by
    rw [Int.tdiv_eq_ediv_of_nonneg i0, Int.add_comm, Int.add_mul_ediv_right _ _ (by omega), Int.ediv_eq_zero_of_lt c3.1.1.1 c3.1.1.2]; omega
  refine (hi_le (g := g) (px := px) (py := py) (rad := r) hs 0 0).2 _ (by omega) ?_
  rw [hj, hmod, hdiv, w_id (x := y) (by omega) (by omega)]
  have mx1 := mul_le (a := x) (b := g.size) (A := 32) (B := 1000000) (by omega) (by omega) (by omega) (by omega)
  have my1 := mul_le (a := y) (b := g.size) (A := 32) (B := 1000000) (by omega) (by omega) (by omega) (by omega)
  rw [Int.mul_comm] at fx fy
  have cx : g.size * x = x * g.size := Int.mul_comm _ _
  unfold touchT
  have a1 : w (x * g.size) = x * g.size := w_id (by omega) (by omega)
  have a2 : w (y * g.size) = y * g.size := w_id (by omega) (by omega)
  rw [a1, a2]
  generalize x * g.size = xs at *
  generalize y * g.size = ys at *
  have a3 : w (g.x + xs) = g.x + xs := w_id (by omega) (by omega)
  have a4 : w (g.y + ys) = g.y + ys := w_id (by omega) (by omega)
  rw [a3, a4]
  have a5 : w (w (g.x + xs + g.size) - 1) = g.x + xs + g.size - 1 := by
    rw [w_id (x := g.x + xs + g.size) (by omega) (by omega)]; exact w_id (by omega) (by omega)
  have a6 : w (w (g.y + ys + g.size) - 1) = g.y + ys + g.size - 1 := by
    rw [w_id (x := g.y + ys + g.size) (by omega) (by omega)]; exact w_id (by omega) (by omega)
  rw [a5, a6, otsd_eq (by omega) (by omega) (by omega) (by omega) (by omega) (by omega), otsd_eq (by omega) (by omega) (by omega) (by omega) (by omega) (by omega)]
  have u0 : 0 ≤ max (max (g.x + xs - px) (px - (g.x + xs + g.size - 1))) 0 := by omega
  have v0 : 0 ≤ max (max (g.y + ys - py) (py - (g.y + ys + g.size - 1))) 0 := by omega
  have u1 : max (max (g.x + xs - px) (px - (g.x + xs + g.size - 1))) 0 ≤ qx - px ∨ max (max (g.x + xs - px) (px - (g.x + xs + g.size - 1))) 0 ≤ -(qx - px) := by omega
  have v1 : max (max (g.y + ys - py) (py - (g.y + ys + g.size - 1))) 0 ≤ qy - py ∨ max (max (g.y + ys - py) (py - (g.y + ys + g.size - 1))) 0 ≤ -(qy - py) := by omega
  have u2 := abs_sq u0 u1
  have v2 := abs_sq v0 v1
  have lx := h.lex; have ly := h.swap.lex
  have u3 : max (max (g.x + xs - px) (px - (g.x + xs + g.size - 1))) 0 ≤ r := by omega
  have v3 : max (max (g.y + ys - py) (py - (g.y + ys + g.size - 1))) 0 ≤ r := by omega
  generalize max (max (g.x + xs - px) (px - (g.x + xs + g.size - 1))) 0 = u at *
  generalize max (max (g.y + ys - py) (py - (g.y + ys + g.size - 1))) 0 = v at *
  have hr := h.2
  have su := mul_le (a := u) (b := u) (A := 4000000) (B := 4000000) (by omega) (by omega) (by omega) (by omega)
  have sv := mul_le (a := v) (b := v) (A := 4000000) (B := 4000000) (by omega) (by omega) (by omega) (by omega)
  have sr := mul_le (a := r) (b := r) (A := 4000000) (B := 4000000) (by omega) (by omega) (by omega) (by omega)
  have nu := sq_nn u; have nv := sq_nn v; have nr := sq_nn r
  rw [w_id (x := u * u) (by omega) (by omega), w_id (x := v * v) (by omega) (by omega), w_id (x := u * u + v * v) (by omega) (by omega), w_id (x := r * r) (by omega) (by omega)]
  rw [decide_eq_true u3, decide_eq_true v3, decide_eq_true (by omega)]; rfl

theorem wGo_spec (g : G) (hs : List Int) (f : T) (accel climb clr : Int) : ∀ n k : Nat,
    (∃ m : Nat, k ≤ m ∧ m < k + n ∧ wGo g hs f accel climb clr n k = ((m : Int), 0) ∧ ∀ j : Nat, k ≤ j → j < m → ¬ (w (w ((f.pred (w (f.ti + j)) accel).1.hgt - 100) - w (climb * j)) < (safeT g hs (f.pred (w (f.ti + j)) accel).1.x (f.pred (w (f.ti + j)) accel).1.y (f.pred (w (f.ti + j)) accel).1.rad clr).1)) ∨
    (∃ m : Nat, k ≤ m ∧ m < k + n ∧ (f.pred (w (f.ti + m)) accel).2 ≠ 0) ∨
    (wGo g hs f accel climb clr n k = (0, 8) ∧ ∀ j : Nat, k ≤ j → j < k + n → ¬ (w (w ((f.pred (w (f.ti + j)) accel).1.hgt - 100) - w (climb * j)) < (safeT g hs (f.pred (w (f.ti + j)) accel).1.x (f.pred (w (f.ti + j)) accel).1.y (f.pred (w (f.ti + j)) accel).1.rad clr).1))
  | 0, k => Or.inr (Or.inr ⟨rfl, fun j h1 h2 => by omega⟩)
  | n + 1, k => by
    simp only [wGo]
    by_cases c1 : ((f.pred (w (f.ti + k)) accel).2 != 0) = true
    · exact Or.inr (Or.inl ⟨k, by omega, by omega, by simpa using c1⟩)
    rw [if_neg c1]
    by_cases c2 : decide (w (w ((f.pred (w (f.ti + k)) accel).1.hgt - 100) - w (climb * k)) < (safeT g hs (f.pred (w (f.ti + k)) accel).1.x (f.pred (w (f.ti + k)) accel).1.y (f.pred (w (f.ti + k)) accel).1.rad clr).1) = true
    · rw [if_pos c2]
      exact Or.inl ⟨k, by omega, by omega, rfl, fun j h1 h2 => by omega⟩
    rw [if_neg c2]
    have c2' := of_decide_eq_false (by simpa using c2 : decide (w (w ((f.pred (w (f.ti + k)) accel).1.hgt - 100) - w (climb * k)) < (safeT g hs (f.pred (w (f.ti + k)) accel).1.x (f.pred (w (f.ti + k)) accel).1.y (f.pred (w (f.ti + k)) accel).1.rad clr).1) = false)
    rcases wGo_spec g hs f accel climb clr n (k + 1) with ⟨m, h1, h2, h3, h4⟩ | ⟨m, h1, h2, h3⟩ | ⟨h3, h4⟩
    · refine Or.inl ⟨m, by omega, by omega, h3, fun j hj1 hj2 => ?_⟩
      by_cases hjk : j = k
      · subst hjk; exact c2'
      · exact h4 j (by omega) hj2
    · exact Or.inr (Or.inl ⟨m, by omega, by omega, h3⟩)
    · refine Or.inr (Or.inr ⟨h3, fun j hj1 hj2 => ?_⟩)
      by_cases hjk : j = k
      · subst hjk; exact c2'
      · exact h4 j (by omega) (by omega)
end Go.Proofs.Ytpehhlfbnkakpaa.Fl
