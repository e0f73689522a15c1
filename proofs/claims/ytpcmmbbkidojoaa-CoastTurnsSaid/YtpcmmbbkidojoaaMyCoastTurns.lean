/- The law CoastTurns: the abstract machine answers true. No condition. -/
import Derived.Test.YtpcmmbbkidojoaaCkCoastTurns
namespace Go.Proofs.Ytpcmmbbkidojoaa.MyCoastTurns
open Go Go.Proofs.Ytpcmmbbkidojoaa.Eva Go.Proofs.Ytpcmmbbkidojoaa.CodeCoastTurns Go.Proofs.Ytpcmmbbkidojoaa.InCoastTurns
set_option linter.unusedVariables false
set_option linter.unusedSimpArgs false
set_option maxRecDepth 10000
set_option maxHeartbeats 4000000

theorem check_pcl (id st ti x y sx sy hgt ra rad code hits mis slack lt lx ly lh lc le : Int) (H : List Ob) : pcall E 51 [.agg [.int .i64 id, .int .i64 st, .int .i64 ti, .int .i64 x, .int .i64 y, .int .i64 sx, .int .i64 sy, .int .i64 hgt, .int .i64 ra, .int .i64 rad, .int .i64 code, .int .i64 hits, .int .i64 mis, .int .i64 slack, .int .i64 lt, .int .i64 lx, .int .i64 ly, .int .i64 lh, .int .i64 lc, .int .i64 le]] H = some (.int .i64 (T.chk ⟨id, st, ti, x, y, sx, sy, hgt, ra, rad, code, hits, mis, slack, lt, lx, ly, lh, lc, le⟩)) := check_pc ⟨id, st, ti, x, y, sx, sy, hgt, ra, rad, code, hits, mis, slack, lt, lx, ly, lh, lc, le⟩ H
def zc : List AV := [.int .i64 0, .int .i64 0, .int .i64 0, .int .i64 0, .int .i64 0, .int .i64 0, .int .i64 0, .int .i64 0, .int .i64 0, .int .i64 0, .int .i64 0, .int .i64 0, .int .i64 0, .int .i64 0, .int .i64 0, .int .i64 0, .int .i64 0, .int .i64 0, .int .i64 0, .int .i64 0]

def T.missed (f : T) : T := { f with mis := min f.mis 100 + 1, st := if f.st = 1 then 2 else f.st }
theorem chk_mis {f : T} (hc : f.chk = 0) : 0 ≤ f.mis ∧ 0 ≤ f.st ∧ f.st ≤ 2 := by
  unfold T.chk at hc
  repeat' split at hc <;> (try omega)
  simp_all

theorem miss_ok (f : T) (l : Int) (hc : f.chk = 0) (h0 : 0 ≤ l) (h1 : l ≤ 100) (H : List Ob) : ecall E 24 [.agg f.c, .int .i64 l] H = some (.tup [.agg f.missed.c, .bool (decide (l < min f.mis 100 + 1)), .int .i64 0], H, H.length, H.length) := by
  obtain ⟨m1, m2, m3⟩ := chk_mis hc
  refine call_plain e24 rfl (Nat.le_of_ble_eq_true rfl) rfl ?_
  have hc' : T.chk ⟨f.id, f.st, f.ti, f.x, f.y, f.sx, f.sy, f.hgt, f.ra, f.rad, f.code, f.hits, f.mis, f.slack, f.lt, f.lx, f.ly, f.lh, f.lc, f.le⟩ = 0 := hc
  have hw : IntKind.i64.wrap (min f.mis 100 + 1) = min f.mis 100 + 1 := wrap64 (by omega) (by omega)
  have hl : (decide (l < 0) || decide (100 < l)) = false := by simp; omega
  simp (config := {maxSteps := 4000000}) only [T.c, c24, check_pcl, hc', hw, hl, wc_seq, wc_reg, wc_cond_t, wc_cond_k, wc_blk, wc_loop, wc_exit, wc_ret, wc_skip, thenQ_n, thenQ_e, thenQ_r, leaveQ_n, leaveQ_e, leaveQ_r, exOk_n, exOk_r, rvq_nil, rvq_t, rvq_c1, rvq_cn, mkRes1, mkRes2, mkRes3, rg_nil, rg_gcall, rg_callp, avoids_nil, avoids_st, ptrId_ptr, apart_ptr, bne_self_eq_false, Nat.add_eq_left, Nat.left_eq_add, Nat.add_left_cancel_iff, decide_true, decide_false, decide_not, Nat.succ_ne_self, pcallV_fn, im_pcf, gv_pcf, im_pc10, gv_pc10, im_pc20, gv_pc20, im_pc21, gv_pc21, im_pc30, gv_pc30, im_pc31, gv_pc31, im_pc32, gv_pc32, im_pc40, gv_pc40, im_pc41, gv_pc41, im_pc42, gv_pc42, im_pc43, gv_pc43, im_pc50, gv_pc50, im_pc51, gv_pc51, im_pc52, gv_pc52, im_pc53, gv_pc53, im_pc54, gv_pc54, rg_new, rg_box, rg_mks, rg_st, rg_iad, rg_iadg, rg_q, rg_qg, updO_some, updO_none, ev_t, ev_k, upd_at, ofL_zero, ofL_succ, ofL_nil, qt_mv, qt_pick, qt_mk, qt_ld1, qt_ldn, qt_nchk, qt_bin, qt_eqs, qt_eqn, qt_un, qt_cvi, qt_cvs, qt_mkf, qt_slc, qt_slz, qt_sla, qt_sls, qt_fad, qt_fld1, qt_fldn, qt_iaa, qt_ixa, qt_ixs, qt_ext, qt_lenv, qt_lenc, qt_capv, qt_mnx, kq_mv, vq_mv, kq_pick, vq_pick, kq_fad, vq_fad, kq_ld1, vq_ld1, kq_ldn, vq_ldn, kq_bin, vq_bin, kq_un, vq_un, kq_ext, vq_ext, kq_nchk, vq_nchk, kq_mk, vq_mk, kq_eqb, vq_eqb, kq_eqs, vq_eqs, kq_eqn, vq_eqn, kq_cvi, vq_cvi, kq_mkf, vq_mkf, kq_slc, vq_slc, kq_fld1, vq_fld1, kq_fldn, vq_fldn, kq_lenv, vq_lenv, kq_lenc, vq_lenc, kq_mnx, vq_mnx, isPtr_ptr, isBool_bool, bv_bool, fadA_ptr, ld1A_ptr, ldnA_ptr, getC_zero, getC_succ, cells_agg, cells_int, cells_bool, cells_str, cells_sl, cells_ptr, isTup_agg, isTup_int, isTup_bool, isTup_str, isTup_sl, isTup_ptr, sc_int, sc_bool, sc_str, pick_t, pick_f, nchkA_ptr, nchkA_fn, lay_nil, lay_cons, wr_def, eqbA_b, eqsA_agg, aeqs_nil, aeqs_i, aeqs_b, aeqs_s, eqnA_sl, eqnA_s0, cviA_i, obd_none, obd_some, toI_int, fld1A_agg, fldnA_agg, lenvA_sl, lenvA_s0, lenvA_str, amn_nil, amn_max, amn_min, idxOk_sl, idxV_sl, abin_add, abin_sub, abin_mul, abin_quo, abin_rem, abin_eql, abin_neq, abin_lss, abin_leq, abin_gtr, abin_geq, abin_seql, abin_sneq, aun_neg, aun_not, aext_tup, im_true, im_fad, im_ld1, im_ldn, im_binl, im_binr, im_un, im_bool, im_ext, gv_gv, gv_fad, gv_ld1, gv_ldn, gv_binl, gv_binr, gv_un, gv_ext, gv_pick, pick_or, pick_and, rd_new, rd_new0, rd_cons0, rd_consS, obOf, stOk_ptr, stH_ptr, put_new, put_new0, put_0, put_s, List.all_cons, List.all_nil, List.map_cons, List.map_nil, List.length_cons, List.length_nil, List.take_zero, List.take_succ_cons, List.take_nil, List.drop_zero, List.drop_succ_cons, List.drop_nil, Nat.reduceAdd, Nat.reduceMul, Nat.reduceSub, if_true, Nat.reduceLT, Nat.reduceLeDiff, ite_true, ite_false, Nat.reduceEqDiff, if_false, Bool.not_false, Bool.not_true, Bool.and_true, Bool.true_and, Bool.false_and, Bool.and_false, Bool.or_true, Bool.true_or, Bool.or_false, Bool.false_or, reduceCtorEq, ne_eq, not_false_eq_true, not_true_eq_false, List.getD, List.getElem?_cons_zero, List.getElem?_cons_succ, Option.getD_some, Option.bind_some, Option.map_some, Option.isSome_some, Nat.zero_add, Nat.add_zero, Bool.false_eq_true, reduceIte, List.length_append, List.append_assoc, List.cons_append, List.nil_append, true_and, and_true, and_self, Nat.le_refl, Nat.le_add_right, Option.some.injEq, true_implies, false_implies, forall_const, implies_true, Int.reduceNeg, avoids_none, eq_self, Prod.mk.injEq, AV.fn.injEq, List.self_eq_append_right, List.append_nil, exists_eq_left, exists_eq_left', exists_and_left, exists_eq_right, exists_and_right, and_assoc, List.cons_append, List.nil_append, List.map_cons, List.map_nil]
  refine ⟨fun hs => ?_, fun hs => ?_⟩
  · have hs' : f.st = 1 := by simpa using hs
    simp [T.missed, hs']
  · have hs' : ¬ f.st = 1 := by simpa using hs
    simp [T.missed, hs']
theorem miss_pc (f : T) (l : Int) (hc : f.chk = 0) (h0 : 0 ≤ l) (h1 : l ≤ 100) (H : List Ob) : pcall E 24 [.agg f.c, .int .i64 l] H = some (.tup [.agg f.missed.c, .bool (decide (l < min f.mis 100 + 1)), .int .i64 0]) := pcall_some.2 (miss_ok f l hc h0 h1 H)

def T.hit (f : T) : T := { f with mis := 0, st := if f.st = 2 then 1 else f.st }
theorem hit_ok (f : T) (hc : f.chk = 0) (H : List Ob) : ecall E 26 [.agg f.c] H = some (.tup [.agg f.hit.c, .int .i64 0], H, H.length, H.length) := by
  refine call_plain e26 rfl (Nat.le_of_ble_eq_true rfl) rfl ?_
  have hc' : T.chk ⟨f.id, f.st, f.ti, f.x, f.y, f.sx, f.sy, f.hgt, f.ra, f.rad, f.code, f.hits, f.mis, f.slack, f.lt, f.lx, f.ly, f.lh, f.lc, f.le⟩ = 0 := hc
  simp (config := {maxSteps := 4000000}) only [T.c, c26, check_pcl, hc', wc_seq, wc_reg, wc_cond_t, wc_cond_k, wc_blk, wc_loop, wc_exit, wc_ret, wc_skip, thenQ_n, thenQ_e, thenQ_r, leaveQ_n, leaveQ_e, leaveQ_r, exOk_n, exOk_r, rvq_nil, rvq_t, rvq_c1, rvq_cn, mkRes1, mkRes2, mkRes3, rg_nil, rg_gcall, rg_callp, avoids_nil, avoids_st, ptrId_ptr, apart_ptr, bne_self_eq_false, Nat.add_eq_left, Nat.left_eq_add, Nat.add_left_cancel_iff, decide_true, decide_false, decide_not, Nat.succ_ne_self, pcallV_fn, im_pcf, gv_pcf, im_pc10, gv_pc10, im_pc20, gv_pc20, im_pc21, gv_pc21, im_pc30, gv_pc30, im_pc31, gv_pc31, im_pc32, gv_pc32, im_pc40, gv_pc40, im_pc41, gv_pc41, im_pc42, gv_pc42, im_pc43, gv_pc43, im_pc50, gv_pc50, im_pc51, gv_pc51, im_pc52, gv_pc52, im_pc53, gv_pc53, im_pc54, gv_pc54, rg_new, rg_box, rg_mks, rg_st, rg_iad, rg_iadg, rg_q, rg_qg, updO_some, updO_none, ev_t, ev_k, upd_at, ofL_zero, ofL_succ, ofL_nil, qt_mv, qt_pick, qt_mk, qt_ld1, qt_ldn, qt_nchk, qt_bin, qt_eqs, qt_eqn, qt_un, qt_cvi, qt_cvs, qt_mkf, qt_slc, qt_slz, qt_sla, qt_sls, qt_fad, qt_fld1, qt_fldn, qt_iaa, qt_ixa, qt_ixs, qt_ext, qt_lenv, qt_lenc, qt_capv, qt_mnx, kq_mv, vq_mv, kq_pick, vq_pick, kq_fad, vq_fad, kq_ld1, vq_ld1, kq_ldn, vq_ldn, kq_bin, vq_bin, kq_un, vq_un, kq_ext, vq_ext, kq_nchk, vq_nchk, kq_mk, vq_mk, kq_eqb, vq_eqb, kq_eqs, vq_eqs, kq_eqn, vq_eqn, kq_cvi, vq_cvi, kq_mkf, vq_mkf, kq_slc, vq_slc, kq_fld1, vq_fld1, kq_fldn, vq_fldn, kq_lenv, vq_lenv, kq_lenc, vq_lenc, kq_mnx, vq_mnx, isPtr_ptr, isBool_bool, bv_bool, fadA_ptr, ld1A_ptr, ldnA_ptr, getC_zero, getC_succ, cells_agg, cells_int, cells_bool, cells_str, cells_sl, cells_ptr, isTup_agg, isTup_int, isTup_bool, isTup_str, isTup_sl, isTup_ptr, sc_int, sc_bool, sc_str, pick_t, pick_f, nchkA_ptr, nchkA_fn, lay_nil, lay_cons, wr_def, eqbA_b, eqsA_agg, aeqs_nil, aeqs_i, aeqs_b, aeqs_s, eqnA_sl, eqnA_s0, cviA_i, obd_none, obd_some, toI_int, fld1A_agg, fldnA_agg, lenvA_sl, lenvA_s0, lenvA_str, amn_nil, amn_max, amn_min, idxOk_sl, idxV_sl, abin_add, abin_sub, abin_mul, abin_quo, abin_rem, abin_eql, abin_neq, abin_lss, abin_leq, abin_gtr, abin_geq, abin_seql, abin_sneq, aun_neg, aun_not, aext_tup, im_true, im_fad, im_ld1, im_ldn, im_binl, im_binr, im_un, im_bool, im_ext, gv_gv, gv_fad, gv_ld1, gv_ldn, gv_binl, gv_binr, gv_un, gv_ext, gv_pick, pick_or, pick_and, rd_new, rd_new0, rd_cons0, rd_consS, obOf, stOk_ptr, stH_ptr, put_new, put_new0, put_0, put_s, List.all_cons, List.all_nil, List.map_cons, List.map_nil, List.length_cons, List.length_nil, List.take_zero, List.take_succ_cons, List.take_nil, List.drop_zero, List.drop_succ_cons, List.drop_nil, Nat.reduceAdd, Nat.reduceMul, Nat.reduceSub, if_true, Nat.reduceLT, Nat.reduceLeDiff, ite_true, ite_false, Nat.reduceEqDiff, if_false, Bool.not_false, Bool.not_true, Bool.and_true, Bool.true_and, Bool.false_and, Bool.and_false, Bool.or_true, Bool.true_or, Bool.or_false, Bool.false_or, reduceCtorEq, ne_eq, not_false_eq_true, not_true_eq_false, List.getD, List.getElem?_cons_zero, List.getElem?_cons_succ, Option.getD_some, Option.bind_some, Option.map_some, Option.isSome_some, Nat.zero_add, Nat.add_zero, Bool.false_eq_true, reduceIte, List.length_append, List.append_assoc, List.cons_append, List.nil_append, true_and, and_true, and_self, Nat.le_refl, Nat.le_add_right, Option.some.injEq, true_implies, false_implies, forall_const, implies_true, Int.reduceNeg, avoids_none, eq_self, Prod.mk.injEq, AV.fn.injEq, List.self_eq_append_right, List.append_nil, exists_eq_left, exists_eq_left', exists_and_left, exists_eq_right, exists_and_right, and_assoc, List.cons_append, List.nil_append, List.map_cons, List.map_nil]
  refine ⟨fun hs => ?_, fun hs => ?_⟩
  · have hs' : f.st = 2 := by simpa using hs
    simp [T.hit, hs']
  · have hs' : ¬ f.st = 2 := by simpa using hs
    simp [T.hit, hs']
theorem hit_bad (f : T) (hc : (f.chk != 0) = true) (H : List Ob) : ecall E 26 [.agg f.c] H = some (.tup [.agg zc, .int .i64 f.chk], H, H.length, H.length) := by
  refine call_plain e26 rfl (Nat.le_of_ble_eq_true rfl) rfl ?_
  have hc' : (T.chk ⟨f.id, f.st, f.ti, f.x, f.y, f.sx, f.sy, f.hgt, f.ra, f.rad, f.code, f.hits, f.mis, f.slack, f.lt, f.lx, f.ly, f.lh, f.lc, f.le⟩ != 0) = true := hc
  simp (config := {maxSteps := 4000000}) only [T.c, zc, c26, check_pcl, hc', wc_seq, wc_reg, wc_cond_t, wc_cond_k, wc_blk, wc_loop, wc_exit, wc_ret, wc_skip, thenQ_n, thenQ_e, thenQ_r, leaveQ_n, leaveQ_e, leaveQ_r, exOk_n, exOk_r, rvq_nil, rvq_t, rvq_c1, rvq_cn, mkRes1, mkRes2, mkRes3, rg_nil, rg_gcall, rg_callp, avoids_nil, avoids_st, ptrId_ptr, apart_ptr, bne_self_eq_false, Nat.add_eq_left, Nat.left_eq_add, Nat.add_left_cancel_iff, decide_true, decide_false, decide_not, Nat.succ_ne_self, pcallV_fn, im_pcf, gv_pcf, im_pc10, gv_pc10, im_pc20, gv_pc20, im_pc21, gv_pc21, im_pc30, gv_pc30, im_pc31, gv_pc31, im_pc32, gv_pc32, im_pc40, gv_pc40, im_pc41, gv_pc41, im_pc42, gv_pc42, im_pc43, gv_pc43, im_pc50, gv_pc50, im_pc51, gv_pc51, im_pc52, gv_pc52, im_pc53, gv_pc53, im_pc54, gv_pc54, rg_new, rg_box, rg_mks, rg_st, rg_iad, rg_iadg, rg_q, rg_qg, updO_some, updO_none, ev_t, ev_k, upd_at, ofL_zero, ofL_succ, ofL_nil, qt_mv, qt_pick, qt_mk, qt_ld1, qt_ldn, qt_nchk, qt_bin, qt_eqs, qt_eqn, qt_un, qt_cvi, qt_cvs, qt_mkf, qt_slc, qt_slz, qt_sla, qt_sls, qt_fad, qt_fld1, qt_fldn, qt_iaa, qt_ixa, qt_ixs, qt_ext, qt_lenv, qt_lenc, qt_capv, qt_mnx, kq_mv, vq_mv, kq_pick, vq_pick, kq_fad, vq_fad, kq_ld1, vq_ld1, kq_ldn, vq_ldn, kq_bin, vq_bin, kq_un, vq_un, kq_ext, vq_ext, kq_nchk, vq_nchk, kq_mk, vq_mk, kq_eqb, vq_eqb, kq_eqs, vq_eqs, kq_eqn, vq_eqn, kq_cvi, vq_cvi, kq_mkf, vq_mkf, kq_slc, vq_slc, kq_fld1, vq_fld1, kq_fldn, vq_fldn, kq_lenv, vq_lenv, kq_lenc, vq_lenc, kq_mnx, vq_mnx, isPtr_ptr, isBool_bool, bv_bool, fadA_ptr, ld1A_ptr, ldnA_ptr, getC_zero, getC_succ, cells_agg, cells_int, cells_bool, cells_str, cells_sl, cells_ptr, isTup_agg, isTup_int, isTup_bool, isTup_str, isTup_sl, isTup_ptr, sc_int, sc_bool, sc_str, pick_t, pick_f, nchkA_ptr, nchkA_fn, lay_nil, lay_cons, wr_def, eqbA_b, eqsA_agg, aeqs_nil, aeqs_i, aeqs_b, aeqs_s, eqnA_sl, eqnA_s0, cviA_i, obd_none, obd_some, toI_int, fld1A_agg, fldnA_agg, lenvA_sl, lenvA_s0, lenvA_str, amn_nil, amn_max, amn_min, idxOk_sl, idxV_sl, abin_add, abin_sub, abin_mul, abin_quo, abin_rem, abin_eql, abin_neq, abin_lss, abin_leq, abin_gtr, abin_geq, abin_seql, abin_sneq, aun_neg, aun_not, aext_tup, im_true, im_fad, im_ld1, im_ldn, im_binl, im_binr, im_un, im_bool, im_ext, gv_gv, gv_fad, gv_ld1, gv_ldn, gv_binl, gv_binr, gv_un, gv_ext, gv_pick, pick_or, pick_and, rd_new, rd_new0, rd_cons0, rd_consS, obOf, stOk_ptr, stH_ptr, put_new, put_new0, put_0, put_s, List.all_cons, List.all_nil, List.map_cons, List.map_nil, List.length_cons, List.length_nil, List.take_zero, List.take_succ_cons, List.take_nil, List.drop_zero, List.drop_succ_cons, List.drop_nil, Nat.reduceAdd, Nat.reduceMul, Nat.reduceSub, if_true, Nat.reduceLT, Nat.reduceLeDiff, ite_true, ite_false, Nat.reduceEqDiff, if_false, Bool.not_false, Bool.not_true, Bool.and_true, Bool.true_and, Bool.false_and, Bool.and_false, Bool.or_true, Bool.true_or, Bool.or_false, Bool.false_or, reduceCtorEq, ne_eq, not_false_eq_true, not_true_eq_false, List.getD, List.getElem?_cons_zero, List.getElem?_cons_succ, Option.getD_some, Option.bind_some, Option.map_some, Option.isSome_some, Nat.zero_add, Nat.add_zero, Bool.false_eq_true, reduceIte, List.length_append, List.append_assoc, List.cons_append, List.nil_append, true_and, and_true, and_self, Nat.le_refl, Nat.le_add_right, Option.some.injEq, true_implies, false_implies, forall_const, implies_true, Int.reduceNeg, avoids_none, eq_self, Prod.mk.injEq, AV.fn.injEq, List.self_eq_append_right, List.append_nil, exists_eq_left, exists_eq_left', exists_and_left, exists_eq_right, exists_and_right, and_assoc, List.cons_append, List.nil_append, List.map_cons, List.map_nil]
theorem chk_upd {f : T} (hc : f.chk = 0) {m s : Int} (hm : 0 ≤ m) (h0 : 0 ≤ s) (h2 : s ≤ 2) : T.chk { f with mis := m, st := s } = 0 := by
  unfold T.chk at hc ⊢
  repeat' split at hc <;> (try omega)
  simp_all <;> omega
theorem chk_hit {f : T} (hc : f.chk = 0) : f.hit.chk = 0 := by
  obtain ⟨m1, m2, m3⟩ := chk_mis hc
  unfold T.hit
  split
  · exact chk_upd hc (by omega) (by omega) (by omega)
  · exact chk_upd hc (by omega) m2 m3
theorem hit_st {f : T} (hc : f.chk = 0) : (f.hit.st = 0 ∨ f.hit.st = 1) ∧ f.hit.mis = 0 := by
  obtain ⟨m1, m2, m3⟩ := chk_mis hc
  refine ⟨?_, rfl⟩
  show (if f.st = 2 then (1 : Int) else f.st) = 0 ∨ (if f.st = 2 then (1 : Int) else f.st) = 1
  split <;> omega

def lim20 (a : Int) : Int := (a.tmod 21 + 21).tmod 21
theorem lim20_b (a : Int) : 0 ≤ lim20 a ∧ lim20 a ≤ 20 := by
  have h1 := Int.lt_tmod_of_pos a (by decide : (0 : Int) < 21)
  have h2 := Int.tmod_nonneg (a := a.tmod 21 + 21) 21 (by omega)
  have h3 := Int.tmod_lt_of_pos (a.tmod 21 + 21) (by decide : (0 : Int) < 21)
  unfold lim20
  omega
theorem within_pc (a : Int) (H : List Ob) : pcall E 25 [.int .i64 a, .int .i64 0, .int .i64 20] H = some (.int .i64 (lim20 a)) := by
  refine pcall_some.2 (call_plain e25 rfl (Nat.le_of_ble_eq_true rfl) rfl ?_)
  have h1 := Int.lt_tmod_of_pos a (by decide : (0 : Int) < 21)
  have h2 := Int.tmod_lt_of_pos a (by decide : (0 : Int) < 21)
  have h3 := lim20_b a
  have w1 : IntKind.i64.wrap (20 - 0) = 20 := by decide
  have w2 : IntKind.i64.wrap (20 + 1) = 21 := by decide
  have w3 : IntKind.i64.wrap (a.tmod 21 + 21) = a.tmod 21 + 21 := wrap64 (by omega) (by omega)
  have w4 : IntKind.i64.wrap (0 + (a.tmod 21 + 21).tmod 21) = lim20 a := by
    show IntKind.i64.wrap (0 + lim20 a) = lim20 a
    rw [wrap64 (by omega) (by omega)]; omega
  simp (config := {maxSteps := 4000000}) only [c25, w1, w2, w3, w4, Int.reduceEq, Int.reduceNe, wc_seq, wc_reg, wc_cond_t, wc_cond_k, wc_blk, wc_loop, wc_exit, wc_ret, wc_skip, thenQ_n, thenQ_e, thenQ_r, leaveQ_n, leaveQ_e, leaveQ_r, exOk_n, exOk_r, rvq_nil, rvq_t, rvq_c1, rvq_cn, mkRes1, mkRes2, mkRes3, rg_nil, rg_gcall, rg_callp, avoids_nil, avoids_st, ptrId_ptr, apart_ptr, bne_self_eq_false, Nat.add_eq_left, Nat.left_eq_add, Nat.add_left_cancel_iff, decide_true, decide_false, decide_not, Nat.succ_ne_self, pcallV_fn, im_pcf, gv_pcf, im_pc10, gv_pc10, im_pc20, gv_pc20, im_pc21, gv_pc21, im_pc30, gv_pc30, im_pc31, gv_pc31, im_pc32, gv_pc32, im_pc40, gv_pc40, im_pc41, gv_pc41, im_pc42, gv_pc42, im_pc43, gv_pc43, im_pc50, gv_pc50, im_pc51, gv_pc51, im_pc52, gv_pc52, im_pc53, gv_pc53, im_pc54, gv_pc54, rg_new, rg_box, rg_mks, rg_st, rg_iad, rg_iadg, rg_q, rg_qg, updO_some, updO_none, ev_t, ev_k, upd_at, ofL_zero, ofL_succ, ofL_nil, qt_mv, qt_pick, qt_mk, qt_ld1, qt_ldn, qt_nchk, qt_bin, qt_eqs, qt_eqn, qt_un, qt_cvi, qt_cvs, qt_mkf, qt_slc, qt_slz, qt_sla, qt_sls, qt_fad, qt_fld1, qt_fldn, qt_iaa, qt_ixa, qt_ixs, qt_ext, qt_lenv, qt_lenc, qt_capv, qt_mnx, kq_mv, vq_mv, kq_pick, vq_pick, kq_fad, vq_fad, kq_ld1, vq_ld1, kq_ldn, vq_ldn, kq_bin, vq_bin, kq_un, vq_un, kq_ext, vq_ext, kq_nchk, vq_nchk, kq_mk, vq_mk, kq_eqb, vq_eqb, kq_eqs, vq_eqs, kq_eqn, vq_eqn, kq_cvi, vq_cvi, kq_mkf, vq_mkf, kq_slc, vq_slc, kq_fld1, vq_fld1, kq_fldn, vq_fldn, kq_lenv, vq_lenv, kq_lenc, vq_lenc, kq_mnx, vq_mnx, isPtr_ptr, isBool_bool, bv_bool, fadA_ptr, ld1A_ptr, ldnA_ptr, getC_zero, getC_succ, cells_agg, cells_int, cells_bool, cells_str, cells_sl, cells_ptr, isTup_agg, isTup_int, isTup_bool, isTup_str, isTup_sl, isTup_ptr, sc_int, sc_bool, sc_str, pick_t, pick_f, nchkA_ptr, nchkA_fn, lay_nil, lay_cons, wr_def, eqbA_b, eqsA_agg, aeqs_nil, aeqs_i, aeqs_b, aeqs_s, eqnA_sl, eqnA_s0, cviA_i, obd_none, obd_some, toI_int, fld1A_agg, fldnA_agg, lenvA_sl, lenvA_s0, lenvA_str, amn_nil, amn_max, amn_min, idxOk_sl, idxV_sl, abin_add, abin_sub, abin_mul, abin_quo, abin_rem, abin_eql, abin_neq, abin_lss, abin_leq, abin_gtr, abin_geq, abin_seql, abin_sneq, aun_neg, aun_not, aext_tup, im_true, im_fad, im_ld1, im_ldn, im_binl, im_binr, im_un, im_bool, im_ext, gv_gv, gv_fad, gv_ld1, gv_ldn, gv_binl, gv_binr, gv_un, gv_ext, gv_pick, pick_or, pick_and, rd_new, rd_new0, rd_cons0, rd_consS, obOf, stOk_ptr, stH_ptr, put_new, put_new0, put_0, put_s, List.all_cons, List.all_nil, List.map_cons, List.map_nil, List.length_cons, List.length_nil, List.take_zero, List.take_succ_cons, List.take_nil, List.drop_zero, List.drop_succ_cons, List.drop_nil, Nat.reduceAdd, Nat.reduceMul, Nat.reduceSub, if_true, Nat.reduceLT, Nat.reduceLeDiff, ite_true, ite_false, Nat.reduceEqDiff, if_false, Bool.not_false, Bool.not_true, Bool.and_true, Bool.true_and, Bool.false_and, Bool.and_false, Bool.or_true, Bool.true_or, Bool.or_false, Bool.false_or, reduceCtorEq, ne_eq, not_false_eq_true, not_true_eq_false, List.getD, List.getElem?_cons_zero, List.getElem?_cons_succ, Option.getD_some, Option.bind_some, Option.map_some, Option.isSome_some, Nat.zero_add, Nat.add_zero, Bool.false_eq_true, reduceIte, List.length_append, List.append_assoc, List.cons_append, List.nil_append, true_and, and_true, and_self, Nat.le_refl, Nat.le_add_right, Option.some.injEq, true_implies, false_implies, forall_const, implies_true, Int.reduceNeg, avoids_none, eq_self, Prod.mk.injEq, AV.fn.injEq, List.self_eq_append_right, List.append_nil, exists_eq_left, exists_eq_left', exists_and_left, exists_eq_right, exists_and_right, and_assoc, List.cons_append, List.nil_append, List.map_cons, List.map_nil]

theorem law (f : T) (limit : Int) : ∃ r, ecall E 8 [.agg f.c, .int .i64 limit] [] = some (.bool true, r) := by
  obtain ⟨l0, l1⟩ := lim20_b limit
  generalize hl : lim20 limit = l at l0 l1
  refine call_true e8 rfl (Nat.le_of_ble_eq_true rfl) ?_
  have hm1 := miss_pc ⟨0, 1, 0, 0, 0, 0, 0, 0, 0, 0, 0, 0, 0, 0, 0, 0, 0, 0, 0, 0⟩ 5 (by decide) (by decide) (by decide)
  simp only [T.c, T.missed, if_true] at hm1
  by_cases hc : f.chk = 0
  · have hh : ∀ H, pcall E 26 [.agg f.c] H = some (.tup [.agg f.hit.c, .int .i64 0]) := fun H => pcall_some.2 (hit_ok f hc H)
    simp only [T.c] at hh
    simp (config := {maxSteps := 4000000}) only [c8, T.c, hm1, hh, within_pc, hl, wc_seq, wc_reg, wc_cond_t, wc_cond_k, wc_blk, wc_loop, wc_exit, wc_ret, wc_skip, thenQ_n, thenQ_e, thenQ_r, leaveQ_n, leaveQ_e, leaveQ_r, exOk_n, exOk_r, rvq_nil, rvq_t, rvq_c1, rvq_cn, mkRes1, mkRes2, mkRes3, rg_nil, rg_gcall, rg_callp, avoids_nil, avoids_st, ptrId_ptr, apart_ptr, bne_self_eq_false, Nat.add_eq_left, Nat.left_eq_add, Nat.add_left_cancel_iff, decide_true, decide_false, decide_not, Nat.succ_ne_self, pcallV_fn, im_pcf, gv_pcf, im_pc10, gv_pc10, im_pc20, gv_pc20, im_pc21, gv_pc21, im_pc30, gv_pc30, im_pc31, gv_pc31, im_pc32, gv_pc32, im_pc40, gv_pc40, im_pc41, gv_pc41, im_pc42, gv_pc42, im_pc43, gv_pc43, im_pc50, gv_pc50, im_pc51, gv_pc51, im_pc52, gv_pc52, im_pc53, gv_pc53, im_pc54, gv_pc54, rg_new, rg_box, rg_mks, rg_st, rg_iad, rg_iadg, rg_q, rg_qg, updO_some, updO_none, ev_t, ev_k, upd_at, ofL_zero, ofL_succ, ofL_nil, qt_mv, qt_pick, qt_mk, qt_ld1, qt_ldn, qt_nchk, qt_bin, qt_eqs, qt_eqn, qt_un, qt_cvi, qt_cvs, qt_mkf, qt_slc, qt_slz, qt_sla, qt_sls, qt_fad, qt_fld1, qt_fldn, qt_iaa, qt_ixa, qt_ixs, qt_ext, qt_lenv, qt_lenc, qt_capv, qt_mnx, kq_mv, vq_mv, kq_pick, vq_pick, kq_fad, vq_fad, kq_ld1, vq_ld1, kq_ldn, vq_ldn, kq_bin, vq_bin, kq_un, vq_un, kq_ext, vq_ext, kq_nchk, vq_nchk, kq_mk, vq_mk, kq_eqb, vq_eqb, kq_eqs, vq_eqs, kq_eqn, vq_eqn, kq_cvi, vq_cvi, kq_mkf, vq_mkf, kq_slc, vq_slc, kq_fld1, vq_fld1, kq_fldn, vq_fldn, kq_lenv, vq_lenv, kq_lenc, vq_lenc, kq_mnx, vq_mnx, isPtr_ptr, isBool_bool, bv_bool, fadA_ptr, ld1A_ptr, ldnA_ptr, getC_zero, getC_succ, cells_agg, cells_int, cells_bool, cells_str, cells_sl, cells_ptr, isTup_agg, isTup_int, isTup_bool, isTup_str, isTup_sl, isTup_ptr, sc_int, sc_bool, sc_str, pick_t, pick_f, nchkA_ptr, nchkA_fn, lay_nil, lay_cons, wr_def, eqbA_b, eqsA_agg, aeqs_nil, aeqs_i, aeqs_b, aeqs_s, eqnA_sl, eqnA_s0, cviA_i, obd_none, obd_some, toI_int, fld1A_agg, fldnA_agg, lenvA_sl, lenvA_s0, lenvA_str, amn_nil, amn_max, amn_min, idxOk_sl, idxV_sl, abin_add, abin_sub, abin_mul, abin_quo, abin_rem, abin_eql, abin_neq, abin_lss, abin_leq, abin_gtr, abin_geq, abin_seql, abin_sneq, aun_neg, aun_not, aext_tup, im_true, im_fad, im_ld1, im_ldn, im_binl, im_binr, im_un, im_bool, im_ext, gv_gv, gv_fad, gv_ld1, gv_ldn, gv_binl, gv_binr, gv_un, gv_ext, gv_pick, pick_or, pick_and, rd_new, rd_new0, rd_cons0, rd_consS, obOf, stOk_ptr, stH_ptr, put_new, put_new0, put_0, put_s, List.all_cons, List.all_nil, List.map_cons, List.map_nil, List.length_cons, List.length_nil, List.take_zero, List.take_succ_cons, List.take_nil, List.drop_zero, List.drop_succ_cons, List.drop_nil, Nat.reduceAdd, Nat.reduceMul, Nat.reduceSub, if_true, Nat.reduceLT, Nat.reduceLeDiff, ite_true, ite_false, Nat.reduceEqDiff, if_false, Bool.not_false, Bool.not_true, Bool.and_true, Bool.true_and, Bool.false_and, Bool.and_false, Bool.or_true, Bool.true_or, Bool.or_false, Bool.false_or, reduceCtorEq, ne_eq, not_false_eq_true, not_true_eq_false, List.getD, List.getElem?_cons_zero, List.getElem?_cons_succ, Option.getD_some, Option.bind_some, Option.map_some, Option.isSome_some, Nat.zero_add, Nat.add_zero, Bool.false_eq_true, reduceIte, List.length_append, List.append_assoc, List.cons_append, List.nil_append, true_and, and_true, and_self, Nat.le_refl, Nat.le_add_right, Option.some.injEq, true_implies, false_implies, forall_const, implies_true, Int.reduceNeg, avoids_none, eq_self, Prod.mk.injEq, AV.fn.injEq, List.self_eq_append_right, List.append_nil, exists_eq_left, exists_eq_left', exists_and_left, exists_eq_right, exists_and_right, and_assoc, List.cons_append, List.nil_append, List.map_cons, List.map_nil]
    refine ⟨fun h => absurd h (by decide), fun _ => ?_⟩
    have hgc := chk_hit hc
    have hgs := hit_st hc
    generalize f.hit = g at hgc hgs
    refine W_loop (fun m f1 h1 => ∃ j : Nat, m = l.toNat + 1 - j ∧ j ≤ l.toNat + 1 ∧ ∃ x : T, x.chk = 0 ∧ x = { g with mis := j, st := if j = 0 then g.st else if g.st = 1 then 2 else g.st } ∧ f1 1 = .int .i64 l ∧ f1 13 = .int .i64 j ∧ f1 12 = .bool (decide (l < j)) ∧
      f1 9 = .ptr 3 0 0 ∧ f1 11 = .ptr 4 0 0 ∧ rdObj h1 3 0 = some ⟨g.c, 0, 0, true, true⟩ ∧ rdObj h1 4 0 = some ⟨x.c, 0, 0, true, true⟩) (by simp) (l.toNat + 1) ⟨0, rfl, Nat.zero_le _, g, hgc, ?_, rfl, rfl, ?_, rfl, rfl, rfl, rfl⟩ ?_
    · cases g; simp only at hgs ⊢; simp [hgs.2]
    · have hl0 : decide (l < ((0 : Nat) : Int)) = false := by simp; omega
      rw [hl0]; rfl
    · rintro k f1 h1 _ _ ⟨j, rfl, hj, x, hxc, hx, e1, e13, e12, e9, e11, r9, r11⟩
      have r9' : ∀ l, rdObj (h1 ++ l) 3 0 = _ := fun l => rd_keep r9
      have r11' : ∀ l, rdObj (h1 ++ l) 4 0 = _ := fun l => rd_keep r11
      have hmx := miss_pc x l hxc l0 (by omega)
      have hhx : ∀ H, pcall E 26 [.agg x.c] H = some (.tup [.agg x.hit.c, .int .i64 0]) := fun H => pcall_some.2 (hit_ok x hxc H)
      simp only [T.c, T.missed, T.hit] at hmx hhx r9 r11 r9' r11'
      have hmis : x.mis = j := by rw [hx]
      have hw : IntKind.i64.wrap ((j : Int) + 1) = ((j + 1 : Nat) : Int) := by rw [wrap64 (by omega) (by omega)]; omega
      have hmin : min x.mis 100 + 1 = ((j + 1 : Nat) : Int) ∨ ¬ (j : Int) ≤ l := by omega
      have h34 : (3 : Nat) ≠ 4 := by decide
      simp (config := {maxSteps := 4000000}) only [e1, e13, e12, e9, e11, r9, r11, r9', r11', hmx, hhx, hw, rd_put_ne h34, rd_put_same (r11' _), wc_seq, wc_reg, wc_cond_t, wc_cond_k, wc_blk, wc_loop, wc_exit, wc_ret, wc_skip, thenQ_n, thenQ_e, thenQ_r, leaveQ_n, leaveQ_e, leaveQ_r, exOk_n, exOk_r, rvq_nil, rvq_t, rvq_c1, rvq_cn, mkRes1, mkRes2, mkRes3, rg_nil, rg_gcall, rg_callp, avoids_nil, avoids_st, ptrId_ptr, apart_ptr, bne_self_eq_false, Nat.add_eq_left, Nat.left_eq_add, Nat.add_left_cancel_iff, decide_true, decide_false, decide_not, Nat.succ_ne_self, pcallV_fn, im_pcf, gv_pcf, im_pc10, gv_pc10, im_pc20, gv_pc20, im_pc21, gv_pc21, im_pc30, gv_pc30, im_pc31, gv_pc31, im_pc32, gv_pc32, im_pc40, gv_pc40, im_pc41, gv_pc41, im_pc42, gv_pc42, im_pc43, gv_pc43, im_pc50, gv_pc50, im_pc51, gv_pc51, im_pc52, gv_pc52, im_pc53, gv_pc53, im_pc54, gv_pc54, rg_new, rg_box, rg_mks, rg_st, rg_iad, rg_iadg, rg_q, rg_qg, updO_some, updO_none, ev_t, ev_k, upd_at, ofL_zero, ofL_succ, ofL_nil, qt_mv, qt_pick, qt_mk, qt_ld1, qt_ldn, qt_nchk, qt_bin, qt_eqs, qt_eqn, qt_un, qt_cvi, qt_cvs, qt_mkf, qt_slc, qt_slz, qt_sla, qt_sls, qt_fad, qt_fld1, qt_fldn, qt_iaa, qt_ixa, qt_ixs, qt_ext, qt_lenv, qt_lenc, qt_capv, qt_mnx, kq_mv, vq_mv, kq_pick, vq_pick, kq_fad, vq_fad, kq_ld1, vq_ld1, kq_ldn, vq_ldn, kq_bin, vq_bin, kq_un, vq_un, kq_ext, vq_ext, kq_nchk, vq_nchk, kq_mk, vq_mk, kq_eqb, vq_eqb, kq_eqs, vq_eqs, kq_eqn, vq_eqn, kq_cvi, vq_cvi, kq_mkf, vq_mkf, kq_slc, vq_slc, kq_fld1, vq_fld1, kq_fldn, vq_fldn, kq_lenv, vq_lenv, kq_lenc, vq_lenc, kq_mnx, vq_mnx, isPtr_ptr, isBool_bool, bv_bool, fadA_ptr, ld1A_ptr, ldnA_ptr, getC_zero, getC_succ, cells_agg, cells_int, cells_bool, cells_str, cells_sl, cells_ptr, isTup_agg, isTup_int, isTup_bool, isTup_str, isTup_sl, isTup_ptr, sc_int, sc_bool, sc_str, pick_t, pick_f, nchkA_ptr, nchkA_fn, lay_nil, lay_cons, wr_def, eqbA_b, eqsA_agg, aeqs_nil, aeqs_i, aeqs_b, aeqs_s, eqnA_sl, eqnA_s0, cviA_i, obd_none, obd_some, toI_int, fld1A_agg, fldnA_agg, lenvA_sl, lenvA_s0, lenvA_str, amn_nil, amn_max, amn_min, idxOk_sl, idxV_sl, abin_add, abin_sub, abin_mul, abin_quo, abin_rem, abin_eql, abin_neq, abin_lss, abin_leq, abin_gtr, abin_geq, abin_seql, abin_sneq, aun_neg, aun_not, aext_tup, im_true, im_fad, im_ld1, im_ldn, im_binl, im_binr, im_un, im_bool, im_ext, gv_gv, gv_fad, gv_ld1, gv_ldn, gv_binl, gv_binr, gv_un, gv_ext, gv_pick, pick_or, pick_and, rd_new, rd_new0, rd_cons0, rd_consS, obOf, stOk_ptr, stH_ptr, put_new, put_new0, put_0, put_s, List.all_cons, List.all_nil, List.map_cons, List.map_nil, List.length_cons, List.length_nil, List.take_zero, List.take_succ_cons, List.take_nil, List.drop_zero, List.drop_succ_cons, List.drop_nil, Nat.reduceAdd, Nat.reduceMul, Nat.reduceSub, if_true, Nat.reduceLT, Nat.reduceLeDiff, ite_true, ite_false, Nat.reduceEqDiff, if_false, Bool.not_false, Bool.not_true, Bool.and_true, Bool.true_and, Bool.false_and, Bool.and_false, Bool.or_true, Bool.true_or, Bool.or_false, Bool.false_or, reduceCtorEq, ne_eq, not_false_eq_true, not_true_eq_false, List.getD, List.getElem?_cons_zero, List.getElem?_cons_succ, Option.getD_some, Option.bind_some, Option.map_some, Option.isSome_some, Nat.zero_add, Nat.add_zero, Bool.false_eq_true, reduceIte, List.length_append, List.append_assoc, List.cons_append, List.nil_append, true_and, and_true, and_self, Nat.le_refl, Nat.le_add_right, Option.some.injEq, true_implies, false_implies, forall_const, implies_true, Int.reduceNeg, avoids_none, eq_self, Prod.mk.injEq, AV.fn.injEq, List.self_eq_append_right, List.append_nil, exists_eq_left, exists_eq_left', exists_and_left, exists_eq_right, exists_and_right, and_assoc, List.cons_append, List.nil_append, List.map_cons, List.map_nil]
      refine ⟨fun hjl => ⟨fun h => ?_, fun h => ⟨Nat.zero_le _, Nat.zero_le _, ?_⟩⟩, fun hjl => ⟨Nat.zero_le _, ?_⟩⟩
      · simp at h hjl; omega
      · have hjl' : (j : Int) ≤ l := by simpa using hjl
        have hm := hmin.resolve_right (fun h => h hjl')
        refine ⟨_, ?_, j + 1, rfl, ?_, { g with mis := ((j + 1 : Nat) : Int), st := if g.st = 1 then 2 else g.st }, ?_, ?_, ?_, ?_, ?_, ?_⟩
        · omega
        · omega
        · exact chk_upd hgc (by omega) (by split <;> omega) (by split <;> omega)
        · simp
        · rfl
        · rw [hm]
        · rfl
        · have hst : (if x.st = 1 then (2 : Int) else x.st) = if g.st = 1 then 2 else g.st := by
            rw [hx]; simp only
            split <;> split <;> simp_all
          rw [hm, hst, hx]; rfl
      · have hlj : l < (j : Int) := by simpa using hjl
        subst hx
        have hs : (if (if j = 0 then g.st else if g.st = 1 then 2 else g.st) = 2 then (1 : Int) else (if j = 0 then g.st else if g.st = 1 then 2 else g.st)) = g.st := by
          rcases hgs.1 with h | h <;> simp [h] <;> split <;> simp
        have hd : decide (l < (j : Int)) = true := by simpa using hlj
        have hb : (decide (l < (j : Int)) && ((0 : Int) == 0)) = true := by rw [hd]; rfl
        simp only [hb, gd, gv, im, hs, hgs.2]
        simp [pickA, eqsA, aeqs, aeq1]
  · have hh : ∀ H, pcall E 26 [.agg f.c] H = some (.tup [.agg zc, .int .i64 f.chk]) := fun H => pcall_some.2 (hit_bad f (by simpa using hc) H)
    have hc' : (f.chk != 0) = true := by simpa using hc
    simp only [T.c, zc] at hh
    simp (config := {maxSteps := 4000000}) only [c8, T.c, hm1, hh, hc', within_pc, hl, wc_seq, wc_reg, wc_cond_t, wc_cond_k, wc_blk, wc_loop, wc_exit, wc_ret, wc_skip, thenQ_n, thenQ_e, thenQ_r, leaveQ_n, leaveQ_e, leaveQ_r, exOk_n, exOk_r, rvq_nil, rvq_t, rvq_c1, rvq_cn, mkRes1, mkRes2, mkRes3, rg_nil, rg_gcall, rg_callp, avoids_nil, avoids_st, ptrId_ptr, apart_ptr, bne_self_eq_false, Nat.add_eq_left, Nat.left_eq_add, Nat.add_left_cancel_iff, decide_true, decide_false, decide_not, Nat.succ_ne_self, pcallV_fn, im_pcf, gv_pcf, im_pc10, gv_pc10, im_pc20, gv_pc20, im_pc21, gv_pc21, im_pc30, gv_pc30, im_pc31, gv_pc31, im_pc32, gv_pc32, im_pc40, gv_pc40, im_pc41, gv_pc41, im_pc42, gv_pc42, im_pc43, gv_pc43, im_pc50, gv_pc50, im_pc51, gv_pc51, im_pc52, gv_pc52, im_pc53, gv_pc53, im_pc54, gv_pc54, rg_new, rg_box, rg_mks, rg_st, rg_iad, rg_iadg, rg_q, rg_qg, updO_some, updO_none, ev_t, ev_k, upd_at, ofL_zero, ofL_succ, ofL_nil, qt_mv, qt_pick, qt_mk, qt_ld1, qt_ldn, qt_nchk, qt_bin, qt_eqs, qt_eqn, qt_un, qt_cvi, qt_cvs, qt_mkf, qt_slc, qt_slz, qt_sla, qt_sls, qt_fad, qt_fld1, qt_fldn, qt_iaa, qt_ixa, qt_ixs, qt_ext, qt_lenv, qt_lenc, qt_capv, qt_mnx, kq_mv, vq_mv, kq_pick, vq_pick, kq_fad, vq_fad, kq_ld1, vq_ld1, kq_ldn, vq_ldn, kq_bin, vq_bin, kq_un, vq_un, kq_ext, vq_ext, kq_nchk, vq_nchk, kq_mk, vq_mk, kq_eqb, vq_eqb, kq_eqs, vq_eqs, kq_eqn, vq_eqn, kq_cvi, vq_cvi, kq_mkf, vq_mkf, kq_slc, vq_slc, kq_fld1, vq_fld1, kq_fldn, vq_fldn, kq_lenv, vq_lenv, kq_lenc, vq_lenc, kq_mnx, vq_mnx, isPtr_ptr, isBool_bool, bv_bool, fadA_ptr, ld1A_ptr, ldnA_ptr, getC_zero, getC_succ, cells_agg, cells_int, cells_bool, cells_str, cells_sl, cells_ptr, isTup_agg, isTup_int, isTup_bool, isTup_str, isTup_sl, isTup_ptr, sc_int, sc_bool, sc_str, pick_t, pick_f, nchkA_ptr, nchkA_fn, lay_nil, lay_cons, wr_def, eqbA_b, eqsA_agg, aeqs_nil, aeqs_i, aeqs_b, aeqs_s, eqnA_sl, eqnA_s0, cviA_i, obd_none, obd_some, toI_int, fld1A_agg, fldnA_agg, lenvA_sl, lenvA_s0, lenvA_str, amn_nil, amn_max, amn_min, idxOk_sl, idxV_sl, abin_add, abin_sub, abin_mul, abin_quo, abin_rem, abin_eql, abin_neq, abin_lss, abin_leq, abin_gtr, abin_geq, abin_seql, abin_sneq, aun_neg, aun_not, aext_tup, im_true, im_fad, im_ld1, im_ldn, im_binl, im_binr, im_un, im_bool, im_ext, gv_gv, gv_fad, gv_ld1, gv_ldn, gv_binl, gv_binr, gv_un, gv_ext, gv_pick, pick_or, pick_and, rd_new, rd_new0, rd_cons0, rd_consS, obOf, stOk_ptr, stH_ptr, put_new, put_new0, put_0, put_s, List.all_cons, List.all_nil, List.map_cons, List.map_nil, List.length_cons, List.length_nil, List.take_zero, List.take_succ_cons, List.take_nil, List.drop_zero, List.drop_succ_cons, List.drop_nil, Nat.reduceAdd, Nat.reduceMul, Nat.reduceSub, if_true, Nat.reduceLT, Nat.reduceLeDiff, ite_true, ite_false, Nat.reduceEqDiff, if_false, Bool.not_false, Bool.not_true, Bool.and_true, Bool.true_and, Bool.false_and, Bool.and_false, Bool.or_true, Bool.true_or, Bool.or_false, Bool.false_or, reduceCtorEq, ne_eq, not_false_eq_true, not_true_eq_false, List.getD, List.getElem?_cons_zero, List.getElem?_cons_succ, Option.getD_some, Option.bind_some, Option.map_some, Option.isSome_some, Nat.zero_add, Nat.add_zero, Bool.false_eq_true, reduceIte, List.length_append, List.append_assoc, List.cons_append, List.nil_append, true_and, and_true, and_self, Nat.le_refl, Nat.le_add_right, Option.some.injEq, true_implies, false_implies, forall_const, implies_true, Int.reduceNeg, avoids_none, eq_self, Prod.mk.injEq, AV.fn.injEq, List.self_eq_append_right, List.append_nil, exists_eq_left, exists_eq_left', exists_and_left, exists_eq_right, exists_and_right, and_assoc, List.cons_append, List.nil_append, List.map_cons, List.map_nil]
    exact ⟨fun h => absurd h (by decide), fun _ => by simp⟩

theorem proved : Pure := by
  intro xs hg
  obtain ⟨e0, s0, rfl, u0, v0⟩ := goodL_cons hg
  obtain ⟨l1, rfl, q1⟩ := good_st u0
  obtain ⟨d1_0, r1_0, rfl, h1_0, g1_0⟩ := goodL_cons q1
  obtain ⟨l2, rfl, q2⟩ := good_st h1_0
  obtain ⟨d2_0, r2_0, rfl, h2_0, g2_0⟩ := goodL_cons q2
  obtain ⟨id, rfl, lo_id, hi_id⟩ := good_i64 h2_0
  obtain ⟨d2_1, r2_1, rfl, h2_1, g2_1⟩ := goodL_cons g2_0
  obtain ⟨st, rfl, lo_st, hi_st⟩ := good_i64 h2_1
  obtain ⟨d2_2, r2_2, rfl, h2_2, g2_2⟩ := goodL_cons g2_1
  obtain ⟨ti, rfl, lo_ti, hi_ti⟩ := good_i64 h2_2
  obtain ⟨d2_3, r2_3, rfl, h2_3, g2_3⟩ := goodL_cons g2_2
  obtain ⟨l6, rfl, q6⟩ := good_st h2_3
  obtain ⟨d6_0, r6_0, rfl, h6_0, g6_0⟩ := goodL_cons q6
  obtain ⟨x, rfl, lo_x, hi_x⟩ := good_i64 h6_0
  obtain ⟨d6_1, r6_1, rfl, h6_1, g6_1⟩ := goodL_cons g6_0
  obtain ⟨y, rfl, lo_y, hi_y⟩ := good_i64 h6_1
  obtain rfl := goodL_nil g6_1
  obtain ⟨d2_4, r2_4, rfl, h2_4, g2_4⟩ := goodL_cons g2_3
  obtain ⟨l9, rfl, q9⟩ := good_st h2_4
  obtain ⟨d9_0, r9_0, rfl, h9_0, g9_0⟩ := goodL_cons q9
  obtain ⟨sx, rfl, lo_sx, hi_sx⟩ := good_i64 h9_0
  obtain ⟨d9_1, r9_1, rfl, h9_1, g9_1⟩ := goodL_cons g9_0
  obtain ⟨sy, rfl, lo_sy, hi_sy⟩ := good_i64 h9_1
  obtain rfl := goodL_nil g9_1
  obtain ⟨d2_5, r2_5, rfl, h2_5, g2_5⟩ := goodL_cons g2_4
  obtain ⟨hgt, rfl, lo_hgt, hi_hgt⟩ := good_i64 h2_5
  obtain ⟨d2_6, r2_6, rfl, h2_6, g2_6⟩ := goodL_cons g2_5
  obtain ⟨ra, rfl, lo_ra, hi_ra⟩ := good_i64 h2_6
  obtain ⟨d2_7, r2_7, rfl, h2_7, g2_7⟩ := goodL_cons g2_6
  obtain ⟨rad, rfl, lo_rad, hi_rad⟩ := good_i64 h2_7
  obtain ⟨d2_8, r2_8, rfl, h2_8, g2_8⟩ := goodL_cons g2_7
  obtain ⟨code, rfl, lo_code, hi_code⟩ := good_i64 h2_8
  obtain ⟨d2_9, r2_9, rfl, h2_9, g2_9⟩ := goodL_cons g2_8
  obtain ⟨hits, rfl, lo_hits, hi_hits⟩ := good_i64 h2_9
  obtain ⟨d2_10, r2_10, rfl, h2_10, g2_10⟩ := goodL_cons g2_9
  obtain ⟨mis, rfl, lo_mis, hi_mis⟩ := good_i64 h2_10
  obtain rfl := goodL_nil g2_10
  obtain ⟨d1_1, r1_1, rfl, h1_1, g1_1⟩ := goodL_cons g1_0
  obtain ⟨slack, rfl, lo_slack, hi_slack⟩ := good_i64 h1_1
  obtain ⟨d1_2, r1_2, rfl, h1_2, g1_2⟩ := goodL_cons g1_1
  obtain ⟨l19, rfl, q19⟩ := good_st h1_2
  obtain ⟨d19_0, r19_0, rfl, h19_0, g19_0⟩ := goodL_cons q19
  obtain ⟨lt, rfl, lo_lt, hi_lt⟩ := good_i64 h19_0
  obtain ⟨d19_1, r19_1, rfl, h19_1, g19_1⟩ := goodL_cons g19_0
  obtain ⟨l21, rfl, q21⟩ := good_st h19_1
  obtain ⟨d21_0, r21_0, rfl, h21_0, g21_0⟩ := goodL_cons q21
  obtain ⟨lx, rfl, lo_lx, hi_lx⟩ := good_i64 h21_0
  obtain ⟨d21_1, r21_1, rfl, h21_1, g21_1⟩ := goodL_cons g21_0
  obtain ⟨ly, rfl, lo_ly, hi_ly⟩ := good_i64 h21_1
  obtain rfl := goodL_nil g21_1
  obtain ⟨d19_2, r19_2, rfl, h19_2, g19_2⟩ := goodL_cons g19_1
  obtain ⟨lh, rfl, lo_lh, hi_lh⟩ := good_i64 h19_2
  obtain ⟨d19_3, r19_3, rfl, h19_3, g19_3⟩ := goodL_cons g19_2
  obtain ⟨lc, rfl, lo_lc, hi_lc⟩ := good_i64 h19_3
  obtain ⟨d19_4, r19_4, rfl, h19_4, g19_4⟩ := goodL_cons g19_3
  obtain ⟨le, rfl, lo_le, hi_le⟩ := good_i64 h19_4
  obtain rfl := goodL_nil g19_4
  obtain rfl := goodL_nil g1_2
  obtain ⟨e1, s1, rfl, u1, v1⟩ := goodL_cons v0
  obtain ⟨limit, rfl, lo_lim, hi_lim⟩ := good_i64 u1
  obtain rfl := goodL_nil v1
  have := law ⟨id, st, ti, x, y, sx, sy, hgt, ra, rad, code, hits, mis, slack, lt, lx, ly, lh, lc, le⟩ limit
  simpa only [layA, layD, layL, argA, shapes, T.c, List.nil_append, List.cons_append, List.append_nil, List.length_nil, Nat.add_zero, List.headD_cons] using this
end Go.Proofs.Ytpcmmbbkidojoaa.MyCoastTurns
