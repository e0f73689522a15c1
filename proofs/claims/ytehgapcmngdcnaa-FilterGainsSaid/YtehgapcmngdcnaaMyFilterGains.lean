/- The law FilterGains: the abstract machine answers true. No condition. -/
import Derived.Test.YtehgapcmngdcnaaInFilterGains
import Derived.Test.YtehgapcmngdcnaaEvaY
import Derived.Test.YtehgapcmngdcnaaFlP
import Derived.Test.YtehgapcmngdcnaaFlE
namespace Go.Proofs.Ytehgapcmngdcnaa.MyFilterGains
open Go Go.Proofs.Ytehgapcmngdcnaa.Eva Go.Proofs.Ytehgapcmngdcnaa.CodeAll Go.Proofs.Ytehgapcmngdcnaa.InFilterGains Go.Proofs.Ytehgapcmngdcnaa.Fl
set_option linter.unusedVariables false
set_option linter.unusedSimpArgs false
set_option maxRecDepth 10000
set_option maxHeartbeats 4000000

theorem begins_pc (H : List Ob) : pcall E 28 [] H = some (.bool true) := by
  refine pcall_some.2 (call_plain e28 rfl (Nat.le_of_ble_eq_true rfl) rfl ?_)
  have h1 : S.begin ⟨0, 7, 0, 0, 0, 9⟩ = (⟨0, 0, 0, 7, 0, 0, 0, 0, 0, 9, 0, 1, 0, 6400, 0, 7, 0, 0, 0, 9⟩, 0) := rfl
  simp (config := {maxSteps := 4000000}) only [c28, begin_pc, h1, out, T.c, BEq.rfl, Int.reduceBEq, wc_seq, wc_reg, wc_cond_t, wc_cond_k, wc_blk, wc_loop, wc_exit, wc_ret, wc_skip, thenQ_n, thenQ_e, thenQ_r, leaveQ_n, leaveQ_e, leaveQ_r, exOk_n, exOk_r, rvq_nil, rvq_t, rvq_c1, rvq_cn, mkRes1, mkRes2, mkRes3, rg_nil, rg_gcall, rg_callp, avoids_nil, avoids_st, ptrId_ptr, apart_ptr, bne_self_eq_false, Nat.add_eq_left, Nat.left_eq_add, Nat.add_left_cancel_iff, decide_true, decide_false, decide_not, Nat.succ_ne_self, pcallV_fn, im_pcf, gv_pcf, im_pc10, gv_pc10, im_pc20, gv_pc20, im_pc21, gv_pc21, im_pc30, gv_pc30, im_pc31, gv_pc31, im_pc32, gv_pc32, im_pc40, gv_pc40, im_pc41, gv_pc41, im_pc42, gv_pc42, im_pc43, gv_pc43, im_pc50, gv_pc50, im_pc51, gv_pc51, im_pc52, gv_pc52, im_pc53, gv_pc53, im_pc54, gv_pc54, rg_new, rg_box, rg_mks, rg_st, rg_iad, rg_iadg, rg_q, rg_qg, updO_some, updO_none, ev_t, ev_k, upd_at, ofL_zero, ofL_succ, ofL_nil, qt_mv, qt_pick, qt_mk, qt_ld1, qt_ldn, qt_nchk, qt_bin, qt_eqs, qt_eqn, qt_un, qt_cvi, qt_cvs, qt_mkf, qt_slc, qt_slz, qt_sla, qt_sls, qt_fad, qt_fld1, qt_fldn, qt_iaa, qt_ixa, qt_ixs, qt_ext, qt_lenv, qt_lenc, qt_capv, qt_mnx, kq_mv, vq_mv, kq_pick, vq_pick, kq_fad, vq_fad, kq_ld1, vq_ld1, kq_ldn, vq_ldn, kq_bin, vq_bin, kq_un, vq_un, kq_ext, vq_ext, kq_nchk, vq_nchk, kq_mk, vq_mk, kq_eqb, vq_eqb, kq_eqs, vq_eqs, kq_eqn, vq_eqn, kq_cvi, vq_cvi, kq_mkf, vq_mkf, kq_slc, vq_slc, kq_fld1, vq_fld1, kq_fldn, vq_fldn, kq_lenv, vq_lenv, kq_lenc, vq_lenc, kq_mnx, vq_mnx, isPtr_ptr, isBool_bool, bv_bool, fadA_ptr, ld1A_ptr, ldnA_ptr, getC_zero, getC_succ, cells_agg, cells_int, cells_bool, cells_str, cells_sl, cells_ptr, isTup_agg, isTup_int, isTup_bool, isTup_str, isTup_sl, isTup_ptr, sc_int, sc_bool, sc_str, pick_t, pick_f, nchkA_ptr, nchkA_fn, lay_nil, lay_cons, wr_def, eqbA_b, eqsA_agg, aeqs_nil, aeqs_i, aeqs_b, aeqs_s, eqnA_sl, eqnA_s0, cviA_i, obd_none, obd_some, toI_int, fld1A_agg, fldnA_agg, lenvA_sl, lenvA_s0, lenvA_str, amn_nil, amn_max, amn_min, idxOk_sl, idxV_sl, abin_add, abin_sub, abin_mul, abin_quo, abin_rem, abin_eql, abin_neq, abin_lss, abin_leq, abin_gtr, abin_geq, abin_seql, abin_sneq, aun_neg, aun_not, aext_tup, im_true, im_fad, im_ld1, im_ldn, im_binl, im_binr, im_un, im_bool, im_ext, gv_gv, gv_fad, gv_ld1, gv_ldn, gv_binl, gv_binr, gv_un, gv_ext, gv_pick, pick_or, pick_and, rd_new, rd_new0, rd_cons0, rd_consS, obOf, stOk_ptr, stH_ptr, put_new, put_new0, put_0, put_s, List.all_cons, List.all_nil, List.map_cons, List.map_nil, List.length_cons, List.length_nil, List.take_zero, List.take_succ_cons, List.take_nil, List.drop_zero, List.drop_succ_cons, List.drop_nil, Nat.reduceAdd, Nat.reduceMul, Nat.reduceSub, if_true, Nat.reduceLT, Nat.reduceLeDiff, ite_true, ite_false, Nat.reduceEqDiff, if_false, Bool.not_false, Bool.not_true, Bool.and_true, Bool.true_and, Bool.false_and, Bool.and_false, Bool.or_true, Bool.true_or, Bool.or_false, Bool.false_or, reduceCtorEq, ne_eq, not_false_eq_true, not_true_eq_false, List.getD, List.getElem?_cons_zero, List.getElem?_cons_succ, Option.getD_some, Option.bind_some, Option.map_some, Option.isSome_some, Nat.zero_add, Nat.add_zero, Bool.false_eq_true, reduceIte, List.length_append, List.append_assoc, List.cons_append, List.nil_append, true_and, and_true, and_self, Nat.le_refl, Nat.le_add_right, Option.some.injEq, true_implies, false_implies, forall_const, implies_true, Int.reduceNeg, avoids_none, eq_self, Prod.mk.injEq, AV.fn.injEq, List.self_eq_append_right, List.append_nil, exists_eq_left, exists_eq_left', exists_and_left, exists_eq_right, exists_and_right, and_assoc, List.cons_append, List.nil_append, List.map_cons, List.map_nil, gd_tt, gd_tf, gd_ft, gd_ff, im_t, im_f, gv_t, gv_f, im_eqbl, im_eqbr, gv_eqbl, gv_eqbr, im_eqsl, im_eqsr, gv_eqsl, gv_eqsr, im_eqn, gv_eqn, im_cvi, gv_cvi, im_fld1, gv_fld1, im_fldn, gv_fldn, im_lenv, gv_lenv, wnt_bool, wnt_gv, wnt_und, gv_pk1, gv_pk2, rg_appk, idx_gl, idx_gr, iok_gl, iok_gr, isPtr_fad, fad_fad, kq_ixa, vq_ixa, ixaA_0, ixaA_1]

theorem div_bd {a d A : Int} (hd : 0 < d) (h1 : -A ≤ a) (h2 : a ≤ A) : -A ≤ a / d ∧ a / d ≤ A := by
  constructor
  · apply Int.le_ediv_of_mul_le hd
    have := Int.mul_le_mul_of_nonneg_left (show 1 ≤ d by omega) (show 0 ≤ A by omega)
    rw [Int.neg_mul]; omega
  · have := Int.ediv_le_of_le_mul hd (show a ≤ A * d by
      have := Int.mul_le_mul_of_nonneg_left (show 1 ≤ d by omega) (show 0 ≤ A by omega)
      omega)
    exact this
theorem rad_256 {r e : Int} (h1 : 0 ≤ r) (h2 : r ≤ 4000000) (h3 : 0 ≤ e) (h4 : e ≤ 1000000) : w (dvu (w (w (w (256 - 256) * r) + w (256 * e))) 256 + 2) = w (e + 2) := by
  have e1 : w (256 - 256) = 0 := by decide
  have e2 := w_id (x := 256 * e) (by omega) (by omega)
  have e3 : w (0 * r) = 0 := by rw [Int.zero_mul]; decide
  rw [e1, e3, e2, w_id (x := 0 + 256 * e) (by omega) (by omega), dvu_eq (by omega) (by omega) (by omega)]
  congr 1; omega
theorem seen_bd {a b d : Int} (hd : 0 < d) (h1 : -1000000 ≤ a) (h2 : a ≤ 1000000) (h3 : -1000000 ≤ b) (h4 : b ≤ 1000000) : -1000000000 ≤ dvd (w (16 * w (a - b))) d ∧ dvd (w (16 * w (a - b))) d ≤ 1000000000 := by
  have e1 := w_id (x := a - b) (by omega) (by omega)
  rw [e1, w_id (by omega) (by omega), dvd_eq hd (by omega) (by omega)]
  exact div_bd hd (by omega) (by omega)

theorem law (f : T) (s : S) (accel : Int) (H : List Ob) : ∃ r, ecall E 8 [.agg f.c, .agg s.c, .int .i64 accel] H = some (.bool true, r) := by
  refine call_true e8 rfl (Nat.le_of_ble_eq_true rfl) ?_
  have h1 : ∀ H, pcall E 29 [.agg f.c, .agg s.c, .int .i64 accel, .int .i64 256, .int .i64 256] H = some (out (f.upd s accel 256 256)) := fun H => pcall_some.2 (upd_run f s accel 256 256 H)
  have h2 : ∀ H, pcall E 29 [.agg f.c, .agg s.c, .int .i64 accel, .int .i64 0, .int .i64 0] H = some (out (f.upd s accel 0 0)) := fun H => pcall_some.2 (upd_run f s accel 0 0 H)
  have h3 : ∀ H, pcall E 27 [.agg f.c, .int .i64 s.t, .int .i64 accel] H = some (out (f.pred s.t accel)) := fun H => pcall_some.2 (pred_run f s.t accel H)
  generalize hA : f.upd s accel 256 256 = A at h1
  generalize hB : f.upd s accel 0 0 = B at h2
  generalize hP : f.pred s.t accel = P at h3
  obtain ⟨a, e⟩ := A
  obtain ⟨b, g⟩ := B
  obtain ⟨p, h⟩ := P
  have hfin : (e ≠ 0 → a = T.zero) ∧ (g ≠ 0 → b = T.zero) ∧ (e = 0 → g = 0 → h = 0 ∧ a.x = s.x ∧ a.y = s.y ∧ a.rad = w (s.e + 2) ∧ b.x = p.x ∧ b.y = p.y ∧ b.sx = p.sx ∧ b.sy = p.sy ∧ a.hits = b.hits) := by
    refine ⟨fun he => upd_err hA he, fun he => upd_err hB he, fun he hg => ?_⟩
    subst he; subst hg
    obtain ⟨hf, hs, _, _, _, _, hd, ha, m, c1, hm, hmo, _, hc1, rfl⟩ := upd_ok hA
    obtain ⟨_, _, _, _, _, _, _, hb, m', c2, hm', _, _, hc2, rfl⟩ := upd_ok hB
    rw [hm] at hm' hP
    simp only [Prod.mk.injEq, and_true] at hm' hP
    obtain ⟨rfl, rfl⟩ := hP
    subst hm'
    have hl := off_ok.1 hf.last
    have := hmo.x0; have := hmo.x1; have := hmo.y0; have := hmo.y1; have := hs.x0; have := hs.x1; have := hs.y0; have := hs.y1
    have := hmo.sx0; have := hmo.sx1; have := hmo.sy0; have := hmo.sy1
    have bx := seen_bd hd hs.x0 hs.x1 hl.x0 hl.x1
    have by' := seen_bd hd hs.y0 hs.y1 hl.y0 hl.y1
    exact ⟨rfl, mx_256 (by omega) (by omega) (by omega) (by omega), mx_256 (by omega) (by omega) (by omega) (by omega), rad_256 hmo.rad0 hmo.rad1 hs.e0 hs.e1,
      mx_0 (by omega) (by omega) (by omega) (by omega), mx_0 (by omega) (by omega) (by omega) (by omega), mx_0 (by omega) (by omega) bx.1 bx.2, mx_0 (by omega) (by omega) by'.1 by'.2, rfl⟩
  clear hA hB hP
  obtain ⟨f1, f2, f3⟩ := hfin
  simp only [out, outB, T.c, S.c] at h1 h2 h3
  simp (config := {maxSteps := 4000000}) only [c8, T.c, S.c, begins_pc, h1, h2, h3, wc_seq, wc_reg, wc_cond_t, wc_cond_k, wc_blk, wc_loop, wc_exit, wc_ret, wc_skip, thenQ_n, thenQ_e, thenQ_r, leaveQ_n, leaveQ_e, leaveQ_r, exOk_n, exOk_r, rvq_nil, rvq_t, rvq_c1, rvq_cn, mkRes1, mkRes2, mkRes3, rg_nil, rg_gcall, rg_callp, avoids_nil, avoids_st, ptrId_ptr, apart_ptr, bne_self_eq_false, Nat.add_eq_left, Nat.left_eq_add, Nat.add_left_cancel_iff, decide_true, decide_false, decide_not, Nat.succ_ne_self, pcallV_fn, im_pcf, gv_pcf, im_pc10, gv_pc10, im_pc20, gv_pc20, im_pc21, gv_pc21, im_pc30, gv_pc30, im_pc31, gv_pc31, im_pc32, gv_pc32, im_pc40, gv_pc40, im_pc41, gv_pc41, im_pc42, gv_pc42, im_pc43, gv_pc43, im_pc50, gv_pc50, im_pc51, gv_pc51, im_pc52, gv_pc52, im_pc53, gv_pc53, im_pc54, gv_pc54, rg_new, rg_box, rg_mks, rg_st, rg_iad, rg_iadg, rg_q, rg_qg, updO_some, updO_none, ev_t, ev_k, upd_at, ofL_zero, ofL_succ, ofL_nil, qt_mv, qt_pick, qt_mk, qt_ld1, qt_ldn, qt_nchk, qt_bin, qt_eqs, qt_eqn, qt_un, qt_cvi, qt_cvs, qt_mkf, qt_slc, qt_slz, qt_sla, qt_sls, qt_fad, qt_fld1, qt_fldn, qt_iaa, qt_ixa, qt_ixs, qt_ext, qt_lenv, qt_lenc, qt_capv, qt_mnx, kq_mv, vq_mv, kq_pick, vq_pick, kq_fad, vq_fad, kq_ld1, vq_ld1, kq_ldn, vq_ldn, kq_bin, vq_bin, kq_un, vq_un, kq_ext, vq_ext, kq_nchk, vq_nchk, kq_mk, vq_mk, kq_eqb, vq_eqb, kq_eqs, vq_eqs, kq_eqn, vq_eqn, kq_cvi, vq_cvi, kq_mkf, vq_mkf, kq_slc, vq_slc, kq_fld1, vq_fld1, kq_fldn, vq_fldn, kq_lenv, vq_lenv, kq_lenc, vq_lenc, kq_mnx, vq_mnx, isPtr_ptr, isBool_bool, bv_bool, fadA_ptr, ld1A_ptr, ldnA_ptr, getC_zero, getC_succ, cells_agg, cells_int, cells_bool, cells_str, cells_sl, cells_ptr, isTup_agg, isTup_int, isTup_bool, isTup_str, isTup_sl, isTup_ptr, sc_int, sc_bool, sc_str, pick_t, pick_f, nchkA_ptr, nchkA_fn, lay_nil, lay_cons, wr_def, eqbA_b, eqsA_agg, aeqs_nil, aeqs_i, aeqs_b, aeqs_s, eqnA_sl, eqnA_s0, cviA_i, obd_none, obd_some, toI_int, fld1A_agg, fldnA_agg, lenvA_sl, lenvA_s0, lenvA_str, amn_nil, amn_max, amn_min, idxOk_sl, idxV_sl, abin_add, abin_sub, abin_mul, abin_quo, abin_rem, abin_eql, abin_neq, abin_lss, abin_leq, abin_gtr, abin_geq, abin_seql, abin_sneq, aun_neg, aun_not, aext_tup, im_true, im_fad, im_ld1, im_ldn, im_binl, im_binr, im_un, im_bool, im_ext, gv_gv, gv_fad, gv_ld1, gv_ldn, gv_binl, gv_binr, gv_un, gv_ext, gv_pick, pick_or, pick_and, rd_new, rd_new0, rd_cons0, rd_consS, obOf, stOk_ptr, stH_ptr, put_new, put_new0, put_0, put_s, List.all_cons, List.all_nil, List.map_cons, List.map_nil, List.length_cons, List.length_nil, List.take_zero, List.take_succ_cons, List.take_nil, List.drop_zero, List.drop_succ_cons, List.drop_nil, Nat.reduceAdd, Nat.reduceMul, Nat.reduceSub, if_true, Nat.reduceLT, Nat.reduceLeDiff, ite_true, ite_false, Nat.reduceEqDiff, if_false, Bool.not_false, Bool.not_true, Bool.and_true, Bool.true_and, Bool.false_and, Bool.and_false, Bool.or_true, Bool.true_or, Bool.or_false, Bool.false_or, reduceCtorEq, ne_eq, not_false_eq_true, not_true_eq_false, List.getD, List.getElem?_cons_zero, List.getElem?_cons_succ, Option.getD_some, Option.bind_some, Option.map_some, Option.isSome_some, Nat.zero_add, Nat.add_zero, Bool.false_eq_true, reduceIte, List.length_append, List.append_assoc, List.cons_append, List.nil_append, true_and, and_true, and_self, Nat.le_refl, Nat.le_add_right, Option.some.injEq, true_implies, false_implies, forall_const, implies_true, Int.reduceNeg, avoids_none, eq_self, Prod.mk.injEq, AV.fn.injEq, List.self_eq_append_right, List.append_nil, exists_eq_left, exists_eq_left', exists_and_left, exists_eq_right, exists_and_right, and_assoc, List.cons_append, List.nil_append, List.map_cons, List.map_nil, gd_tt, gd_tf, gd_ft, gd_ff, im_t, im_f, gv_t, gv_f, im_eqbl, im_eqbr, gv_eqbl, gv_eqbr, im_eqsl, im_eqsr, gv_eqsl, gv_eqsr, im_eqn, gv_eqn, im_cvi, gv_cvi, im_fld1, gv_fld1, im_fldn, gv_fldn, im_lenv, gv_lenv, wnt_bool, wnt_gv, wnt_und, gv_pk1, gv_pk2, rg_appk, idx_gl, idx_gr, iok_gl, iok_gr, isPtr_fad, fad_fad, kq_ixa, vq_ixa, ixaA_0, ixaA_1]
  refine ⟨fun he => ?_, fun he => ?_⟩
  · by_cases e0 : e = 0
    · have g0 : g ≠ 0 := by subst e0; simpa using he
      rw [f2 g0]
      simp [T.zero]
    · rw [f1 e0]
      simp [T.zero]
  · have e0 : e = 0 := by by_cases h : e = 0 <;> simp_all
    have g0 : g = 0 := by by_cases h : g = 0 <;> simp_all
    obtain ⟨k1, k2, k3, k4, k5, k6, k7, k8, k9⟩ := f3 e0 g0
    simp [k1, k2, k3, k4, k5, k6, k7, k8, k9]


theorem proved : Pure := by
  intro xs hg
  obtain ⟨e0, s0, rfl, u0, v0⟩ := goodL_cons hg
  obtain ⟨l1, rfl, q1⟩ := good_st u0
  obtain ⟨d1_0, r1_0, rfl, h1_0, g1_0⟩ := goodL_cons q1
  obtain ⟨l2, rfl, q2⟩ := good_st h1_0
  obtain ⟨d2_0, r2_0, rfl, h2_0, g2_0⟩ := goodL_cons q2
  obtain ⟨n3, rfl, lo3, hi3⟩ := good_i64 h2_0
  obtain ⟨d2_1, r2_1, rfl, h2_1, g2_1⟩ := goodL_cons g2_0
  obtain ⟨n4, rfl, lo4, hi4⟩ := good_i64 h2_1
  obtain ⟨d2_2, r2_2, rfl, h2_2, g2_2⟩ := goodL_cons g2_1
  obtain ⟨n5, rfl, lo5, hi5⟩ := good_i64 h2_2
  obtain ⟨d2_3, r2_3, rfl, h2_3, g2_3⟩ := goodL_cons g2_2
  obtain ⟨l6, rfl, q6⟩ := good_st h2_3
  obtain ⟨d6_0, r6_0, rfl, h6_0, g6_0⟩ := goodL_cons q6
  obtain ⟨n7, rfl, lo7, hi7⟩ := good_i64 h6_0
  obtain ⟨d6_1, r6_1, rfl, h6_1, g6_1⟩ := goodL_cons g6_0
  obtain ⟨n8, rfl, lo8, hi8⟩ := good_i64 h6_1
  obtain rfl := goodL_nil g6_1
  obtain ⟨d2_4, r2_4, rfl, h2_4, g2_4⟩ := goodL_cons g2_3
  obtain ⟨l9, rfl, q9⟩ := good_st h2_4
  obtain ⟨d9_0, r9_0, rfl, h9_0, g9_0⟩ := goodL_cons q9
  obtain ⟨n10, rfl, lo10, hi10⟩ := good_i64 h9_0
  obtain ⟨d9_1, r9_1, rfl, h9_1, g9_1⟩ := goodL_cons g9_0
  obtain ⟨n11, rfl, lo11, hi11⟩ := good_i64 h9_1
  obtain rfl := goodL_nil g9_1
  obtain ⟨d2_5, r2_5, rfl, h2_5, g2_5⟩ := goodL_cons g2_4
  obtain ⟨n12, rfl, lo12, hi12⟩ := good_i64 h2_5
  obtain ⟨d2_6, r2_6, rfl, h2_6, g2_6⟩ := goodL_cons g2_5
  obtain ⟨n13, rfl, lo13, hi13⟩ := good_i64 h2_6
  obtain ⟨d2_7, r2_7, rfl, h2_7, g2_7⟩ := goodL_cons g2_6
  obtain ⟨n14, rfl, lo14, hi14⟩ := good_i64 h2_7
  obtain ⟨d2_8, r2_8, rfl, h2_8, g2_8⟩ := goodL_cons g2_7
  obtain ⟨n15, rfl, lo15, hi15⟩ := good_i64 h2_8
  obtain ⟨d2_9, r2_9, rfl, h2_9, g2_9⟩ := goodL_cons g2_8
  obtain ⟨n16, rfl, lo16, hi16⟩ := good_i64 h2_9
  obtain ⟨d2_10, r2_10, rfl, h2_10, g2_10⟩ := goodL_cons g2_9
  obtain ⟨n17, rfl, lo17, hi17⟩ := good_i64 h2_10
  obtain rfl := goodL_nil g2_10
  obtain ⟨d1_1, r1_1, rfl, h1_1, g1_1⟩ := goodL_cons g1_0
  obtain ⟨n18, rfl, lo18, hi18⟩ := good_i64 h1_1
  obtain ⟨d1_2, r1_2, rfl, h1_2, g1_2⟩ := goodL_cons g1_1
  obtain ⟨l19, rfl, q19⟩ := good_st h1_2
  obtain ⟨d19_0, r19_0, rfl, h19_0, g19_0⟩ := goodL_cons q19
  obtain ⟨n20, rfl, lo20, hi20⟩ := good_i64 h19_0
  obtain ⟨d19_1, r19_1, rfl, h19_1, g19_1⟩ := goodL_cons g19_0
  obtain ⟨l21, rfl, q21⟩ := good_st h19_1
  obtain ⟨d21_0, r21_0, rfl, h21_0, g21_0⟩ := goodL_cons q21
  obtain ⟨n22, rfl, lo22, hi22⟩ := good_i64 h21_0
  obtain ⟨d21_1, r21_1, rfl, h21_1, g21_1⟩ := goodL_cons g21_0
  obtain ⟨n23, rfl, lo23, hi23⟩ := good_i64 h21_1
  obtain rfl := goodL_nil g21_1
  obtain ⟨d19_2, r19_2, rfl, h19_2, g19_2⟩ := goodL_cons g19_1
  obtain ⟨n24, rfl, lo24, hi24⟩ := good_i64 h19_2
  obtain ⟨d19_3, r19_3, rfl, h19_3, g19_3⟩ := goodL_cons g19_2
  obtain ⟨n25, rfl, lo25, hi25⟩ := good_i64 h19_3
  obtain ⟨d19_4, r19_4, rfl, h19_4, g19_4⟩ := goodL_cons g19_3
  obtain ⟨n26, rfl, lo26, hi26⟩ := good_i64 h19_4
  obtain rfl := goodL_nil g19_4
  obtain rfl := goodL_nil g1_2
  obtain ⟨e1, s1, rfl, u1, v1⟩ := goodL_cons v0
  obtain ⟨l27, rfl, q27⟩ := good_st u1
  obtain ⟨d27_0, r27_0, rfl, h27_0, g27_0⟩ := goodL_cons q27
  obtain ⟨n28, rfl, lo28, hi28⟩ := good_i64 h27_0
  obtain ⟨d27_1, r27_1, rfl, h27_1, g27_1⟩ := goodL_cons g27_0
  obtain ⟨l29, rfl, q29⟩ := good_st h27_1
  obtain ⟨d29_0, r29_0, rfl, h29_0, g29_0⟩ := goodL_cons q29
  obtain ⟨n30, rfl, lo30, hi30⟩ := good_i64 h29_0
  obtain ⟨d29_1, r29_1, rfl, h29_1, g29_1⟩ := goodL_cons g29_0
  obtain ⟨n31, rfl, lo31, hi31⟩ := good_i64 h29_1
  obtain rfl := goodL_nil g29_1
  obtain ⟨d27_2, r27_2, rfl, h27_2, g27_2⟩ := goodL_cons g27_1
  obtain ⟨n32, rfl, lo32, hi32⟩ := good_i64 h27_2
  obtain ⟨d27_3, r27_3, rfl, h27_3, g27_3⟩ := goodL_cons g27_2
  obtain ⟨n33, rfl, lo33, hi33⟩ := good_i64 h27_3
  obtain ⟨d27_4, r27_4, rfl, h27_4, g27_4⟩ := goodL_cons g27_3
  obtain ⟨n34, rfl, lo34, hi34⟩ := good_i64 h27_4
  obtain rfl := goodL_nil g27_4
  obtain ⟨e2, s2, rfl, u2, v2⟩ := goodL_cons v1
  obtain ⟨n35, rfl, lo35, hi35⟩ := good_i64 u2
  obtain rfl := goodL_nil v2
  have := law ⟨n3, n4, n5, n7, n8, n10, n11, n12, n13, n14, n15, n16, n17, n18, n20, n22, n23, n24, n25, n26⟩ ⟨n28, n30, n31, n32, n33, n34⟩ n35 [] 
  simpa only [S.c, T.c, layA, layD, layL, argA, shapes, List.nil_append, List.cons_append, List.append_nil, List.append_assoc, List.length_nil, List.length_append, Nat.add_zero, Nat.zero_add, List.headD_cons] using this

end Go.Proofs.Ytehgapcmngdcnaa.MyFilterGains
