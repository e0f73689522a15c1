/- The law TerrainSooner: the abstract machine answers true. No condition. -/
import Derived.Test.YtpehhlfbnkakpaaInTerrainSooner
import Derived.Test.YtpehhlfbnkakpaaEvaY
import Derived.Test.YtpehhlfbnkakpaaTrA
namespace Go.Proofs.Ytpehhlfbnkakpaa.MyTerrainSooner
open Go Go.Proofs.Ytpehhlfbnkakpaa.Eva Go.Proofs.Ytpehhlfbnkakpaa.CodeAll Go.Proofs.Ytpehhlfbnkakpaa.InTerrainSooner Go.Proofs.Ytpehhlfbnkakpaa.Fl
set_option linter.unusedVariables false
set_option linter.unusedSimpArgs false
set_option maxRecDepth 10000
set_option maxHeartbeats 4000000

theorem law (g : G) (hs : List Int) (V : AV) (f : T) (seconds clr more' : Int) (H : List Ob) (hv : SlL H V intC 1 hs) : ∃ r, ecall E 5 [.agg (g.c V), .agg f.c, .int .i64 seconds, .int .i64 clr, .int .i64 more'] H = some (.bool true, r) := by
  refine call_true e5 rfl (Nat.le_of_ble_eq_true rfl) ?_
  have hw1 := fun H => within_pc seconds 0 40 H (by decide)
  obtain ⟨s0, s1⟩ := wi_bd (n := seconds) (lo := 0) (hi := 40) (by decide) (by decide) (by decide)
  generalize wi seconds 0 40 = s at hw1 s0 s1
  have hw2 := fun H => within_pc clr 0 5000 H (by decide)
  obtain ⟨c0, c1⟩ := wi_bd (n := clr) (lo := 0) (hi := 5000) (by decide) (by decide) (by decide)
  generalize wi clr 0 5000 = cl at hw2 c0 c1
  have hw3 := fun H => within_pc more' 0 5000 H (by decide)
  obtain ⟨m0, m1⟩ := wi_bd (n := more') (lo := 0) (hi := 5000) (by decide) (by decide) (by decide)
  generalize wi more' 0 5000 = mo at hw3 m0 m1
  have hwm : IntKind.i64.wrap (cl + mo) = cl + mo := wrap64 (by omega) (by omega)
  have g0 : ∀ A B C, SlL (H ++ [A, B, C, ⟨[.int .i64 0], 0, 1, true, true⟩]) (.sl false (H.length + 3) 0 1 0 1) intC 1 [0] := fun A B C =>
    ⟨fun _ => rfl, by decide, rfl, Or.inr ⟨_, 0, 0, ⟨[.int .i64 0], 0, 1, true, true⟩, rfl, by simp [rdObj], by decide, rfl⟩⟩
  have g1 : ∀ A B C D, SlL (H ++ [A, B, C, D, ⟨[.int .i64 0], 0, 1, true, true⟩]) (.sl false (H.length + 4) 0 1 0 1) intC 1 [0] := fun A B C D =>
    ⟨fun _ => rfl, by decide, rfl, Or.inr ⟨_, 0, 0, ⟨[.int .i64 0], 0, 1, true, true⟩, rfl, by simp [rdObj], by decide, rfl⟩⟩
  have z1 := fun A B C => warn_pc ⟨1000, -500, 1000, 1, 1⟩ (g0 A B C) { T.zero with hgt := 3000 } 5 0 0 5000
  have z2 := fun A B C D => warn_pc ⟨1000, -500, 1000, 1, 1⟩ (g1 A B C D) { T.zero with hgt := 3000 } 5 0 0 100
  have e1 : warnT ⟨1000, -500, 1000, 1, 1⟩ [0] { T.zero with hgt := 3000 } 5 0 0 5000 = (0, 0) := by rfl
  have e2 : warnT ⟨1000, -500, 1000, 1, 1⟩ [0] { T.zero with hgt := 3000 } 5 0 0 100 = (0, 8) := by rfl
  rw [e1] at z1; rw [e2] at z2
  have f1 := fun x => warn_pc g (hv.keep x) f s 1 10 cl
  have f2 := fun x => warn_pc g (hv.keep x) f s 1 10 (cl + mo)
  have k1 := fun v => warn_mono (g := g) (hs := hs) (f := f) (secs := s) (accel := 1) (climb := 10) (a := cl) (b := cl + mo) (v := v) (by omega) (by omega)
  have k2 := warn_err (g := g) (hs := hs) (f := f) (secs := s) (accel := 1) (climb := 10) (a := cl)
  generalize warnT g hs f s 1 10 cl = A1 at f1 k1 k2
  generalize warnT g hs f s 1 10 (cl + mo) = A2 at f2 k1
  obtain ⟨n, e⟩ := A1
  obtain ⟨m, x⟩ := A2
  have hVt := hv.isTup
  have hVc := hv.cells
  have hgr := ground_nc
  simp only [tout, T.c, T.zero, G.c] at f1 f2 z1 z2 hgr
  simp (config := {maxSteps := 8000000}) only [c5, T.c, G.c, rg_calln, ncallV_fn, hgr, z1, z2, f1, f2, hw1, hw2, hw3, hwm, hVt, hVc, bne_self_eq_false, wc_seq, wc_reg, wc_cond_t, wc_cond_k, wc_blk, wc_loop, wc_exit, wc_ret, wc_skip, thenQ_n, thenQ_e, thenQ_r, leaveQ_n, leaveQ_e, leaveQ_r, exOk_n, exOk_r, rvq_nil, rvq_t, rvq_c1, rvq_cn, mkRes1, mkRes2, mkRes3, rg_nil, rg_gcall, rg_callp, avoids_nil, avoids_st, ptrId_ptr, apart_ptr, bne_self_eq_false, Nat.add_eq_left, Nat.left_eq_add, Nat.add_left_cancel_iff, decide_true, decide_false, decide_not, Nat.succ_ne_self, pcallV_fn, im_pcf, gv_pcf, im_pc10, gv_pc10, im_pc20, gv_pc20, im_pc21, gv_pc21, im_pc30, gv_pc30, im_pc31, gv_pc31, im_pc32, gv_pc32, im_pc40, gv_pc40, im_pc41, gv_pc41, im_pc42, gv_pc42, im_pc43, gv_pc43, im_pc50, gv_pc50, im_pc51, gv_pc51, im_pc52, gv_pc52, im_pc53, gv_pc53, im_pc54, gv_pc54, rg_new, rg_box, rg_mks, rg_st, rg_iad, rg_iadg, rg_q, rg_qg, updO_some, updO_none, ev_t, ev_k, upd_at, ofL_zero, ofL_succ, ofL_nil, qt_mv, qt_pick, qt_mk, qt_ld1, qt_ldn, qt_nchk, qt_bin, qt_eqs, qt_eqn, qt_un, qt_cvi, qt_cvs, qt_mkf, qt_slc, qt_slz, qt_sla, qt_sls, qt_fad, qt_fld1, qt_fldn, qt_iaa, qt_ixa, qt_ixs, qt_ext, qt_lenv, qt_lenc, qt_capv, qt_mnx, kq_mv, vq_mv, kq_pick, vq_pick, kq_fad, vq_fad, kq_ld1, vq_ld1, kq_ldn, vq_ldn, kq_bin, vq_bin, kq_un, vq_un, kq_ext, vq_ext, kq_nchk, vq_nchk, kq_mk, vq_mk, kq_eqb, vq_eqb, kq_eqs, vq_eqs, kq_eqn, vq_eqn, kq_cvi, vq_cvi, kq_mkf, vq_mkf, kq_slc, vq_slc, kq_fld1, vq_fld1, kq_fldn, vq_fldn, kq_lenv, vq_lenv, kq_lenc, vq_lenc, kq_mnx, vq_mnx, isPtr_ptr, isBool_bool, bv_bool, fadA_ptr, ld1A_ptr, ldnA_ptr, getC_zero, getC_succ, cells_agg, cells_int, cells_bool, cells_str, cells_sl, cells_ptr, isTup_agg, isTup_int, isTup_bool, isTup_str, isTup_sl, isTup_ptr, sc_int, sc_bool, sc_str, pick_t, pick_f, nchkA_ptr, nchkA_fn, lay_nil, lay_cons, wr_def, eqbA_b, eqsA_agg, aeqs_nil, aeqs_i, aeqs_b, aeqs_s, eqnA_sl, eqnA_s0, cviA_i, obd_none, obd_some, toI_int, fld1A_agg, fldnA_agg, lenvA_sl, lenvA_s0, lenvA_str, amn_nil, amn_max, amn_min, idxOk_sl, idxV_sl, abin_add, abin_sub, abin_mul, abin_quo, abin_rem, abin_eql, abin_neq, abin_lss, abin_leq, abin_gtr, abin_geq, abin_seql, abin_sneq, aun_neg, aun_not, aext_tup, im_true, im_fad, im_ld1, im_ldn, im_binl, im_binr, im_un, im_bool, im_ext, gv_gv, gv_fad, gv_ld1, gv_ldn, gv_binl, gv_binr, gv_un, gv_ext, gv_pick, pick_or, pick_and, rd_new, rd_new0, rd_cons0, rd_consS, obOf, stOk_ptr, stH_ptr, put_new, put_new0, put_0, put_s, List.all_cons, List.all_nil, List.map_cons, List.map_nil, List.length_cons, List.length_nil, List.take_zero, List.take_succ_cons, List.take_nil, List.drop_zero, List.drop_succ_cons, List.drop_nil, Nat.reduceAdd, Nat.reduceMul, Nat.reduceSub, if_true, Nat.reduceLT, Nat.reduceLeDiff, ite_true, ite_false, Nat.reduceEqDiff, if_false, Bool.not_false, Bool.not_true, Bool.and_true, Bool.true_and, Bool.false_and, Bool.and_false, Bool.or_true, Bool.true_or, Bool.or_false, Bool.false_or, reduceCtorEq, ne_eq, not_false_eq_true, not_true_eq_false, List.getD, List.getElem?_cons_zero, List.getElem?_cons_succ, Option.getD_some, Option.bind_some, Option.map_some, Option.isSome_some, Nat.zero_add, Nat.add_zero, Bool.false_eq_true, reduceIte, List.length_append, List.append_assoc, List.cons_append, List.nil_append, true_and, and_true, and_self, Nat.le_refl, Nat.le_add_right, Option.some.injEq, true_implies, false_implies, forall_const, implies_true, Int.reduceNeg, avoids_none, eq_self, Prod.mk.injEq, AV.fn.injEq, List.self_eq_append_right, List.append_nil, exists_eq_left, exists_eq_left', exists_and_left, exists_eq_right, exists_and_right, and_assoc, List.cons_append, List.nil_append, List.map_cons, List.map_nil, gd_tt, gd_tf, gd_ft, gd_ff, im_t, im_f, gv_t, gv_f, im_eqbl, im_eqbr, gv_eqbl, gv_eqbr, im_eqsl, im_eqsr, gv_eqsl, gv_eqsr, im_eqn, gv_eqn, im_cvi, gv_cvi, im_fld1, gv_fld1, im_fldn, gv_fldn, im_lenv, gv_lenv, wnt_bool, wnt_gv, wnt_und, gv_pk1, gv_pk2, rg_appk, idx_gl, idx_gr, iok_gl, iok_gr, isPtr_fad, fad_fad, kq_ixa, vq_ixa, ixaA_0, ixaA_1, ixaA_t0, ixaA_t1, le_pl, rg_mkk, mkK_int]
  refine ⟨fun he => ?_, fun he => ?_⟩
  · have he' : e = 0 := by simpa using he
    subst he'
    obtain ⟨m', h1, h2⟩ := k1 n rfl
    simp only [Prod.mk.injEq] at h1
    obtain ⟨rfl, rfl⟩ := h1
    simp [h2]
  · have := k2 (by simpa using he)
    simp only at this
    subst this; rfl

theorem dv_i (d : DV) (h : goodD (.int .i64) d) : ∃ x : Int, True ∧ ∀ n, layD n (.int .i64) d = (intC x, []) := by
  obtain ⟨n1, rfl, lo1, hi1⟩ := good_i64 h
  exact ⟨n1, trivial, fun n => rfl⟩

theorem proved : Pure := by
  intro xs hg
  obtain ⟨e0, s0, rfl, u0, v0⟩ := goodL_cons hg
  obtain ⟨lg, rfl, qg⟩ := good_st u0
  obtain ⟨dg0, rg0, rfl, hg0, gg0⟩ := goodL_cons qg
  obtain ⟨l1, rfl, q1⟩ := good_st hg0
  obtain ⟨d1_0, r1_0, rfl, h1_0, g1_0⟩ := goodL_cons q1
  obtain ⟨n2, rfl, lo2, hi2⟩ := good_i64 h1_0
  obtain ⟨d1_1, r1_1, rfl, h1_1, g1_1⟩ := goodL_cons g1_0
  obtain ⟨n3, rfl, lo3, hi3⟩ := good_i64 h1_1
  obtain rfl := goodL_nil g1_1
  obtain ⟨dg1, rg1, rfl, hg1, gg1⟩ := goodL_cons gg0
  obtain ⟨n4, rfl, lo4, hi4⟩ := good_i64 hg1
  obtain ⟨dg2, rg2, rfl, hg2, gg2⟩ := goodL_cons gg1
  obtain ⟨n5, rfl, lo5, hi5⟩ := good_i64 hg2
  obtain ⟨dg3, rg3, rfl, hg3, gg3⟩ := goodL_cons gg2
  obtain ⟨n6, rfl, lo6, hi6⟩ := good_i64 hg3
  obtain ⟨dgs, rgs, rfl, hgs, ggs⟩ := goodL_cons gg3
  obtain rfl := goodL_nil ggs
  obtain ⟨x0, p0, b0, k0⟩ := in_sl (c := intC) (P := fun _ => True) dv_i (fun x => rfl) (by decide) hgs
  obtain ⟨w0, o0, e0', r0⟩ := k0 (0)
  obtain ⟨e1, s1, rfl, u1, v1⟩ := goodL_cons v0
  obtain ⟨l7, rfl, q7⟩ := good_st u1
  obtain ⟨d7_0, r7_0, rfl, h7_0, g7_0⟩ := goodL_cons q7
  obtain ⟨l8, rfl, q8⟩ := good_st h7_0
  obtain ⟨d8_0, r8_0, rfl, h8_0, g8_0⟩ := goodL_cons q8
  obtain ⟨n9, rfl, lo9, hi9⟩ := good_i64 h8_0
  obtain ⟨d8_1, r8_1, rfl, h8_1, g8_1⟩ := goodL_cons g8_0
  obtain ⟨n10, rfl, lo10, hi10⟩ := good_i64 h8_1
  obtain ⟨d8_2, r8_2, rfl, h8_2, g8_2⟩ := goodL_cons g8_1
  obtain ⟨n11, rfl, lo11, hi11⟩ := good_i64 h8_2
  obtain ⟨d8_3, r8_3, rfl, h8_3, g8_3⟩ := goodL_cons g8_2
  obtain ⟨l12, rfl, q12⟩ := good_st h8_3
  obtain ⟨d12_0, r12_0, rfl, h12_0, g12_0⟩ := goodL_cons q12
  obtain ⟨n13, rfl, lo13, hi13⟩ := good_i64 h12_0
  obtain ⟨d12_1, r12_1, rfl, h12_1, g12_1⟩ := goodL_cons g12_0
  obtain ⟨n14, rfl, lo14, hi14⟩ := good_i64 h12_1
  obtain rfl := goodL_nil g12_1
  obtain ⟨d8_4, r8_4, rfl, h8_4, g8_4⟩ := goodL_cons g8_3
  obtain ⟨l15, rfl, q15⟩ := good_st h8_4
  obtain ⟨d15_0, r15_0, rfl, h15_0, g15_0⟩ := goodL_cons q15
  obtain ⟨n16, rfl, lo16, hi16⟩ := good_i64 h15_0
  obtain ⟨d15_1, r15_1, rfl, h15_1, g15_1⟩ := goodL_cons g15_0
  obtain ⟨n17, rfl, lo17, hi17⟩ := good_i64 h15_1
  obtain rfl := goodL_nil g15_1
  obtain ⟨d8_5, r8_5, rfl, h8_5, g8_5⟩ := goodL_cons g8_4
  obtain ⟨n18, rfl, lo18, hi18⟩ := good_i64 h8_5
  obtain ⟨d8_6, r8_6, rfl, h8_6, g8_6⟩ := goodL_cons g8_5
  obtain ⟨n19, rfl, lo19, hi19⟩ := good_i64 h8_6
  obtain ⟨d8_7, r8_7, rfl, h8_7, g8_7⟩ := goodL_cons g8_6
  obtain ⟨n20, rfl, lo20, hi20⟩ := good_i64 h8_7
  obtain ⟨d8_8, r8_8, rfl, h8_8, g8_8⟩ := goodL_cons g8_7
  obtain ⟨n21, rfl, lo21, hi21⟩ := good_i64 h8_8
  obtain ⟨d8_9, r8_9, rfl, h8_9, g8_9⟩ := goodL_cons g8_8
  obtain ⟨n22, rfl, lo22, hi22⟩ := good_i64 h8_9
  obtain ⟨d8_10, r8_10, rfl, h8_10, g8_10⟩ := goodL_cons g8_9
  obtain ⟨n23, rfl, lo23, hi23⟩ := good_i64 h8_10
  obtain rfl := goodL_nil g8_10
  obtain ⟨d7_1, r7_1, rfl, h7_1, g7_1⟩ := goodL_cons g7_0
  obtain ⟨n24, rfl, lo24, hi24⟩ := good_i64 h7_1
  obtain ⟨d7_2, r7_2, rfl, h7_2, g7_2⟩ := goodL_cons g7_1
  obtain ⟨l25, rfl, q25⟩ := good_st h7_2
  obtain ⟨d25_0, r25_0, rfl, h25_0, g25_0⟩ := goodL_cons q25
  obtain ⟨n26, rfl, lo26, hi26⟩ := good_i64 h25_0
  obtain ⟨d25_1, r25_1, rfl, h25_1, g25_1⟩ := goodL_cons g25_0
  obtain ⟨l27, rfl, q27⟩ := good_st h25_1
  obtain ⟨d27_0, r27_0, rfl, h27_0, g27_0⟩ := goodL_cons q27
  obtain ⟨n28, rfl, lo28, hi28⟩ := good_i64 h27_0
  obtain ⟨d27_1, r27_1, rfl, h27_1, g27_1⟩ := goodL_cons g27_0
  obtain ⟨n29, rfl, lo29, hi29⟩ := good_i64 h27_1
  obtain rfl := goodL_nil g27_1
  obtain ⟨d25_2, r25_2, rfl, h25_2, g25_2⟩ := goodL_cons g25_1
  obtain ⟨n30, rfl, lo30, hi30⟩ := good_i64 h25_2
  obtain ⟨d25_3, r25_3, rfl, h25_3, g25_3⟩ := goodL_cons g25_2
  obtain ⟨n31, rfl, lo31, hi31⟩ := good_i64 h25_3
  obtain ⟨d25_4, r25_4, rfl, h25_4, g25_4⟩ := goodL_cons g25_3
  obtain ⟨n32, rfl, lo32, hi32⟩ := good_i64 h25_4
  obtain rfl := goodL_nil g25_4
  obtain rfl := goodL_nil g7_2
  obtain ⟨e2, s2, rfl, u2, v2⟩ := goodL_cons v1
  obtain ⟨n33, rfl, lo33, hi33⟩ := good_i64 u2
  obtain ⟨e3, s3, rfl, u3, v3⟩ := goodL_cons v2
  obtain ⟨n34, rfl, lo34, hi34⟩ := good_i64 u3
  obtain ⟨e4, s4, rfl, u4, v4⟩ := goodL_cons v3
  obtain ⟨n35, rfl, lo35, hi35⟩ := good_i64 u4
  obtain rfl := goodL_nil v4
  have := law ⟨n2, n3, n4, n5, n6⟩ x0 w0 ⟨n9, n10, n11, n13, n14, n16, n17, n18, n19, n20, n21, n22, n23, n24, n26, n28, n29, n30, n31, n32⟩ n33 n34 n35 (o0) (by have := r0 ([] : List Ob) [] (by simp); simp only [List.append_nil, List.nil_append, List.append_assoc] at this; exact this)
  simpa only [T.c, G.c, layA, layD, layL, argA, shapes, e0', List.nil_append, List.cons_append, List.append_nil, List.append_assoc, List.length_nil, List.length_append, Nat.add_zero, Nat.zero_add, List.headD_cons] using this

end Go.Proofs.Ytpehhlfbnkakpaa.MyTerrainSooner
