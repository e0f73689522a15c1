/- The law ConformFirst: the abstract machine answers true. No condition. -/
import Derived.Test.YtehgapcmngdcnaaInConformFirst
import Derived.Test.YtehgapcmngdcnaaEvaY
import Derived.Test.YtehgapcmngdcnaaTbC
namespace Go.Proofs.Ytehgapcmngdcnaa.MyConformFirst
open Go Go.Proofs.Ytehgapcmngdcnaa.Eva Go.Proofs.Ytehgapcmngdcnaa.CodeAll Go.Proofs.Ytehgapcmngdcnaa.InConformFirst Go.Proofs.Ytehgapcmngdcnaa.Fl
set_option linter.unusedVariables false
set_option linter.unusedSimpArgs false
set_option maxRecDepth 10000
set_option maxHeartbeats 4000000

theorem cl_pc {H : List Ob} {W : AV} {l : List Nd} {o : Ob} {b : Nat} (hs : SlL H W Nd.c 6 l) (hb : rdObj H b 0 = some o) (ho : o.cs = [W]) (k : K) : pcall E 43 [.agg k.c, .ptr b 0 0] H = some (.bool (outs l k)) := by
  refine pcall_some.2 (call_plain e43 rfl (Nat.le_of_ble_eq_true rfl) rfl ?_)
  have hb' : ∀ x, rdObj (H ++ x) b 0 = some o := fun x => rd_keep hb
  have hcm := fun x => cmp_pc (hs.keep x) k
  generalize hv : outs l k = v
  unfold outs at hv
  generalize cmpT k l = C at hcm hv
  simp only [K.c, iout] at hcm
  simp (config := {maxSteps := 8000000}) only [c43, K.c, hb', ho, hcm, hv, wc_seq, wc_reg, wc_cond_t, wc_cond_k, wc_blk, wc_loop, wc_exit, wc_ret, wc_skip, thenQ_n, thenQ_e, thenQ_r, leaveQ_n, leaveQ_e, leaveQ_r, exOk_n, exOk_r, rvq_nil, rvq_t, rvq_c1, rvq_cn, mkRes1, mkRes2, mkRes3, rg_nil, rg_gcall, rg_callp, avoids_nil, avoids_st, ptrId_ptr, apart_ptr, bne_self_eq_false, Nat.add_eq_left, Nat.left_eq_add, Nat.add_left_cancel_iff, decide_true, decide_false, decide_not, Nat.succ_ne_self, pcallV_fn, im_pcf, gv_pcf, im_pc10, gv_pc10, im_pc20, gv_pc20, im_pc21, gv_pc21, im_pc30, gv_pc30, im_pc31, gv_pc31, im_pc32, gv_pc32, im_pc40, gv_pc40, im_pc41, gv_pc41, im_pc42, gv_pc42, im_pc43, gv_pc43, im_pc50, gv_pc50, im_pc51, gv_pc51, im_pc52, gv_pc52, im_pc53, gv_pc53, im_pc54, gv_pc54, rg_new, rg_box, rg_mks, rg_st, rg_iad, rg_iadg, rg_q, rg_qg, updO_some, updO_none, ev_t, ev_k, upd_at, ofL_zero, ofL_succ, ofL_nil, qt_mv, qt_pick, qt_mk, qt_ld1, qt_ldn, qt_nchk, qt_bin, qt_eqs, qt_eqn, qt_un, qt_cvi, qt_cvs, qt_mkf, qt_slc, qt_slz, qt_sla, qt_sls, qt_fad, qt_fld1, qt_fldn, qt_iaa, qt_ixa, qt_ixs, qt_ext, qt_lenv, qt_lenc, qt_capv, qt_mnx, kq_mv, vq_mv, kq_pick, vq_pick, kq_fad, vq_fad, kq_ld1, vq_ld1, kq_ldn, vq_ldn, kq_bin, vq_bin, kq_un, vq_un, kq_ext, vq_ext, kq_nchk, vq_nchk, kq_mk, vq_mk, kq_eqb, vq_eqb, kq_eqs, vq_eqs, kq_eqn, vq_eqn, kq_cvi, vq_cvi, kq_mkf, vq_mkf, kq_slc, vq_slc, kq_fld1, vq_fld1, kq_fldn, vq_fldn, kq_lenv, vq_lenv, kq_lenc, vq_lenc, kq_mnx, vq_mnx, isPtr_ptr, isBool_bool, bv_bool, fadA_ptr, ld1A_ptr, ldnA_ptr, getC_zero, getC_succ, cells_agg, cells_int, cells_bool, cells_str, cells_sl, cells_ptr, isTup_agg, isTup_int, isTup_bool, isTup_str, isTup_sl, isTup_ptr, sc_int, sc_bool, sc_str, pick_t, pick_f, nchkA_ptr, nchkA_fn, lay_nil, lay_cons, wr_def, eqbA_b, eqsA_agg, aeqs_nil, aeqs_i, aeqs_b, aeqs_s, eqnA_sl, eqnA_s0, cviA_i, obd_none, obd_some, toI_int, fld1A_agg, fldnA_agg, lenvA_sl, lenvA_s0, lenvA_str, amn_nil, amn_max, amn_min, idxOk_sl, idxV_sl, abin_add, abin_sub, abin_mul, abin_quo, abin_rem, abin_eql, abin_neq, abin_lss, abin_leq, abin_gtr, abin_geq, abin_seql, abin_sneq, aun_neg, aun_not, aext_tup, im_true, im_fad, im_ld1, im_ldn, im_binl, im_binr, im_un, im_bool, im_ext, gv_gv, gv_fad, gv_ld1, gv_ldn, gv_binl, gv_binr, gv_un, gv_ext, gv_pick, pick_or, pick_and, rd_new, rd_new0, rd_cons0, rd_consS, obOf, stOk_ptr, stH_ptr, put_new, put_new0, put_0, put_s, List.all_cons, List.all_nil, List.map_cons, List.map_nil, List.length_cons, List.length_nil, List.take_zero, List.take_succ_cons, List.take_nil, List.drop_zero, List.drop_succ_cons, List.drop_nil, Nat.reduceAdd, Nat.reduceMul, Nat.reduceSub, if_true, Nat.reduceLT, Nat.reduceLeDiff, ite_true, ite_false, Nat.reduceEqDiff, if_false, Bool.not_false, Bool.not_true, Bool.and_true, Bool.true_and, Bool.false_and, Bool.and_false, Bool.or_true, Bool.true_or, Bool.or_false, Bool.false_or, reduceCtorEq, ne_eq, not_false_eq_true, not_true_eq_false, List.getD, List.getElem?_cons_zero, List.getElem?_cons_succ, Option.getD_some, Option.bind_some, Option.map_some, Option.isSome_some, Nat.zero_add, Nat.add_zero, Bool.false_eq_true, reduceIte, List.length_append, List.append_assoc, List.cons_append, List.nil_append, true_and, and_true, and_self, Nat.le_refl, Nat.le_add_right, Option.some.injEq, true_implies, false_implies, forall_const, implies_true, Int.reduceNeg, avoids_none, eq_self, Prod.mk.injEq, AV.fn.injEq, List.self_eq_append_right, List.append_nil, exists_eq_left, exists_eq_left', exists_and_left, exists_eq_right, exists_and_right, and_assoc, List.cons_append, List.nil_append, List.map_cons, List.map_nil, gd_tt, gd_tf, gd_ft, gd_ff, im_t, im_f, gv_t, gv_f, im_eqbl, im_eqbr, gv_eqbl, gv_eqbr, im_eqsl, im_eqsr, gv_eqsl, gv_eqsr, im_eqn, gv_eqn, im_cvi, gv_cvi, im_fld1, gv_fld1, im_fldn, gv_fldn, im_lenv, gv_lenv, wnt_bool, wnt_gv, wnt_und, gv_pk1, gv_pk2, rg_appk, idx_gl, idx_gr, iok_gl, iok_gr, isPtr_fad, fad_fad]

theorem law (ks : List K) (V : AV) (l : List Nd) (W : AV) (H : List Ob) (hk : SlL H V K.c 13 ks) (hs : SlL H W Nd.c 6 l) : ∃ r, ecall E 14 [V, W] H = some (.bool true, r) := by
  refine call_true e14 rfl (Nat.le_of_ble_eq_true rfl) ?_
  have hlen := hk.len
  have hF1 : ∀ A B, pcall E 41 [.sl false (H.length + 2) 0 13 0 2, .sl false (H.length + 3) 0 6 0 2] (H ++ [A, B, ⟨K.c ⟨0, 0, 50, 10000, 0, 0, 0, 5000, 0, 0, 0, 0, 0⟩ ++ K.c ⟨0, 0, 60, 0, 90000, 0, 0, 5000, 0, 0, 0, 0, 0⟩, 0, 13, true, true⟩, ⟨flat Nd.c (lineL 100 300), 0, 6, true, true⟩]) = some (.tup [.int .i64 1, .int .i64 0]) := by
    intro A B
    have h1 : SlL (H ++ [A, B, ⟨K.c ⟨0, 0, 50, 10000, 0, 0, 0, 5000, 0, 0, 0, 0, 0⟩ ++ K.c ⟨0, 0, 60, 0, 90000, 0, 0, 5000, 0, 0, 0, 0, 0⟩, 0, 13, true, true⟩, ⟨flat Nd.c (lineL 100 300), 0, 6, true, true⟩]) (.sl false (H.length + 2) 0 13 0 2) K.c 13 [⟨0, 0, 50, 10000, 0, 0, 0, 5000, 0, 0, 0, 0, 0⟩, ⟨0, 0, 60, 0, 90000, 0, 0, 5000, 0, 0, 0, 0, 0⟩] :=
      ⟨fun _ => rfl, by decide, rfl, Or.inr ⟨_, 0, 0, ⟨K.c ⟨0, 0, 50, 10000, 0, 0, 0, 5000, 0, 0, 0, 0, 0⟩ ++ K.c ⟨0, 0, 60, 0, 90000, 0, 0, 5000, 0, 0, 0, 0, 0⟩, 0, 13, true, true⟩, rfl, by simp [rdObj], by decide, rfl⟩⟩
    have h2 : SlL (H ++ [A, B, ⟨K.c ⟨0, 0, 50, 10000, 0, 0, 0, 5000, 0, 0, 0, 0, 0⟩ ++ K.c ⟨0, 0, 60, 0, 90000, 0, 0, 5000, 0, 0, 0, 0, 0⟩, 0, 13, true, true⟩, ⟨flat Nd.c (lineL 100 300), 0, 6, true, true⟩]) (.sl false (H.length + 3) 0 6 0 2) Nd.c 6 (lineL 100 300) :=
      ⟨fun _ => rfl, by decide, rfl, Or.inr ⟨_, 0, 0, ⟨flat Nd.c (lineL 100 300), 0, 6, true, true⟩, rfl, by simp [rdObj], by decide, rfl⟩⟩
    rw [first_pc h1 h2]; rfl
  simp only [K.c, List.cons_append, List.nil_append] at hF1
  have hF2 := fun x => first_pc (hk.keep x) (hs.keep x)
  have hWc := hs.cells
  have hWt := hs.isTup
  have n1 : (1 != 1) = false := rfl
  rcases first_spec ks l with ⟨e, h1, h2, h3⟩ | ⟨h1, h2, h3⟩ | ⟨m, k, h1, h2, h3, h4, h5, h6, h7⟩
  · simp only [h1, iout] at hF2
    have k2 : (e != 0) = true := by simpa using h2
    have k3 : (e != 8) = true := by simpa using h3
    simp (config := {maxSteps := 8000000}) only [c14, hlen, hWc, hWt, line_nc, rg_calln, ncallV_fn, hF1, hF2, k2, k3, BEq.rfl, bne_self_eq_false, wc_seq, wc_reg, wc_cond_t, wc_cond_k, wc_blk, wc_loop, wc_exit, wc_ret, wc_skip, thenQ_n, thenQ_e, thenQ_r, leaveQ_n, leaveQ_e, leaveQ_r, exOk_n, exOk_r, rvq_nil, rvq_t, rvq_c1, rvq_cn, mkRes1, mkRes2, mkRes3, rg_nil, rg_gcall, rg_callp, avoids_nil, avoids_st, ptrId_ptr, apart_ptr, bne_self_eq_false, Nat.add_eq_left, Nat.left_eq_add, Nat.add_left_cancel_iff, decide_true, decide_false, decide_not, Nat.succ_ne_self, pcallV_fn, im_pcf, gv_pcf, im_pc10, gv_pc10, im_pc20, gv_pc20, im_pc21, gv_pc21, im_pc30, gv_pc30, im_pc31, gv_pc31, im_pc32, gv_pc32, im_pc40, gv_pc40, im_pc41, gv_pc41, im_pc42, gv_pc42, im_pc43, gv_pc43, im_pc50, gv_pc50, im_pc51, gv_pc51, im_pc52, gv_pc52, im_pc53, gv_pc53, im_pc54, gv_pc54, rg_new, rg_box, rg_mks, rg_st, rg_iad, rg_iadg, rg_q, rg_qg, updO_some, updO_none, ev_t, ev_k, upd_at, ofL_zero, ofL_succ, ofL_nil, qt_mv, qt_pick, qt_mk, qt_ld1, qt_ldn, qt_nchk, qt_bin, qt_eqs, qt_eqn, qt_un, qt_cvi, qt_cvs, qt_mkf, qt_slc, qt_slz, qt_sla, qt_sls, qt_fad, qt_fld1, qt_fldn, qt_iaa, qt_ixa, qt_ixs, qt_ext, qt_lenv, qt_lenc, qt_capv, qt_mnx, kq_mv, vq_mv, kq_pick, vq_pick, kq_fad, vq_fad, kq_ld1, vq_ld1, kq_ldn, vq_ldn, kq_bin, vq_bin, kq_un, vq_un, kq_ext, vq_ext, kq_nchk, vq_nchk, kq_mk, vq_mk, kq_eqb, vq_eqb, kq_eqs, vq_eqs, kq_eqn, vq_eqn, kq_cvi, vq_cvi, kq_mkf, vq_mkf, kq_slc, vq_slc, kq_fld1, vq_fld1, kq_fldn, vq_fldn, kq_lenv, vq_lenv, kq_lenc, vq_lenc, kq_mnx, vq_mnx, isPtr_ptr, isBool_bool, bv_bool, fadA_ptr, ld1A_ptr, ldnA_ptr, getC_zero, getC_succ, cells_agg, cells_int, cells_bool, cells_str, cells_sl, cells_ptr, isTup_agg, isTup_int, isTup_bool, isTup_str, isTup_sl, isTup_ptr, sc_int, sc_bool, sc_str, pick_t, pick_f, nchkA_ptr, nchkA_fn, lay_nil, lay_cons, wr_def, eqbA_b, eqsA_agg, aeqs_nil, aeqs_i, aeqs_b, aeqs_s, eqnA_sl, eqnA_s0, cviA_i, obd_none, obd_some, toI_int, fld1A_agg, fldnA_agg, lenvA_sl, lenvA_s0, lenvA_str, amn_nil, amn_max, amn_min, idxOk_sl, idxV_sl, abin_add, abin_sub, abin_mul, abin_quo, abin_rem, abin_eql, abin_neq, abin_lss, abin_leq, abin_gtr, abin_geq, abin_seql, abin_sneq, aun_neg, aun_not, aext_tup, im_true, im_fad, im_ld1, im_ldn, im_binl, im_binr, im_un, im_bool, im_ext, gv_gv, gv_fad, gv_ld1, gv_ldn, gv_binl, gv_binr, gv_un, gv_ext, gv_pick, pick_or, pick_and, rd_new, rd_new0, rd_cons0, rd_consS, obOf, stOk_ptr, stH_ptr, put_new, put_new0, put_0, put_s, List.all_cons, List.all_nil, List.map_cons, List.map_nil, List.length_cons, List.length_nil, List.take_zero, List.take_succ_cons, List.take_nil, List.drop_zero, List.drop_succ_cons, List.drop_nil, Nat.reduceAdd, Nat.reduceMul, Nat.reduceSub, if_true, Nat.reduceLT, Nat.reduceLeDiff, ite_true, ite_false, Nat.reduceEqDiff, if_false, Bool.not_false, Bool.not_true, Bool.and_true, Bool.true_and, Bool.false_and, Bool.and_false, Bool.or_true, Bool.true_or, Bool.or_false, Bool.false_or, reduceCtorEq, ne_eq, not_false_eq_true, not_true_eq_false, List.getD, List.getElem?_cons_zero, List.getElem?_cons_succ, Option.getD_some, Option.bind_some, Option.map_some, Option.isSome_some, Nat.zero_add, Nat.add_zero, Bool.false_eq_true, reduceIte, List.length_append, List.append_assoc, List.cons_append, List.nil_append, true_and, and_true, and_self, Nat.le_refl, Nat.le_add_right, Option.some.injEq, true_implies, false_implies, forall_const, implies_true, Int.reduceNeg, avoids_none, eq_self, Prod.mk.injEq, AV.fn.injEq, List.self_eq_append_right, List.append_nil, exists_eq_left, exists_eq_left', exists_and_left, exists_eq_right, exists_and_right, and_assoc, List.cons_append, List.nil_append, List.map_cons, List.map_nil, gd_tt, gd_tf, gd_ft, gd_ff, im_t, im_f, gv_t, gv_f, im_eqbl, im_eqbr, gv_eqbl, gv_eqbr, im_eqsl, im_eqsr, gv_eqsl, gv_eqsr, im_eqn, gv_eqn, im_cvi, gv_cvi, im_fld1, gv_fld1, im_fldn, gv_fldn, im_lenv, gv_lenv, wnt_bool, wnt_gv, wnt_und, gv_pk1, gv_pk2, rg_appk, idx_gl, idx_gr, iok_gl, iok_gr, isPtr_fad, fad_fad]
  · simp only [h1, iout] at hF2
    obtain ⟨V', hV1, hV2, _⟩ := hk.slc (a := none) (b := some (ks.length : Int)) (lo := 0) (hi := ks.length) rfl rfl (by omega) (Nat.le_refl _)
    simp only [List.drop_zero, Nat.sub_zero, List.take_length] at hV2
    have hC := fun x hb => ctf_K (g := 43) (caps := [.ptr H.length 0 0]) (p := outs l) (hV2.keep x) (by omega) hb
    have hC' : ∀ x, pcall E 42 [V', .fn 43 [.ptr H.length 0 0]] (H ++ (⟨[W], 0, 0, true, W.scalar && true⟩ :: x)) = some (.bool (ks.any (outs l))) := fun x => hC _ (fun y k _ => by
      rw [List.append_assoc]
      exact cl_pc (hs.keep _) (o := ⟨[W], 0, 0, true, W.scalar && true⟩) (by simp [rdObj]) rfl k)
    simp only [Bool.and_true] at hC'
    simp (config := {maxSteps := 8000000}) only [c14, hlen, hWc, hWt, line_nc, rg_calln, ncallV_fn, hF1, hF2, kq_slc, vq_slc, hV1, hC', h3, BEq.rfl, bne_self_eq_false, Int.reduceBNe, Int.reduceBEq, wc_seq, wc_reg, wc_cond_t, wc_cond_k, wc_blk, wc_loop, wc_exit, wc_ret, wc_skip, thenQ_n, thenQ_e, thenQ_r, leaveQ_n, leaveQ_e, leaveQ_r, exOk_n, exOk_r, rvq_nil, rvq_t, rvq_c1, rvq_cn, mkRes1, mkRes2, mkRes3, rg_nil, rg_gcall, rg_callp, avoids_nil, avoids_st, ptrId_ptr, apart_ptr, bne_self_eq_false, Nat.add_eq_left, Nat.left_eq_add, Nat.add_left_cancel_iff, decide_true, decide_false, decide_not, Nat.succ_ne_self, pcallV_fn, im_pcf, gv_pcf, im_pc10, gv_pc10, im_pc20, gv_pc20, im_pc21, gv_pc21, im_pc30, gv_pc30, im_pc31, gv_pc31, im_pc32, gv_pc32, im_pc40, gv_pc40, im_pc41, gv_pc41, im_pc42, gv_pc42, im_pc43, gv_pc43, im_pc50, gv_pc50, im_pc51, gv_pc51, im_pc52, gv_pc52, im_pc53, gv_pc53, im_pc54, gv_pc54, rg_new, rg_box, rg_mks, rg_st, rg_iad, rg_iadg, rg_q, rg_qg, updO_some, updO_none, ev_t, ev_k, upd_at, ofL_zero, ofL_succ, ofL_nil, qt_mv, qt_pick, qt_mk, qt_ld1, qt_ldn, qt_nchk, qt_bin, qt_eqs, qt_eqn, qt_un, qt_cvi, qt_cvs, qt_mkf, qt_slc, qt_slz, qt_sla, qt_sls, qt_fad, qt_fld1, qt_fldn, qt_iaa, qt_ixa, qt_ixs, qt_ext, qt_lenv, qt_lenc, qt_capv, qt_mnx, kq_mv, vq_mv, kq_pick, vq_pick, kq_fad, vq_fad, kq_ld1, vq_ld1, kq_ldn, vq_ldn, kq_bin, vq_bin, kq_un, vq_un, kq_ext, vq_ext, kq_nchk, vq_nchk, kq_mk, vq_mk, kq_eqb, vq_eqb, kq_eqs, vq_eqs, kq_eqn, vq_eqn, kq_cvi, vq_cvi, kq_mkf, vq_mkf, kq_slc, vq_slc, kq_fld1, vq_fld1, kq_fldn, vq_fldn, kq_lenv, vq_lenv, kq_lenc, vq_lenc, kq_mnx, vq_mnx, isPtr_ptr, isBool_bool, bv_bool, fadA_ptr, ld1A_ptr, ldnA_ptr, getC_zero, getC_succ, cells_agg, cells_int, cells_bool, cells_str, cells_sl, cells_ptr, isTup_agg, isTup_int, isTup_bool, isTup_str, isTup_sl, isTup_ptr, sc_int, sc_bool, sc_str, pick_t, pick_f, nchkA_ptr, nchkA_fn, lay_nil, lay_cons, wr_def, eqbA_b, eqsA_agg, aeqs_nil, aeqs_i, aeqs_b, aeqs_s, eqnA_sl, eqnA_s0, cviA_i, obd_none, obd_some, toI_int, fld1A_agg, fldnA_agg, lenvA_sl, lenvA_s0, lenvA_str, amn_nil, amn_max, amn_min, idxOk_sl, idxV_sl, abin_add, abin_sub, abin_mul, abin_quo, abin_rem, abin_eql, abin_neq, abin_lss, abin_leq, abin_gtr, abin_geq, abin_seql, abin_sneq, aun_neg, aun_not, aext_tup, im_true, im_fad, im_ld1, im_ldn, im_binl, im_binr, im_un, im_bool, im_ext, gv_gv, gv_fad, gv_ld1, gv_ldn, gv_binl, gv_binr, gv_un, gv_ext, gv_pick, pick_or, pick_and, rd_new, rd_new0, rd_cons0, rd_consS, obOf, stOk_ptr, stH_ptr, put_new, put_new0, put_0, put_s, List.all_cons, List.all_nil, List.map_cons, List.map_nil, List.length_cons, List.length_nil, List.take_zero, List.take_succ_cons, List.take_nil, List.drop_zero, List.drop_succ_cons, List.drop_nil, Nat.reduceAdd, Nat.reduceMul, Nat.reduceSub, if_true, Nat.reduceLT, Nat.reduceLeDiff, ite_true, ite_false, Nat.reduceEqDiff, if_false, Bool.not_false, Bool.not_true, Bool.and_true, Bool.true_and, Bool.false_and, Bool.and_false, Bool.or_true, Bool.true_or, Bool.or_false, Bool.false_or, reduceCtorEq, ne_eq, not_false_eq_true, not_true_eq_false, List.getD, List.getElem?_cons_zero, List.getElem?_cons_succ, Option.getD_some, Option.bind_some, Option.map_some, Option.isSome_some, Nat.zero_add, Nat.add_zero, Bool.false_eq_true, reduceIte, List.length_append, List.append_assoc, List.cons_append, List.nil_append, true_and, and_true, and_self, Nat.le_refl, Nat.le_add_right, Option.some.injEq, true_implies, false_implies, forall_const, implies_true, Int.reduceNeg, avoids_none, eq_self, Prod.mk.injEq, AV.fn.injEq, List.self_eq_append_right, List.append_nil, exists_eq_left, exists_eq_left', exists_and_left, exists_eq_right, exists_and_right, and_assoc, List.cons_append, List.nil_append, List.map_cons, List.map_nil, gd_tt, gd_tf, gd_ft, gd_ff, im_t, im_f, gv_t, gv_f, im_eqbl, im_eqbr, gv_eqbl, gv_eqbr, im_eqsl, im_eqsr, gv_eqsl, gv_eqsr, im_eqn, gv_eqn, im_cvi, gv_cvi, im_fld1, gv_fld1, im_fldn, gv_fldn, im_lenv, gv_lenv, wnt_bool, wnt_gv, wnt_und, gv_pk1, gv_pk2, rg_appk, idx_gl, idx_gr, iok_gl, iok_gr, isPtr_fad, fad_fad]
  · simp only [h3, iout] at hF2
    obtain ⟨V', hV1, hV2, _⟩ := hk.slc (a := none) (b := some (m : Int)) (lo := 0) (hi := m) rfl rfl (by omega) (by omega)
    simp only [List.drop_zero, Nat.sub_zero] at hV2
    have hC := fun x hb => ctf_K (g := 43) (caps := [.ptr H.length 0 0]) (p := outs l) (hV2.keep x) (by rw [List.length_take]; omega) hb
    have hC' : ∀ x, pcall E 42 [V', .fn 43 [.ptr H.length 0 0]] (H ++ (⟨[W], 0, 0, true, W.scalar && true⟩ :: x)) = some (.bool ((ks.take m).any (outs l))) := fun x => hC _ (fun y k _ => by
      rw [List.append_assoc]
      exact cl_pc (hs.keep _) (o := ⟨[W], 0, 0, true, W.scalar && true⟩) (by simp [rdObj]) rfl k)
    simp only [Bool.and_true] at hC'
    have hok : idxOk 13 V (.int .i64 (m : Int)) := hk.ok (by omega) (by omega)
    have hld := fun x => (hk.keep x).ldn (i := (m : Int)) (kk := .i64) (x := k) (by omega) (by simpa using h5)
    have hcm := fun x => cmp_pc (hs.keep x) k
    have hC3 : cmpT k l = (2, 0) := by rw [← h6, ← h7]
    simp only [hC3, iout, K.c] at hcm hld
    simp (config := {maxSteps := 8000000}) only [c14, hlen, hWc, hWt, line_nc, rg_calln, ncallV_fn, hF1, hF2, kq_slc, vq_slc, hV1, hC', h4, hok, isPtr_idx hok, hld, hcm, BEq.rfl, bne_self_eq_false, Int.reduceBNe, Int.reduceBEq, wc_seq, wc_reg, wc_cond_t, wc_cond_k, wc_blk, wc_loop, wc_exit, wc_ret, wc_skip, thenQ_n, thenQ_e, thenQ_r, leaveQ_n, leaveQ_e, leaveQ_r, exOk_n, exOk_r, rvq_nil, rvq_t, rvq_c1, rvq_cn, mkRes1, mkRes2, mkRes3, rg_nil, rg_gcall, rg_callp, avoids_nil, avoids_st, ptrId_ptr, apart_ptr, bne_self_eq_false, Nat.add_eq_left, Nat.left_eq_add, Nat.add_left_cancel_iff, decide_true, decide_false, decide_not, Nat.succ_ne_self, pcallV_fn, im_pcf, gv_pcf, im_pc10, gv_pc10, im_pc20, gv_pc20, im_pc21, gv_pc21, im_pc30, gv_pc30, im_pc31, gv_pc31, im_pc32, gv_pc32, im_pc40, gv_pc40, im_pc41, gv_pc41, im_pc42, gv_pc42, im_pc43, gv_pc43, im_pc50, gv_pc50, im_pc51, gv_pc51, im_pc52, gv_pc52, im_pc53, gv_pc53, im_pc54, gv_pc54, rg_new, rg_box, rg_mks, rg_st, rg_iad, rg_iadg, rg_q, rg_qg, updO_some, updO_none, ev_t, ev_k, upd_at, ofL_zero, ofL_succ, ofL_nil, qt_mv, qt_pick, qt_mk, qt_ld1, qt_ldn, qt_nchk, qt_bin, qt_eqs, qt_eqn, qt_un, qt_cvi, qt_cvs, qt_mkf, qt_slc, qt_slz, qt_sla, qt_sls, qt_fad, qt_fld1, qt_fldn, qt_iaa, qt_ixa, qt_ixs, qt_ext, qt_lenv, qt_lenc, qt_capv, qt_mnx, kq_mv, vq_mv, kq_pick, vq_pick, kq_fad, vq_fad, kq_ld1, vq_ld1, kq_ldn, vq_ldn, kq_bin, vq_bin, kq_un, vq_un, kq_ext, vq_ext, kq_nchk, vq_nchk, kq_mk, vq_mk, kq_eqb, vq_eqb, kq_eqs, vq_eqs, kq_eqn, vq_eqn, kq_cvi, vq_cvi, kq_mkf, vq_mkf, kq_slc, vq_slc, kq_fld1, vq_fld1, kq_fldn, vq_fldn, kq_lenv, vq_lenv, kq_lenc, vq_lenc, kq_mnx, vq_mnx, isPtr_ptr, isBool_bool, bv_bool, fadA_ptr, ld1A_ptr, ldnA_ptr, getC_zero, getC_succ, cells_agg, cells_int, cells_bool, cells_str, cells_sl, cells_ptr, isTup_agg, isTup_int, isTup_bool, isTup_str, isTup_sl, isTup_ptr, sc_int, sc_bool, sc_str, pick_t, pick_f, nchkA_ptr, nchkA_fn, lay_nil, lay_cons, wr_def, eqbA_b, eqsA_agg, aeqs_nil, aeqs_i, aeqs_b, aeqs_s, eqnA_sl, eqnA_s0, cviA_i, obd_none, obd_some, toI_int, fld1A_agg, fldnA_agg, lenvA_sl, lenvA_s0, lenvA_str, amn_nil, amn_max, amn_min, idxOk_sl, idxV_sl, abin_add, abin_sub, abin_mul, abin_quo, abin_rem, abin_eql, abin_neq, abin_lss, abin_leq, abin_gtr, abin_geq, abin_seql, abin_sneq, aun_neg, aun_not, aext_tup, im_true, im_fad, im_ld1, im_ldn, im_binl, im_binr, im_un, im_bool, im_ext, gv_gv, gv_fad, gv_ld1, gv_ldn, gv_binl, gv_binr, gv_un, gv_ext, gv_pick, pick_or, pick_and, rd_new, rd_new0, rd_cons0, rd_consS, obOf, stOk_ptr, stH_ptr, put_new, put_new0, put_0, put_s, List.all_cons, List.all_nil, List.map_cons, List.map_nil, List.length_cons, List.length_nil, List.take_zero, List.take_succ_cons, List.take_nil, List.drop_zero, List.drop_succ_cons, List.drop_nil, Nat.reduceAdd, Nat.reduceMul, Nat.reduceSub, if_true, Nat.reduceLT, Nat.reduceLeDiff, ite_true, ite_false, Nat.reduceEqDiff, if_false, Bool.not_false, Bool.not_true, Bool.and_true, Bool.true_and, Bool.false_and, Bool.and_false, Bool.or_true, Bool.true_or, Bool.or_false, Bool.false_or, reduceCtorEq, ne_eq, not_false_eq_true, not_true_eq_false, List.getD, List.getElem?_cons_zero, List.getElem?_cons_succ, Option.getD_some, Option.bind_some, Option.map_some, Option.isSome_some, Nat.zero_add, Nat.add_zero, Bool.false_eq_true, reduceIte, List.length_append, List.append_assoc, List.cons_append, List.nil_append, true_and, and_true, and_self, Nat.le_refl, Nat.le_add_right, Option.some.injEq, true_implies, false_implies, forall_const, implies_true, Int.reduceNeg, avoids_none, eq_self, Prod.mk.injEq, AV.fn.injEq, List.self_eq_append_right, List.append_nil, exists_eq_left, exists_eq_left', exists_and_left, exists_eq_right, exists_and_right, and_assoc, List.cons_append, List.nil_append, List.map_cons, List.map_nil, gd_tt, gd_tf, gd_ft, gd_ff, im_t, im_f, gv_t, gv_f, im_eqbl, im_eqbr, gv_eqbl, gv_eqbr, im_eqsl, im_eqsr, gv_eqsl, gv_eqsr, im_eqn, gv_eqn, im_cvi, gv_cvi, im_fld1, gv_fld1, im_fldn, gv_fldn, im_lenv, gv_lenv, wnt_bool, wnt_gv, wnt_und, gv_pk1, gv_pk2, rg_appk, idx_gl, idx_gr, iok_gl, iok_gr, isPtr_fad, fad_fad]

theorem dv_K (d : DV) (h : goodD (.st [.int .i64, .int .i64, .int .i64, .st [.int .i64, .int .i64], .st [.int .i64, .int .i64], .int .i64, .int .i64, .int .i64, .int .i64, .int .i64, .int .i64]) d) : ∃ x : K, (fun _ => True) x ∧ ∀ n, layD n (.st [.int .i64, .int .i64, .int .i64, .st [.int .i64, .int .i64], .st [.int .i64, .int .i64], .int .i64, .int .i64, .int .i64, .int .i64, .int .i64, .int .i64]) d = (K.c x, []) := by
  obtain ⟨l1, rfl, q1⟩ := good_st h
  obtain ⟨d1_0, r1_0, rfl, h1_0, g1_0⟩ := goodL_cons q1
  obtain ⟨n2, rfl, lo2, hi2⟩ := good_i64 h1_0
  obtain ⟨d1_1, r1_1, rfl, h1_1, g1_1⟩ := goodL_cons g1_0
  obtain ⟨n3, rfl, lo3, hi3⟩ := good_i64 h1_1
  obtain ⟨d1_2, r1_2, rfl, h1_2, g1_2⟩ := goodL_cons g1_1
  obtain ⟨n4, rfl, lo4, hi4⟩ := good_i64 h1_2
  obtain ⟨d1_3, r1_3, rfl, h1_3, g1_3⟩ := goodL_cons g1_2
  obtain ⟨l5, rfl, q5⟩ := good_st h1_3
  obtain ⟨d5_0, r5_0, rfl, h5_0, g5_0⟩ := goodL_cons q5
  obtain ⟨n6, rfl, lo6, hi6⟩ := good_i64 h5_0
  obtain ⟨d5_1, r5_1, rfl, h5_1, g5_1⟩ := goodL_cons g5_0
  obtain ⟨n7, rfl, lo7, hi7⟩ := good_i64 h5_1
  obtain rfl := goodL_nil g5_1
  obtain ⟨d1_4, r1_4, rfl, h1_4, g1_4⟩ := goodL_cons g1_3
  obtain ⟨l8, rfl, q8⟩ := good_st h1_4
  obtain ⟨d8_0, r8_0, rfl, h8_0, g8_0⟩ := goodL_cons q8
  obtain ⟨n9, rfl, lo9, hi9⟩ := good_i64 h8_0
  obtain ⟨d8_1, r8_1, rfl, h8_1, g8_1⟩ := goodL_cons g8_0
  obtain ⟨n10, rfl, lo10, hi10⟩ := good_i64 h8_1
  obtain rfl := goodL_nil g8_1
  obtain ⟨d1_5, r1_5, rfl, h1_5, g1_5⟩ := goodL_cons g1_4
  obtain ⟨n11, rfl, lo11, hi11⟩ := good_i64 h1_5
  obtain ⟨d1_6, r1_6, rfl, h1_6, g1_6⟩ := goodL_cons g1_5
  obtain ⟨n12, rfl, lo12, hi12⟩ := good_i64 h1_6
  obtain ⟨d1_7, r1_7, rfl, h1_7, g1_7⟩ := goodL_cons g1_6
  obtain ⟨n13, rfl, lo13, hi13⟩ := good_i64 h1_7
  obtain ⟨d1_8, r1_8, rfl, h1_8, g1_8⟩ := goodL_cons g1_7
  obtain ⟨n14, rfl, lo14, hi14⟩ := good_i64 h1_8
  obtain ⟨d1_9, r1_9, rfl, h1_9, g1_9⟩ := goodL_cons g1_8
  obtain ⟨n15, rfl, lo15, hi15⟩ := good_i64 h1_9
  obtain ⟨d1_10, r1_10, rfl, h1_10, g1_10⟩ := goodL_cons g1_9
  obtain ⟨n16, rfl, lo16, hi16⟩ := good_i64 h1_10
  obtain rfl := goodL_nil g1_10
  exact ⟨⟨n2, n3, n4, n6, n7, n9, n10, n11, n12, n13, n14, n15, n16⟩, trivial, fun n => rfl⟩

theorem dv_Nd (d : DV) (h : goodD (.st [.st [.int .i64, .st [.int .i64, .int .i64], .int .i64], .int .i64, .int .i64]) d) : ∃ x : Nd, (fun _ => True) x ∧ ∀ n, layD n (.st [.st [.int .i64, .st [.int .i64, .int .i64], .int .i64], .int .i64, .int .i64]) d = (Nd.c x, []) := by
  obtain ⟨l17, rfl, q17⟩ := good_st h
  obtain ⟨d17_0, r17_0, rfl, h17_0, g17_0⟩ := goodL_cons q17
  obtain ⟨l18, rfl, q18⟩ := good_st h17_0
  obtain ⟨d18_0, r18_0, rfl, h18_0, g18_0⟩ := goodL_cons q18
  obtain ⟨n19, rfl, lo19, hi19⟩ := good_i64 h18_0
  obtain ⟨d18_1, r18_1, rfl, h18_1, g18_1⟩ := goodL_cons g18_0
  obtain ⟨l20, rfl, q20⟩ := good_st h18_1
  obtain ⟨d20_0, r20_0, rfl, h20_0, g20_0⟩ := goodL_cons q20
  obtain ⟨n21, rfl, lo21, hi21⟩ := good_i64 h20_0
  obtain ⟨d20_1, r20_1, rfl, h20_1, g20_1⟩ := goodL_cons g20_0
  obtain ⟨n22, rfl, lo22, hi22⟩ := good_i64 h20_1
  obtain rfl := goodL_nil g20_1
  obtain ⟨d18_2, r18_2, rfl, h18_2, g18_2⟩ := goodL_cons g18_1
  obtain ⟨n23, rfl, lo23, hi23⟩ := good_i64 h18_2
  obtain rfl := goodL_nil g18_2
  obtain ⟨d17_1, r17_1, rfl, h17_1, g17_1⟩ := goodL_cons g17_0
  obtain ⟨n24, rfl, lo24, hi24⟩ := good_i64 h17_1
  obtain ⟨d17_2, r17_2, rfl, h17_2, g17_2⟩ := goodL_cons g17_1
  obtain ⟨n25, rfl, lo25, hi25⟩ := good_i64 h17_2
  obtain rfl := goodL_nil g17_2
  exact ⟨⟨n19, n21, n22, n23, n24, n25⟩, trivial, fun n => rfl⟩

theorem proved : Pure := by
  intro xs hg
  obtain ⟨e0, s0, rfl, u0, v0⟩ := goodL_cons hg
  obtain ⟨x0, p0, b0, k0⟩ := in_sl (c := K.c) dv_K (fun x => rfl) (by decide) u0
  obtain ⟨w0, o0, e0', r0⟩ := k0 (0)
  obtain ⟨e1, s1, rfl, u1, v1⟩ := goodL_cons v0
  obtain ⟨x1, p1, b1, k1⟩ := in_sl (c := Nd.c) dv_Nd (fun x => rfl) (by decide) u1
  obtain ⟨w1, o1, e1', r1⟩ := k1 (o0.length)
  obtain rfl := goodL_nil v1
  have := law x0 w0 x1 w1 (o0 ++ (o1)) (by have := r0 ([] : List Ob) (o1) (by simp); simp only [List.append_nil, List.nil_append, List.append_assoc] at this; exact this) (by have := r1 (o0) [] (by simp); simp only [List.append_nil, List.nil_append, List.append_assoc] at this; exact this)
  simpa only [layA, layD, layL, argA, shapes, e0', e1', List.nil_append, List.cons_append, List.append_nil, List.append_assoc, List.length_nil, List.length_append, Nat.add_zero, Nat.zero_add, List.headD_cons] using this

end Go.Proofs.Ytehgapcmngdcnaa.MyConformFirst
