/- slices.Clone of a slice of bools; the plain fact of BeginSooner. Conditions stand in each lemma. -/
import Derived.Test.YtehgapcmngdcnaaBgD
namespace Go.Proofs.Ytehgapcmngdcnaa.Fl
open Go Go.Proofs.Ytehgapcmngdcnaa.Eva Go.Proofs.Ytehgapcmngdcnaa.CodeAll
set_option linter.unusedVariables false
set_option linter.unusedSimpArgs false
set_option maxRecDepth 10000
set_option maxHeartbeats 4000000

/-- A slice whose object holds plain values. -/
def FlL (h : List Ob) (v : AV) : Prop := ∀ id ep o, idOf v id → rdObj h id ep = some o → o.fl = true
theorem rd_keep_inv {h y : List Ob} {id ep : Nat} {o : Ob} (hlt : id < h.length) (e : rdObj (h ++ y) id ep = some o) : rdObj h id ep = some o := by
  unfold rdObj at e ⊢
  rwa [List.getElem?_append_left hlt] at e
theorem fin_obj {n0 : Nat} {h : List Ob} {id ep sz k n : Nat} {cs : List AV} {f : Fr} (h2 : rdObj h id ep = some ⟨cs, ep, sz, true, true⟩) (h3 : n0 ≤ id) :
    fin n0 (.sl false id ep sz 0 k) (stt n f h n0 n0) = (.sl false n0 0 sz 0 k, h.take n0 ++ [⟨cs, 0, sz, true, true⟩], n0, n0) := by
  have h5 : ¬ id < n0 := by omega
  have h6 : ¬ (False ∨ id < n0) := by simp [h5]
  simp only [fin, Nat.lt_irrefl, if_false, refs, refsL, Bool.false_eq_true, if_neg h6, List.append_nil, dd, List.contains_nil, pickObjs, h2, if_true, ren, renL]
  simp [List.idxOf, h5]
theorem fin_nil {n0 : Nat} {h : List Ob} {n : Nat} {f : Fr} : fin n0 (.sl true 0 0 0 0 0) (stt n f h n0 n0) = (.sl true 0 0 0 0 0, h.take n0, n0, n0) := by
  simp only [fin, Nat.lt_irrefl, if_false, refs, true_or, if_true, List.append_nil, dd, pickObjs, ren]

theorem content_sl {α : Type} {c : α → List AV} {sz a b : Nat} {h : List Ob} {v : AV} {xs : List α} (hs : SlL h v c sz xs) (hf : FlL h v) : content sz ⟨h, a, b⟩ v = some (flat c xs, xs.length, true) := by
  obtain ⟨hc, h0, hcs, ⟨hk, ⟨nl, rfl⟩ | rfl⟩ | ⟨id, ep, off, o, rfl, k2, k3, k4⟩⟩ := hs
  · have : xs = [] := List.length_eq_zero_iff.1 hk
    subst this; rfl
  · have : xs = [] := List.length_eq_zero_iff.1 hk
    subst this; rfl
  · have hfl := hf id ep o ⟨rfl, rfl⟩ k2
    by_cases hz : xs.length = 0
    · have : xs = [] := List.length_eq_zero_iff.1 hz
      subst this; rfl
    · simp only [content, if_neg hz, Bool.false_eq_true, if_false, if_true, k2, if_pos k3, k4, hfl]

theorem clone_run {h : List Ob} {V : AV} {xs : List Bool} (hs : SlL h V boolC 1 xs) (hf : FlL h V) (hb : xs.length ≤ 1000) :
    ∃ W o, ecall E 23 [V] h = some (W, h ++ o, h.length, h.length) ∧ ((W = .sl true 0 0 0 0 0 ∧ o = [] ∧ xs = []) ∨ (W = .sl false h.length 0 1 0 xs.length ∧ o = [⟨flat boolC xs, 0, 1, true, true⟩])) := by
  obtain ⟨b, hb1, hb2⟩ := hs.eqn
  cases b
  · -- not nil
    refine ⟨.sl false h.length 0 1 0 xs.length, [⟨flat boolC xs, 0, 1, true, true⟩], ?_, Or.inr ⟨rfl, rfl⟩⟩
    have key : wc E h.length c23.nt c23.code (fun e f h' => exOk e = true ∧ ∃ ep, rvq c23.nt f h' c23.res = some [.sl false h.length ep 1 0 xs.length] ∧ rdObj h' h.length ep = some ⟨flat boolC xs, ep, 1, true, true⟩) (ofL [V]) h := by
      simp (config := {maxSteps := 4000000}) only [c23, hb1, wc_seq, wc_reg, wc_cond_t, wc_cond_k, wc_blk, wc_loop, wc_exit, wc_ret, wc_skip, thenQ_n, thenQ_e, thenQ_r, leaveQ_n, leaveQ_e, leaveQ_r, exOk_n, exOk_r, rvq_nil, rvq_t, rvq_c1, rvq_cn, mkRes1, mkRes2, mkRes3, rg_nil, rg_gcall, rg_callp, avoids_nil, avoids_st, ptrId_ptr, apart_ptr, bne_self_eq_false, Nat.add_eq_left, Nat.left_eq_add, Nat.add_left_cancel_iff, decide_true, decide_false, decide_not, Nat.succ_ne_self, pcallV_fn, im_pcf, gv_pcf, im_pc10, gv_pc10, im_pc20, gv_pc20, im_pc21, gv_pc21, im_pc30, gv_pc30, im_pc31, gv_pc31, im_pc32, gv_pc32, im_pc40, gv_pc40, im_pc41, gv_pc41, im_pc42, gv_pc42, im_pc43, gv_pc43, im_pc50, gv_pc50, im_pc51, gv_pc51, im_pc52, gv_pc52, im_pc53, gv_pc53, im_pc54, gv_pc54, rg_new, rg_box, rg_mks, rg_st, rg_iad, rg_iadg, rg_q, rg_qg, updO_some, updO_none, ev_t, ev_k, upd_at, ofL_zero, ofL_succ, ofL_nil, qt_mv, qt_pick, qt_mk, qt_ld1, qt_ldn, qt_nchk, qt_bin, qt_eqs, qt_eqn, qt_un, qt_cvi, qt_cvs, qt_mkf, qt_slc, qt_slz, qt_sla, qt_sls, qt_fad, qt_fld1, qt_fldn, qt_iaa, qt_ixa, qt_ixs, qt_ext, qt_lenv, qt_lenc, qt_capv, qt_mnx, kq_mv, vq_mv, kq_pick, vq_pick, kq_fad, vq_fad, kq_ld1, vq_ld1, kq_ldn, vq_ldn, kq_bin, vq_bin, kq_un, vq_un, kq_ext, vq_ext, kq_nchk, vq_nchk, kq_mk, vq_mk, kq_eqb, vq_eqb, kq_eqs, vq_eqs, kq_eqn, vq_eqn, kq_cvi, vq_cvi, kq_mkf, vq_mkf, kq_slc, vq_slc, kq_fld1, vq_fld1, kq_fldn, vq_fldn, kq_lenv, vq_lenv, kq_lenc, vq_lenc, kq_mnx, vq_mnx, isPtr_ptr, isBool_bool, bv_bool, fadA_ptr, ld1A_ptr, ldnA_ptr, getC_zero, getC_succ, cells_agg, cells_int, cells_bool, cells_str, cells_sl, cells_ptr, isTup_agg, isTup_int, isTup_bool, isTup_str, isTup_sl, isTup_ptr, sc_int, sc_bool, sc_str, pick_t, pick_f, nchkA_ptr, nchkA_fn, lay_nil, lay_cons, wr_def, eqbA_b, eqsA_agg, aeqs_nil, aeqs_i, aeqs_b, aeqs_s, eqnA_sl, eqnA_s0, cviA_i, obd_none, obd_some, toI_int, fld1A_agg, fldnA_agg, lenvA_sl, lenvA_s0, lenvA_str, amn_nil, amn_max, amn_min, idxOk_sl, idxV_sl, abin_add, abin_sub, abin_mul, abin_quo, abin_rem, abin_eql, abin_neq, abin_lss, abin_leq, abin_gtr, abin_geq, abin_seql, abin_sneq, aun_neg, aun_not, aext_tup, im_true, im_fad, im_ld1, im_ldn, im_binl, im_binr, im_un, im_bool, im_ext, gv_gv, gv_fad, gv_ld1, gv_ldn, gv_binl, gv_binr, gv_un, gv_ext, gv_pick, pick_or, pick_and, rd_new, rd_new0, rd_cons0, rd_consS, obOf, stOk_ptr, stH_ptr, put_new, put_new0, put_0, put_s, List.all_cons, List.all_nil, List.map_cons, List.map_nil, List.length_cons, List.length_nil, List.take_zero, List.take_succ_cons, List.take_nil, List.drop_zero, List.drop_succ_cons, List.drop_nil, Nat.reduceAdd, Nat.reduceMul, Nat.reduceSub, if_true, Nat.reduceLT, Nat.reduceLeDiff, ite_true, ite_false, Nat.reduceEqDiff, if_false, Bool.not_false, Bool.not_true, Bool.and_true, Bool.true_and, Bool.false_and, Bool.and_false, Bool.or_true, Bool.true_or, Bool.or_false, Bool.false_or, reduceCtorEq, ne_eq, not_false_eq_true, not_true_eq_false, List.getD, List.getElem?_cons_zero, List.getElem?_cons_succ, Option.getD_some, Option.bind_some, Option.map_some, Option.isSome_some, Nat.zero_add, Nat.add_zero, Bool.false_eq_true, reduceIte, List.length_append, List.append_assoc, List.cons_append, List.nil_append, true_and, and_true, and_self, Nat.le_refl, Nat.le_add_right, Option.some.injEq, true_implies, false_implies, forall_const, implies_true, Int.reduceNeg, avoids_none, eq_self, Prod.mk.injEq, AV.fn.injEq, List.self_eq_append_right, List.append_nil, exists_eq_left, exists_eq_left', exists_and_left, exists_eq_right, exists_and_right, and_assoc, List.cons_append, List.nil_append, List.map_cons, List.map_nil, gd_tt, gd_tf, gd_ft, gd_ff, im_t, im_f, gv_t, gv_f, im_eqbl, im_eqbr, gv_eqbl, gv_eqbr, im_eqsl, im_eqsr, gv_eqsl, gv_eqsr, im_eqn, gv_eqn, im_cvi, gv_cvi, im_fld1, gv_fld1, im_fldn, gv_fldn, im_lenv, gv_lenv, wnt_bool, wnt_gv, wnt_und, gv_pk1, gv_pk2, rg_appk, idx_gl, idx_gr, iok_gl, iok_gr, isPtr_fad, fad_fad, kq_ixa, vq_ixa, ixaA_0, ixaA_1, ixaA_t0, ixaA_t1, le_pl, rg_mkk, mkK_int]
      have hcont := fun a b => content_sl (a := a) (b := b) (SlL.keep hs [⟨[], 0, 1, true, true⟩]) (fun id ep o hid ho => hf id ep o hid (rd_keep_inv (hs.idlt hid) ho))
      unfold appK
      by_cases hz : xs.length = 0
      · have hx : xs = [] := List.length_eq_zero_iff.1 hz
        subst hx
        have ha : aapp 1 1 ⟨h ++ [⟨[], 0, 1, true, true⟩], h.length, h.length⟩ (.sl false h.length 0 1 0 0) V = some (.sl false h.length 0 1 0 0, ⟨h ++ [⟨[], 0, 1, true, true⟩], h.length, h.length⟩) := by
          simp only [aapp, hcont, Option.bind_some, List.length_nil, if_true]
        simp only [appOk, appV, appH, ha]
        refine ⟨⟨trivial, trivial, by simp, by simp⟩, 0, ?_, ?_⟩
        · simp (config := {maxSteps := 4000000}) only [c23, wc_seq, wc_reg, wc_cond_t, wc_cond_k, wc_blk, wc_loop, wc_exit, wc_ret, wc_skip, thenQ_n, thenQ_e, thenQ_r, leaveQ_n, leaveQ_e, leaveQ_r, exOk_n, exOk_r, rvq_nil, rvq_t, rvq_c1, rvq_cn, mkRes1, mkRes2, mkRes3, rg_nil, rg_gcall, rg_callp, avoids_nil, avoids_st, ptrId_ptr, apart_ptr, bne_self_eq_false, Nat.add_eq_left, Nat.left_eq_add, Nat.add_left_cancel_iff, decide_true, decide_false, decide_not, Nat.succ_ne_self, pcallV_fn, im_pcf, gv_pcf, im_pc10, gv_pc10, im_pc20, gv_pc20, im_pc21, gv_pc21, im_pc30, gv_pc30, im_pc31, gv_pc31, im_pc32, gv_pc32, im_pc40, gv_pc40, im_pc41, gv_pc41, im_pc42, gv_pc42, im_pc43, gv_pc43, im_pc50, gv_pc50, im_pc51, gv_pc51, im_pc52, gv_pc52, im_pc53, gv_pc53, im_pc54, gv_pc54, rg_new, rg_box, rg_mks, rg_st, rg_iad, rg_iadg, rg_q, rg_qg, updO_some, updO_none, ev_t, ev_k, upd_at, ofL_zero, ofL_succ, ofL_nil, qt_mv, qt_pick, qt_mk, qt_ld1, qt_ldn, qt_nchk, qt_bin, qt_eqs, qt_eqn, qt_un, qt_cvi, qt_cvs, qt_mkf, qt_slc, qt_slz, qt_sla, qt_sls, qt_fad, qt_fld1, qt_fldn, qt_iaa, qt_ixa, qt_ixs, qt_ext, qt_lenv, qt_lenc, qt_capv, qt_mnx, kq_mv, vq_mv, kq_pick, vq_pick, kq_fad, vq_fad, kq_ld1, vq_ld1, kq_ldn, vq_ldn, kq_bin, vq_bin, kq_un, vq_un, kq_ext, vq_ext, kq_nchk, vq_nchk, kq_mk, vq_mk, kq_eqb, vq_eqb, kq_eqs, vq_eqs, kq_eqn, vq_eqn, kq_cvi, vq_cvi, kq_mkf, vq_mkf, kq_slc, vq_slc, kq_fld1, vq_fld1, kq_fldn, vq_fldn, kq_lenv, vq_lenv, kq_lenc, vq_lenc, kq_mnx, vq_mnx, isPtr_ptr, isBool_bool, bv_bool, fadA_ptr, ld1A_ptr, ldnA_ptr, getC_zero, getC_succ, cells_agg, cells_int, cells_bool, cells_str, cells_sl, cells_ptr, isTup_agg, isTup_int, isTup_bool, isTup_str, isTup_sl, isTup_ptr, sc_int, sc_bool, sc_str, pick_t, pick_f, nchkA_ptr, nchkA_fn, lay_nil, lay_cons, wr_def, eqbA_b, eqsA_agg, aeqs_nil, aeqs_i, aeqs_b, aeqs_s, eqnA_sl, eqnA_s0, cviA_i, obd_none, obd_some, toI_int, fld1A_agg, fldnA_agg, lenvA_sl, lenvA_s0, lenvA_str, amn_nil, amn_max, amn_min, idxOk_sl, idxV_sl, abin_add, abin_sub, abin_mul, abin_quo, abin_rem, abin_eql, abin_neq, abin_lss, abin_leq, abin_gtr, abin_geq, abin_seql, abin_sneq, aun_neg, aun_not, aext_tup, im_true, im_fad, im_ld1, im_ldn, im_binl, im_binr, im_un, im_bool, im_ext, gv_gv, gv_fad, gv_ld1, gv_ldn, gv_binl, gv_binr, gv_un, gv_ext, gv_pick, pick_or, pick_and, rd_new, rd_new0, rd_cons0, rd_consS, obOf, stOk_ptr, stH_ptr, put_new, put_new0, put_0, put_s, List.all_cons, List.all_nil, List.map_cons, List.map_nil, List.length_cons, List.length_nil, List.take_zero, List.take_succ_cons, List.take_nil, List.drop_zero, List.drop_succ_cons, List.drop_nil, Nat.reduceAdd, Nat.reduceMul, Nat.reduceSub, if_true, Nat.reduceLT, Nat.reduceLeDiff, ite_true, ite_false, Nat.reduceEqDiff, if_false, Bool.not_false, Bool.not_true, Bool.and_true, Bool.true_and, Bool.false_and, Bool.and_false, Bool.or_true, Bool.true_or, Bool.or_false, Bool.false_or, reduceCtorEq, ne_eq, not_false_eq_true, not_true_eq_false, List.getD, List.getElem?_cons_zero, List.getElem?_cons_succ, Option.getD_some, Option.bind_some, Option.map_some, Option.isSome_some, Nat.zero_add, Nat.add_zero, Bool.false_eq_true, reduceIte, List.length_append, List.append_assoc, List.cons_append, List.nil_append, true_and, and_true, and_self, Nat.le_refl, Nat.le_add_right, Option.some.injEq, true_implies, false_implies, forall_const, implies_true, Int.reduceNeg, avoids_none, eq_self, Prod.mk.injEq, AV.fn.injEq, List.self_eq_append_right, List.append_nil, exists_eq_left, exists_eq_left', exists_and_left, exists_eq_right, exists_and_right, and_assoc, List.cons_append, List.nil_append, List.map_cons, List.map_nil, gd_tt, gd_tf, gd_ft, gd_ff, im_t, im_f, gv_t, gv_f, im_eqbl, im_eqbr, gv_eqbl, gv_eqbr, im_eqsl, im_eqsr, gv_eqsl, gv_eqsr, im_eqn, gv_eqn, im_cvi, gv_cvi, im_fld1, gv_fld1, im_fldn, gv_fldn, im_lenv, gv_lenv, wnt_bool, wnt_gv, wnt_und, gv_pk1, gv_pk2, rg_appk, idx_gl, idx_gr, iok_gl, iok_gr, isPtr_fad, fad_fad, kq_ixa, vq_ixa, ixaA_0, ixaA_1, ixaA_t0, ixaA_t1, le_pl, rg_mkk, mkK_int]
        · simp [rdObj, flat]
      · have ha : aapp 1 1 ⟨h ++ [⟨[], 0, 1, true, true⟩], h.length, h.length⟩ (.sl false h.length 0 1 0 0) V = some (.sl false h.length 1 1 0 xs.length, ⟨h ++ [⟨flat boolC xs, 1, 1, true, true⟩], h.length, h.length⟩) := by
          have hr : rdObj (h ++ [(⟨[], 0, 1, true, true⟩ : Ob)]) h.length 0 = some ⟨[], 0, 1, true, true⟩ := by simp [rdObj]
          simp only [aapp, hcont, Option.bind_some, if_neg hz, hr]
          rw [if_pos ⟨trivial, by unfold appLim; omega⟩, if_pos ⟨trivial, by simp⟩]
          simp
        simp only [appOk, appV, appH, ha]
        refine ⟨⟨trivial, trivial, by simp, by simp⟩, 1, ?_, ?_⟩
        · simp (config := {maxSteps := 4000000}) only [c23, wc_seq, wc_reg, wc_cond_t, wc_cond_k, wc_blk, wc_loop, wc_exit, wc_ret, wc_skip, thenQ_n, thenQ_e, thenQ_r, leaveQ_n, leaveQ_e, leaveQ_r, exOk_n, exOk_r, rvq_nil, rvq_t, rvq_c1, rvq_cn, mkRes1, mkRes2, mkRes3, rg_nil, rg_gcall, rg_callp, avoids_nil, avoids_st, ptrId_ptr, apart_ptr, bne_self_eq_false, Nat.add_eq_left, Nat.left_eq_add, Nat.add_left_cancel_iff, decide_true, decide_false, decide_not, Nat.succ_ne_self, pcallV_fn, im_pcf, gv_pcf, im_pc10, gv_pc10, im_pc20, gv_pc20, im_pc21, gv_pc21, im_pc30, gv_pc30, im_pc31, gv_pc31, im_pc32, gv_pc32, im_pc40, gv_pc40, im_pc41, gv_pc41, im_pc42, gv_pc42, im_pc43, gv_pc43, im_pc50, gv_pc50, im_pc51, gv_pc51, im_pc52, gv_pc52, im_pc53, gv_pc53, im_pc54, gv_pc54, rg_new, rg_box, rg_mks, rg_st, rg_iad, rg_iadg, rg_q, rg_qg, updO_some, updO_none, ev_t, ev_k, upd_at, ofL_zero, ofL_succ, ofL_nil, qt_mv, qt_pick, qt_mk, qt_ld1, qt_ldn, qt_nchk, qt_bin, qt_eqs, qt_eqn, qt_un, qt_cvi, qt_cvs, qt_mkf, qt_slc, qt_slz, qt_sla, qt_sls, qt_fad, qt_fld1, qt_fldn, qt_iaa, qt_ixa, qt_ixs, qt_ext, qt_lenv, qt_lenc, qt_capv, qt_mnx, kq_mv, vq_mv, kq_pick, vq_pick, kq_fad, vq_fad, kq_ld1, vq_ld1, kq_ldn, vq_ldn, kq_bin, vq_bin, kq_un, vq_un, kq_ext, vq_ext, kq_nchk, vq_nchk, kq_mk, vq_mk, kq_eqb, vq_eqb, kq_eqs, vq_eqs, kq_eqn, vq_eqn, kq_cvi, vq_cvi, kq_mkf, vq_mkf, kq_slc, vq_slc, kq_fld1, vq_fld1, kq_fldn, vq_fldn, kq_lenv, vq_lenv, kq_lenc, vq_lenc, kq_mnx, vq_mnx, isPtr_ptr, isBool_bool, bv_bool, fadA_ptr, ld1A_ptr, ldnA_ptr, getC_zero, getC_succ, cells_agg, cells_int, cells_bool, cells_str, cells_sl, cells_ptr, isTup_agg, isTup_int, isTup_bool, isTup_str, isTup_sl, isTup_ptr, sc_int, sc_bool, sc_str, pick_t, pick_f, nchkA_ptr, nchkA_fn, lay_nil, lay_cons, wr_def, eqbA_b, eqsA_agg, aeqs_nil, aeqs_i, aeqs_b, aeqs_s, eqnA_sl, eqnA_s0, cviA_i, obd_none, obd_some, toI_int, fld1A_agg, fldnA_agg, lenvA_sl, lenvA_s0, lenvA_str, amn_nil, amn_max, amn_min, idxOk_sl, idxV_sl, abin_add, abin_sub, abin_mul, abin_quo, abin_rem, abin_eql, abin_neq, abin_lss, abin_leq, abin_gtr, abin_geq, abin_seql, abin_sneq, aun_neg, aun_not, aext_tup, im_true, im_fad, im_ld1, im_ldn, im_binl, im_binr, im_un, im_bool, im_ext, gv_gv, gv_fad, gv_ld1, gv_ldn, gv_binl, gv_binr, gv_un, gv_ext, gv_pick, pick_or, pick_and, rd_new, rd_new0, rd_cons0, rd_consS, obOf, stOk_ptr, stH_ptr, put_new, put_new0, put_0, put_s, List.all_cons, List.all_nil, List.map_cons, List.map_nil, List.length_cons, List.length_nil, List.take_zero, List.take_succ_cons, List.take_nil, List.drop_zero, List.drop_succ_cons, List.drop_nil, Nat.reduceAdd, Nat.reduceMul, Nat.reduceSub, if_true, Nat.reduceLT, Nat.reduceLeDiff, ite_true, ite_false, Nat.reduceEqDiff, if_false, Bool.not_false, Bool.not_true, Bool.and_true, Bool.true_and, Bool.false_and, Bool.and_false, Bool.or_true, Bool.true_or, Bool.or_false, Bool.false_or, reduceCtorEq, ne_eq, not_false_eq_true, not_true_eq_false, List.getD, List.getElem?_cons_zero, List.getElem?_cons_succ, Option.getD_some, Option.bind_some, Option.map_some, Option.isSome_some, Nat.zero_add, Nat.add_zero, Bool.false_eq_true, reduceIte, List.length_append, List.append_assoc, List.cons_append, List.nil_append, true_and, and_true, and_self, Nat.le_refl, Nat.le_add_right, Option.some.injEq, true_implies, false_implies, forall_const, implies_true, Int.reduceNeg, avoids_none, eq_self, Prod.mk.injEq, AV.fn.injEq, List.self_eq_append_right, List.append_nil, exists_eq_left, exists_eq_left', exists_and_left, exists_eq_right, exists_and_right, and_assoc, List.cons_append, List.nil_append, List.map_cons, List.map_nil, gd_tt, gd_tf, gd_ft, gd_ff, im_t, im_f, gv_t, gv_f, im_eqbl, im_eqbr, gv_eqbl, gv_eqbr, im_eqsl, im_eqsr, gv_eqsl, gv_eqsr, im_eqn, gv_eqn, im_cvi, gv_cvi, im_fld1, gv_fld1, im_fldn, gv_fldn, im_lenv, gv_lenv, wnt_bool, wnt_gv, wnt_und, gv_pk1, gv_pk2, rg_appk, idx_gl, idx_gr, iok_gl, iok_gr, isPtr_fad, fad_fad, kq_ixa, vq_ixa, ixaA_0, ixaA_1, ixaA_t0, ixaA_t1, le_pl, rg_mkk, mkK_int]
        · simp [rdObj]
    obtain ⟨e, f', h', k1, k2, ⟨k3, ep, k4, k5⟩, k6⟩ := call_wc e23 rfl (Nat.le_of_ble_eq_true rfl) key
    rw [k6 _ k3 k4]
    have := fin_obj (n := c23.nt) (f := f') (k := xs.length) k5 (Nat.le_refl _)
    simp only [mkRes, this, k2]
  · refine ⟨.sl true 0 0 0 0 0, [], ?_, Or.inl ⟨rfl, rfl, hb2 rfl⟩⟩
    have key : wc E h.length c23.nt c23.code (fun e f h' => exOk e = true ∧ rvq c23.nt f h' c23.res = some [.sl true 0 0 0 0 0]) (ofL [V]) h := by
      simp (config := {maxSteps := 4000000}) only [c23, hb1, wc_seq, wc_reg, wc_cond_t, wc_cond_k, wc_blk, wc_loop, wc_exit, wc_ret, wc_skip, thenQ_n, thenQ_e, thenQ_r, leaveQ_n, leaveQ_e, leaveQ_r, exOk_n, exOk_r, rvq_nil, rvq_t, rvq_c1, rvq_cn, mkRes1, mkRes2, mkRes3, rg_nil, rg_gcall, rg_callp, avoids_nil, avoids_st, ptrId_ptr, apart_ptr, bne_self_eq_false, Nat.add_eq_left, Nat.left_eq_add, Nat.add_left_cancel_iff, decide_true, decide_false, decide_not, Nat.succ_ne_self, pcallV_fn, im_pcf, gv_pcf, im_pc10, gv_pc10, im_pc20, gv_pc20, im_pc21, gv_pc21, im_pc30, gv_pc30, im_pc31, gv_pc31, im_pc32, gv_pc32, im_pc40, gv_pc40, im_pc41, gv_pc41, im_pc42, gv_pc42, im_pc43, gv_pc43, im_pc50, gv_pc50, im_pc51, gv_pc51, im_pc52, gv_pc52, im_pc53, gv_pc53, im_pc54, gv_pc54, rg_new, rg_box, rg_mks, rg_st, rg_iad, rg_iadg, rg_q, rg_qg, updO_some, updO_none, ev_t, ev_k, upd_at, ofL_zero, ofL_succ, ofL_nil, qt_mv, qt_pick, qt_mk, qt_ld1, qt_ldn, qt_nchk, qt_bin, qt_eqs, qt_eqn, qt_un, qt_cvi, qt_cvs, qt_mkf, qt_slc, qt_slz, qt_sla, qt_sls, qt_fad, qt_fld1, qt_fldn, qt_iaa, qt_ixa, qt_ixs, qt_ext, qt_lenv, qt_lenc, qt_capv, qt_mnx, kq_mv, vq_mv, kq_pick, vq_pick, kq_fad, vq_fad, kq_ld1, vq_ld1, kq_ldn, vq_ldn, kq_bin, vq_bin, kq_un, vq_un, kq_ext, vq_ext, kq_nchk, vq_nchk, kq_mk, vq_mk, kq_eqb, vq_eqb, kq_eqs, vq_eqs, kq_eqn, vq_eqn, kq_cvi, vq_cvi, kq_mkf, vq_mkf, kq_slc, vq_slc, kq_fld1, vq_fld1, kq_fldn, vq_fldn, kq_lenv, vq_lenv, kq_lenc, vq_lenc, kq_mnx, vq_mnx, isPtr_ptr, isBool_bool, bv_bool, fadA_ptr, ld1A_ptr, ldnA_ptr, getC_zero, getC_succ, cells_agg, cells_int, cells_bool, cells_str, cells_sl, cells_ptr, isTup_agg, isTup_int, isTup_bool, isTup_str, isTup_sl, isTup_ptr, sc_int, sc_bool, sc_str, pick_t, pick_f, nchkA_ptr, nchkA_fn, lay_nil, lay_cons, wr_def, eqbA_b, eqsA_agg, aeqs_nil, aeqs_i, aeqs_b, aeqs_s, eqnA_sl, eqnA_s0, cviA_i, obd_none, obd_some, toI_int, fld1A_agg, fldnA_agg, lenvA_sl, lenvA_s0, lenvA_str, amn_nil, amn_max, amn_min, idxOk_sl, idxV_sl, abin_add, abin_sub, abin_mul, abin_quo, abin_rem, abin_eql, abin_neq, abin_lss, abin_leq, abin_gtr, abin_geq, abin_seql, abin_sneq, aun_neg, aun_not, aext_tup, im_true, im_fad, im_ld1, im_ldn, im_binl, im_binr, im_un, im_bool, im_ext, gv_gv, gv_fad, gv_ld1, gv_ldn, gv_binl, gv_binr, gv_un, gv_ext, gv_pick, pick_or, pick_and, rd_new, rd_new0, rd_cons0, rd_consS, obOf, stOk_ptr, stH_ptr, put_new, put_new0, put_0, put_s, List.all_cons, List.all_nil, List.map_cons, List.map_nil, List.length_cons, List.length_nil, List.take_zero, List.take_succ_cons, List.take_nil, List.drop_zero, List.drop_succ_cons, List.drop_nil, Nat.reduceAdd, Nat.reduceMul, Nat.reduceSub, if_true, Nat.reduceLT, Nat.reduceLeDiff, ite_true, ite_false, Nat.reduceEqDiff, if_false, Bool.not_false, Bool.not_true, Bool.and_true, Bool.true_and, Bool.false_and, Bool.and_false, Bool.or_true, Bool.true_or, Bool.or_false, Bool.false_or, reduceCtorEq, ne_eq, not_false_eq_true, not_true_eq_false, List.getD, List.getElem?_cons_zero, List.getElem?_cons_succ, Option.getD_some, Option.bind_some, Option.map_some, Option.isSome_some, Nat.zero_add, Nat.add_zero, Bool.false_eq_true, reduceIte, List.length_append, List.append_assoc, List.cons_append, List.nil_append, true_and, and_true, and_self, Nat.le_refl, Nat.le_add_right, Option.some.injEq, true_implies, false_implies, forall_const, implies_true, Int.reduceNeg, avoids_none, eq_self, Prod.mk.injEq, AV.fn.injEq, List.self_eq_append_right, List.append_nil, exists_eq_left, exists_eq_left', exists_and_left, exists_eq_right, exists_and_right, and_assoc, List.cons_append, List.nil_append, List.map_cons, List.map_nil, gd_tt, gd_tf, gd_ft, gd_ff, im_t, im_f, gv_t, gv_f, im_eqbl, im_eqbr, gv_eqbl, gv_eqbr, im_eqsl, im_eqsr, gv_eqsl, gv_eqsr, im_eqn, gv_eqn, im_cvi, gv_cvi, im_fld1, gv_fld1, im_fldn, gv_fldn, im_lenv, gv_lenv, wnt_bool, wnt_gv, wnt_und, gv_pk1, gv_pk2, rg_appk, idx_gl, idx_gr, iok_gl, iok_gr, isPtr_fad, fad_fad, kq_ixa, vq_ixa, ixaA_0, ixaA_1, ixaA_t0, ixaA_t1, le_pl, rg_mkk, mkK_int]
    obtain ⟨e, f', h', k1, k2, ⟨k3, k4⟩, k6⟩ := call_wc e23 rfl (Nat.le_of_ble_eq_true rfl) key
    rw [k6 _ k3 k4, mkRes1, fin_nil, k2, List.append_nil]

def leB : List Bool → List Bool → Prop
  | [], [] => True
  | a :: r, b :: s => (a = true → b = true) ∧ leB r s
  | _, _ => False
theorem leB.len : ∀ {a b : List Bool}, leB a b → a.length = b.length
  | [], [], _ => rfl
  | a :: r, b :: s, h => by simp [leB.len h.2]
theorem leB.cnt : ∀ {a b : List Bool}, leB a b → cnt a ≤ cnt b
  | [], [], _ => Nat.le_refl _
  | a :: r, b :: s, h => by
    have h1 := leB.cnt h.2
    have h2 := h.1
    simp only [Fl.cnt]
    cases a <;> cases b <;> simp_all [bit] <;> omega
theorem leB.take : ∀ {a b : List Bool} (k : Nat), leB a b → leB (a.take k) (b.take k)
  | [], [], k, _ => by simp [leB]
  | a :: r, b :: s, 0, h => by simp [leB]
  | a :: r, b :: s, k + 1, h => by
    simp only [List.take_succ_cons, leB]
    exact ⟨h.1, leB.take k h.2⟩
theorem leB.nxt {a b : Bool} {l m : List Bool} (h : a = true → b = true) (hl : leB l m) : leB (nxt a l) (nxt b m) := ⟨h, hl.take 15⟩
theorem sc_mono {m m' : List Bool} (h : leB m m') (need of k : Nat) (hs : sc m need of k = true) : sc m' need of k = true := by
  have := (h.take (of - k)).cnt
  simp only [sc, Bool.and_eq_true, decide_eq_true_eq] at hs ⊢
  omega
theorem soonGo_mono {m m' : List Bool} (h : leB m m') (need of : Nat) : ∀ q k, soonGo m need of q k = true → soonGo m' need of q k = true
  | 0, k, hs => hs
  | q + 1, k, hs => by
    simp only [soonGo] at hs ⊢
    by_cases c : sc m need of k = true
    · rw [if_pos (sc_mono h need of k c)]
    · rw [if_neg c] at hs
      split
      · rfl
      · exact soonGo_mono h need of q (k + 1) hs
theorem what_mono {m m' : List Bool} (h : leB m m') (need of : Nat) : (whatF m need of = 1 → whatF m' need of = 1) ∧ (whatF m need of = 0 → whatF m' need of = 0 ∨ whatF m' need of = 1) := by
  have hc := (h.take of).cnt
  have hs := soonGo_mono (h.take of) need of (of - 1) 1
  have hl := h.len
  unfold whatF
  change (soonF (m.take of) need of = true → soonF (m'.take of) need of = true) at hs
  constructor
  · intro hw
    by_cases c : need ≤ Fl.cnt (m.take of)
    · rw [if_pos (by omega)]
    · rw [if_neg c] at hw; split at hw <;> cases hw
  · intro hw
    by_cases c : need ≤ Fl.cnt (m.take of)
    · rw [if_pos c] at hw; cases hw
    · rw [if_neg c] at hw
      by_cases c2 : of ≤ m.length ∧ soonF (m.take of) need of = false
      · rw [if_pos c2] at hw; cases hw
      · by_cases c3 : need ≤ Fl.cnt (m'.take of)
        · right; rw [if_pos c3]
        · left
          rw [if_neg c3, if_neg]
          intro c4
          apply c2
          refine ⟨by omega, ?_⟩
          cases hx : soonF (m.take of) need of
          · rfl
          · rw [hs hx] at c4; cases c4.2
theorem runGo_ge (need of : Nat) : ∀ (r : List Bool) (i : Nat) (l : List Bool), (runGo need of r i l).2 = 1 → (i : Int) + 1 ≤ (runGo need of r i l).1
  | [], i, l, h => by simp [runGo] at h
  | a :: r, i, l, h => by
    simp only [runGo] at h ⊢
    split
    · simp only; omega
    · rename_i c
      rw [if_neg c] at h
      have := runGo_ge need of r (i + 1) _ h
      omega
theorem runGo_mono (need of : Nat) : ∀ (r s : List Bool) (i : Nat) (l m : List Bool), leB r s → leB l m → (runGo need of r i l).2 = 1 → (runGo need of s i m).2 = 1 ∧ (runGo need of s i m).1 ≤ (runGo need of r i l).1
  | [], [], i, l, m, _, _, h => by simp [runGo] at h
  | a :: r, b :: s, i, l, m, hr, hl, h => by
    have hw := what_mono (hr.1 |> fun x => leB.nxt x hl) need of
    simp only [runGo] at h ⊢
    by_cases c : (whatF (nxt a l) need of != 0) = true
    · rw [if_pos c] at h ⊢
      have h1 := hw.1 h
      rw [if_pos (by rw [h1]; rfl)]
      exact ⟨h1, Int.le_refl _⟩
    · rw [if_neg c] at h ⊢
      have c0 : whatF (nxt a l) need of = 0 := by simpa using c
      have hge := runGo_ge need of r (i + 1) _ h
      rcases hw.2 c0 with h2 | h2
      · rw [if_neg (by rw [h2]; decide)]
        exact runGo_mono need of r s (i + 1) _ _ hr.2 (leB.nxt hr.1 hl) h
      · rw [if_pos (by rw [h2]; rfl)]
        exact ⟨h2, by simp only; omega⟩
theorem runB_mono {need of : Int} {r s : List Bool} (h : leB r s) : ((runB need of r).2.2 == (runB need of s).2.2 && ((runB need of r).2.1 != 1 || ((runB need of s).2.1 == 1 && decide ((runB need of s).1 ≤ (runB need of r).1)))) = true := by
  have hl := h.len
  unfold runB
  rw [← hl]
  split
  · rfl
  · split
    · rfl
    · by_cases c : (runGo need.toNat of.toNat r 0 []).2 = 1
      · obtain ⟨h1, h2⟩ := runGo_mono need.toNat of.toNat r s 0 [] [] h trivial c
        simp [c, h1, h2]
      · simp [c]
end Go.Proofs.Ytehgapcmngdcnaa.Fl
