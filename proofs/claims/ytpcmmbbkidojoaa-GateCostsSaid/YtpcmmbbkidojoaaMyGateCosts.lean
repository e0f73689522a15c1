/- The law GateCosts: the abstract machine answers true. No condition. -/
import Derived.Test.YtpcmmbbkidojoaaInGateCosts
import Derived.Test.YtpcmmbbkidojoaaGtB
namespace Go.Proofs.Ytpcmmbbkidojoaa.MyGateCosts
open Go Go.Proofs.Ytpcmmbbkidojoaa.Eva Go.Proofs.Ytpcmmbbkidojoaa.CodeAll Go.Proofs.Ytpcmmbbkidojoaa.InGateCosts Go.Proofs.Ytpcmmbbkidojoaa.Fl
set_option linter.unusedVariables false
set_option linter.unusedSimpArgs false
set_option maxRecDepth 10000
set_option maxHeartbeats 4000000

theorem w_id {x : Int} (h1 : -9223372036854775808 ≤ x) (h2 : x ≤ 9223372036854775807) : w x = x := wrap64 h1 h2
theorem sqw_nn {x y x2 y2 : Int} (h1 : -1000000 ≤ x) (h2 : x ≤ 1000000) (h3 : -1000000 ≤ y) (h4 : y ≤ 1000000) (h5 : -1000000 ≤ x2) (h6 : x2 ≤ 1000000) (h7 : -1000000 ≤ y2) (h8 : y2 ≤ 1000000) : 0 ≤ sqw x y x2 y2 ∧ sqw x y x2 y2 ≤ 9223372036854775807 := by
  have key : ∀ d : Int, -2000000 ≤ d → d ≤ 2000000 → 0 ≤ d * d ∧ d * d ≤ 4000000000000 := by
    intro d k1 k2
    have p := Int.mul_nonneg (show 0 ≤ 2000000 - d by omega) (show 0 ≤ 2000000 + d by omega)
    have e : (2000000 - d) * (2000000 + d) = 4000000000000 - d * d := by grind
    have q : 0 ≤ d * d := by
      rcases Int.le_total 0 d with h | h
      · exact Int.mul_nonneg h h
      · exact Int.mul_nonneg_of_nonpos_of_nonpos h h
    omega
  unfold sqw
  have a1 : w (x - x2) = x - x2 := w_id (by omega) (by omega)
  have a2 : w (y - y2) = y - y2 := w_id (by omega) (by omega)
  have b1 := key (x - x2) (by omega) (by omega)
  have b2 := key (y - y2) (by omega) (by omega)
  rw [a1, a2]
  generalize (x - x2) * (x - x2) = P at *
  generalize (y - y2) * (y - y2) = Q at *
  have c1 : w P = P := w_id (by omega) (by omega)
  have c2 : w Q = Q := w_id (by omega) (by omega)
  have c3 : w (P + Q) = P + Q := w_id (by omega) (by omega)
  rw [c1, c2, c3]; omega
theorem fit_bd {k : Tk} {s : Sp} {band : Int} (h : (fitT k s band).2 = 0) : 0 ≤ sqw k.x k.y s.x s.y ∧ sqw k.x k.y s.x s.y ≤ 9223372036854775807 := by
  unfold fitT at h
  by_cases c1 : tOff k = true
  · rw [if_pos c1] at h; cases h
  rw [if_neg c1] at h
  by_cases c2 : spotOff s.t s.x s.y s.hg s.code s.er = true
  · rw [if_pos c2] at h; cases h
  simp only [tOff, Bool.or_eq_true, decide_eq_true_eq] at c1
  simp only [spotOff, Bool.or_eq_true, Bool.not_eq_true', Bool.and_eq_false_iff, decide_eq_true_eq, decide_eq_false_iff_not] at c2
  exact sqw_nn (by omega) (by omega) (by omega) (by omega) (by omega) (by omega) (by omega) (by omega)
theorem cost_ok {k : Tk} {s : Sp} {band : Int} (h : (fitT k s band).2 = 0) : decide (0 ≤ costK band k s) = (fitT k s band).1 ∧ decide (costK band k s < -1) = false := by
  have hb := fit_bd h
  unfold costK
  generalize sqw k.x k.y s.x s.y = X at hb
  have hq : X.tdiv 10000 = X / 10000 := Int.tdiv_eq_ediv_of_nonneg hb.1
  have hw : w (X / 10000) = X / 10000 := w_id (by omega) (by omega)
  rw [hq, hw]
  cases (fitT k s band).1
  · simp
  · simp only [if_true]
    exact ⟨decide_eq_true (by omega), decide_eq_false (by omega)⟩
theorem cost_mono {k : Tk} {s s2 : Sp} {band : Int} (h1 : (fitT k s band).2 = 0) (h2 : (fitT k s2 band).2 = 0) (h3 : (fitT k s band).1 = true) (h4 : 0 ≤ costK band k s2) (h5 : sqw k.x k.y s.x s.y ≤ sqw k.x k.y s2.x s2.y) : costK band k s ≤ costK band k s2 := by
  have b1 := fit_bd h1
  have b2 := fit_bd h2
  have h6 : (fitT k s2 band).1 = true := by rw [← (cost_ok h2).1]; exact decide_eq_true h4
  unfold costK
  rw [if_pos h3, if_pos h6]
  generalize sqw k.x k.y s.x s.y = X at *
  generalize sqw k.x k.y s2.x s2.y = Y at *
  rw [Int.tdiv_eq_ediv_of_nonneg b1.1, Int.tdiv_eq_ediv_of_nonneg b2.1, w_id (by omega) (by omega), w_id (by omega) (by omega)]
  omega
/-- What a slice of slices reads. -/
theorem wd_len {n0 : Nat} {h : List Ob} {v : AV} {vs : List AV} {rows : List (List Int)} (W : Wd n0 h v vs rows) : lenvA false v = some (.int .i64 rows.length) := by
  have hr := W.isl.rd (by simp)
  rw [← W.len]; exact hr.len
theorem wd_at {n0 : Nat} {h : List Ob} {v : AV} {vs : List AV} {rows : List (List Int)} (W : Wd n0 h v vs rows) {i : Nat} {u : AV} {r : List Int} (hu : vs[i]? = some u) (hi : rows[i]? = some r) : idxOk 1 v (.int .i64 (i : Int)) ∧ ld1A h (idxV 1 v (.int .i64 (i : Int))) = some u ∧ SlL h u intC 1 r := by
  have hr := W.isl.rd (by simp)
  have hl := (List.getElem?_eq_some_iff.1 hu).1
  refine ⟨hr.ok (by omega) (by omega), ?_, ⟨fun _ => rfl, by decide, (W.rd i u r hu hi).rd (by rw [flat_len (k := 1) (fun x => rfl)])⟩⟩
  rw [hr.ld0 (by omega) (by omega) (by decide), Int.toNat_natCast, Nat.mul_one]
  exact hu
theorem wd_get {n0 : Nat} {h : List Ob} {v : AV} {vs : List AV} {rows : List (List Int)} (W : Wd n0 h v vs rows) {i : Nat} {r : List Int} (hi : rows[i]? = some r) : ∃ u, vs[i]? = some u :=
  ⟨_, List.getElem?_eq_getElem (by rw [W.len]; exact (List.getElem?_eq_some_iff.1 hi).1)⟩

theorem law (ts : List Tk) (V : AV) (ss : List Sp) (W : AV) (band : Int) (H : List Ob) (hs : SlL H V Tk.c 13 ts) (hw : SlL H W Sp.c 6 ss) : ∃ r, ecall E 10 [V, W, .int .i64 band] H = some (.bool true, r) := by
  refine call_true e10 rfl (Nat.le_of_ble_eq_true rfl) ?_
  have hlen := hs.len
  have hlw := hw.len
  have n0 : ((0 : Int) != 0) = false := rfl
  have n1 : ((1 : Int) != 1) = false := rfl
  have n9 : ((9 : Int) != 9) = false := rfl
  -- the example
  obtain ⟨A, hA⟩ : ∃ A : Ob, A = ⟨Sp.c ⟨0, 300, 0, 0, 0, 300⟩, 0, 6, true, true⟩ := ⟨_, rfl⟩
  obtain ⟨B, hB⟩ : ∃ B : Ob, B = ⟨Tk.c ⟨0, 0, 0, 0, 0, 0, 0, 0, 0, 0, 0, 0, 0⟩, 0, 13, true, true⟩ := ⟨_, rfl⟩
  have sA : SlL (H ++ [A, B]) (.sl false H.length 0 6 0 1) Sp.c 6 [⟨0, 300, 0, 0, 0, 300⟩] :=
    ⟨fun _ => rfl, by decide, rfl, Or.inr ⟨_, 0, 0, A, rfl, by rw [hA]; simp [rdObj], by rw [hA]; decide, by rw [hA]; rfl⟩⟩
  have sB : SlL (H ++ [A, B]) (.sl false (H.length + 1) 0 13 0 1) Tk.c 13 [⟨0, 0, 0, 0, 0, 0, 0, 0, 0, 0, 0, 0, 0⟩] :=
    ⟨fun _ => rfl, by decide, rfl, Or.inr ⟨_, 0, 0, B, rfl, by rw [hB]; simp [rdObj], by rw [hB]; decide, by rw [hB]; rfl⟩⟩
  obtain ⟨v0, e0, y0, hc0, hC0⟩ := costs_ex sB sA 0
  have hF0 : fitT ⟨0, 0, 0, 0, 0, 0, 0, 0, 0, 0, 0, 0, 0⟩ ⟨0, 300, 0, 0, 0, 300⟩ 0 = (true, 0) := by decide +kernel
  have hK0 : costK 0 ⟨0, 0, 0, 0, 0, 0, 0, 0, 0, 0, 0, 0, 0⟩ ⟨0, 300, 0, 0, 0, 300⟩ = 9 := by decide +kernel
  rcases hc0 with ⟨_, _, hx⟩ | ⟨rfl, ⟨vs0, hW0⟩, _⟩
  · exfalso
    rcases hx with hx | hx | ⟨k, s, hk, hs', hx⟩
    · simp at hx
    · simp at hx
    · simp only [List.mem_singleton] at hk hs'
      subst hk; subst hs'
      rw [hF0] at hx; exact hx rfl
  have hrow0 : [(⟨0, 0, 0, 0, 0, 0, 0, 0, 0, 0, 0, 0, 0⟩ : Tk)].map (rowK 0 [⟨0, 300, 0, 0, 0, 300⟩]) = [[9]] := by simp [rowK, hK0]
  rw [hrow0] at hW0
  have z1 := wd_len hW0
  obtain ⟨u0, hu0⟩ := wd_get hW0 (i := 0) (r := [9]) rfl
  obtain ⟨z3, z4, z5⟩ := wd_at hW0 hu0 (r := [9]) rfl
  have z6 := z5.len
  have z7 : idxOk 1 u0 (.int .i64 0) := z5.ok (by decide) (by decide)
  have z8 := z5.ld0 (i := 0) (kk := .i64) (x := 9) (by decide) rfl
  have z3' : idxOk 1 v0 (.int .i64 0) := z3
  have z4' : ld1A (H ++ (A :: B :: y0)) (idxV 1 v0 (.int .i64 0)) = some u0 := by
    have := z4; rw [List.append_assoc] at this; exact this
  have z8' : ld1A (H ++ (A :: B :: y0)) (idxV 1 u0 (.int .i64 0)) = some (.int .i64 9) := by
    have := z8; rw [List.append_assoc] at this; exact this
  have z1' : lenvA false v0 = some (.int .i64 1) := z1
  have z6' : lenvA false u0 = some (.int .i64 1) := z6
  have hCn0 := ncall_some.2 hC0
  -- the slices, at most 6
  obtain ⟨V', ts', hs2, hl1, hc1, hq1⟩ : ∃ V' ts', SlL H V' Tk.c 13 ts' ∧ ts'.length ≤ 6 ∧ True ∧ ((decide ((6 : Int) < (ts.length : Int)) = true ∧ slcA 13 none (some 6) V = some V') ∨ (decide ((6 : Int) < (ts.length : Int)) = false ∧ V = V')) := by
    by_cases h : 6 < ts.length
    · obtain ⟨V', h1, h2, _⟩ := hs.slc (a := none) (b := some 6) (lo := 0) (hi := 6) rfl rfl (by omega) (by omega)
      exact ⟨V', _, h2, by simp; omega, trivial, Or.inl ⟨decide_eq_true (by omega), h1⟩⟩
    · exact ⟨V, ts, hs, by omega, trivial, Or.inr ⟨decide_eq_false (by omega), rfl⟩⟩
  obtain ⟨W', ss', hw2, hl2, hc2, hq2⟩ : ∃ W' ss', SlL H W' Sp.c 6 ss' ∧ ss'.length ≤ 6 ∧ True ∧ ((decide ((6 : Int) < (ss.length : Int)) = true ∧ slcA 6 none (some 6) W = some W') ∨ (decide ((6 : Int) < (ss.length : Int)) = false ∧ W = W')) := by
    by_cases h : 6 < ss.length
    · obtain ⟨W', h1, h2, _⟩ := hw.slc (a := none) (b := some 6) (lo := 0) (hi := 6) rfl rfl (by omega) (by omega)
      exact ⟨W', _, h2, by simp; omega, trivial, Or.inl ⟨decide_eq_true (by omega), h1⟩⟩
    · exact ⟨W, ss, hw, by omega, trivial, Or.inr ⟨decide_eq_false (by omega), rfl⟩⟩
  have hlen2 := hs2.len
  have hlw2 := hw2.len
  have hd1 : decide ((6 : Int) < (ts'.length : Int)) = false := decide_eq_false (by omega)
  have hd2 : decide ((6 : Int) < (ss'.length : Int)) = false := decide_eq_false (by omega)
  obtain ⟨v, e, y, hc, hC⟩ := costs_ex (hs2.keep (A :: B :: y0)) (hw2.keep (A :: B :: y0)) band
  have hCn := ncall_some.2 hC
  simp only [Sp.c] at hA
  simp only [Tk.c] at hB
  rcases hc with ⟨he, rfl, _⟩ | ⟨rfl, ⟨vs, hW⟩, hok⟩
  · have he' : (e != 0) = true := by simpa using he
    rcases hq1 with ⟨hq1, hq1'⟩ | ⟨hq1, hq1'⟩ <;> rcases hq2 with ⟨hq2, hq2'⟩ | ⟨hq2, hq2'⟩ <;>
    (simp (config := {maxSteps := 8000000}) only [c10, ← hA, ← hB, rg_calln, ncallV_fn, hCn0, n0, n1, n9, z1', z3', isPtr_idx z3', z4', z6', z7, isPtr_idx z7, z8', kq_slc, vq_slc, hq1, hq1', hq2, hq2', hlen, hlw, hlen2, hlw2, hd1, hd2, hCn, he', BEq.rfl, bne_self_eq_false, wc_seq, wc_reg, wc_cond_t, wc_cond_k, wc_blk, wc_loop, wc_exit, wc_ret, wc_skip, thenQ_n, thenQ_e, thenQ_r, leaveQ_n, leaveQ_e, leaveQ_r, exOk_n, exOk_r, rvq_nil, rvq_t, rvq_c1, rvq_cn, mkRes1, mkRes2, mkRes3, rg_nil, rg_gcall, rg_callp, avoids_nil, avoids_st, ptrId_ptr, apart_ptr, bne_self_eq_false, Nat.add_eq_left, Nat.left_eq_add, Nat.add_left_cancel_iff, decide_true, decide_false, decide_not, Nat.succ_ne_self, pcallV_fn, im_pcf, gv_pcf, im_pc10, gv_pc10, im_pc20, gv_pc20, im_pc21, gv_pc21, im_pc30, gv_pc30, im_pc31, gv_pc31, im_pc32, gv_pc32, im_pc40, gv_pc40, im_pc41, gv_pc41, im_pc42, gv_pc42, im_pc43, gv_pc43, im_pc50, gv_pc50, im_pc51, gv_pc51, im_pc52, gv_pc52, im_pc53, gv_pc53, im_pc54, gv_pc54, rg_new, rg_box, rg_mks, rg_st, rg_iad, rg_iadg, rg_q, rg_qg, updO_some, updO_none, ev_t, ev_k, upd_at, ofL_zero, ofL_succ, ofL_nil, qt_mv, qt_pick, qt_mk, qt_ld1, qt_ldn, qt_nchk, qt_bin, qt_eqs, qt_eqn, qt_un, qt_cvi, qt_cvs, qt_mkf, qt_slc, qt_slz, qt_sla, qt_sls, qt_fad, qt_fld1, qt_fldn, qt_iaa, qt_ixa, qt_ixs, qt_ext, qt_lenv, qt_lenc, qt_capv, qt_mnx, kq_mv, vq_mv, kq_pick, vq_pick, kq_fad, vq_fad, kq_ld1, vq_ld1, kq_ldn, vq_ldn, kq_bin, vq_bin, kq_un, vq_un, kq_ext, vq_ext, kq_nchk, vq_nchk, kq_mk, vq_mk, kq_eqb, vq_eqb, kq_eqs, vq_eqs, kq_eqn, vq_eqn, kq_cvi, vq_cvi, kq_mkf, vq_mkf, kq_slc, vq_slc, kq_fld1, vq_fld1, kq_fldn, vq_fldn, kq_lenv, vq_lenv, kq_lenc, vq_lenc, kq_mnx, vq_mnx, isPtr_ptr, isBool_bool, bv_bool, fadA_ptr, ld1A_ptr, ldnA_ptr, getC_zero, getC_succ, cells_agg, cells_int, cells_bool, cells_str, cells_sl, cells_ptr, isTup_agg, isTup_int, isTup_bool, isTup_str, isTup_sl, isTup_ptr, sc_int, sc_bool, sc_str, pick_t, pick_f, nchkA_ptr, nchkA_fn, lay_nil, lay_cons, wr_def, eqbA_b, eqsA_agg, aeqs_nil, aeqs_i, aeqs_b, aeqs_s, eqnA_sl, eqnA_s0, cviA_i, obd_none, obd_some, toI_int, fld1A_agg, fldnA_agg, lenvA_sl, lenvA_s0, lenvA_str, amn_nil, amn_max, amn_min, idxOk_sl, idxV_sl, abin_add, abin_sub, abin_mul, abin_quo, abin_rem, abin_eql, abin_neq, abin_lss, abin_leq, abin_gtr, abin_geq, abin_seql, abin_sneq, aun_neg, aun_not, aext_tup, im_true, im_fad, im_ld1, im_ldn, im_binl, im_binr, im_un, im_bool, im_ext, gv_gv, gv_fad, gv_ld1, gv_ldn, gv_binl, gv_binr, gv_un, gv_ext, gv_pick, pick_or, pick_and, rd_new, rd_new0, rd_cons0, rd_consS, obOf, stOk_ptr, stH_ptr, put_new, put_new0, put_0, put_s, List.all_cons, List.all_nil, List.map_cons, List.map_nil, List.length_cons, List.length_nil, List.take_zero, List.take_succ_cons, List.take_nil, List.drop_zero, List.drop_succ_cons, List.drop_nil, Nat.reduceAdd, Nat.reduceMul, Nat.reduceSub, if_true, Nat.reduceLT, Nat.reduceLeDiff, ite_true, ite_false, Nat.reduceEqDiff, if_false, Bool.not_false, Bool.not_true, Bool.and_true, Bool.true_and, Bool.false_and, Bool.and_false, Bool.or_true, Bool.true_or, Bool.or_false, Bool.false_or, reduceCtorEq, ne_eq, not_false_eq_true, not_true_eq_false, List.getD, List.getElem?_cons_zero, List.getElem?_cons_succ, Option.getD_some, Option.bind_some, Option.map_some, Option.isSome_some, Nat.zero_add, Nat.add_zero, Bool.false_eq_true, reduceIte, List.length_append, List.append_assoc, List.cons_append, List.nil_append, true_and, and_true, and_self, Nat.le_refl, Nat.le_add_right, Option.some.injEq, true_implies, false_implies, forall_const, implies_true, Int.reduceNeg, avoids_none, eq_self, Prod.mk.injEq, AV.fn.injEq, List.self_eq_append_right, List.append_nil, exists_eq_left, exists_eq_left', exists_and_left, exists_eq_right, exists_and_right, and_assoc, List.cons_append, List.nil_append, List.map_cons, List.map_nil, gd_tt, gd_tf, gd_ft, gd_ff, im_t, im_f, gv_t, gv_f, im_eqbl, im_eqbr, gv_eqbl, gv_eqbr, im_eqsl, im_eqsr, gv_eqsl, gv_eqsr, im_eqn, gv_eqn, im_cvi, gv_cvi, im_fld1, gv_fld1, im_fldn, gv_fldn, im_lenv, gv_lenv, wnt_bool, wnt_gv, wnt_und, gv_pk1, gv_pk2, rg_appk, idx_gl, idx_gr, iok_gl, iok_gr, isPtr_fad, fad_fad, kq_ixa, vq_ixa, ixaA_0, ixaA_1, ixaA_t0, ixaA_t1, le_pl, rg_mkk, mkK_int]; rfl)
  · have hWn : Wd (H ++ (A :: B :: y0)).length (H ++ (A :: B :: (y0 ++ y))) v vs (ts'.map (rowK band ss')) := by
      have := hW
      rw [List.append_assoc] at this; exact this
    generalize (H ++ (A :: B :: y0)).length = n2 at hWn
    have hwl := wd_len hWn
    rw [List.length_map] at hwl
    rcases hq1 with ⟨hq1, hq1'⟩ | ⟨hq1, hq1'⟩ <;> rcases hq2 with ⟨hq2, hq2'⟩ | ⟨hq2, hq2'⟩ <;>
    (simp (config := {maxSteps := 8000000}) only [c10, ← hA, ← hB, rg_calln, ncallV_fn, hCn0, n0, n1, n9, z1', z3', isPtr_idx z3', z4', z6', z7, isPtr_idx z7, z8', kq_slc, vq_slc, hq1, hq1', hq2, hq2', hlen, hlw, hlen2, hlw2, hd1, hd2, hCn, hwl, BEq.rfl, bne_self_eq_false, wc_seq, wc_reg, wc_cond_t, wc_cond_k, wc_blk, wc_loop, wc_exit, wc_ret, wc_skip, thenQ_n, thenQ_e, thenQ_r, leaveQ_n, leaveQ_e, leaveQ_r, exOk_n, exOk_r, rvq_nil, rvq_t, rvq_c1, rvq_cn, mkRes1, mkRes2, mkRes3, rg_nil, rg_gcall, rg_callp, avoids_nil, avoids_st, ptrId_ptr, apart_ptr, bne_self_eq_false, Nat.add_eq_left, Nat.left_eq_add, Nat.add_left_cancel_iff, decide_true, decide_false, decide_not, Nat.succ_ne_self, pcallV_fn, im_pcf, gv_pcf, im_pc10, gv_pc10, im_pc20, gv_pc20, im_pc21, gv_pc21, im_pc30, gv_pc30, im_pc31, gv_pc31, im_pc32, gv_pc32, im_pc40, gv_pc40, im_pc41, gv_pc41, im_pc42, gv_pc42, im_pc43, gv_pc43, im_pc50, gv_pc50, im_pc51, gv_pc51, im_pc52, gv_pc52, im_pc53, gv_pc53, im_pc54, gv_pc54, rg_new, rg_box, rg_mks, rg_st, rg_iad, rg_iadg, rg_q, rg_qg, updO_some, updO_none, ev_t, ev_k, upd_at, ofL_zero, ofL_succ, ofL_nil, qt_mv, qt_pick, qt_mk, qt_ld1, qt_ldn, qt_nchk, qt_bin, qt_eqs, qt_eqn, qt_un, qt_cvi, qt_cvs, qt_mkf, qt_slc, qt_slz, qt_sla, qt_sls, qt_fad, qt_fld1, qt_fldn, qt_iaa, qt_ixa, qt_ixs, qt_ext, qt_lenv, qt_lenc, qt_capv, qt_mnx, kq_mv, vq_mv, kq_pick, vq_pick, kq_fad, vq_fad, kq_ld1, vq_ld1, kq_ldn, vq_ldn, kq_bin, vq_bin, kq_un, vq_un, kq_ext, vq_ext, kq_nchk, vq_nchk, kq_mk, vq_mk, kq_eqb, vq_eqb, kq_eqs, vq_eqs, kq_eqn, vq_eqn, kq_cvi, vq_cvi, kq_mkf, vq_mkf, kq_slc, vq_slc, kq_fld1, vq_fld1, kq_fldn, vq_fldn, kq_lenv, vq_lenv, kq_lenc, vq_lenc, kq_mnx, vq_mnx, isPtr_ptr, isBool_bool, bv_bool, fadA_ptr, ld1A_ptr, ldnA_ptr, getC_zero, getC_succ, cells_agg, cells_int, cells_bool, cells_str, cells_sl, cells_ptr, isTup_agg, isTup_int, isTup_bool, isTup_str, isTup_sl, isTup_ptr, sc_int, sc_bool, sc_str, pick_t, pick_f, nchkA_ptr, nchkA_fn, lay_nil, lay_cons, wr_def, eqbA_b, eqsA_agg, aeqs_nil, aeqs_i, aeqs_b, aeqs_s, eqnA_sl, eqnA_s0, cviA_i, obd_none, obd_some, toI_int, fld1A_agg, fldnA_agg, lenvA_sl, lenvA_s0, lenvA_str, amn_nil, amn_max, amn_min, idxOk_sl, idxV_sl, abin_add, abin_sub, abin_mul, abin_quo, abin_rem, abin_eql, abin_neq, abin_lss, abin_leq, abin_gtr, abin_geq, abin_seql, abin_sneq, aun_neg, aun_not, aext_tup, im_true, im_fad, im_ld1, im_ldn, im_binl, im_binr, im_un, im_bool, im_ext, gv_gv, gv_fad, gv_ld1, gv_ldn, gv_binl, gv_binr, gv_un, gv_ext, gv_pick, pick_or, pick_and, rd_new, rd_new0, rd_cons0, rd_consS, obOf, stOk_ptr, stH_ptr, put_new, put_new0, put_0, put_s, List.all_cons, List.all_nil, List.map_cons, List.map_nil, List.length_cons, List.length_nil, List.take_zero, List.take_succ_cons, List.take_nil, List.drop_zero, List.drop_succ_cons, List.drop_nil, Nat.reduceAdd, Nat.reduceMul, Nat.reduceSub, if_true, Nat.reduceLT, Nat.reduceLeDiff, ite_true, ite_false, Nat.reduceEqDiff, if_false, Bool.not_false, Bool.not_true, Bool.and_true, Bool.true_and, Bool.false_and, Bool.and_false, Bool.or_true, Bool.true_or, Bool.or_false, Bool.false_or, reduceCtorEq, ne_eq, not_false_eq_true, not_true_eq_false, List.getD, List.getElem?_cons_zero, List.getElem?_cons_succ, Option.getD_some, Option.bind_some, Option.map_some, Option.isSome_some, Nat.zero_add, Nat.add_zero, Bool.false_eq_true, reduceIte, List.length_append, List.append_assoc, List.cons_append, List.nil_append, true_and, and_true, and_self, Nat.le_refl, Nat.le_add_right, Option.some.injEq, true_implies, false_implies, forall_const, implies_true, Int.reduceNeg, avoids_none, eq_self, Prod.mk.injEq, AV.fn.injEq, List.self_eq_append_right, List.append_nil, exists_eq_left, exists_eq_left', exists_and_left, exists_eq_right, exists_and_right, and_assoc, List.cons_append, List.nil_append, List.map_cons, List.map_nil, gd_tt, gd_tf, gd_ft, gd_ff, im_t, im_f, gv_t, gv_f, im_eqbl, im_eqbr, gv_eqbl, gv_eqbr, im_eqsl, im_eqsr, gv_eqsl, gv_eqsr, im_eqn, gv_eqn, im_cvi, gv_cvi, im_fld1, gv_fld1, im_fldn, gv_fldn, im_lenv, gv_lenv, wnt_bool, wnt_gv, wnt_und, gv_pk1, gv_pk2, rg_appk, idx_gl, idx_gr, iok_gl, iok_gr, isPtr_fad, fad_fad, kq_ixa, vq_ixa, ixaA_0, ixaA_1, ixaA_t0, ixaA_t1, le_pl, rg_mkk, mkK_int]
     refine W_loop (fun q f1 h1 => ∃ i : Nat, q = ts'.length - i ∧ i ≤ ts'.length ∧ f1 1 = W' ∧ f1 2 = .int .i64 band ∧ f1 10 = v ∧ f1 79 = V' ∧ f1 80 = .int .i64 ts'.length ∧ f1 81 = .int .i64 i ∧ Wd n2 h1 v vs (ts'.map (rowK band ss'))) (by simp) ts'.length ⟨0, rfl, by omega, rfl, rfl, rfl, rfl, rfl, rfl, hWn⟩ ?_
     rintro q f1 h1 hn1 ht ⟨i, rfl, hi, e1, e2, e10, e79, e80, e81, hW1⟩
     rw [List.take_left] at ht
     have hH := take_eq ht
     generalize h1.drop H.length = p at hH
     subst hH
     by_cases hil : i < ts'.length
     · have hil' : decide ((i : Int) < (ts'.length : Int)) = true := decide_eq_true (by omega)
       obtain ⟨k, hk⟩ : ∃ b, ts'[i]? = some b := ⟨_, List.getElem?_eq_getElem hil⟩
       have hwi : IntKind.i64.wrap ((i : Int) + 1) = ((i + 1 : Nat) : Int) := by rw [wrap64 (by omega) (by omega)]; omega
       have hoki : idxOk 13 V' (.int .i64 (i : Int)) := hs2.ok (by omega) (by omega)
       have hldi := fun z => (hs2.keep z).ldn (i := (i : Int)) (kk := .i64) (x := k) (by omega) (by simpa using hk)
       have hr : (ts'.map (rowK band ss'))[i]? = some (rowK band ss' k) := by rw [List.getElem?_map, hk]; rfl
       obtain ⟨u, hu⟩ := wd_get hW1 hr
       have hvo := (wd_at hW1 hu hr).1
       have hvl : ∀ z, ld1A (H ++ (p ++ z)) (idxV 1 v (.int .i64 (i : Int))) = some u := fun z => by
         have := (wd_at (hW1.keep z) hu hr).2.1
         rwa [List.append_assoc] at this
       have hus := (wd_at hW1 hu hr).2.2
       have hul := hus.len
       rw [rowK, List.length_map] at hul
       simp only [Tk.c] at hldi
       simp (config := {maxSteps := 8000000}) only [e1, e2, e10, e79, e80, e81, hil', hwi, hoki, isPtr_idx hoki, hldi, hvo, isPtr_idx hvo, hvl, hul, hlw2, hn1, bne_self_eq_false, wc_seq, wc_reg, wc_cond_t, wc_cond_k, wc_blk, wc_loop, wc_exit, wc_ret, wc_skip, thenQ_n, thenQ_e, thenQ_r, leaveQ_n, leaveQ_e, leaveQ_r, exOk_n, exOk_r, rvq_nil, rvq_t, rvq_c1, rvq_cn, mkRes1, mkRes2, mkRes3, rg_nil, rg_gcall, rg_callp, avoids_nil, avoids_st, ptrId_ptr, apart_ptr, bne_self_eq_false, Nat.add_eq_left, Nat.left_eq_add, Nat.add_left_cancel_iff, decide_true, decide_false, decide_not, Nat.succ_ne_self, pcallV_fn, im_pcf, gv_pcf, im_pc10, gv_pc10, im_pc20, gv_pc20, im_pc21, gv_pc21, im_pc30, gv_pc30, im_pc31, gv_pc31, im_pc32, gv_pc32, im_pc40, gv_pc40, im_pc41, gv_pc41, im_pc42, gv_pc42, im_pc43, gv_pc43, im_pc50, gv_pc50, im_pc51, gv_pc51, im_pc52, gv_pc52, im_pc53, gv_pc53, im_pc54, gv_pc54, rg_new, rg_box, rg_mks, rg_st, rg_iad, rg_iadg, rg_q, rg_qg, updO_some, updO_none, ev_t, ev_k, upd_at, ofL_zero, ofL_succ, ofL_nil, qt_mv, qt_pick, qt_mk, qt_ld1, qt_ldn, qt_nchk, qt_bin, qt_eqs, qt_eqn, qt_un, qt_cvi, qt_cvs, qt_mkf, qt_slc, qt_slz, qt_sla, qt_sls, qt_fad, qt_fld1, qt_fldn, qt_iaa, qt_ixa, qt_ixs, qt_ext, qt_lenv, qt_lenc, qt_capv, qt_mnx, kq_mv, vq_mv, kq_pick, vq_pick, kq_fad, vq_fad, kq_ld1, vq_ld1, kq_ldn, vq_ldn, kq_bin, vq_bin, kq_un, vq_un, kq_ext, vq_ext, kq_nchk, vq_nchk, kq_mk, vq_mk, kq_eqb, vq_eqb, kq_eqs, vq_eqs, kq_eqn, vq_eqn, kq_cvi, vq_cvi, kq_mkf, vq_mkf, kq_slc, vq_slc, kq_fld1, vq_fld1, kq_fldn, vq_fldn, kq_lenv, vq_lenv, kq_lenc, vq_lenc, kq_mnx, vq_mnx, isPtr_ptr, isBool_bool, bv_bool, fadA_ptr, ld1A_ptr, ldnA_ptr, getC_zero, getC_succ, cells_agg, cells_int, cells_bool, cells_str, cells_sl, cells_ptr, isTup_agg, isTup_int, isTup_bool, isTup_str, isTup_sl, isTup_ptr, sc_int, sc_bool, sc_str, pick_t, pick_f, nchkA_ptr, nchkA_fn, lay_nil, lay_cons, wr_def, eqbA_b, eqsA_agg, aeqs_nil, aeqs_i, aeqs_b, aeqs_s, eqnA_sl, eqnA_s0, cviA_i, obd_none, obd_some, toI_int, fld1A_agg, fldnA_agg, lenvA_sl, lenvA_s0, lenvA_str, amn_nil, amn_max, amn_min, idxOk_sl, idxV_sl, abin_add, abin_sub, abin_mul, abin_quo, abin_rem, abin_eql, abin_neq, abin_lss, abin_leq, abin_gtr, abin_geq, abin_seql, abin_sneq, aun_neg, aun_not, aext_tup, im_true, im_fad, im_ld1, im_ldn, im_binl, im_binr, im_un, im_bool, im_ext, gv_gv, gv_fad, gv_ld1, gv_ldn, gv_binl, gv_binr, gv_un, gv_ext, gv_pick, pick_or, pick_and, rd_new, rd_new0, rd_cons0, rd_consS, obOf, stOk_ptr, stH_ptr, put_new, put_new0, put_0, put_s, List.all_cons, List.all_nil, List.map_cons, List.map_nil, List.length_cons, List.length_nil, List.take_zero, List.take_succ_cons, List.take_nil, List.drop_zero, List.drop_succ_cons, List.drop_nil, Nat.reduceAdd, Nat.reduceMul, Nat.reduceSub, if_true, Nat.reduceLT, Nat.reduceLeDiff, ite_true, ite_false, Nat.reduceEqDiff, if_false, Bool.not_false, Bool.not_true, Bool.and_true, Bool.true_and, Bool.false_and, Bool.and_false, Bool.or_true, Bool.true_or, Bool.or_false, Bool.false_or, reduceCtorEq, ne_eq, not_false_eq_true, not_true_eq_false, List.getD, List.getElem?_cons_zero, List.getElem?_cons_succ, Option.getD_some, Option.bind_some, Option.map_some, Option.isSome_some, Nat.zero_add, Nat.add_zero, Bool.false_eq_true, reduceIte, List.length_append, List.append_assoc, List.cons_append, List.nil_append, true_and, and_true, and_self, Nat.le_refl, Nat.le_add_right, Option.some.injEq, true_implies, false_implies, forall_const, implies_true, Int.reduceNeg, avoids_none, eq_self, Prod.mk.injEq, AV.fn.injEq, List.self_eq_append_right, List.append_nil, exists_eq_left, exists_eq_left', exists_and_left, exists_eq_right, exists_and_right, and_assoc, List.cons_append, List.nil_append, List.map_cons, List.map_nil, gd_tt, gd_tf, gd_ft, gd_ff, im_t, im_f, gv_t, gv_f, im_eqbl, im_eqbr, gv_eqbl, gv_eqbr, im_eqsl, im_eqsr, gv_eqsl, gv_eqsr, im_eqn, gv_eqn, im_cvi, gv_cvi, im_fld1, gv_fld1, im_fldn, gv_fldn, im_lenv, gv_lenv, wnt_bool, wnt_gv, wnt_und, gv_pk1, gv_pk2, rg_appk, idx_gl, idx_gr, iok_gl, iok_gr, isPtr_fad, fad_fad, kq_ixa, vq_ixa, ixaA_0, ixaA_1, ixaA_t0, ixaA_t1, le_pl, rg_mkk, mkK_int]
       refine W_loop (fun q f2 h2 => ∃ j : Nat, q = ss'.length - j ∧ j ≤ ss'.length ∧ f2 1 = W' ∧ f2 2 = .int .i64 band ∧ f2 10 = v ∧ f2 12 = .int .i64 i ∧ f2 13 = .ptr (H.length + p.length) 0 0 ∧ f2 79 = V' ∧ f2 80 = .int .i64 ts'.length ∧ f2 81 = .int .i64 i ∧ f2 94 = W' ∧ f2 95 = .int .i64 ss'.length ∧ f2 96 = .int .i64 j ∧ rdObj h2 (H.length + p.length) 0 = some ⟨k.c, 0, 0, true, true⟩ ∧ Wd n2 h2 v vs (ts'.map (rowK band ss'))) (by simp) ss'.length ⟨0, rfl, by omega, e1, e2, e10, rfl, rfl, e79, e80, e81, rfl, rfl, rfl, by simp [rdObj, Tk.c], by rw [← List.append_assoc]; exact hW1.keep _⟩ ?_
       clear e1 e2 e10 e79 e80 e81 hvl hvo hul hus
       rintro q f2 h2 hn2 ht2 ⟨j, rfl, hj, e1, e2, e10, e12, e13, e79, e80, e81, e94, e95, e96, r13, hW2⟩
       rw [List.take_left] at ht2
       have hH2 := take_eq ht2
       generalize h2.drop H.length = z at hH2
       subst hH2
       by_cases hjl : j < ss'.length
       · have hjl' : decide ((j : Int) < (ss'.length : Int)) = true := decide_eq_true (by omega)
         obtain ⟨s, hs'⟩ : ∃ b, ss'[j]? = some b := ⟨_, List.getElem?_eq_getElem hjl⟩
         have hwj : IntKind.i64.wrap ((j : Int) + 1) = ((j + 1 : Nat) : Int) := by rw [wrap64 (by omega) (by omega)]; omega
         have hokj : idxOk 6 W' (.int .i64 (j : Int)) := hw2.ok (by omega) (by omega)
         have hldj := fun z => (hw2.keep z).ldn (i := (j : Int)) (kk := .i64) (x := s) (by omega) (by simpa using hs')
         have r13' : ∀ t, rdObj (H ++ (z ++ t)) (H.length + p.length) 0 = some ⟨k.c, 0, 0, true, true⟩ := fun t => rd_keep2 r13
         have hvo := (wd_at hW2 hu hr).1
         have hvl : ∀ t, ld1A (H ++ (z ++ t)) (idxV 1 v (.int .i64 (i : Int))) = some u := fun t => by
           have := (wd_at (hW2.keep t) hu hr).2.1
           rwa [List.append_assoc] at this
         have hus := (wd_at hW2 hu hr).2.2
         have hrj : (rowK band ss' k)[j]? = some (costK band k s) := by rw [rowK, List.getElem?_map, hs']; rfl
         have huo : idxOk 1 u (.int .i64 (j : Int)) := hus.ok (by omega) (by rw [rowK, List.length_map]; omega)
         have hul : ∀ t, ld1A (H ++ (z ++ t)) (idxV 1 u (.int .i64 (j : Int))) = some (.int .i64 (costK band k s)) := fun t => by
           have := (hus.keep t).ld0 (i := (j : Int)) (kk := .i64) (x := costK band k s) (by omega) (by simpa using hrj)
           rwa [List.append_assoc] at this
         have hft := fun H => fits_pc k s band H
         have hfo := hok k s (List.mem_of_getElem? hk) (List.mem_of_getElem? hs')
         obtain ⟨hco1, hco2⟩ := cost_ok hfo
         rw [hfo] at hft
         obtain ⟨W2, hV1, hV2, _⟩ := hw2.slc (a := none) (b := some (j : Int)) (lo := 0) (hi := j) rfl rfl (by omega) (by omega)
         simp only [List.drop_zero, Nat.sub_zero] at hV2
         have hlen3 := hV2.len
         have htl : (ss'.take j).length = j := by rw [List.length_take]; omega
         rw [htl] at hlen3
         simp only [Tk.c, Sp.c] at hldj hft r13 r13'
         generalize hIs : (fitT k s band).1 = is at *
         simp (config := {maxSteps := 8000000}) only [e1, e2, e10, e12, e13, e79, e80, e81, e94, e95, e96, r13, r13', hjl', hwj, hokj, isPtr_idx hokj, hldj, hvo, isPtr_idx hvo, hvl, huo, isPtr_idx huo, hul, hft, hco1, hco2, n0, kq_slc, vq_slc, hV1, hlen3, BEq.rfl, Bool.xor_self, hn2, wc_seq, wc_reg, wc_cond_t, wc_cond_k, wc_blk, wc_loop, wc_exit, wc_ret, wc_skip, thenQ_n, thenQ_e, thenQ_r, leaveQ_n, leaveQ_e, leaveQ_r, exOk_n, exOk_r, rvq_nil, rvq_t, rvq_c1, rvq_cn, mkRes1, mkRes2, mkRes3, rg_nil, rg_gcall, rg_callp, avoids_nil, avoids_st, ptrId_ptr, apart_ptr, bne_self_eq_false, Nat.add_eq_left, Nat.left_eq_add, Nat.add_left_cancel_iff, decide_true, decide_false, decide_not, Nat.succ_ne_self, pcallV_fn, im_pcf, gv_pcf, im_pc10, gv_pc10, im_pc20, gv_pc20, im_pc21, gv_pc21, im_pc30, gv_pc30, im_pc31, gv_pc31, im_pc32, gv_pc32, im_pc40, gv_pc40, im_pc41, gv_pc41, im_pc42, gv_pc42, im_pc43, gv_pc43, im_pc50, gv_pc50, im_pc51, gv_pc51, im_pc52, gv_pc52, im_pc53, gv_pc53, im_pc54, gv_pc54, rg_new, rg_box, rg_mks, rg_st, rg_iad, rg_iadg, rg_q, rg_qg, updO_some, updO_none, ev_t, ev_k, upd_at, ofL_zero, ofL_succ, ofL_nil, qt_mv, qt_pick, qt_mk, qt_ld1, qt_ldn, qt_nchk, qt_bin, qt_eqs, qt_eqn, qt_un, qt_cvi, qt_cvs, qt_mkf, qt_slc, qt_slz, qt_sla, qt_sls, qt_fad, qt_fld1, qt_fldn, qt_iaa, qt_ixa, qt_ixs, qt_ext, qt_lenv, qt_lenc, qt_capv, qt_mnx, kq_mv, vq_mv, kq_pick, vq_pick, kq_fad, vq_fad, kq_ld1, vq_ld1, kq_ldn, vq_ldn, kq_bin, vq_bin, kq_un, vq_un, kq_ext, vq_ext, kq_nchk, vq_nchk, kq_mk, vq_mk, kq_eqb, vq_eqb, kq_eqs, vq_eqs, kq_eqn, vq_eqn, kq_cvi, vq_cvi, kq_mkf, vq_mkf, kq_slc, vq_slc, kq_fld1, vq_fld1, kq_fldn, vq_fldn, kq_lenv, vq_lenv, kq_lenc, vq_lenc, kq_mnx, vq_mnx, isPtr_ptr, isBool_bool, bv_bool, fadA_ptr, ld1A_ptr, ldnA_ptr, getC_zero, getC_succ, cells_agg, cells_int, cells_bool, cells_str, cells_sl, cells_ptr, isTup_agg, isTup_int, isTup_bool, isTup_str, isTup_sl, isTup_ptr, sc_int, sc_bool, sc_str, pick_t, pick_f, nchkA_ptr, nchkA_fn, lay_nil, lay_cons, wr_def, eqbA_b, eqsA_agg, aeqs_nil, aeqs_i, aeqs_b, aeqs_s, eqnA_sl, eqnA_s0, cviA_i, obd_none, obd_some, toI_int, fld1A_agg, fldnA_agg, lenvA_sl, lenvA_s0, lenvA_str, amn_nil, amn_max, amn_min, idxOk_sl, idxV_sl, abin_add, abin_sub, abin_mul, abin_quo, abin_rem, abin_eql, abin_neq, abin_lss, abin_leq, abin_gtr, abin_geq, abin_seql, abin_sneq, aun_neg, aun_not, aext_tup, im_true, im_fad, im_ld1, im_ldn, im_binl, im_binr, im_un, im_bool, im_ext, gv_gv, gv_fad, gv_ld1, gv_ldn, gv_binl, gv_binr, gv_un, gv_ext, gv_pick, pick_or, pick_and, rd_new, rd_new0, rd_cons0, rd_consS, obOf, stOk_ptr, stH_ptr, put_new, put_new0, put_0, put_s, List.all_cons, List.all_nil, List.map_cons, List.map_nil, List.length_cons, List.length_nil, List.take_zero, List.take_succ_cons, List.take_nil, List.drop_zero, List.drop_succ_cons, List.drop_nil, Nat.reduceAdd, Nat.reduceMul, Nat.reduceSub, if_true, Nat.reduceLT, Nat.reduceLeDiff, ite_true, ite_false, Nat.reduceEqDiff, if_false, Bool.not_false, Bool.not_true, Bool.and_true, Bool.true_and, Bool.false_and, Bool.and_false, Bool.or_true, Bool.true_or, Bool.or_false, Bool.false_or, reduceCtorEq, ne_eq, not_false_eq_true, not_true_eq_false, List.getD, List.getElem?_cons_zero, List.getElem?_cons_succ, Option.getD_some, Option.bind_some, Option.map_some, Option.isSome_some, Nat.zero_add, Nat.add_zero, Bool.false_eq_true, reduceIte, List.length_append, List.append_assoc, List.cons_append, List.nil_append, true_and, and_true, and_self, Nat.le_refl, Nat.le_add_right, Option.some.injEq, true_implies, false_implies, forall_const, implies_true, Int.reduceNeg, avoids_none, eq_self, Prod.mk.injEq, AV.fn.injEq, List.self_eq_append_right, List.append_nil, exists_eq_left, exists_eq_left', exists_and_left, exists_eq_right, exists_and_right, and_assoc, List.cons_append, List.nil_append, List.map_cons, List.map_nil, gd_tt, gd_tf, gd_ft, gd_ff, im_t, im_f, gv_t, gv_f, im_eqbl, im_eqbr, gv_eqbl, gv_eqbr, im_eqsl, im_eqsr, gv_eqsl, gv_eqsr, im_eqn, gv_eqn, im_cvi, gv_cvi, im_fld1, gv_fld1, im_fldn, gv_fldn, im_lenv, gv_lenv, wnt_bool, wnt_gv, wnt_und, gv_pk1, gv_pk2, rg_appk, idx_gl, idx_gr, iok_gl, iok_gr, isPtr_fad, fad_fad, kq_ixa, vq_ixa, ixaA_0, ixaA_1, ixaA_t0, ixaA_t1, le_pl, rg_mkk, mkK_int]
         refine W_loop (fun q f3 h3 => ∃ m : Nat, q = j - m ∧ m ≤ j ∧ f3 1 = W' ∧ f3 2 = .int .i64 band ∧ f3 10 = v ∧ f3 12 = .int .i64 i ∧ f3 13 = .ptr (H.length + p.length) 0 0 ∧ f3 14 = .int .i64 j ∧ f3 15 = .ptr (H.length + z.length) 0 0 ∧ f3 16 = .bool is ∧ f3 79 = V' ∧ f3 80 = .int .i64 ts'.length ∧ f3 81 = .int .i64 i ∧ f3 94 = W' ∧ f3 95 = .int .i64 ss'.length ∧ f3 96 = .int .i64 j ∧ f3 134 = W2 ∧ f3 135 = .int .i64 j ∧ f3 136 = .int .i64 m ∧ rdObj h3 (H.length + p.length) 0 = some ⟨k.c, 0, 0, true, true⟩ ∧ rdObj h3 (H.length + z.length) 0 = some ⟨s.c, 0, 0, true, true⟩ ∧ Wd n2 h3 v vs (ts'.map (rowK band ss'))) (by simp) j ⟨0, rfl, by omega, e1, e2, e10, e12, e13, rfl, rfl, rfl, e79, e80, e81, e94, e95, e96, rfl, rfl, rfl, r13' _, by simp [rdObj, Sp.c], by rw [← List.append_assoc]; exact hW2.keep _⟩ ?_
         clear e1 e2 e10 e12 e13 e79 e80 e81 e94 e95 e96 hvl hvo hul huo hus r13 r13'
         rintro q f3 h3 hn3 ht3 ⟨m, rfl, hm, e1, e2, e10, e12, e13, e14, e15, e16, e79, e80, e81, e94, e95, e96, e134, e135, e136, r13, r15, hW3⟩
         rw [List.take_left] at ht3
         have hH3 := take_eq ht3
         generalize h3.drop H.length = x at hH3
         subst hH3
         by_cases hml : m < j
         · have hml' : decide ((m : Int) < (j : Int)) = true := decide_eq_true (by omega)
           obtain ⟨s2, hs2'⟩ : ∃ b, ss'[m]? = some b := ⟨_, List.getElem?_eq_getElem (by omega)⟩
           have hs2t : (ss'.take j)[m]? = some s2 := by rw [List.getElem?_take, if_pos hml]; exact hs2'
           have hwm : IntKind.i64.wrap ((m : Int) + 1) = ((m + 1 : Nat) : Int) := by rw [wrap64 (by omega) (by omega)]; omega
           have hokm : idxOk 6 W2 (.int .i64 (m : Int)) := hV2.ok (by omega) (by omega)
           have hldm := fun z => (hV2.keep z).ldn (i := (m : Int)) (kk := .i64) (x := s2) (by omega) (by simpa using hs2t)
           have r13' : ∀ t, rdObj (H ++ (x ++ t)) (H.length + p.length) 0 = some ⟨k.c, 0, 0, true, true⟩ := fun t => rd_keep2 r13
           have r15' : ∀ t, rdObj (H ++ (x ++ t)) (H.length + z.length) 0 = some ⟨s.c, 0, 0, true, true⟩ := fun t => rd_keep2 r15
           have hvo := (wd_at hW3 hu hr).1
           have hvl : ∀ t, ld1A (H ++ (x ++ t)) (idxV 1 v (.int .i64 (i : Int))) = some u := fun t => by
             have := (wd_at (hW3.keep t) hu hr).2.1
             rwa [List.append_assoc] at this
           have hus := (wd_at hW3 hu hr).2.2
           have hrm : (rowK band ss' k)[m]? = some (costK band k s2) := by rw [rowK, List.getElem?_map, hs2']; rfl
           have huo : idxOk 1 u (.int .i64 (j : Int)) := hus.ok (by omega) (by rw [rowK, List.length_map]; omega)
           have huo2 : idxOk 1 u (.int .i64 (m : Int)) := hus.ok (by omega) (by rw [rowK, List.length_map]; omega)
           have hul : ∀ t, ld1A (H ++ (x ++ t)) (idxV 1 u (.int .i64 (j : Int))) = some (.int .i64 (costK band k s)) := fun t => by
             have := (hus.keep t).ld0 (i := (j : Int)) (kk := .i64) (x := costK band k s) (by omega) (by simpa using hrj)
             rwa [List.append_assoc] at this
           have hul2 : ∀ t, ld1A (H ++ (x ++ t)) (idxV 1 u (.int .i64 (m : Int))) = some (.int .i64 (costK band k s2)) := fun t => by
             have := (hus.keep t).ld0 (i := (m : Int)) (kk := .i64) (x := costK band k s2) (by omega) (by simpa using hrm)
             rwa [List.append_assoc] at this
           have hfo2 := hok k s2 (List.mem_of_getElem? hk) (List.mem_of_getElem? hs2')
           have hq1 := fun H => ksq_pc k.x k.y s.x s.y H
           have hq2 := fun H => ksq_pc k.x k.y s2.x s2.y H
           have hmo : is = true → decide (0 ≤ costK band k s2) = true → decide (sqw k.x k.y s.x s.y ≤ sqw k.x k.y s2.x s2.y) = true → decide (costK band k s2 < costK band k s) = false := by
             intro a b c
             have := cost_mono hfo hfo2 (by rw [hIs]; exact a) (of_decide_eq_true b) (of_decide_eq_true c)
             exact decide_eq_false (by omega)
           simp only [Tk.c, Sp.c] at hldm r13 r13' r15 r15'
           simp (config := {maxSteps := 8000000}) only [e1, e2, e10, e12, e13, e14, e15, e16, e79, e80, e81, e94, e95, e96, e134, e135, e136, r13, r13', r15, r15', hml', hwm, hokm, isPtr_idx hokm, hldm, hvo, isPtr_idx hvo, hvl, huo, isPtr_idx huo, hul, huo2, isPtr_idx huo2, hul2, hq1, hq2, hn3, wc_seq, wc_reg, wc_cond_t, wc_cond_k, wc_blk, wc_loop, wc_exit, wc_ret, wc_skip, thenQ_n, thenQ_e, thenQ_r, leaveQ_n, leaveQ_e, leaveQ_r, exOk_n, exOk_r, rvq_nil, rvq_t, rvq_c1, rvq_cn, mkRes1, mkRes2, mkRes3, rg_nil, rg_gcall, rg_callp, avoids_nil, avoids_st, ptrId_ptr, apart_ptr, bne_self_eq_false, Nat.add_eq_left, Nat.left_eq_add, Nat.add_left_cancel_iff, decide_true, decide_false, decide_not, Nat.succ_ne_self, pcallV_fn, im_pcf, gv_pcf, im_pc10, gv_pc10, im_pc20, gv_pc20, im_pc21, gv_pc21, im_pc30, gv_pc30, im_pc31, gv_pc31, im_pc32, gv_pc32, im_pc40, gv_pc40, im_pc41, gv_pc41, im_pc42, gv_pc42, im_pc43, gv_pc43, im_pc50, gv_pc50, im_pc51, gv_pc51, im_pc52, gv_pc52, im_pc53, gv_pc53, im_pc54, gv_pc54, rg_new, rg_box, rg_mks, rg_st, rg_iad, rg_iadg, rg_q, rg_qg, updO_some, updO_none, ev_t, ev_k, upd_at, ofL_zero, ofL_succ, ofL_nil, qt_mv, qt_pick, qt_mk, qt_ld1, qt_ldn, qt_nchk, qt_bin, qt_eqs, qt_eqn, qt_un, qt_cvi, qt_cvs, qt_mkf, qt_slc, qt_slz, qt_sla, qt_sls, qt_fad, qt_fld1, qt_fldn, qt_iaa, qt_ixa, qt_ixs, qt_ext, qt_lenv, qt_lenc, qt_capv, qt_mnx, kq_mv, vq_mv, kq_pick, vq_pick, kq_fad, vq_fad, kq_ld1, vq_ld1, kq_ldn, vq_ldn, kq_bin, vq_bin, kq_un, vq_un, kq_ext, vq_ext, kq_nchk, vq_nchk, kq_mk, vq_mk, kq_eqb, vq_eqb, kq_eqs, vq_eqs, kq_eqn, vq_eqn, kq_cvi, vq_cvi, kq_mkf, vq_mkf, kq_slc, vq_slc, kq_fld1, vq_fld1, kq_fldn, vq_fldn, kq_lenv, vq_lenv, kq_lenc, vq_lenc, kq_mnx, vq_mnx, isPtr_ptr, isBool_bool, bv_bool, fadA_ptr, ld1A_ptr, ldnA_ptr, getC_zero, getC_succ, cells_agg, cells_int, cells_bool, cells_str, cells_sl, cells_ptr, isTup_agg, isTup_int, isTup_bool, isTup_str, isTup_sl, isTup_ptr, sc_int, sc_bool, sc_str, pick_t, pick_f, nchkA_ptr, nchkA_fn, lay_nil, lay_cons, wr_def, eqbA_b, eqsA_agg, aeqs_nil, aeqs_i, aeqs_b, aeqs_s, eqnA_sl, eqnA_s0, cviA_i, obd_none, obd_some, toI_int, fld1A_agg, fldnA_agg, lenvA_sl, lenvA_s0, lenvA_str, amn_nil, amn_max, amn_min, idxOk_sl, idxV_sl, abin_add, abin_sub, abin_mul, abin_quo, abin_rem, abin_eql, abin_neq, abin_lss, abin_leq, abin_gtr, abin_geq, abin_seql, abin_sneq, aun_neg, aun_not, aext_tup, im_true, im_fad, im_ld1, im_ldn, im_binl, im_binr, im_un, im_bool, im_ext, gv_gv, gv_fad, gv_ld1, gv_ldn, gv_binl, gv_binr, gv_un, gv_ext, gv_pick, pick_or, pick_and, rd_new, rd_new0, rd_cons0, rd_consS, obOf, stOk_ptr, stH_ptr, put_new, put_new0, put_0, put_s, List.all_cons, List.all_nil, List.map_cons, List.map_nil, List.length_cons, List.length_nil, List.take_zero, List.take_succ_cons, List.take_nil, List.drop_zero, List.drop_succ_cons, List.drop_nil, Nat.reduceAdd, Nat.reduceMul, Nat.reduceSub, if_true, Nat.reduceLT, Nat.reduceLeDiff, ite_true, ite_false, Nat.reduceEqDiff, if_false, Bool.not_false, Bool.not_true, Bool.and_true, Bool.true_and, Bool.false_and, Bool.and_false, Bool.or_true, Bool.true_or, Bool.or_false, Bool.false_or, reduceCtorEq, ne_eq, not_false_eq_true, not_true_eq_false, List.getD, List.getElem?_cons_zero, List.getElem?_cons_succ, Option.getD_some, Option.bind_some, Option.map_some, Option.isSome_some, Nat.zero_add, Nat.add_zero, Bool.false_eq_true, reduceIte, List.length_append, List.append_assoc, List.cons_append, List.nil_append, true_and, and_true, and_self, Nat.le_refl, Nat.le_add_right, Option.some.injEq, true_implies, false_implies, forall_const, implies_true, Int.reduceNeg, avoids_none, eq_self, Prod.mk.injEq, AV.fn.injEq, List.self_eq_append_right, List.append_nil, exists_eq_left, exists_eq_left', exists_and_left, exists_eq_right, exists_and_right, and_assoc, List.cons_append, List.nil_append, List.map_cons, List.map_nil, gd_tt, gd_tf, gd_ft, gd_ff, im_t, im_f, gv_t, gv_f, im_eqbl, im_eqbr, gv_eqbl, gv_eqbr, im_eqsl, im_eqsr, gv_eqsl, gv_eqsr, im_eqn, gv_eqn, im_cvi, gv_cvi, im_fld1, gv_fld1, im_fldn, gv_fldn, im_lenv, gv_lenv, wnt_bool, wnt_gv, wnt_und, gv_pk1, gv_pk2, rg_appk, idx_gl, idx_gr, iok_gl, iok_gr, isPtr_fad, fad_fad, kq_ixa, vq_ixa, ixaA_0, ixaA_1, ixaA_t0, ixaA_t1, le_pl, rg_mkk, mkK_int]
           refine ⟨fun h => ?_, fun _ => ⟨_, by omega, m + 1, rfl, by omega, rfl, rfl, rfl, by rw [← List.append_assoc]; exact hW3.keep _⟩⟩
           simp only [Bool.and_eq_true] at h
           exact absurd h.2 (by rw [hmo h.1.1.1 h.1.1.2 h.1.2]; decide)
         · have hml' : decide ((m : Int) < (j : Int)) = false := decide_eq_false (by omega)
           simp (config := {maxSteps := 8000000}) only [e1, e2, e10, e12, e13, e14, e15, e16, e79, e80, e81, e94, e95, e96, e134, e135, e136, hml', hwj, hn3, wc_seq, wc_reg, wc_cond_t, wc_cond_k, wc_blk, wc_loop, wc_exit, wc_ret, wc_skip, thenQ_n, thenQ_e, thenQ_r, leaveQ_n, leaveQ_e, leaveQ_r, exOk_n, exOk_r, rvq_nil, rvq_t, rvq_c1, rvq_cn, mkRes1, mkRes2, mkRes3, rg_nil, rg_gcall, rg_callp, avoids_nil, avoids_st, ptrId_ptr, apart_ptr, bne_self_eq_false, Nat.add_eq_left, Nat.left_eq_add, Nat.add_left_cancel_iff, decide_true, decide_false, decide_not, Nat.succ_ne_self, pcallV_fn, im_pcf, gv_pcf, im_pc10, gv_pc10, im_pc20, gv_pc20, im_pc21, gv_pc21, im_pc30, gv_pc30, im_pc31, gv_pc31, im_pc32, gv_pc32, im_pc40, gv_pc40, im_pc41, gv_pc41, im_pc42, gv_pc42, im_pc43, gv_pc43, im_pc50, gv_pc50, im_pc51, gv_pc51, im_pc52, gv_pc52, im_pc53, gv_pc53, im_pc54, gv_pc54, rg_new, rg_box, rg_mks, rg_st, rg_iad, rg_iadg, rg_q, rg_qg, updO_some, updO_none, ev_t, ev_k, upd_at, ofL_zero, ofL_succ, ofL_nil, qt_mv, qt_pick, qt_mk, qt_ld1, qt_ldn, qt_nchk, qt_bin, qt_eqs, qt_eqn, qt_un, qt_cvi, qt_cvs, qt_mkf, qt_slc, qt_slz, qt_sla, qt_sls, qt_fad, qt_fld1, qt_fldn, qt_iaa, qt_ixa, qt_ixs, qt_ext, qt_lenv, qt_lenc, qt_capv, qt_mnx, kq_mv, vq_mv, kq_pick, vq_pick, kq_fad, vq_fad, kq_ld1, vq_ld1, kq_ldn, vq_ldn, kq_bin, vq_bin, kq_un, vq_un, kq_ext, vq_ext, kq_nchk, vq_nchk, kq_mk, vq_mk, kq_eqb, vq_eqb, kq_eqs, vq_eqs, kq_eqn, vq_eqn, kq_cvi, vq_cvi, kq_mkf, vq_mkf, kq_slc, vq_slc, kq_fld1, vq_fld1, kq_fldn, vq_fldn, kq_lenv, vq_lenv, kq_lenc, vq_lenc, kq_mnx, vq_mnx, isPtr_ptr, isBool_bool, bv_bool, fadA_ptr, ld1A_ptr, ldnA_ptr, getC_zero, getC_succ, cells_agg, cells_int, cells_bool, cells_str, cells_sl, cells_ptr, isTup_agg, isTup_int, isTup_bool, isTup_str, isTup_sl, isTup_ptr, sc_int, sc_bool, sc_str, pick_t, pick_f, nchkA_ptr, nchkA_fn, lay_nil, lay_cons, wr_def, eqbA_b, eqsA_agg, aeqs_nil, aeqs_i, aeqs_b, aeqs_s, eqnA_sl, eqnA_s0, cviA_i, obd_none, obd_some, toI_int, fld1A_agg, fldnA_agg, lenvA_sl, lenvA_s0, lenvA_str, amn_nil, amn_max, amn_min, idxOk_sl, idxV_sl, abin_add, abin_sub, abin_mul, abin_quo, abin_rem, abin_eql, abin_neq, abin_lss, abin_leq, abin_gtr, abin_geq, abin_seql, abin_sneq, aun_neg, aun_not, aext_tup, im_true, im_fad, im_ld1, im_ldn, im_binl, im_binr, im_un, im_bool, im_ext, gv_gv, gv_fad, gv_ld1, gv_ldn, gv_binl, gv_binr, gv_un, gv_ext, gv_pick, pick_or, pick_and, rd_new, rd_new0, rd_cons0, rd_consS, obOf, stOk_ptr, stH_ptr, put_new, put_new0, put_0, put_s, List.all_cons, List.all_nil, List.map_cons, List.map_nil, List.length_cons, List.length_nil, List.take_zero, List.take_succ_cons, List.take_nil, List.drop_zero, List.drop_succ_cons, List.drop_nil, Nat.reduceAdd, Nat.reduceMul, Nat.reduceSub, if_true, Nat.reduceLT, Nat.reduceLeDiff, ite_true, ite_false, Nat.reduceEqDiff, if_false, Bool.not_false, Bool.not_true, Bool.and_true, Bool.true_and, Bool.false_and, Bool.and_false, Bool.or_true, Bool.true_or, Bool.or_false, Bool.false_or, reduceCtorEq, ne_eq, not_false_eq_true, not_true_eq_false, List.getD, List.getElem?_cons_zero, List.getElem?_cons_succ, Option.getD_some, Option.bind_some, Option.map_some, Option.isSome_some, Nat.zero_add, Nat.add_zero, Bool.false_eq_true, reduceIte, List.length_append, List.append_assoc, List.cons_append, List.nil_append, true_and, and_true, and_self, Nat.le_refl, Nat.le_add_right, Option.some.injEq, true_implies, false_implies, forall_const, implies_true, Int.reduceNeg, avoids_none, eq_self, Prod.mk.injEq, AV.fn.injEq, List.self_eq_append_right, List.append_nil, exists_eq_left, exists_eq_left', exists_and_left, exists_eq_right, exists_and_right, and_assoc, List.cons_append, List.nil_append, List.map_cons, List.map_nil, gd_tt, gd_tf, gd_ft, gd_ff, im_t, im_f, gv_t, gv_f, im_eqbl, im_eqbr, gv_eqbl, gv_eqbr, im_eqsl, im_eqsr, gv_eqsl, gv_eqsr, im_eqn, gv_eqn, im_cvi, gv_cvi, im_fld1, gv_fld1, im_fldn, gv_fldn, im_lenv, gv_lenv, wnt_bool, wnt_gv, wnt_und, gv_pk1, gv_pk2, rg_appk, idx_gl, idx_gr, iok_gl, iok_gr, isPtr_fad, fad_fad, kq_ixa, vq_ixa, ixaA_0, ixaA_1, ixaA_t0, ixaA_t1, le_pl, rg_mkk, mkK_int]
           exact ⟨_, by omega, j + 1, rfl, by omega, rfl, by rw [rd_new] at r13; exact r13, hW3⟩
       · have hjl' : decide ((j : Int) < (ss'.length : Int)) = false := decide_eq_false (by omega)
         simp (config := {maxSteps := 8000000}) only [e1, e2, e10, e12, e13, e79, e80, e81, e94, e95, e96, hjl', hwi, hn2, wc_seq, wc_reg, wc_cond_t, wc_cond_k, wc_blk, wc_loop, wc_exit, wc_ret, wc_skip, thenQ_n, thenQ_e, thenQ_r, leaveQ_n, leaveQ_e, leaveQ_r, exOk_n, exOk_r, rvq_nil, rvq_t, rvq_c1, rvq_cn, mkRes1, mkRes2, mkRes3, rg_nil, rg_gcall, rg_callp, avoids_nil, avoids_st, ptrId_ptr, apart_ptr, bne_self_eq_false, Nat.add_eq_left, Nat.left_eq_add, Nat.add_left_cancel_iff, decide_true, decide_false, decide_not, Nat.succ_ne_self, pcallV_fn, im_pcf, gv_pcf, im_pc10, gv_pc10, im_pc20, gv_pc20, im_pc21, gv_pc21, im_pc30, gv_pc30, im_pc31, gv_pc31, im_pc32, gv_pc32, im_pc40, gv_pc40, im_pc41, gv_pc41, im_pc42, gv_pc42, im_pc43, gv_pc43, im_pc50, gv_pc50, im_pc51, gv_pc51, im_pc52, gv_pc52, im_pc53, gv_pc53, im_pc54, gv_pc54, rg_new, rg_box, rg_mks, rg_st, rg_iad, rg_iadg, rg_q, rg_qg, updO_some, updO_none, ev_t, ev_k, upd_at, ofL_zero, ofL_succ, ofL_nil, qt_mv, qt_pick, qt_mk, qt_ld1, qt_ldn, qt_nchk, qt_bin, qt_eqs, qt_eqn, qt_un, qt_cvi, qt_cvs, qt_mkf, qt_slc, qt_slz, qt_sla, qt_sls, qt_fad, qt_fld1, qt_fldn, qt_iaa, qt_ixa, qt_ixs, qt_ext, qt_lenv, qt_lenc, qt_capv, qt_mnx, kq_mv, vq_mv, kq_pick, vq_pick, kq_fad, vq_fad, kq_ld1, vq_ld1, kq_ldn, vq_ldn, kq_bin, vq_bin, kq_un, vq_un, kq_ext, vq_ext, kq_nchk, vq_nchk, kq_mk, vq_mk, kq_eqb, vq_eqb, kq_eqs, vq_eqs, kq_eqn, vq_eqn, kq_cvi, vq_cvi, kq_mkf, vq_mkf, kq_slc, vq_slc, kq_fld1, vq_fld1, kq_fldn, vq_fldn, kq_lenv, vq_lenv, kq_lenc, vq_lenc, kq_mnx, vq_mnx, isPtr_ptr, isBool_bool, bv_bool, fadA_ptr, ld1A_ptr, ldnA_ptr, getC_zero, getC_succ, cells_agg, cells_int, cells_bool, cells_str, cells_sl, cells_ptr, isTup_agg, isTup_int, isTup_bool, isTup_str, isTup_sl, isTup_ptr, sc_int, sc_bool, sc_str, pick_t, pick_f, nchkA_ptr, nchkA_fn, lay_nil, lay_cons, wr_def, eqbA_b, eqsA_agg, aeqs_nil, aeqs_i, aeqs_b, aeqs_s, eqnA_sl, eqnA_s0, cviA_i, obd_none, obd_some, toI_int, fld1A_agg, fldnA_agg, lenvA_sl, lenvA_s0, lenvA_str, amn_nil, amn_max, amn_min, idxOk_sl, idxV_sl, abin_add, abin_sub, abin_mul, abin_quo, abin_rem, abin_eql, abin_neq, abin_lss, abin_leq, abin_gtr, abin_geq, abin_seql, abin_sneq, aun_neg, aun_not, aext_tup, im_true, im_fad, im_ld1, im_ldn, im_binl, im_binr, im_un, im_bool, im_ext, gv_gv, gv_fad, gv_ld1, gv_ldn, gv_binl, gv_binr, gv_un, gv_ext, gv_pick, pick_or, pick_and, rd_new, rd_new0, rd_cons0, rd_consS, obOf, stOk_ptr, stH_ptr, put_new, put_new0, put_0, put_s, List.all_cons, List.all_nil, List.map_cons, List.map_nil, List.length_cons, List.length_nil, List.take_zero, List.take_succ_cons, List.take_nil, List.drop_zero, List.drop_succ_cons, List.drop_nil, Nat.reduceAdd, Nat.reduceMul, Nat.reduceSub, if_true, Nat.reduceLT, Nat.reduceLeDiff, ite_true, ite_false, Nat.reduceEqDiff, if_false, Bool.not_false, Bool.not_true, Bool.and_true, Bool.true_and, Bool.false_and, Bool.and_false, Bool.or_true, Bool.true_or, Bool.or_false, Bool.false_or, reduceCtorEq, ne_eq, not_false_eq_true, not_true_eq_false, List.getD, List.getElem?_cons_zero, List.getElem?_cons_succ, Option.getD_some, Option.bind_some, Option.map_some, Option.isSome_some, Nat.zero_add, Nat.add_zero, Bool.false_eq_true, reduceIte, List.length_append, List.append_assoc, List.cons_append, List.nil_append, true_and, and_true, and_self, Nat.le_refl, Nat.le_add_right, Option.some.injEq, true_implies, false_implies, forall_const, implies_true, Int.reduceNeg, avoids_none, eq_self, Prod.mk.injEq, AV.fn.injEq, List.self_eq_append_right, List.append_nil, exists_eq_left, exists_eq_left', exists_and_left, exists_eq_right, exists_and_right, and_assoc, List.cons_append, List.nil_append, List.map_cons, List.map_nil, gd_tt, gd_tf, gd_ft, gd_ff, im_t, im_f, gv_t, gv_f, im_eqbl, im_eqbr, gv_eqbl, gv_eqbr, im_eqsl, im_eqsr, gv_eqsl, gv_eqsr, im_eqn, gv_eqn, im_cvi, gv_cvi, im_fld1, gv_fld1, im_fldn, gv_fldn, im_lenv, gv_lenv, wnt_bool, wnt_gv, wnt_und, gv_pk1, gv_pk2, rg_appk, idx_gl, idx_gr, iok_gl, iok_gr, isPtr_fad, fad_fad, kq_ixa, vq_ixa, ixaA_0, ixaA_1, ixaA_t0, ixaA_t1, le_pl, rg_mkk, mkK_int]
         exact ⟨_, by omega, i + 1, rfl, by omega, rfl, hW2⟩
     · have hil' : decide ((i : Int) < (ts'.length : Int)) = false := decide_eq_false (by omega)
       simp (config := {maxSteps := 8000000}) only [e1, e2, e10, e79, e80, e81, hil', wc_seq, wc_reg, wc_cond_t, wc_cond_k, wc_blk, wc_loop, wc_exit, wc_ret, wc_skip, thenQ_n, thenQ_e, thenQ_r, leaveQ_n, leaveQ_e, leaveQ_r, exOk_n, exOk_r, rvq_nil, rvq_t, rvq_c1, rvq_cn, mkRes1, mkRes2, mkRes3, rg_nil, rg_gcall, rg_callp, avoids_nil, avoids_st, ptrId_ptr, apart_ptr, bne_self_eq_false, Nat.add_eq_left, Nat.left_eq_add, Nat.add_left_cancel_iff, decide_true, decide_false, decide_not, Nat.succ_ne_self, pcallV_fn, im_pcf, gv_pcf, im_pc10, gv_pc10, im_pc20, gv_pc20, im_pc21, gv_pc21, im_pc30, gv_pc30, im_pc31, gv_pc31, im_pc32, gv_pc32, im_pc40, gv_pc40, im_pc41, gv_pc41, im_pc42, gv_pc42, im_pc43, gv_pc43, im_pc50, gv_pc50, im_pc51, gv_pc51, im_pc52, gv_pc52, im_pc53, gv_pc53, im_pc54, gv_pc54, rg_new, rg_box, rg_mks, rg_st, rg_iad, rg_iadg, rg_q, rg_qg, updO_some, updO_none, ev_t, ev_k, upd_at, ofL_zero, ofL_succ, ofL_nil, qt_mv, qt_pick, qt_mk, qt_ld1, qt_ldn, qt_nchk, qt_bin, qt_eqs, qt_eqn, qt_un, qt_cvi, qt_cvs, qt_mkf, qt_slc, qt_slz, qt_sla, qt_sls, qt_fad, qt_fld1, qt_fldn, qt_iaa, qt_ixa, qt_ixs, qt_ext, qt_lenv, qt_lenc, qt_capv, qt_mnx, kq_mv, vq_mv, kq_pick, vq_pick, kq_fad, vq_fad, kq_ld1, vq_ld1, kq_ldn, vq_ldn, kq_bin, vq_bin, kq_un, vq_un, kq_ext, vq_ext, kq_nchk, vq_nchk, kq_mk, vq_mk, kq_eqb, vq_eqb, kq_eqs, vq_eqs, kq_eqn, vq_eqn, kq_cvi, vq_cvi, kq_mkf, vq_mkf, kq_slc, vq_slc, kq_fld1, vq_fld1, kq_fldn, vq_fldn, kq_lenv, vq_lenv, kq_lenc, vq_lenc, kq_mnx, vq_mnx, isPtr_ptr, isBool_bool, bv_bool, fadA_ptr, ld1A_ptr, ldnA_ptr, getC_zero, getC_succ, cells_agg, cells_int, cells_bool, cells_str, cells_sl, cells_ptr, isTup_agg, isTup_int, isTup_bool, isTup_str, isTup_sl, isTup_ptr, sc_int, sc_bool, sc_str, pick_t, pick_f, nchkA_ptr, nchkA_fn, lay_nil, lay_cons, wr_def, eqbA_b, eqsA_agg, aeqs_nil, aeqs_i, aeqs_b, aeqs_s, eqnA_sl, eqnA_s0, cviA_i, obd_none, obd_some, toI_int, fld1A_agg, fldnA_agg, lenvA_sl, lenvA_s0, lenvA_str, amn_nil, amn_max, amn_min, idxOk_sl, idxV_sl, abin_add, abin_sub, abin_mul, abin_quo, abin_rem, abin_eql, abin_neq, abin_lss, abin_leq, abin_gtr, abin_geq, abin_seql, abin_sneq, aun_neg, aun_not, aext_tup, im_true, im_fad, im_ld1, im_ldn, im_binl, im_binr, im_un, im_bool, im_ext, gv_gv, gv_fad, gv_ld1, gv_ldn, gv_binl, gv_binr, gv_un, gv_ext, gv_pick, pick_or, pick_and, rd_new, rd_new0, rd_cons0, rd_consS, obOf, stOk_ptr, stH_ptr, put_new, put_new0, put_0, put_s, List.all_cons, List.all_nil, List.map_cons, List.map_nil, List.length_cons, List.length_nil, List.take_zero, List.take_succ_cons, List.take_nil, List.drop_zero, List.drop_succ_cons, List.drop_nil, Nat.reduceAdd, Nat.reduceMul, Nat.reduceSub, if_true, Nat.reduceLT, Nat.reduceLeDiff, ite_true, ite_false, Nat.reduceEqDiff, if_false, Bool.not_false, Bool.not_true, Bool.and_true, Bool.true_and, Bool.false_and, Bool.and_false, Bool.or_true, Bool.true_or, Bool.or_false, Bool.false_or, reduceCtorEq, ne_eq, not_false_eq_true, not_true_eq_false, List.getD, List.getElem?_cons_zero, List.getElem?_cons_succ, Option.getD_some, Option.bind_some, Option.map_some, Option.isSome_some, Nat.zero_add, Nat.add_zero, Bool.false_eq_true, reduceIte, List.length_append, List.append_assoc, List.cons_append, List.nil_append, true_and, and_true, and_self, Nat.le_refl, Nat.le_add_right, Option.some.injEq, true_implies, false_implies, forall_const, implies_true, Int.reduceNeg, avoids_none, eq_self, Prod.mk.injEq, AV.fn.injEq, List.self_eq_append_right, List.append_nil, exists_eq_left, exists_eq_left', exists_and_left, exists_eq_right, exists_and_right, and_assoc, List.cons_append, List.nil_append, List.map_cons, List.map_nil, gd_tt, gd_tf, gd_ft, gd_ff, im_t, im_f, gv_t, gv_f, im_eqbl, im_eqbr, gv_eqbl, gv_eqbr, im_eqsl, im_eqsr, gv_eqsl, gv_eqsr, im_eqn, gv_eqn, im_cvi, gv_cvi, im_fld1, gv_fld1, im_fldn, gv_fldn, im_lenv, gv_lenv, wnt_bool, wnt_gv, wnt_und, gv_pk1, gv_pk2, rg_appk, idx_gl, idx_gr, iok_gl, iok_gr, isPtr_fad, fad_fad, kq_ixa, vq_ixa, ixaA_0, ixaA_1, ixaA_t0, ixaA_t1, le_pl, rg_mkk, mkK_int])

theorem dv_Tk (d : DV) (h : goodD (.st [.int .i64, .int .i64, .int .i64, .st [.int .i64, .int .i64], .st [.int .i64, .int .i64], .int .i64, .int .i64, .int .i64, .int .i64, .int .i64, .int .i64]) d) : ∃ x : Tk, (fun _ => True) x ∧ ∀ n, layD n (.st [.int .i64, .int .i64, .int .i64, .st [.int .i64, .int .i64], .st [.int .i64, .int .i64], .int .i64, .int .i64, .int .i64, .int .i64, .int .i64, .int .i64]) d = (Tk.c x, []) := by
  obtain ⟨l1, rfl, q1⟩ := good_st h
  obtain ⟨d1_0, r1_0, rfl, h1_0, g1_0⟩ := goodL_cons q1
  obtain ⟨n2, rfl, lo2, hi2⟩ := good_i64 h1_0
  obtain ⟨d1_1, r1_1, rfl, h1_1, g1_1⟩ := goodL_cons g1_0
  obtain ⟨n3, rfl, lo3, hi3⟩ := good_i64 h1_1
  obtain ⟨d1_2, r1_2, rfl, h1_2, g1_2⟩ := goodL_cons g1_1
  obtain ⟨n4, rfl, lo4, hi4⟩ := good_i64 h1_2
  obtain ⟨d1_3, r1_3, rfl, h1_3, g1_3⟩ := goodL_cons g1_2
  obtain ⟨l5, rfl, q5⟩ := good_st h1_3
  obtain ⟨d5_0, r5_0, rfl, h5_0, g5_0⟩ := goodL_cons q5
  obtain ⟨n6, rfl, lo6, hi6⟩ := good_i64 h5_0
  obtain ⟨d5_1, r5_1, rfl, h5_1, g5_1⟩ := goodL_cons g5_0
  obtain ⟨n7, rfl, lo7, hi7⟩ := good_i64 h5_1
  obtain rfl := goodL_nil g5_1
  obtain ⟨d1_4, r1_4, rfl, h1_4, g1_4⟩ := goodL_cons g1_3
  obtain ⟨l8, rfl, q8⟩ := good_st h1_4
  obtain ⟨d8_0, r8_0, rfl, h8_0, g8_0⟩ := goodL_cons q8
  obtain ⟨n9, rfl, lo9, hi9⟩ := good_i64 h8_0
  obtain ⟨d8_1, r8_1, rfl, h8_1, g8_1⟩ := goodL_cons g8_0
  obtain ⟨n10, rfl, lo10, hi10⟩ := good_i64 h8_1
  obtain rfl := goodL_nil g8_1
  obtain ⟨d1_5, r1_5, rfl, h1_5, g1_5⟩ := goodL_cons g1_4
  obtain ⟨n11, rfl, lo11, hi11⟩ := good_i64 h1_5
  obtain ⟨d1_6, r1_6, rfl, h1_6, g1_6⟩ := goodL_cons g1_5
  obtain ⟨n12, rfl, lo12, hi12⟩ := good_i64 h1_6
  obtain ⟨d1_7, r1_7, rfl, h1_7, g1_7⟩ := goodL_cons g1_6
  obtain ⟨n13, rfl, lo13, hi13⟩ := good_i64 h1_7
  obtain ⟨d1_8, r1_8, rfl, h1_8, g1_8⟩ := goodL_cons g1_7
  obtain ⟨n14, rfl, lo14, hi14⟩ := good_i64 h1_8
  obtain ⟨d1_9, r1_9, rfl, h1_9, g1_9⟩ := goodL_cons g1_8
  obtain ⟨n15, rfl, lo15, hi15⟩ := good_i64 h1_9
  obtain ⟨d1_10, r1_10, rfl, h1_10, g1_10⟩ := goodL_cons g1_9
  obtain ⟨n16, rfl, lo16, hi16⟩ := good_i64 h1_10
  obtain rfl := goodL_nil g1_10
  exact ⟨⟨n2, n3, n4, n6, n7, n9, n10, n11, n12, n13, n14, n15, n16⟩, trivial, fun n => rfl⟩

theorem dv_Sp (d : DV) (h : goodD (.st [.int .i64, .st [.int .i64, .int .i64], .int .i64, .int .i64, .int .i64]) d) : ∃ x : Sp, (fun _ => True) x ∧ ∀ n, layD n (.st [.int .i64, .st [.int .i64, .int .i64], .int .i64, .int .i64, .int .i64]) d = (Sp.c x, []) := by
  obtain ⟨l17, rfl, q17⟩ := good_st h
  obtain ⟨d17_0, r17_0, rfl, h17_0, g17_0⟩ := goodL_cons q17
  obtain ⟨n18, rfl, lo18, hi18⟩ := good_i64 h17_0
  obtain ⟨d17_1, r17_1, rfl, h17_1, g17_1⟩ := goodL_cons g17_0
  obtain ⟨l19, rfl, q19⟩ := good_st h17_1
  obtain ⟨d19_0, r19_0, rfl, h19_0, g19_0⟩ := goodL_cons q19
  obtain ⟨n20, rfl, lo20, hi20⟩ := good_i64 h19_0
  obtain ⟨d19_1, r19_1, rfl, h19_1, g19_1⟩ := goodL_cons g19_0
  obtain ⟨n21, rfl, lo21, hi21⟩ := good_i64 h19_1
  obtain rfl := goodL_nil g19_1
  obtain ⟨d17_2, r17_2, rfl, h17_2, g17_2⟩ := goodL_cons g17_1
  obtain ⟨n22, rfl, lo22, hi22⟩ := good_i64 h17_2
  obtain ⟨d17_3, r17_3, rfl, h17_3, g17_3⟩ := goodL_cons g17_2
  obtain ⟨n23, rfl, lo23, hi23⟩ := good_i64 h17_3
  obtain ⟨d17_4, r17_4, rfl, h17_4, g17_4⟩ := goodL_cons g17_3
  obtain ⟨n24, rfl, lo24, hi24⟩ := good_i64 h17_4
  obtain rfl := goodL_nil g17_4
  exact ⟨⟨n18, n20, n21, n22, n23, n24⟩, trivial, fun n => rfl⟩

theorem proved : Pure := by
  intro xs hg
  obtain ⟨e0, s0, rfl, u0, v0⟩ := goodL_cons hg
  obtain ⟨x0, p0, b0, k0⟩ := in_sl (c := Tk.c) (P := (fun _ => True)) dv_Tk (fun x => rfl) (by decide) u0
  obtain ⟨w0, o0, e0', r0⟩ := k0 (0)
  obtain ⟨e1, s1, rfl, u1, v1⟩ := goodL_cons v0
  obtain ⟨x1, p1, b1, k1⟩ := in_sl (c := Sp.c) (P := (fun _ => True)) dv_Sp (fun x => rfl) (by decide) u1
  obtain ⟨w1, o1, e1', r1⟩ := k1 (o0.length)
  obtain ⟨e2, s2, rfl, u2, v2⟩ := goodL_cons v1
  obtain ⟨n25, rfl, lo25, hi25⟩ := good_i64 u2
  obtain rfl := goodL_nil v2
  have := law x0 w0 x1 w1 n25 (o0 ++ (o1)) (by have := r0 ([] : List Ob) (o1) (by simp); simp only [List.append_nil, List.nil_append, List.append_assoc] at this; exact this) (by have := r1 (o0) [] (by simp); simp only [List.append_nil, List.nil_append, List.append_assoc] at this; exact this)
  simpa only [layA, layD, layL, argA, shapes, e0', e1', List.nil_append, List.cons_append, List.append_nil, List.append_assoc, List.length_nil, List.length_append, Nat.add_zero, Nat.zero_add, List.headD_cons] using this

end Go.Proofs.Ytpcmmbbkidojoaa.MyGateCosts
