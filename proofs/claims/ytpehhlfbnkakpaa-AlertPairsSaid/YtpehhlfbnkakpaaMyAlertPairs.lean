/- The law AlertPairs: the abstract machine answers true. No condition. -/
import Derived.Test.YtpehhlfbnkakpaaInAlertPairs
import Derived.Test.YtpehhlfbnkakpaaEvaY
import Derived.Test.YtpehhlfbnkakpaaAlC
namespace Go.Proofs.Ytpehhlfbnkakpaa.MyAlertPairs
open Go Go.Proofs.Ytpehhlfbnkakpaa.Eva Go.Proofs.Ytpehhlfbnkakpaa.CodeAll Go.Proofs.Ytpehhlfbnkakpaa.InAlertPairs Go.Proofs.Ytpehhlfbnkakpaa.Fl
set_option linter.unusedVariables false
set_option linter.unusedSimpArgs false
set_option maxRecDepth 10000
set_option maxHeartbeats 4000000

theorem innA_pre {F : T → T → Int × Int} {a : T} {i : Nat} : ∀ (r : List T) (j : Nat) (acc : List Tri), (innA F a i r j acc).2 = 0 → acc <+: (innA F a i r j acc).1
  | [], j, acc, _ => List.prefix_refl acc
  | b :: r, j, acc, h => by
    simp only [innA] at h ⊢
    by_cases c1 : ((F a b).2 == 0) = true
    · rw [if_pos c1] at h ⊢
      exact (List.prefix_append _ _).trans (innA_pre r (j + 1) _ h)
    rw [if_neg c1] at h ⊢
    by_cases c2 : ((F a b).2 == 8) = true
    · rw [if_pos c2] at h ⊢
      exact innA_pre r (j + 1) _ h
    rw [if_neg c2] at h ⊢
    by_cases c3 : ((F a b).2 == 12) = true
    · rw [if_pos c3] at h ⊢
      exact innA_pre r (j + 1) _ h
    rw [if_neg c3] at h ⊢
    simp only at h
    exact absurd h (by simpa using c1)
theorem outA_pre {F : T → T → Int × Int} : ∀ (r : List T) (i : Nat) (acc : List Tri), (outA F r i acc).2 = 0 → acc <+: (outA F r i acc).1
  | [], i, acc, _ => List.prefix_refl acc
  | a :: r, i, acc, h => by
    simp only [outA] at h ⊢
    by_cases c : (innA F a i r (i + 1) acc).2 = 0
    · rw [if_pos c] at h ⊢
      exact (innA_pre r (i + 1) acc c).trans (outA_pre r (i + 1) _ h)
    · rw [if_neg c] at h
      exact absurd h c
theorem outA_err {F : T → T → Int × Int} : ∀ (r : List T) (i : Nat) (acc : List Tri), (outA F r i acc).2 ≠ 0 → (outA F r i acc).1 = []
  | [], i, acc, h => absurd rfl h
  | a :: r, i, acc, h => by
    simp only [outA] at h ⊢
    by_cases c : (innA F a i r (i + 1) acc).2 = 0
    · rw [if_pos c] at h ⊢
      exact outA_err r (i + 1) _ h
    · rw [if_neg c]
theorem allT_err {l : List T} {lat ver secs accel climb : Int} (h : (allT l lat ver secs accel climb).2 ≠ 0) : (allT l lat ver secs accel climb).1 = [] := by
  unfold allT at h ⊢
  by_cases c1 : 32 < l.length
  · rw [if_pos c1]
  rw [if_neg c1] at h ⊢
  by_cases c2 : l.length = 1
  · rw [if_pos c2]; split <;> rfl
  rw [if_neg c2] at h ⊢
  exact outA_err _ _ _ h
theorem allT_ok {l : List T} {lat ver secs accel climb : Int} {L : List Tri} (h : allT l lat ver secs accel climb = (L, 0)) : outA (fun a b => alT (possT lat ver) a b lat ver secs accel climb) l 0 [] = (L, 0) := by
  unfold allT at h
  by_cases c1 : 32 < l.length
  · rw [if_pos c1] at h; simp only [Prod.mk.injEq] at h; omega
  rw [if_neg c1] at h
  by_cases c2 : l.length = 1
  · rw [if_pos c2] at h
    obtain ⟨a, rfl⟩ := List.length_eq_one_iff.1 c2
    have : L = [] := by
      split at h
      · simp only [Prod.mk.injEq] at h; exact h.1.symm
      · simp only [Prod.mk.injEq] at h; exact h.1.symm
    subst this
    simp only [outA, innA, if_true]
  · rw [if_neg c2] at h; exact h
theorem take_next {α : Type} {L : List α} {k : Nat} {x : α} (h : L.take k ++ [x] <+: L) (hk : k ≤ L.length) : L[k]? = some x ∧ L.take (k + 1) = L.take k ++ [x] ∧ k < L.length := by
  obtain ⟨t, ht⟩ := h
  have hl : (L.take k).length = k := by rw [List.length_take]; omega
  have h1 : L[k]? = some x := by
    conv => lhs; rw [← ht]
    rw [List.append_assoc, List.getElem?_append_right (by omega), hl]; simp
  have h2 := (List.getElem?_eq_some_iff.1 h1).1
  refine ⟨h1, ?_, h2⟩
  rw [List.take_add_one, h1]; rfl

theorem first_nc (A B : Ob) (H : List Ob) : ncall E 27 [.sl false (H.length + 2) 0 20 0 2, .agg [.int .i64 10, .int .i64 1000], .int .i64 1, .int .i64 0, .int .i64 0] (H ++ [A, B, ⟨zrep 2 T.zero.c, 0, 20, true, true⟩]) = some (.tup [.sl false (H.length + 3) 0 3 0 1, .int .i64 0], [⟨[.int .i64 0, .int .i64 1, .int .i64 0], 0, 3, true, true⟩]) := by
  have hs : SlL (H ++ [A, B, ⟨zrep 2 T.zero.c, 0, 20, true, true⟩]) (.sl false (H.length + 2) 0 20 0 2) T.c 20 [T.zero, T.zero] :=
    ⟨fun _ => rfl, by decide, rfl, Or.inr ⟨_, 0, 0, ⟨zrep 2 T.zero.c, 0, 20, true, true⟩, rfl, by simp [rdObj], by decide, rfl⟩⟩
  have h := all_run hs 10 1000 1 0 0
  have e : allT [T.zero, T.zero] 10 1000 1 0 0 = ([⟨0, 1, 0⟩], 0) := by rfl
  rw [e] at h
  have h2 := ncall_some.2 h
  rw [h2]
  simp [outV, outO, flat, Tri.c]

theorem law (l : List T) (V : AV) (lat ver seconds : Int) (H : List Ob) (hs : SlL H V T.c 20 l) : ∃ r, ecall E 7 [V, .agg [.int .i64 lat, .int .i64 ver], .int .i64 seconds] H = some (.bool true, r) := by
  refine call_true e7 rfl (Nat.le_of_ble_eq_true rfl) ?_
  have hw1 := fun H => within_pc seconds 0 20 H (by decide)
  obtain ⟨s0, s1⟩ := wi_bd (n := seconds) (lo := 0) (hi := 20) (by decide) (by decide) (by decide)
  generalize wi seconds 0 20 = s at hw1 s0 s1
  have hlen := hs.len
  have hmin : min (l.length : Int) 4 = ((min l.length 4 : Nat) : Int) := by omega
  obtain ⟨V', hV1, hV2, _⟩ := hs.slc (a := none) (b := some ((min l.length 4 : Nat) : Int)) (lo := 0) (hi := min l.length 4) rfl rfl (by omega) (by omega)
  simp only [List.drop_zero, Nat.sub_zero] at hV2
  generalize hl' : l.take (min l.length 4) = l' at hV2
  have hl4 : l'.length ≤ 4 := by rw [← hl', List.length_take]; omega
  have hA := fun x => ncall_some.2 (all_run (hV2.keep x) lat ver s 1 5)
  generalize hR : allT l' lat ver s 1 5 = R at hA
  obtain ⟨L, e⟩ := R
  have hlen' : ∀ k, lenvA false (outV k 3 L.length) = some (.int .i64 L.length) := fun k => by
    unfold outV
    split
    · rename_i h; rw [h]; rfl
    · rfl
  have z1 := first_nc
  simp only [T.c, T.zero] at z1
  have z2 : (2 : Nat) * 160 ≤ appLim := by decide
  have z3 : ([.int .i64 0, .int .i64 0, .int .i64 0, .int .i64 0, .int .i64 0, .int .i64 0, .int .i64 0, .int .i64 0, .int .i64 0, .int .i64 0, .int .i64 0, .int .i64 0, .int .i64 0, .int .i64 0, .int .i64 0, .int .i64 0, .int .i64 0, .int .i64 0, .int .i64 0, .int .i64 0] : List AV) ≠ [] := by simp
  have h2 := hV2.len
  have n1 : (((1 : Nat) : Int) != 1) = false := rfl
  have n2 : ((0 : Int) < ((1 : Nat) : Int)) = True := by simp
  simp (config := {maxSteps := 8000000}) only [c7, rg_calln, ncallV_fn, z1, z2, z3, hlen, hlen', h2, hmin, hV1, hw1, hA, kq_slc, vq_slc, Int.reduceToNat, Int.reduceLE, bne_self_eq_false, BEq.rfl, Nat.reduceMul, n1, n2, wc_seq, wc_reg, wc_cond_t, wc_cond_k, wc_blk, wc_loop, wc_exit, wc_ret, wc_skip, thenQ_n, thenQ_e, thenQ_r, leaveQ_n, leaveQ_e, leaveQ_r, exOk_n, exOk_r, rvq_nil, rvq_t, rvq_c1, rvq_cn, mkRes1, mkRes2, mkRes3, rg_nil, rg_gcall, rg_callp, avoids_nil, avoids_st, ptrId_ptr, apart_ptr, bne_self_eq_false, Nat.add_eq_left, Nat.left_eq_add, Nat.add_left_cancel_iff, decide_true, decide_false, decide_not, Nat.succ_ne_self, pcallV_fn, im_pcf, gv_pcf, im_pc10, gv_pc10, im_pc20, gv_pc20, im_pc21, gv_pc21, im_pc30, gv_pc30, im_pc31, gv_pc31, im_pc32, gv_pc32, im_pc40, gv_pc40, im_pc41, gv_pc41, im_pc42, gv_pc42, im_pc43, gv_pc43, im_pc50, gv_pc50, im_pc51, gv_pc51, im_pc52, gv_pc52, im_pc53, gv_pc53, im_pc54, gv_pc54, rg_new, rg_box, rg_mks, rg_st, rg_iad, rg_iadg, rg_q, rg_qg, updO_some, updO_none, ev_t, ev_k, upd_at, ofL_zero, ofL_succ, ofL_nil, qt_mv, qt_pick, qt_mk, qt_ld1, qt_ldn, qt_nchk, qt_bin, qt_eqs, qt_eqn, qt_un, qt_cvi, qt_cvs, qt_mkf, qt_slc, qt_slz, qt_sla, qt_sls, qt_fad, qt_fld1, qt_fldn, qt_iaa, qt_ixa, qt_ixs, qt_ext, qt_lenv, qt_lenc, qt_capv, qt_mnx, kq_mv, vq_mv, kq_pick, vq_pick, kq_fad, vq_fad, kq_ld1, vq_ld1, kq_ldn, vq_ldn, kq_bin, vq_bin, kq_un, vq_un, kq_ext, vq_ext, kq_nchk, vq_nchk, kq_mk, vq_mk, kq_eqb, vq_eqb, kq_eqs, vq_eqs, kq_eqn, vq_eqn, kq_cvi, vq_cvi, kq_mkf, vq_mkf, kq_slc, vq_slc, kq_fld1, vq_fld1, kq_fldn, vq_fldn, kq_lenv, vq_lenv, kq_lenc, vq_lenc, kq_mnx, vq_mnx, isPtr_ptr, isBool_bool, bv_bool, fadA_ptr, ld1A_ptr, ldnA_ptr, getC_zero, getC_succ, cells_agg, cells_int, cells_bool, cells_str, cells_sl, cells_ptr, isTup_agg, isTup_int, isTup_bool, isTup_str, isTup_sl, isTup_ptr, sc_int, sc_bool, sc_str, pick_t, pick_f, nchkA_ptr, nchkA_fn, lay_nil, lay_cons, wr_def, eqbA_b, eqsA_agg, aeqs_nil, aeqs_i, aeqs_b, aeqs_s, eqnA_sl, eqnA_s0, cviA_i, obd_none, obd_some, toI_int, fld1A_agg, fldnA_agg, lenvA_sl, lenvA_s0, lenvA_str, amn_nil, amn_max, amn_min, idxOk_sl, idxV_sl, abin_add, abin_sub, abin_mul, abin_quo, abin_rem, abin_eql, abin_neq, abin_lss, abin_leq, abin_gtr, abin_geq, abin_seql, abin_sneq, aun_neg, aun_not, aext_tup, im_true, im_fad, im_ld1, im_ldn, im_binl, im_binr, im_un, im_bool, im_ext, gv_gv, gv_fad, gv_ld1, gv_ldn, gv_binl, gv_binr, gv_un, gv_ext, gv_pick, pick_or, pick_and, rd_new, rd_new0, rd_cons0, rd_consS, obOf, stOk_ptr, stH_ptr, put_new, put_new0, put_0, put_s, List.all_cons, List.all_nil, List.map_cons, List.map_nil, List.length_cons, List.length_nil, List.take_zero, List.take_succ_cons, List.take_nil, List.drop_zero, List.drop_succ_cons, List.drop_nil, Nat.reduceAdd, Nat.reduceMul, Nat.reduceSub, if_true, Nat.reduceLT, Nat.reduceLeDiff, ite_true, ite_false, Nat.reduceEqDiff, if_false, Bool.not_false, Bool.not_true, Bool.and_true, Bool.true_and, Bool.false_and, Bool.and_false, Bool.or_true, Bool.true_or, Bool.or_false, Bool.false_or, reduceCtorEq, ne_eq, not_false_eq_true, not_true_eq_false, List.getD, List.getElem?_cons_zero, List.getElem?_cons_succ, Option.getD_some, Option.bind_some, Option.map_some, Option.isSome_some, Nat.zero_add, Nat.add_zero, Bool.false_eq_true, reduceIte, List.length_append, List.append_assoc, List.cons_append, List.nil_append, true_and, and_true, and_self, Nat.le_refl, Nat.le_add_right, Option.some.injEq, true_implies, false_implies, forall_const, implies_true, Int.reduceNeg, avoids_none, eq_self, Prod.mk.injEq, AV.fn.injEq, List.self_eq_append_right, List.append_nil, exists_eq_left, exists_eq_left', exists_and_left, exists_eq_right, exists_and_right, and_assoc, List.cons_append, List.nil_append, List.map_cons, List.map_nil, gd_tt, gd_tf, gd_ft, gd_ff, im_t, im_f, gv_t, gv_f, im_eqbl, im_eqbr, gv_eqbl, gv_eqbr, im_eqsl, im_eqsr, gv_eqsl, gv_eqsr, im_eqn, gv_eqn, im_cvi, gv_cvi, im_fld1, gv_fld1, im_fldn, gv_fldn, im_lenv, gv_lenv, wnt_bool, wnt_gv, wnt_und, gv_pk1, gv_pk2, rg_appk, idx_gl, idx_gr, iok_gl, iok_gr, isPtr_fad, fad_fad, kq_ixa, vq_ixa, ixaA_0, ixaA_1, ixaA_t0, ixaA_t1, le_pl, rg_mkk, mkK_int]
  refine ⟨fun he => ?_, fun he => ?_⟩
  · have h := allT_err (l := l') (lat := lat) (ver := ver) (secs := s) (accel := 1) (climb := 5) (by rw [hR]; simpa using he)
    rw [hR] at h
    simp only at h
    subst h; rfl
  have he' : e = 0 := by simpa using he
  subst he'
  have hgo0 := allT_ok hR
  generalize hFF : (fun a b => alT (possT lat ver) a b lat ver s 1 5) = F at hgo0
  refine W_loop (fun q f1 h1 => ∃ i kk : Nat, q = l'.length - i ∧ i ≤ l'.length ∧ kk ≤ L.length ∧ f1 0 = V' ∧ f1 2 = .int .i64 s ∧ f1 4 = .ptr H.length 0 0 ∧ f1 11 = .int .i64 0 ∧ f1 12 = .int .i64 kk ∧ f1 57 = V' ∧ f1 58 = .int .i64 l'.length ∧ f1 59 = .int .i64 i ∧
    rdObj h1 H.length 0 = some ⟨[.int .i64 lat, .int .i64 ver], 0, 0, true, true⟩ ∧ SlL h1 (f1 10) Tri.c 3 L ∧ outA F (l'.drop i) i (L.take kk) = (L, 0)) (by simp) l'.length ⟨0, 0, rfl, Nat.zero_le _, Nat.zero_le _, rfl, rfl, rfl, rfl, rfl, rfl, rfl, rfl, by simp [rdObj], ?_, hgo0⟩ ?_
  · refine ⟨fun _ => rfl, by decide, ?_⟩
    have := out_rd (h := H ++ [⟨[.int .i64 lat, .int .i64 ver], 0, 0, true, true⟩, ⟨[.int .i64 10, .int .i64 1000], 0, 0, true, true⟩, ⟨zrep 2 T.zero.c, 0, 20, true, true⟩, ⟨[.int .i64 0, .int .i64 1, .int .i64 0], 0, 3, true, true⟩]) (sz := 3) (k := L.length) (cs := flat Tri.c L) (flat_len (c := Tri.c) (k := 3) (fun _ => rfl) L)
    refine (?_ : RdL _ (outV (H.length + 4) 3 L.length) 3 _ _)
    simpa [T.c, T.zero] using this
  rintro q f1 h1 hn1 ht ⟨i, kk, rfl, hi, hkk, e0, e2, e4, e11, e12, e57, e58, e59, r4, hU, hgo⟩
  rw [List.take_left] at ht
  have hH := take_eq ht
  generalize h1.drop H.length = y at hH
  subst hH
  by_cases hil : i < l'.length
  · have hil' : decide ((i : Int) < (l'.length : Int)) = true := decide_eq_true (by omega)
    obtain ⟨a, ha⟩ : ∃ a, l'[i]? = some a := ⟨_, List.getElem?_eq_getElem hil⟩
    have hd : l'.drop i = a :: l'.drop (i + 1) := by
      rw [List.drop_eq_getElem_cons hil]; congr 1
      rw [List.getElem?_eq_getElem hil] at ha; simpa using ha
    have hwi : IntKind.i64.wrap ((i : Int) + 1) = ((i + 1 : Nat) : Int) := by rw [wrap64 (by omega) (by omega)]; omega
    rw [hd] at hgo
    simp only [outA] at hgo
    simp (config := {maxSteps := 8000000}) only [e0, e2, e4, e11, e12, e57, e58, e59, hil', hwi, hn1, wc_seq, wc_reg, wc_cond_t, wc_cond_k, wc_blk, wc_loop, wc_exit, wc_ret, wc_skip, thenQ_n, thenQ_e, thenQ_r, leaveQ_n, leaveQ_e, leaveQ_r, exOk_n, exOk_r, rvq_nil, rvq_t, rvq_c1, rvq_cn, mkRes1, mkRes2, mkRes3, rg_nil, rg_gcall, rg_callp, avoids_nil, avoids_st, ptrId_ptr, apart_ptr, bne_self_eq_false, Nat.add_eq_left, Nat.left_eq_add, Nat.add_left_cancel_iff, decide_true, decide_false, decide_not, Nat.succ_ne_self, pcallV_fn, im_pcf, gv_pcf, im_pc10, gv_pc10, im_pc20, gv_pc20, im_pc21, gv_pc21, im_pc30, gv_pc30, im_pc31, gv_pc31, im_pc32, gv_pc32, im_pc40, gv_pc40, im_pc41, gv_pc41, im_pc42, gv_pc42, im_pc43, gv_pc43, im_pc50, gv_pc50, im_pc51, gv_pc51, im_pc52, gv_pc52, im_pc53, gv_pc53, im_pc54, gv_pc54, rg_new, rg_box, rg_mks, rg_st, rg_iad, rg_iadg, rg_q, rg_qg, updO_some, updO_none, ev_t, ev_k, upd_at, ofL_zero, ofL_succ, ofL_nil, qt_mv, qt_pick, qt_mk, qt_ld1, qt_ldn, qt_nchk, qt_bin, qt_eqs, qt_eqn, qt_un, qt_cvi, qt_cvs, qt_mkf, qt_slc, qt_slz, qt_sla, qt_sls, qt_fad, qt_fld1, qt_fldn, qt_iaa, qt_ixa, qt_ixs, qt_ext, qt_lenv, qt_lenc, qt_capv, qt_mnx, kq_mv, vq_mv, kq_pick, vq_pick, kq_fad, vq_fad, kq_ld1, vq_ld1, kq_ldn, vq_ldn, kq_bin, vq_bin, kq_un, vq_un, kq_ext, vq_ext, kq_nchk, vq_nchk, kq_mk, vq_mk, kq_eqb, vq_eqb, kq_eqs, vq_eqs, kq_eqn, vq_eqn, kq_cvi, vq_cvi, kq_mkf, vq_mkf, kq_slc, vq_slc, kq_fld1, vq_fld1, kq_fldn, vq_fldn, kq_lenv, vq_lenv, kq_lenc, vq_lenc, kq_mnx, vq_mnx, isPtr_ptr, isBool_bool, bv_bool, fadA_ptr, ld1A_ptr, ldnA_ptr, getC_zero, getC_succ, cells_agg, cells_int, cells_bool, cells_str, cells_sl, cells_ptr, isTup_agg, isTup_int, isTup_bool, isTup_str, isTup_sl, isTup_ptr, sc_int, sc_bool, sc_str, pick_t, pick_f, nchkA_ptr, nchkA_fn, lay_nil, lay_cons, wr_def, eqbA_b, eqsA_agg, aeqs_nil, aeqs_i, aeqs_b, aeqs_s, eqnA_sl, eqnA_s0, cviA_i, obd_none, obd_some, toI_int, fld1A_agg, fldnA_agg, lenvA_sl, lenvA_s0, lenvA_str, amn_nil, amn_max, amn_min, idxOk_sl, idxV_sl, abin_add, abin_sub, abin_mul, abin_quo, abin_rem, abin_eql, abin_neq, abin_lss, abin_leq, abin_gtr, abin_geq, abin_seql, abin_sneq, aun_neg, aun_not, aext_tup, im_true, im_fad, im_ld1, im_ldn, im_binl, im_binr, im_un, im_bool, im_ext, gv_gv, gv_fad, gv_ld1, gv_ldn, gv_binl, gv_binr, gv_un, gv_ext, gv_pick, pick_or, pick_and, rd_new, rd_new0, rd_cons0, rd_consS, obOf, stOk_ptr, stH_ptr, put_new, put_new0, put_0, put_s, List.all_cons, List.all_nil, List.map_cons, List.map_nil, List.length_cons, List.length_nil, List.take_zero, List.take_succ_cons, List.take_nil, List.drop_zero, List.drop_succ_cons, List.drop_nil, Nat.reduceAdd, Nat.reduceMul, Nat.reduceSub, if_true, Nat.reduceLT, Nat.reduceLeDiff, ite_true, ite_false, Nat.reduceEqDiff, if_false, Bool.not_false, Bool.not_true, Bool.and_true, Bool.true_and, Bool.false_and, Bool.and_false, Bool.or_true, Bool.true_or, Bool.or_false, Bool.false_or, reduceCtorEq, ne_eq, not_false_eq_true, not_true_eq_false, List.getD, List.getElem?_cons_zero, List.getElem?_cons_succ, Option.getD_some, Option.bind_some, Option.map_some, Option.isSome_some, Nat.zero_add, Nat.add_zero, Bool.false_eq_true, reduceIte, List.length_append, List.append_assoc, List.cons_append, List.nil_append, true_and, and_true, and_self, Nat.le_refl, Nat.le_add_right, Option.some.injEq, true_implies, false_implies, forall_const, implies_true, Int.reduceNeg, avoids_none, eq_self, Prod.mk.injEq, AV.fn.injEq, List.self_eq_append_right, List.append_nil, exists_eq_left, exists_eq_left', exists_and_left, exists_eq_right, exists_and_right, and_assoc, List.cons_append, List.nil_append, List.map_cons, List.map_nil, gd_tt, gd_tf, gd_ft, gd_ff, im_t, im_f, gv_t, gv_f, im_eqbl, im_eqbr, gv_eqbl, gv_eqbr, im_eqsl, im_eqsr, gv_eqsl, gv_eqsr, im_eqn, gv_eqn, im_cvi, gv_cvi, im_fld1, gv_fld1, im_fldn, gv_fldn, im_lenv, gv_lenv, wnt_bool, wnt_gv, wnt_und, gv_pk1, gv_pk2, rg_appk, idx_gl, idx_gr, iok_gl, iok_gr, isPtr_fad, fad_fad, kq_ixa, vq_ixa, ixaA_0, ixaA_1, ixaA_t0, ixaA_t1, le_pl, rg_mkk, mkK_int]
    generalize hR2 : innA F a i (l'.drop (i + 1)) (i + 1) (L.take kk) = R2 at hgo
    have hR20 : R2.2 = 0 ∧ outA F (l'.drop (i + 1)) (i + 1) R2.1 = (L, 0) := by
      by_cases c : R2.2 = 0
      · rw [if_pos c] at hgo; exact ⟨c, hgo⟩
      · rw [if_neg c] at hgo; simp only [Prod.mk.injEq] at hgo; exact absurd hgo.2 c
    clear hgo
    refine W_loop (fun q f2 h2 => ∃ j k2 : Nat, q = l'.length - j ∧ j ≤ l'.length ∧ k2 ≤ L.length ∧ f2 0 = V' ∧ f2 2 = .int .i64 s ∧ f2 4 = .ptr H.length 0 0 ∧ f2 11 = .int .i64 0 ∧ f2 12 = .int .i64 k2 ∧ f2 13 = .int .i64 i ∧ f2 14 = .int .i64 j ∧ f2 57 = V' ∧ f2 58 = .int .i64 l'.length ∧ f2 59 = .int .i64 i ∧
      rdObj h2 H.length 0 = some ⟨[.int .i64 lat, .int .i64 ver], 0, 0, true, true⟩ ∧ SlL h2 (f2 10) Tri.c 3 L ∧ innA F a i (l'.drop j) j (L.take k2) = R2) (by simp) (l'.length - (i + 1)) ⟨i + 1, kk, rfl, by omega, hkk, e0, e2, e4, e11, e12, rfl, rfl, e57, e58, e59, r4, hU, hR2⟩ ?_
    rintro q f2 h2 hn2 ht2 ⟨j, k2, rfl, hj, hk2, g0, g2, g4, g11, g12, g13, g14, g57, g58, g59, s4, hU2, hgo2⟩
    rw [List.take_left] at ht2
    have hH2 := take_eq ht2
    generalize h2.drop H.length = z at hH2
    subst hH2
    have hlen2 := hV2.len
    by_cases hjl : j < l'.length
    · have hjl' : decide ((j : Int) < (l'.length : Int)) = true := decide_eq_true (by omega)
      obtain ⟨b, hb⟩ : ∃ b, l'[j]? = some b := ⟨_, List.getElem?_eq_getElem hjl⟩
      have hd2 : l'.drop j = b :: l'.drop (j + 1) := by
        rw [List.drop_eq_getElem_cons hjl]; congr 1
        rw [List.getElem?_eq_getElem hjl] at hb; simpa using hb
      have hwj : IntKind.i64.wrap ((j : Int) + 1) = ((j + 1 : Nat) : Int) := by rw [wrap64 (by omega) (by omega)]; omega
      have hoki : idxOk 20 V' (.int .i64 (i : Int)) := hV2.ok (by omega) (by omega)
      have hokj : idxOk 20 V' (.int .i64 (j : Int)) := hV2.ok (by omega) (by omega)
      have hldi := (hV2.keep z).ldn (i := (i : Int)) (kk := .i64) (x := a) (by omega) (by simpa using ha)
      have hldj := (hV2.keep z).ldn (i := (j : Int)) (kk := .i64) (x := b) (by omega) (by simpa using hb)
      have hfi := fun H => first_pc a b lat ver s 1 5 H
      have hFab : F a b = alT (possT lat ver) a b lat ver s 1 5 := by rw [← hFF]
      rw [← hFab] at hfi
      rw [hd2] at hgo2
      simp only [innA] at hgo2
      generalize F a b = X at hfi hgo2
      simp only [T.c, iout] at hldi hldj hfi
      have hlU := hU2.len
      by_cases k1 : (X.2 == 0) = true
      · rw [if_pos k1] at hgo2
        have hpre : L.take k2 ++ [⟨(i : Int), (j : Int), X.1⟩] <+: L := by
          have p1 := innA_pre (F := F) (a := a) (i := i) (l'.drop (j + 1)) (j + 1) (L.take k2 ++ [⟨(i : Int), (j : Int), X.1⟩]) (by rw [hgo2]; exact hR20.1)
          have p2 := outA_pre (F := F) (l'.drop (i + 1)) (i + 1) R2.1 (by rw [hR20.2])
          rw [hgo2] at p1
          rw [hR20.2] at p2
          exact p1.trans p2
        obtain ⟨t1, t2, t3⟩ := take_next hpre hk2
        have hbig : L.length ≤ 1125899906842624 := by
          have p3 : ∀ (r : List T) (i : Nat) (acc : List Tri), r.length ≤ 32 → (outA F r i acc).1.length ≤ acc.length + r.length * 32 := by
            intro r
            induction r with
            | nil => intro i acc _; simp [outA]
            | cons a r ih =>
              intro i acc hr
              simp only [outA]
              split
              · have := innA_len (F := F) (a := a) (i := i) r (i + 1) acc
                have := ih (i + 1) (innA F a i r (i + 1) acc).1 (by simp at hr; omega)
                simp at hr ⊢; omega
              · simp
          have := p3 l' 0 [] (by omega)
          rw [hgo0] at this
          simp at this; omega
        have hne : ((k2 : Int) == (L.length : Int)) = false := by simp; omega
        have hokk : idxOk 3 (f2 10) (.int .i64 (k2 : Int)) := hU2.ok (by omega) (by omega)
        have hldk := hU2.ldn (i := (k2 : Int)) (kk := .i64) (x := ⟨(i : Int), (j : Int), X.1⟩) (by omega) (by simpa using t1)
        have hwk : IntKind.i64.wrap ((k2 : Int) + 1) = ((k2 + 1 : Nat) : Int) := by rw [wrap64 (by omega) (by omega)]; omega
        simp only [Tri.c] at hldk
        simp (config := {maxSteps := 8000000}) only [g0, g2, g4, g11, g12, g13, g14, g57, g58, g59, s4, hlen2, hlU, hjl', hwj, hwk, hoki, hokj, isPtr_idx hoki, isPtr_idx hokj, hldi, hldj, hfi, hn2, k1, hne, hokk, isPtr_idx hokk, hldk, BEq.rfl, wc_seq, wc_reg, wc_cond_t, wc_cond_k, wc_blk, wc_loop, wc_exit, wc_ret, wc_skip, thenQ_n, thenQ_e, thenQ_r, leaveQ_n, leaveQ_e, leaveQ_r, exOk_n, exOk_r, rvq_nil, rvq_t, rvq_c1, rvq_cn, mkRes1, mkRes2, mkRes3, rg_nil, rg_gcall, rg_callp, avoids_nil, avoids_st, ptrId_ptr, apart_ptr, bne_self_eq_false, Nat.add_eq_left, Nat.left_eq_add, Nat.add_left_cancel_iff, decide_true, decide_false, decide_not, Nat.succ_ne_self, pcallV_fn, im_pcf, gv_pcf, im_pc10, gv_pc10, im_pc20, gv_pc20, im_pc21, gv_pc21, im_pc30, gv_pc30, im_pc31, gv_pc31, im_pc32, gv_pc32, im_pc40, gv_pc40, im_pc41, gv_pc41, im_pc42, gv_pc42, im_pc43, gv_pc43, im_pc50, gv_pc50, im_pc51, gv_pc51, im_pc52, gv_pc52, im_pc53, gv_pc53, im_pc54, gv_pc54, rg_new, rg_box, rg_mks, rg_st, rg_iad, rg_iadg, rg_q, rg_qg, updO_some, updO_none, ev_t, ev_k, upd_at, ofL_zero, ofL_succ, ofL_nil, qt_mv, qt_pick, qt_mk, qt_ld1, qt_ldn, qt_nchk, qt_bin, qt_eqs, qt_eqn, qt_un, qt_cvi, qt_cvs, qt_mkf, qt_slc, qt_slz, qt_sla, qt_sls, qt_fad, qt_fld1, qt_fldn, qt_iaa, qt_ixa, qt_ixs, qt_ext, qt_lenv, qt_lenc, qt_capv, qt_mnx, kq_mv, vq_mv, kq_pick, vq_pick, kq_fad, vq_fad, kq_ld1, vq_ld1, kq_ldn, vq_ldn, kq_bin, vq_bin, kq_un, vq_un, kq_ext, vq_ext, kq_nchk, vq_nchk, kq_mk, vq_mk, kq_eqb, vq_eqb, kq_eqs, vq_eqs, kq_eqn, vq_eqn, kq_cvi, vq_cvi, kq_mkf, vq_mkf, kq_slc, vq_slc, kq_fld1, vq_fld1, kq_fldn, vq_fldn, kq_lenv, vq_lenv, kq_lenc, vq_lenc, kq_mnx, vq_mnx, isPtr_ptr, isBool_bool, bv_bool, fadA_ptr, ld1A_ptr, ldnA_ptr, getC_zero, getC_succ, cells_agg, cells_int, cells_bool, cells_str, cells_sl, cells_ptr, isTup_agg, isTup_int, isTup_bool, isTup_str, isTup_sl, isTup_ptr, sc_int, sc_bool, sc_str, pick_t, pick_f, nchkA_ptr, nchkA_fn, lay_nil, lay_cons, wr_def, eqbA_b, eqsA_agg, aeqs_nil, aeqs_i, aeqs_b, aeqs_s, eqnA_sl, eqnA_s0, cviA_i, obd_none, obd_some, toI_int, fld1A_agg, fldnA_agg, lenvA_sl, lenvA_s0, lenvA_str, amn_nil, amn_max, amn_min, idxOk_sl, idxV_sl, abin_add, abin_sub, abin_mul, abin_quo, abin_rem, abin_eql, abin_neq, abin_lss, abin_leq, abin_gtr, abin_geq, abin_seql, abin_sneq, aun_neg, aun_not, aext_tup, im_true, im_fad, im_ld1, im_ldn, im_binl, im_binr, im_un, im_bool, im_ext, gv_gv, gv_fad, gv_ld1, gv_ldn, gv_binl, gv_binr, gv_un, gv_ext, gv_pick, pick_or, pick_and, rd_new, rd_new0, rd_cons0, rd_consS, obOf, stOk_ptr, stH_ptr, put_new, put_new0, put_0, put_s, List.all_cons, List.all_nil, List.map_cons, List.map_nil, List.length_cons, List.length_nil, List.take_zero, List.take_succ_cons, List.take_nil, List.drop_zero, List.drop_succ_cons, List.drop_nil, Nat.reduceAdd, Nat.reduceMul, Nat.reduceSub, if_true, Nat.reduceLT, Nat.reduceLeDiff, ite_true, ite_false, Nat.reduceEqDiff, if_false, Bool.not_false, Bool.not_true, Bool.and_true, Bool.true_and, Bool.false_and, Bool.and_false, Bool.or_true, Bool.true_or, Bool.or_false, Bool.false_or, reduceCtorEq, ne_eq, not_false_eq_true, not_true_eq_false, List.getD, List.getElem?_cons_zero, List.getElem?_cons_succ, Option.getD_some, Option.bind_some, Option.map_some, Option.isSome_some, Nat.zero_add, Nat.add_zero, Bool.false_eq_true, reduceIte, List.length_append, List.append_assoc, List.cons_append, List.nil_append, true_and, and_true, and_self, Nat.le_refl, Nat.le_add_right, Option.some.injEq, true_implies, false_implies, forall_const, implies_true, Int.reduceNeg, avoids_none, eq_self, Prod.mk.injEq, AV.fn.injEq, List.self_eq_append_right, List.append_nil, exists_eq_left, exists_eq_left', exists_and_left, exists_eq_right, exists_and_right, and_assoc, List.cons_append, List.nil_append, List.map_cons, List.map_nil, gd_tt, gd_tf, gd_ft, gd_ff, im_t, im_f, gv_t, gv_f, im_eqbl, im_eqbr, gv_eqbl, gv_eqbr, im_eqsl, im_eqsr, gv_eqsl, gv_eqsr, im_eqn, gv_eqn, im_cvi, gv_cvi, im_fld1, gv_fld1, im_fldn, gv_fldn, im_lenv, gv_lenv, wnt_bool, wnt_gv, wnt_und, gv_pk1, gv_pk2, rg_appk, idx_gl, idx_gr, iok_gl, iok_gr, isPtr_fad, fad_fad, kq_ixa, vq_ixa, ixaA_0, ixaA_1, ixaA_t0, ixaA_t1, le_pl, rg_mkk, mkK_int]
        exact ⟨_, by omega, j + 1, rfl, by omega, k2 + 1, by omega, rfl, rfl, hU2, by rw [t2]; exact hgo2⟩
      · rw [if_neg k1] at hgo2
        have k1' : (X.2 == 0) = false := by simpa using k1
        have hgo3 : innA F a i (l'.drop (j + 1)) (j + 1) (L.take k2) = R2 := by
          by_cases k2' : (X.2 == 8) = true
          · rw [if_pos k2'] at hgo2; exact hgo2
          rw [if_neg k2'] at hgo2
          by_cases k3' : (X.2 == 12) = true
          · rw [if_pos k3'] at hgo2; exact hgo2
          rw [if_neg k3'] at hgo2
          subst hgo2
          exact absurd hR20.1 (by simpa using k1)
        simp (config := {maxSteps := 8000000}) only [g0, g2, g4, g11, g12, g13, g14, g57, g58, g59, s4, hlen2, hlU, hjl', hwj, hoki, hokj, isPtr_idx hoki, isPtr_idx hokj, hldi, hldj, hfi, hn2, k1', wc_seq, wc_reg, wc_cond_t, wc_cond_k, wc_blk, wc_loop, wc_exit, wc_ret, wc_skip, thenQ_n, thenQ_e, thenQ_r, leaveQ_n, leaveQ_e, leaveQ_r, exOk_n, exOk_r, rvq_nil, rvq_t, rvq_c1, rvq_cn, mkRes1, mkRes2, mkRes3, rg_nil, rg_gcall, rg_callp, avoids_nil, avoids_st, ptrId_ptr, apart_ptr, bne_self_eq_false, Nat.add_eq_left, Nat.left_eq_add, Nat.add_left_cancel_iff, decide_true, decide_false, decide_not, Nat.succ_ne_self, pcallV_fn, im_pcf, gv_pcf, im_pc10, gv_pc10, im_pc20, gv_pc20, im_pc21, gv_pc21, im_pc30, gv_pc30, im_pc31, gv_pc31, im_pc32, gv_pc32, im_pc40, gv_pc40, im_pc41, gv_pc41, im_pc42, gv_pc42, im_pc43, gv_pc43, im_pc50, gv_pc50, im_pc51, gv_pc51, im_pc52, gv_pc52, im_pc53, gv_pc53, im_pc54, gv_pc54, rg_new, rg_box, rg_mks, rg_st, rg_iad, rg_iadg, rg_q, rg_qg, updO_some, updO_none, ev_t, ev_k, upd_at, ofL_zero, ofL_succ, ofL_nil, qt_mv, qt_pick, qt_mk, qt_ld1, qt_ldn, qt_nchk, qt_bin, qt_eqs, qt_eqn, qt_un, qt_cvi, qt_cvs, qt_mkf, qt_slc, qt_slz, qt_sla, qt_sls, qt_fad, qt_fld1, qt_fldn, qt_iaa, qt_ixa, qt_ixs, qt_ext, qt_lenv, qt_lenc, qt_capv, qt_mnx, kq_mv, vq_mv, kq_pick, vq_pick, kq_fad, vq_fad, kq_ld1, vq_ld1, kq_ldn, vq_ldn, kq_bin, vq_bin, kq_un, vq_un, kq_ext, vq_ext, kq_nchk, vq_nchk, kq_mk, vq_mk, kq_eqb, vq_eqb, kq_eqs, vq_eqs, kq_eqn, vq_eqn, kq_cvi, vq_cvi, kq_mkf, vq_mkf, kq_slc, vq_slc, kq_fld1, vq_fld1, kq_fldn, vq_fldn, kq_lenv, vq_lenv, kq_lenc, vq_lenc, kq_mnx, vq_mnx, isPtr_ptr, isBool_bool, bv_bool, fadA_ptr, ld1A_ptr, ldnA_ptr, getC_zero, getC_succ, cells_agg, cells_int, cells_bool, cells_str, cells_sl, cells_ptr, isTup_agg, isTup_int, isTup_bool, isTup_str, isTup_sl, isTup_ptr, sc_int, sc_bool, sc_str, pick_t, pick_f, nchkA_ptr, nchkA_fn, lay_nil, lay_cons, wr_def, eqbA_b, eqsA_agg, aeqs_nil, aeqs_i, aeqs_b, aeqs_s, eqnA_sl, eqnA_s0, cviA_i, obd_none, obd_some, toI_int, fld1A_agg, fldnA_agg, lenvA_sl, lenvA_s0, lenvA_str, amn_nil, amn_max, amn_min, idxOk_sl, idxV_sl, abin_add, abin_sub, abin_mul, abin_quo, abin_rem, abin_eql, abin_neq, abin_lss, abin_leq, abin_gtr, abin_geq, abin_seql, abin_sneq, aun_neg, aun_not, aext_tup, im_true, im_fad, im_ld1, im_ldn, im_binl, im_binr, im_un, im_bool, im_ext, gv_gv, gv_fad, gv_ld1, gv_ldn, gv_binl, gv_binr, gv_un, gv_ext, gv_pick, pick_or, pick_and, rd_new, rd_new0, rd_cons0, rd_consS, obOf, stOk_ptr, stH_ptr, put_new, put_new0, put_0, put_s, List.all_cons, List.all_nil, List.map_cons, List.map_nil, List.length_cons, List.length_nil, List.take_zero, List.take_succ_cons, List.take_nil, List.drop_zero, List.drop_succ_cons, List.drop_nil, Nat.reduceAdd, Nat.reduceMul, Nat.reduceSub, if_true, Nat.reduceLT, Nat.reduceLeDiff, ite_true, ite_false, Nat.reduceEqDiff, if_false, Bool.not_false, Bool.not_true, Bool.and_true, Bool.true_and, Bool.false_and, Bool.and_false, Bool.or_true, Bool.true_or, Bool.or_false, Bool.false_or, reduceCtorEq, ne_eq, not_false_eq_true, not_true_eq_false, List.getD, List.getElem?_cons_zero, List.getElem?_cons_succ, Option.getD_some, Option.bind_some, Option.map_some, Option.isSome_some, Nat.zero_add, Nat.add_zero, Bool.false_eq_true, reduceIte, List.length_append, List.append_assoc, List.cons_append, List.nil_append, true_and, and_true, and_self, Nat.le_refl, Nat.le_add_right, Option.some.injEq, true_implies, false_implies, forall_const, implies_true, Int.reduceNeg, avoids_none, eq_self, Prod.mk.injEq, AV.fn.injEq, List.self_eq_append_right, List.append_nil, exists_eq_left, exists_eq_left', exists_and_left, exists_eq_right, exists_and_right, and_assoc, List.cons_append, List.nil_append, List.map_cons, List.map_nil, gd_tt, gd_tf, gd_ft, gd_ff, im_t, im_f, gv_t, gv_f, im_eqbl, im_eqbr, gv_eqbl, gv_eqbr, im_eqsl, im_eqsr, gv_eqsl, gv_eqsr, im_eqn, gv_eqn, im_cvi, gv_cvi, im_fld1, gv_fld1, im_fldn, gv_fldn, im_lenv, gv_lenv, wnt_bool, wnt_gv, wnt_und, gv_pk1, gv_pk2, rg_appk, idx_gl, idx_gr, iok_gl, iok_gr, isPtr_fad, fad_fad, kq_ixa, vq_ixa, ixaA_0, ixaA_1, ixaA_t0, ixaA_t1, le_pl, rg_mkk, mkK_int]
        exact ⟨_, by omega, j + 1, rfl, by omega, k2, hk2, rfl, rfl, hU2, hgo3⟩
    · have hjl' : decide ((j : Int) < (l'.length : Int)) = false := decide_eq_false (by omega)
      have hd2 : l'.drop j = [] := List.drop_eq_nil_of_le (by omega)
      rw [hd2] at hgo2
      simp only [innA] at hgo2
      subst hgo2
      simp (config := {maxSteps := 8000000}) only [g0, g2, g4, g11, g12, g13, g14, g57, g58, g59, s4, hlen2, hjl', hwi, hn2, wc_seq, wc_reg, wc_cond_t, wc_cond_k, wc_blk, wc_loop, wc_exit, wc_ret, wc_skip, thenQ_n, thenQ_e, thenQ_r, leaveQ_n, leaveQ_e, leaveQ_r, exOk_n, exOk_r, rvq_nil, rvq_t, rvq_c1, rvq_cn, mkRes1, mkRes2, mkRes3, rg_nil, rg_gcall, rg_callp, avoids_nil, avoids_st, ptrId_ptr, apart_ptr, bne_self_eq_false, Nat.add_eq_left, Nat.left_eq_add, Nat.add_left_cancel_iff, decide_true, decide_false, decide_not, Nat.succ_ne_self, pcallV_fn, im_pcf, gv_pcf, im_pc10, gv_pc10, im_pc20, gv_pc20, im_pc21, gv_pc21, im_pc30, gv_pc30, im_pc31, gv_pc31, im_pc32, gv_pc32, im_pc40, gv_pc40, im_pc41, gv_pc41, im_pc42, gv_pc42, im_pc43, gv_pc43, im_pc50, gv_pc50, im_pc51, gv_pc51, im_pc52, gv_pc52, im_pc53, gv_pc53, im_pc54, gv_pc54, rg_new, rg_box, rg_mks, rg_st, rg_iad, rg_iadg, rg_q, rg_qg, updO_some, updO_none, ev_t, ev_k, upd_at, ofL_zero, ofL_succ, ofL_nil, qt_mv, qt_pick, qt_mk, qt_ld1, qt_ldn, qt_nchk, qt_bin, qt_eqs, qt_eqn, qt_un, qt_cvi, qt_cvs, qt_mkf, qt_slc, qt_slz, qt_sla, qt_sls, qt_fad, qt_fld1, qt_fldn, qt_iaa, qt_ixa, qt_ixs, qt_ext, qt_lenv, qt_lenc, qt_capv, qt_mnx, kq_mv, vq_mv, kq_pick, vq_pick, kq_fad, vq_fad, kq_ld1, vq_ld1, kq_ldn, vq_ldn, kq_bin, vq_bin, kq_un, vq_un, kq_ext, vq_ext, kq_nchk, vq_nchk, kq_mk, vq_mk, kq_eqb, vq_eqb, kq_eqs, vq_eqs, kq_eqn, vq_eqn, kq_cvi, vq_cvi, kq_mkf, vq_mkf, kq_slc, vq_slc, kq_fld1, vq_fld1, kq_fldn, vq_fldn, kq_lenv, vq_lenv, kq_lenc, vq_lenc, kq_mnx, vq_mnx, isPtr_ptr, isBool_bool, bv_bool, fadA_ptr, ld1A_ptr, ldnA_ptr, getC_zero, getC_succ, cells_agg, cells_int, cells_bool, cells_str, cells_sl, cells_ptr, isTup_agg, isTup_int, isTup_bool, isTup_str, isTup_sl, isTup_ptr, sc_int, sc_bool, sc_str, pick_t, pick_f, nchkA_ptr, nchkA_fn, lay_nil, lay_cons, wr_def, eqbA_b, eqsA_agg, aeqs_nil, aeqs_i, aeqs_b, aeqs_s, eqnA_sl, eqnA_s0, cviA_i, obd_none, obd_some, toI_int, fld1A_agg, fldnA_agg, lenvA_sl, lenvA_s0, lenvA_str, amn_nil, amn_max, amn_min, idxOk_sl, idxV_sl, abin_add, abin_sub, abin_mul, abin_quo, abin_rem, abin_eql, abin_neq, abin_lss, abin_leq, abin_gtr, abin_geq, abin_seql, abin_sneq, aun_neg, aun_not, aext_tup, im_true, im_fad, im_ld1, im_ldn, im_binl, im_binr, im_un, im_bool, im_ext, gv_gv, gv_fad, gv_ld1, gv_ldn, gv_binl, gv_binr, gv_un, gv_ext, gv_pick, pick_or, pick_and, rd_new, rd_new0, rd_cons0, rd_consS, obOf, stOk_ptr, stH_ptr, put_new, put_new0, put_0, put_s, List.all_cons, List.all_nil, List.map_cons, List.map_nil, List.length_cons, List.length_nil, List.take_zero, List.take_succ_cons, List.take_nil, List.drop_zero, List.drop_succ_cons, List.drop_nil, Nat.reduceAdd, Nat.reduceMul, Nat.reduceSub, if_true, Nat.reduceLT, Nat.reduceLeDiff, ite_true, ite_false, Nat.reduceEqDiff, if_false, Bool.not_false, Bool.not_true, Bool.and_true, Bool.true_and, Bool.false_and, Bool.and_false, Bool.or_true, Bool.true_or, Bool.or_false, Bool.false_or, reduceCtorEq, ne_eq, not_false_eq_true, not_true_eq_false, List.getD, List.getElem?_cons_zero, List.getElem?_cons_succ, Option.getD_some, Option.bind_some, Option.map_some, Option.isSome_some, Nat.zero_add, Nat.add_zero, Bool.false_eq_true, reduceIte, List.length_append, List.append_assoc, List.cons_append, List.nil_append, true_and, and_true, and_self, Nat.le_refl, Nat.le_add_right, Option.some.injEq, true_implies, false_implies, forall_const, implies_true, Int.reduceNeg, avoids_none, eq_self, Prod.mk.injEq, AV.fn.injEq, List.self_eq_append_right, List.append_nil, exists_eq_left, exists_eq_left', exists_and_left, exists_eq_right, exists_and_right, and_assoc, List.cons_append, List.nil_append, List.map_cons, List.map_nil, gd_tt, gd_tf, gd_ft, gd_ff, im_t, im_f, gv_t, gv_f, im_eqbl, im_eqbr, gv_eqbl, gv_eqbr, im_eqsl, im_eqsr, gv_eqsl, gv_eqsr, im_eqn, gv_eqn, im_cvi, gv_cvi, im_fld1, gv_fld1, im_fldn, gv_fldn, im_lenv, gv_lenv, wnt_bool, wnt_gv, wnt_und, gv_pk1, gv_pk2, rg_appk, idx_gl, idx_gr, iok_gl, iok_gr, isPtr_fad, fad_fad, kq_ixa, vq_ixa, ixaA_0, ixaA_1, ixaA_t0, ixaA_t1, le_pl, rg_mkk, mkK_int]
      exact ⟨_, by omega, i + 1, rfl, by omega, k2, hk2, rfl, rfl, hU2, hR20.2⟩
  · have hil' : decide ((i : Int) < (l'.length : Int)) = false := decide_eq_false (by omega)
    have hd : l'.drop i = [] := List.drop_eq_nil_of_le (by omega)
    rw [hd] at hgo
    simp only [outA, Prod.mk.injEq, and_true] at hgo
    have hlU := hU.len
    have hkl : kk = L.length := by
      have := congrArg List.length hgo
      rw [List.length_take] at this; omega
    have hkl' : ((kk : Int) == (L.length : Int)) = true := by simp [hkl]
    simp (config := {maxSteps := 8000000}) only [e0, e2, e4, e11, e12, e57, e58, e59, hil', hlU, hkl', wc_seq, wc_reg, wc_cond_t, wc_cond_k, wc_blk, wc_loop, wc_exit, wc_ret, wc_skip, thenQ_n, thenQ_e, thenQ_r, leaveQ_n, leaveQ_e, leaveQ_r, exOk_n, exOk_r, rvq_nil, rvq_t, rvq_c1, rvq_cn, mkRes1, mkRes2, mkRes3, rg_nil, rg_gcall, rg_callp, avoids_nil, avoids_st, ptrId_ptr, apart_ptr, bne_self_eq_false, Nat.add_eq_left, Nat.left_eq_add, Nat.add_left_cancel_iff, decide_true, decide_false, decide_not, Nat.succ_ne_self, pcallV_fn, im_pcf, gv_pcf, im_pc10, gv_pc10, im_pc20, gv_pc20, im_pc21, gv_pc21, im_pc30, gv_pc30, im_pc31, gv_pc31, im_pc32, gv_pc32, im_pc40, gv_pc40, im_pc41, gv_pc41, im_pc42, gv_pc42, im_pc43, gv_pc43, im_pc50, gv_pc50, im_pc51, gv_pc51, im_pc52, gv_pc52, im_pc53, gv_pc53, im_pc54, gv_pc54, rg_new, rg_box, rg_mks, rg_st, rg_iad, rg_iadg, rg_q, rg_qg, updO_some, updO_none, ev_t, ev_k, upd_at, ofL_zero, ofL_succ, ofL_nil, qt_mv, qt_pick, qt_mk, qt_ld1, qt_ldn, qt_nchk, qt_bin, qt_eqs, qt_eqn, qt_un, qt_cvi, qt_cvs, qt_mkf, qt_slc, qt_slz, qt_sla, qt_sls, qt_fad, qt_fld1, qt_fldn, qt_iaa, qt_ixa, qt_ixs, qt_ext, qt_lenv, qt_lenc, qt_capv, qt_mnx, kq_mv, vq_mv, kq_pick, vq_pick, kq_fad, vq_fad, kq_ld1, vq_ld1, kq_ldn, vq_ldn, kq_bin, vq_bin, kq_un, vq_un, kq_ext, vq_ext, kq_nchk, vq_nchk, kq_mk, vq_mk, kq_eqb, vq_eqb, kq_eqs, vq_eqs, kq_eqn, vq_eqn, kq_cvi, vq_cvi, kq_mkf, vq_mkf, kq_slc, vq_slc, kq_fld1, vq_fld1, kq_fldn, vq_fldn, kq_lenv, vq_lenv, kq_lenc, vq_lenc, kq_mnx, vq_mnx, isPtr_ptr, isBool_bool, bv_bool, fadA_ptr, ld1A_ptr, ldnA_ptr, getC_zero, getC_succ, cells_agg, cells_int, cells_bool, cells_str, cells_sl, cells_ptr, isTup_agg, isTup_int, isTup_bool, isTup_str, isTup_sl, isTup_ptr, sc_int, sc_bool, sc_str, pick_t, pick_f, nchkA_ptr, nchkA_fn, lay_nil, lay_cons, wr_def, eqbA_b, eqsA_agg, aeqs_nil, aeqs_i, aeqs_b, aeqs_s, eqnA_sl, eqnA_s0, cviA_i, obd_none, obd_some, toI_int, fld1A_agg, fldnA_agg, lenvA_sl, lenvA_s0, lenvA_str, amn_nil, amn_max, amn_min, idxOk_sl, idxV_sl, abin_add, abin_sub, abin_mul, abin_quo, abin_rem, abin_eql, abin_neq, abin_lss, abin_leq, abin_gtr, abin_geq, abin_seql, abin_sneq, aun_neg, aun_not, aext_tup, im_true, im_fad, im_ld1, im_ldn, im_binl, im_binr, im_un, im_bool, im_ext, gv_gv, gv_fad, gv_ld1, gv_ldn, gv_binl, gv_binr, gv_un, gv_ext, gv_pick, pick_or, pick_and, rd_new, rd_new0, rd_cons0, rd_consS, obOf, stOk_ptr, stH_ptr, put_new, put_new0, put_0, put_s, List.all_cons, List.all_nil, List.map_cons, List.map_nil, List.length_cons, List.length_nil, List.take_zero, List.take_succ_cons, List.take_nil, List.drop_zero, List.drop_succ_cons, List.drop_nil, Nat.reduceAdd, Nat.reduceMul, Nat.reduceSub, if_true, Nat.reduceLT, Nat.reduceLeDiff, ite_true, ite_false, Nat.reduceEqDiff, if_false, Bool.not_false, Bool.not_true, Bool.and_true, Bool.true_and, Bool.false_and, Bool.and_false, Bool.or_true, Bool.true_or, Bool.or_false, Bool.false_or, reduceCtorEq, ne_eq, not_false_eq_true, not_true_eq_false, List.getD, List.getElem?_cons_zero, List.getElem?_cons_succ, Option.getD_some, Option.bind_some, Option.map_some, Option.isSome_some, Nat.zero_add, Nat.add_zero, Bool.false_eq_true, reduceIte, List.length_append, List.append_assoc, List.cons_append, List.nil_append, true_and, and_true, and_self, Nat.le_refl, Nat.le_add_right, Option.some.injEq, true_implies, false_implies, forall_const, implies_true, Int.reduceNeg, avoids_none, eq_self, Prod.mk.injEq, AV.fn.injEq, List.self_eq_append_right, List.append_nil, exists_eq_left, exists_eq_left', exists_and_left, exists_eq_right, exists_and_right, and_assoc, List.cons_append, List.nil_append, List.map_cons, List.map_nil, gd_tt, gd_tf, gd_ft, gd_ff, im_t, im_f, gv_t, gv_f, im_eqbl, im_eqbr, gv_eqbl, gv_eqbr, im_eqsl, im_eqsr, gv_eqsl, gv_eqsr, im_eqn, gv_eqn, im_cvi, gv_cvi, im_fld1, gv_fld1, im_fldn, gv_fldn, im_lenv, gv_lenv, wnt_bool, wnt_gv, wnt_und, gv_pk1, gv_pk2, rg_appk, idx_gl, idx_gr, iok_gl, iok_gr, isPtr_fad, fad_fad, kq_ixa, vq_ixa, ixaA_0, ixaA_1, ixaA_t0, ixaA_t1, le_pl, rg_mkk, mkK_int]

theorem dv_T (d : DV) (h : goodD (.st [.st [.int .i64, .int .i64, .int .i64, .st [.int .i64, .int .i64], .st [.int .i64, .int .i64], .int .i64, .int .i64, .int .i64, .int .i64, .int .i64, .int .i64], .int .i64, .st [.int .i64, .st [.int .i64, .int .i64], .int .i64, .int .i64, .int .i64]]) d) : ∃ x : T, (fun _ => True) x ∧ ∀ n, layD n (.st [.st [.int .i64, .int .i64, .int .i64, .st [.int .i64, .int .i64], .st [.int .i64, .int .i64], .int .i64, .int .i64, .int .i64, .int .i64, .int .i64, .int .i64], .int .i64, .st [.int .i64, .st [.int .i64, .int .i64], .int .i64, .int .i64, .int .i64]]) d = (T.c x, []) := by
  obtain ⟨l1, rfl, q1⟩ := good_st h
  obtain ⟨d1_0, r1_0, rfl, h1_0, g1_0⟩ := goodL_cons q1
  obtain ⟨l2, rfl, q2⟩ := good_st h1_0
  obtain ⟨d2_0, r2_0, rfl, h2_0, g2_0⟩ := goodL_cons q2
  obtain ⟨n3, rfl, lo3, hi3⟩ := good_i64 h2_0
  obtain ⟨d2_1, r2_1, rfl, h2_1, g2_1⟩ := goodL_cons g2_0
  obtain ⟨n4, rfl, lo4, hi4⟩ := good_i64 h2_1
  obtain ⟨d2_2, r2_2, rfl, h2_2, g2_2⟩ := goodL_cons g2_1
  obtain ⟨n5, rfl, lo5, hi5⟩ := good_i64 h2_2
  obtain ⟨d2_3, r2_3, rfl, h2_3, g2_3⟩ := goodL_cons g2_2
  obtain ⟨l6, rfl, q6⟩ := good_st h2_3
  obtain ⟨d6_0, r6_0, rfl, h6_0, g6_0⟩ := goodL_cons q6
  obtain ⟨n7, rfl, lo7, hi7⟩ := good_i64 h6_0
  obtain ⟨d6_1, r6_1, rfl, h6_1, g6_1⟩ := goodL_cons g6_0
  obtain ⟨n8, rfl, lo8, hi8⟩ := good_i64 h6_1
  obtain rfl := goodL_nil g6_1
  obtain ⟨d2_4, r2_4, rfl, h2_4, g2_4⟩ := goodL_cons g2_3
  obtain ⟨l9, rfl, q9⟩ := good_st h2_4
  obtain ⟨d9_0, r9_0, rfl, h9_0, g9_0⟩ := goodL_cons q9
  obtain ⟨n10, rfl, lo10, hi10⟩ := good_i64 h9_0
  obtain ⟨d9_1, r9_1, rfl, h9_1, g9_1⟩ := goodL_cons g9_0
  obtain ⟨n11, rfl, lo11, hi11⟩ := good_i64 h9_1
  obtain rfl := goodL_nil g9_1
  obtain ⟨d2_5, r2_5, rfl, h2_5, g2_5⟩ := goodL_cons g2_4
  obtain ⟨n12, rfl, lo12, hi12⟩ := good_i64 h2_5
  obtain ⟨d2_6, r2_6, rfl, h2_6, g2_6⟩ := goodL_cons g2_5
  obtain ⟨n13, rfl, lo13, hi13⟩ := good_i64 h2_6
  obtain ⟨d2_7, r2_7, rfl, h2_7, g2_7⟩ := goodL_cons g2_6
  obtain ⟨n14, rfl, lo14, hi14⟩ := good_i64 h2_7
  obtain ⟨d2_8, r2_8, rfl, h2_8, g2_8⟩ := goodL_cons g2_7
  obtain ⟨n15, rfl, lo15, hi15⟩ := good_i64 h2_8
  obtain ⟨d2_9, r2_9, rfl, h2_9, g2_9⟩ := goodL_cons g2_8
  obtain ⟨n16, rfl, lo16, hi16⟩ := good_i64 h2_9
  obtain ⟨d2_10, r2_10, rfl, h2_10, g2_10⟩ := goodL_cons g2_9
  obtain ⟨n17, rfl, lo17, hi17⟩ := good_i64 h2_10
  obtain rfl := goodL_nil g2_10
  obtain ⟨d1_1, r1_1, rfl, h1_1, g1_1⟩ := goodL_cons g1_0
  obtain ⟨n18, rfl, lo18, hi18⟩ := good_i64 h1_1
  obtain ⟨d1_2, r1_2, rfl, h1_2, g1_2⟩ := goodL_cons g1_1
  obtain ⟨l19, rfl, q19⟩ := good_st h1_2
  obtain ⟨d19_0, r19_0, rfl, h19_0, g19_0⟩ := goodL_cons q19
  obtain ⟨n20, rfl, lo20, hi20⟩ := good_i64 h19_0
  obtain ⟨d19_1, r19_1, rfl, h19_1, g19_1⟩ := goodL_cons g19_0
  obtain ⟨l21, rfl, q21⟩ := good_st h19_1
  obtain ⟨d21_0, r21_0, rfl, h21_0, g21_0⟩ := goodL_cons q21
  obtain ⟨n22, rfl, lo22, hi22⟩ := good_i64 h21_0
  obtain ⟨d21_1, r21_1, rfl, h21_1, g21_1⟩ := goodL_cons g21_0
  obtain ⟨n23, rfl, lo23, hi23⟩ := good_i64 h21_1
  obtain rfl := goodL_nil g21_1
  obtain ⟨d19_2, r19_2, rfl, h19_2, g19_2⟩ := goodL_cons g19_1
  obtain ⟨n24, rfl, lo24, hi24⟩ := good_i64 h19_2
  obtain ⟨d19_3, r19_3, rfl, h19_3, g19_3⟩ := goodL_cons g19_2
  obtain ⟨n25, rfl, lo25, hi25⟩ := good_i64 h19_3
  obtain ⟨d19_4, r19_4, rfl, h19_4, g19_4⟩ := goodL_cons g19_3
  obtain ⟨n26, rfl, lo26, hi26⟩ := good_i64 h19_4
  obtain rfl := goodL_nil g19_4
  obtain rfl := goodL_nil g1_2
  exact ⟨⟨n3, n4, n5, n7, n8, n10, n11, n12, n13, n14, n15, n16, n17, n18, n20, n22, n23, n24, n25, n26⟩, trivial, fun n => rfl⟩

theorem proved : Pure := by
  intro xs hg
  obtain ⟨e0, s0, rfl, u0, v0⟩ := goodL_cons hg
  obtain ⟨x0, p0, b0, k0⟩ := in_sl (c := T.c) dv_T (fun x => rfl) (by decide) u0
  obtain ⟨w0, o0, e0', r0⟩ := k0 (0)
  obtain ⟨e1, s1, rfl, u1, v1⟩ := goodL_cons v0
  obtain ⟨l27, rfl, q27⟩ := good_st u1
  obtain ⟨d27_0, r27_0, rfl, h27_0, g27_0⟩ := goodL_cons q27
  obtain ⟨n28, rfl, lo28, hi28⟩ := good_i64 h27_0
  obtain ⟨d27_1, r27_1, rfl, h27_1, g27_1⟩ := goodL_cons g27_0
  obtain ⟨n29, rfl, lo29, hi29⟩ := good_i64 h27_1
  obtain rfl := goodL_nil g27_1
  obtain ⟨e2, s2, rfl, u2, v2⟩ := goodL_cons v1
  obtain ⟨n30, rfl, lo30, hi30⟩ := good_i64 u2
  obtain rfl := goodL_nil v2
  have := law x0 w0 n28 n29 n30 (o0) (by have := r0 ([] : List Ob) [] (by simp); simp only [List.append_nil, List.nil_append, List.append_assoc] at this; exact this)
  simpa only [layA, layD, layL, argA, shapes, e0', List.nil_append, List.cons_append, List.append_nil, List.append_assoc, List.length_nil, List.length_append, Nat.add_zero, Nat.zero_add, List.headD_cons] using this

end Go.Proofs.Ytpehhlfbnkakpaa.MyAlertPairs
