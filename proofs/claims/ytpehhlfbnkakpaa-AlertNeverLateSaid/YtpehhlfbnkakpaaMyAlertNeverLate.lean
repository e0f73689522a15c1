/- The law AlertNeverLate: the abstract machine answers true. No condition. -/
import Derived.Test.YtpehhlfbnkakpaaInAlertNeverLate
import Derived.Test.YtpehhlfbnkakpaaEvaY
import Derived.Test.YtpehhlfbnkakpaaCrR
import Derived.Test.YtpehhlfbnkakpaaAlP
namespace Go.Proofs.Ytpehhlfbnkakpaa.MyAlertNeverLate
open Go Go.Proofs.Ytpehhlfbnkakpaa.Eva Go.Proofs.Ytpehhlfbnkakpaa.CodeAll Go.Proofs.Ytpehhlfbnkakpaa.InAlertNeverLate Go.Proofs.Ytpehhlfbnkakpaa.Fl
set_option linter.unusedVariables false
set_option linter.unusedSimpArgs false
set_option maxRecDepth 10000
set_option maxHeartbeats 4000000

theorem lsq_pc (ax ay bx «by» : Int) (H : List Ob) : pcall E 38 [.agg [.int .i64 ax, .int .i64 ay], .agg [.int .i64 bx, .int .i64 «by»]] H = some (.int .i64 (dst ax ay bx «by»)) := by
  refine pcall_some.2 (call_plain e38 rfl (Nat.le_of_ble_eq_true rfl) rfl ?_)
  simp (config := {maxSteps := 4000000}) only [c38, dst, wc_seq, wc_reg, wc_cond_t, wc_cond_k, wc_blk, wc_loop, wc_exit, wc_ret, wc_skip, thenQ_n, thenQ_e, thenQ_r, leaveQ_n, leaveQ_e, leaveQ_r, exOk_n, exOk_r, rvq_nil, rvq_t, rvq_c1, rvq_cn, mkRes1, mkRes2, mkRes3, rg_nil, rg_gcall, rg_callp, avoids_nil, avoids_st, ptrId_ptr, apart_ptr, bne_self_eq_false, Nat.add_eq_left, Nat.left_eq_add, Nat.add_left_cancel_iff, decide_true, decide_false, decide_not, Nat.succ_ne_self, pcallV_fn, im_pcf, gv_pcf, im_pc10, gv_pc10, im_pc20, gv_pc20, im_pc21, gv_pc21, im_pc30, gv_pc30, im_pc31, gv_pc31, im_pc32, gv_pc32, im_pc40, gv_pc40, im_pc41, gv_pc41, im_pc42, gv_pc42, im_pc43, gv_pc43, im_pc50, gv_pc50, im_pc51, gv_pc51, im_pc52, gv_pc52, im_pc53, gv_pc53, im_pc54, gv_pc54, rg_new, rg_box, rg_mks, rg_st, rg_iad, rg_iadg, rg_q, rg_qg, updO_some, updO_none, ev_t, ev_k, upd_at, ofL_zero, ofL_succ, ofL_nil, qt_mv, qt_pick, qt_mk, qt_ld1, qt_ldn, qt_nchk, qt_bin, qt_eqs, qt_eqn, qt_un, qt_cvi, qt_cvs, qt_mkf, qt_slc, qt_slz, qt_sla, qt_sls, qt_fad, qt_fld1, qt_fldn, qt_iaa, qt_ixa, qt_ixs, qt_ext, qt_lenv, qt_lenc, qt_capv, qt_mnx, kq_mv, vq_mv, kq_pick, vq_pick, kq_fad, vq_fad, kq_ld1, vq_ld1, kq_ldn, vq_ldn, kq_bin, vq_bin, kq_un, vq_un, kq_ext, vq_ext, kq_nchk, vq_nchk, kq_mk, vq_mk, kq_eqb, vq_eqb, kq_eqs, vq_eqs, kq_eqn, vq_eqn, kq_cvi, vq_cvi, kq_mkf, vq_mkf, kq_slc, vq_slc, kq_fld1, vq_fld1, kq_fldn, vq_fldn, kq_lenv, vq_lenv, kq_lenc, vq_lenc, kq_mnx, vq_mnx, isPtr_ptr, isBool_bool, bv_bool, fadA_ptr, ld1A_ptr, ldnA_ptr, getC_zero, getC_succ, cells_agg, cells_int, cells_bool, cells_str, cells_sl, cells_ptr, isTup_agg, isTup_int, isTup_bool, isTup_str, isTup_sl, isTup_ptr, sc_int, sc_bool, sc_str, pick_t, pick_f, nchkA_ptr, nchkA_fn, lay_nil, lay_cons, wr_def, eqbA_b, eqsA_agg, aeqs_nil, aeqs_i, aeqs_b, aeqs_s, eqnA_sl, eqnA_s0, cviA_i, obd_none, obd_some, toI_int, fld1A_agg, fldnA_agg, lenvA_sl, lenvA_s0, lenvA_str, amn_nil, amn_max, amn_min, idxOk_sl, idxV_sl, abin_add, abin_sub, abin_mul, abin_quo, abin_rem, abin_eql, abin_neq, abin_lss, abin_leq, abin_gtr, abin_geq, abin_seql, abin_sneq, aun_neg, aun_not, aext_tup, im_true, im_fad, im_ld1, im_ldn, im_binl, im_binr, im_un, im_bool, im_ext, gv_gv, gv_fad, gv_ld1, gv_ldn, gv_binl, gv_binr, gv_un, gv_ext, gv_pick, pick_or, pick_and, rd_new, rd_new0, rd_cons0, rd_consS, obOf, stOk_ptr, stH_ptr, put_new, put_new0, put_0, put_s, List.all_cons, List.all_nil, List.map_cons, List.map_nil, List.length_cons, List.length_nil, List.take_zero, List.take_succ_cons, List.take_nil, List.drop_zero, List.drop_succ_cons, List.drop_nil, Nat.reduceAdd, Nat.reduceMul, Nat.reduceSub, if_true, Nat.reduceLT, Nat.reduceLeDiff, ite_true, ite_false, Nat.reduceEqDiff, if_false, Bool.not_false, Bool.not_true, Bool.and_true, Bool.true_and, Bool.false_and, Bool.and_false, Bool.or_true, Bool.true_or, Bool.or_false, Bool.false_or, reduceCtorEq, ne_eq, not_false_eq_true, not_true_eq_false, List.getD, List.getElem?_cons_zero, List.getElem?_cons_succ, Option.getD_some, Option.bind_some, Option.map_some, Option.isSome_some, Nat.zero_add, Nat.add_zero, Bool.false_eq_true, reduceIte, List.length_append, List.append_assoc, List.cons_append, List.nil_append, true_and, and_true, and_self, Nat.le_refl, Nat.le_add_right, Option.some.injEq, true_implies, false_implies, forall_const, implies_true, Int.reduceNeg, avoids_none, eq_self, Prod.mk.injEq, AV.fn.injEq, List.self_eq_append_right, List.append_nil, exists_eq_left, exists_eq_left', exists_and_left, exists_eq_right, exists_and_right, and_assoc, List.cons_append, List.nil_append, List.map_cons, List.map_nil, gd_tt, gd_tf, gd_ft, gd_ff, im_t, im_f, gv_t, gv_f, im_eqbl, im_eqbr, gv_eqbl, gv_eqbr, im_eqsl, im_eqsr, gv_eqsl, gv_eqsr, im_eqn, gv_eqn, im_cvi, gv_cvi, im_fld1, gv_fld1, im_fldn, gv_fldn, im_lenv, gv_lenv, wnt_bool, wnt_gv, wnt_und, gv_pk1, gv_pk2, rg_appk, idx_gl, idx_gr, iok_gl, iok_gr, isPtr_fad, fad_fad, kq_ixa, vq_ixa, ixaA_0, ixaA_1, ixaA_t0, ixaA_t1, le_pl, rg_mkk, mkK_int]

/-- A short vector and one of at most a length. -/
theorem sadd {ax ay bx «by» r s : Int} (r0 : 0 ≤ r) (h1 : ax * ax + ay * ay < r * r) (h2 : InD bx «by» s) : (ax + bx) * (ax + bx) + (ay + «by») * (ay + «by») < (r + s) * (r + s) := by
  obtain ⟨s0, h2⟩ := h2
  have hc : ax * bx + ay * «by» ≤ r * s := by
    by_cases hc : ax * bx + ay * «by» ≤ r * s
    · exact hc
    · exfalso
      have k1 := Int.mul_self_lt_mul_self (Int.mul_nonneg r0 s0) (show r * s < ax * bx + ay * «by» by omega)
      have k2 := Int.mul_le_mul (Int.le_of_lt h1) h2 (by have := sq_nn bx; have := sq_nn «by»; omega) (by have := sq_nn r; omega)
      have k3 := sq_nn (ax * «by» - ay * bx)
      have e1 : (ax*ax+ay*ay)*(bx*bx+«by»*«by») - (ax*bx+ay*«by»)*(ax*bx+ay*«by») = (ax*«by» - ay*bx)*(ax*«by» - ay*bx) := by grind
      have e2 : (r * r) * (s * s) = (r * s) * (r * s) := by grind
      omega
  have e3 : (ax + bx) * (ax + bx) + (ay + «by») * (ay + «by») = (ax * ax + ay * ay) + (bx * bx + «by» * «by») + 2 * (ax * bx + ay * «by») := by grind
  have e4 : (r + s) * (r + s) = r * r + s * s + 2 * (r * s) := by grind
  omega

section
variable {X Y U V : Nat → Int} {acc : Int}
/-- Where two aircraft are too near, it is possible. -/
theorem near_poss (hc : Crs X Y 60 acc) (hd : Crs U V 60 acc) {E : Int} {a b : T} {last : Nat} (ha : Inv X Y E a last) (hb : Inv U V E b last) {lat ver : Int} (l0 : 0 ≤ lat) (l1 : lat ≤ 10000) (v0 : 1 ≤ ver) (v1 : ver ≤ 2000) {k : Nat} (hk : last + k < 60) :
    (atT a b (w (max a.ti b.ti + k)) acc 0).f = 0 ∧ ((X (last + k) - U (last + k)) * (X (last + k) - U (last + k)) + (Y (last + k) - V (last + k)) * (Y (last + k) - V (last + k)) < lat * lat → possT lat ver (atT a b (w (max a.ti b.ti + k)) acc 0) = true) := by
  obtain ⟨g, hg, hm, _⟩ := ha.pred hc (d := k) (by omega) (by omega)
  obtain ⟨h, hh, hn, _⟩ := hb.pred hd (d := k) (by omega) (by omega)
  have hta := ha.ti; have htb := hb.ti
  have ht : w (max a.ti b.ti + k) = ((last + k : Nat) : Int) := by
    rw [hta, htb, Int.max_self]
    have : (last : Int) + k = ((last + k : Nat) : Int) := by omega
    rw [this]; exact w_id (by omega) (by omega)
  rw [ht]
  have hat : (atT a b ((last + k : Nat) : Int) acc 0).f = 0 := by
    unfold atT
    rw [hg, hh]; rfl
  refine ⟨hat, fun hlt => ?_⟩
  obtain ⟨A, B, hA, hB, Ao, Bo, e, p0, q0, p1, q1⟩ := at_ok (by decide) (by decide) hat
  rw [hg] at hA; rw [hh] at hB
  simp only [Prod.mk.injEq, and_true] at hA hB
  subst hA; subst hB
  rw [e, poss_eq Ao Bo l0 (by omega) (by omega) (by omega) p0 p1 q0 q1]
  have h1 := sadd l0 hlt (hm.pos.neg.add hn.pos)
  have e1 : X (last + k) - U (last + k) + (-(X (last + k) - g.x) + (U (last + k) - h.x)) = g.x - h.x := by omega
  have e2 : Y (last + k) - V (last + k) + (-(Y (last + k) - g.y) + (V (last + k) - h.y)) = g.y - h.y := by omega
  have e3 : lat + (g.rad + h.rad) = lat + g.rad + h.rad := by omega
  rw [e1, e2, e3] at h1
  have hh1 := hm.hgt; have hh2 := hn.hgt
  rw [decide_eq_true h1, decide_eq_true (by rw [hh1, hh2]; omega)]
  rfl
end

theorem law (p v q u : P2) (ps : List Int) (V : AV) (qs : List Int) (W : AV) (accel every far lat ver : Int) (H : List Ob) (hs : SlL H V intC 1 ps) (hw : SlL H W intC 1 qs) :
    ∃ r, ecall E 9 [.agg p.c, .agg v.c, .agg q.c, .agg u.c, V, W, .int .i64 accel, .int .i64 every, .int .i64 far, .agg [.int .i64 lat, .int .i64 ver]] H = some (.bool true, r) := by
  refine call_true e9 rfl (Nat.le_of_ble_eq_true rfl) ?_
  have w1 := fun H => within_pc accel 0 3 H (by decide)
  obtain ⟨a0, a1⟩ := wi_bd (n := accel) (lo := 0) (hi := 3) (by decide) (by decide) (by decide)
  generalize wi accel 0 3 = acc at w1 a0 a1
  have w4 := fun H => within_pc every 1 6 H (by decide)
  obtain ⟨v0, v1⟩ := wi_bd (n := every) (lo := 1) (hi := 6) (by decide) (by decide) (by decide)
  generalize wi every 1 6 = ev at w4 v0 v1
  obtain ⟨en, rfl⟩ : ∃ en : Nat, ev = en := ⟨ev.toNat, by omega⟩
  have w5 := fun H => within_pc far 0 100 H (by decide)
  obtain ⟨f0, f1⟩ := wi_bd (n := far) (lo := 0) (hi := 100) (by decide) (by decide) (by decide)
  generalize wi far 0 100 = fa at w5 f0 f1
  have w6 := fun H => within_pc lat 0 10000 H (by decide)
  obtain ⟨l0, l1⟩ := wi_bd (n := lat) (lo := 0) (hi := 10000) (by decide) (by decide) (by decide)
  generalize wi lat 0 10000 = la at w6 l0 l1
  have w7 := fun H => within_pc ver 1 2000 H (by decide)
  obtain ⟨g0, g1⟩ := wi_bd (n := ver) (lo := 1) (hi := 2000) (by decide) (by decide) (by decide)
  generalize wi ver 1 2000 = ve at w7 g0 g1
  have w8 := fun n H => within_pc n (-9000) 9000 H (by decide)
  -- the courses
  obtain ⟨hl, hc⟩ := course_crs p v ps a0 (by omega) (n := 60) (by decide)
  have hC := fun x => ncall_some.2 (course_run (hs.keep x) p v a0 (by omega) (secs := 60) (by decide))
  generalize courseT p v ps acc 60 = ls at hl hc hC
  have hls : ls.length = 61 := by omega
  have hC2 : ∀ x, ncall E 36 [.agg [.int .i64 p.x, .int .i64 p.y], .agg [.int .i64 v.x, .int .i64 v.y], V, .int .i64 acc, .int .i64 60] (H ++ x) = some (.sl false (H.length + x.length) 0 2 0 61, [⟨flat P2.c ls, 0, 2, true, true⟩]) := fun x => by
    have := hC x
    rw [hls, List.length_append] at this
    exact this
  clear hC
  generalize hqx : w (p.x + wi q.x (-9000) 9000) = qx
  generalize hqy : w (p.y + wi q.y (-9000) 9000) = qy
  obtain ⟨hm, hd⟩ := course_crs ⟨qx, qy⟩ u qs a0 (by omega) (n := 60) (by decide)
  have hD := fun x => ncall_some.2 (course_run (hw.keep x) ⟨qx, qy⟩ u a0 (by omega) (secs := 60) (by decide))
  generalize courseT ⟨qx, qy⟩ u qs acc 60 = ms at hm hd hD
  have hms : ms.length = 61 := by omega
  have hD2 : ∀ x, ncall E 36 [.agg [.int .i64 qx, .int .i64 qy], .agg [.int .i64 u.x, .int .i64 u.y], W, .int .i64 acc, .int .i64 60] (H ++ x) = some (.sl false (H.length + x.length) 0 2 0 61, [⟨flat P2.c ms, 0, 2, true, true⟩]) := fun x => by
    have := hD x
    rw [hms, List.length_append] at this
    exact this
  clear hD
  have hsl : ∀ k, slcA 2 none (some 13) (.sl false k 0 2 0 61) = some (.sl false k 0 2 0 13) := fun k => by simp [slcA]
  have hLL : ∀ (G : List Ob) (l : List P2) (x : List Ob), l.length = 61 → SlL (G ++ (⟨flat P2.c l, 0, 2, true, true⟩ :: x)) (.sl false G.length 0 2 0 61) P2.c 2 l ∧ SlL (G ++ (⟨flat P2.c l, 0, 2, true, true⟩ :: x)) (.sl false G.length 0 2 0 13) P2.c 2 (l.take 13) := fun G l x hl => by
    have h0 : SlL (G ++ (⟨flat P2.c l, 0, 2, true, true⟩ :: x)) (.sl false G.length 0 2 0 61) P2.c 2 l :=
      ⟨fun _ => rfl, by decide, flat_len (c := P2.c) (k := 2) (fun _ => rfl) l, Or.inr ⟨_, 0, 0, ⟨flat P2.c l, 0, 2, true, true⟩, by rw [hl], by simp [rdObj], by rw [flat_len (c := P2.c) (k := 2) (fun _ => rfl)]; omega, by rw [List.drop_zero, List.take_of_length_le (by rw [flat_len (c := P2.c) (k := 2) (fun _ => rfl)]; omega)]⟩⟩
    obtain ⟨V', h1, h2, _⟩ := h0.slc (a := none) (b := some 13) (lo := 0) (hi := 13) rfl rfl (by omega) (by omega)
    rw [hsl] at h1
    simp only [Option.some.injEq] at h1
    subst h1
    exact ⟨h0, by simpa using h2⟩
  have tk : ∀ (l : List P2), l.length = 61 → (l.take 13).length = 13 := fun l hl => by rw [List.length_take]; omega
  have gxt : ∀ (l : List P2) i, i < 13 → gX (l.take 13) i = gX l i := fun l i hi => by unfold gX; rw [List.getD_eq_getElem?_getD, List.getD_eq_getElem?_getD, List.getElem?_take, if_pos hi]
  have gyt : ∀ (l : List P2) i, i < 13 → gY (l.take 13) i = gY l i := fun l i hi => by unfold gY; rw [List.getD_eq_getElem?_getD, List.getD_eq_getElem?_getD, List.getElem?_take, if_pos hi]
  have tkl := tk ls hls; have tkm := tk ms hms
  obtain ⟨a, last, hfo, hinv, hla, hlb, hlm⟩ := follow_inv (ls := ls.take 13) (X := gX ls) (Y := gY ls) (N := 60) hc (fun i hi => gxt ls i (by omega)) (fun i hi => gyt ls i (by omega)) (by omega) (by omega) (by omega) [] (ev := en) (by omega) f0 (by omega) (place := 128) (speed := 128) (by decide) (by decide) (by decide) (by decide)
  obtain ⟨b, last', hfo', hinv', hla', hlb', hlm'⟩ := follow_inv (ls := ms.take 13) (X := gX ms) (Y := gY ms) (N := 60) hd (fun i hi => gxt ms i (by omega)) (fun i hi => gyt ms i (by omega)) (by omega) (by omega) (by omega) [] (ev := en) (by omega) f0 (by omega) (place := 128) (speed := 128) (by decide) (by decide) (by decide) (by decide)
  have hll : last' = last := by
    have h1 := Nat.div_add_mod last en
    have h2 := Nat.div_add_mod last' en
    have hen : en = 1 ∨ en = 2 ∨ en = 3 ∨ en = 4 ∨ en = 5 ∨ en = 6 := by omega
    rcases hen with rfl | rfl | rfl | rfl | rfl | rfl <;> omega
  subst hll
  have hFF : ∀ (G : List Ob) (l : List P2) (x : List Ob) (f : T), l.length = 61 → followT (l.take 13) [] en fa acc 128 128 = (f, last', true) → pcall E 37 [.sl false G.length 0 2 0 13, .int .i64 en, .int .i64 fa, .int .i64 acc, .int .i64 128, .int .i64 128, .sl true 0 0 0 0 0] (G ++ (⟨flat P2.c l, 0, 2, true, true⟩ :: x)) = some (.tup [.agg f.c, .int .i64 last', .bool true]) := fun G l x f hl hf => by
    have := tk l hl
    rw [follow_pc (hLL G l x hl).2 (SlL.nil (fun _ => rfl) (by decide)) (by simp) (by omega) (by omega) (by omega) (by omega) f0 (by omega) acc 128 128, hf]; rfl
  have hF1 : ∀ A B C D F A2 B2 x, pcall E 37 [.sl false (H.length + 7) 0 2 0 13, .int .i64 en, .int .i64 fa, .int .i64 acc, .int .i64 128, .int .i64 128, .sl true 0 0 0 0 0] (H ++ (A :: B :: C :: D :: F :: A2 :: B2 :: ⟨flat P2.c ls, 0, 2, true, true⟩ :: x)) = some (.tup [.agg a.c, .int .i64 last', .bool true]) := fun A B C D F A2 B2 x => by
    have := hFF (H ++ [A, B, C, D, F, A2, B2]) ls x a hls hfo
    simpa using this
  have hF2 : ∀ A B C D F A2 B2 C2 x, pcall E 37 [.sl false (H.length + 8) 0 2 0 13, .int .i64 en, .int .i64 fa, .int .i64 acc, .int .i64 128, .int .i64 128, .sl true 0 0 0 0 0] (H ++ (A :: B :: C :: D :: F :: A2 :: B2 :: C2 :: ⟨flat P2.c ms, 0, 2, true, true⟩ :: x)) = some (.tup [.agg b.c, .int .i64 last', .bool true]) := fun A B C D F A2 B2 C2 x => by
    have := hFF (H ++ [A, B, C, D, F, A2, B2, C2]) ms x b hms hfo'
    simpa using this
  have hS1 : ∀ A B C D F A2 B2 x, SlL (H ++ (A :: B :: C :: D :: F :: A2 :: B2 :: ⟨flat P2.c ls, 0, 2, true, true⟩ :: x)) (.sl false (H.length + 7) 0 2 0 61) P2.c 2 ls := fun A B C D F A2 B2 x => by
    have := (hLL (H ++ [A, B, C, D, F, A2, B2]) ls x hls).1
    simpa using this
  have hS2 : ∀ A B C D F A2 B2 C2 x, SlL (H ++ (A :: B :: C :: D :: F :: A2 :: B2 :: C2 :: ⟨flat P2.c ms, 0, 2, true, true⟩ :: x)) (.sl false (H.length + 8) 0 2 0 61) P2.c 2 ms := fun A B C D F A2 B2 C2 x => by
    have := (hLL (H ++ [A, B, C, D, F, A2, B2, C2]) ms x hms).1
    simpa using this
  -- the examples
  have z1 := first_pc T.zero T.zero 10 1000 1 0 0
  have z2 := first_pc T.zero { T.zero with x := 100000 } 10 1000 1 0 0
  have e1 : alT (possT 10 1000) T.zero T.zero 10 1000 1 0 0 = (0, 0) := by rfl
  have e2 : alT (possT 10 1000) T.zero { T.zero with x := 100000 } 10 1000 1 0 0 = (0, 8) := by rfl
  rw [e1] at z1; rw [e2] at z2
  -- First
  have hao := hinv.ok hc (by omega) (by omega)
  have hbo := hinv'.ok hd (by omega) (by omega)
  have hack : acheck a b la ve 40 acc 0 = 0 := by
    unfold acheck
    rw [ok_chk hao, ok_chk hbo, if_neg (by decide), if_neg (by decide), if_neg (by simp only [Bool.or_eq_true, decide_eq_true_eq]; omega)]
  have hfi := first_pc a b la ve 40 acc 0
  have hal : alT (possT la ve) a b la ve 40 acc 0 = alGo (possT la ve) a b (max a.ti b.ti) acc 0 41 0 := by
    unfold alT
    rw [hack, if_neg (by decide)]; rfl
  rw [hal] at hfi
  have hnp := fun k (hk : last' + k < 60) => near_poss hc hd hinv hinv' l0 l1 g0 g1 (k := k) hk
  have hres : ∃ n e, alGo (possT la ve) a b (max a.ti b.ti) acc 0 41 0 = (n, e) ∧ (e = 0 ∨ e = 8) ∧ ∀ k : Nat, k ≤ 40 → (gX ls (last' + k) - gX ms (last' + k)) * (gX ls (last' + k) - gX ms (last' + k)) + (gY ls (last' + k) - gY ms (last' + k)) * (gY ls (last' + k) - gY ms (last' + k)) < la * la → e = 0 ∧ n ≤ k := by
    rcases alGo_spec (possT la ve) a b (max a.ti b.ti) acc 0 41 0 with ⟨m, h1, h2, h3, h4, h5, h6⟩ | ⟨h3, m, h1, h2, h4, h5⟩ | ⟨h3, h4⟩
    · refine ⟨m, 0, h3, Or.inl rfl, fun k hk hlt => ⟨rfl, ?_⟩⟩
      by_cases hle : m ≤ k
      · omega
      · have := h6 k (by omega) (by omega)
        rw [(hnp k (by omega)).2 hlt] at this; cases this
    · exact absurd (hnp m (by omega)).1 h4
    · refine ⟨0, 8, h3, Or.inr rfl, fun k hk hlt => ?_⟩
      have := (h4 k (by omega) (by omega)).2
      rw [(hnp k (by omega)).2 hlt] at this; cases this
  obtain ⟨n, e, hne, he, hk⟩ := hres
  rw [hne] at hfi
  clear hal hne hnp hfo hfo' hFF
  simp only [iout, T.c, T.zero] at hfi z1 z2 hF1 hF2
  simp (config := {maxSteps := 8000000}) only [c9, P2.c, rg_calln, ncallV_fn, w1, w4, w5, w6, w7, w8, hqx, hqy, hC2, hD2, hF1, hF2, hfi, z1, z2, kq_slc, vq_slc, hsl, bne_self_eq_false, wc_seq, wc_reg, wc_cond_t, wc_cond_k, wc_blk, wc_loop, wc_exit, wc_ret, wc_skip, thenQ_n, thenQ_e, thenQ_r, leaveQ_n, leaveQ_e, leaveQ_r, exOk_n, exOk_r, rvq_nil, rvq_t, rvq_c1, rvq_cn, mkRes1, mkRes2, mkRes3, rg_nil, rg_gcall, rg_callp, avoids_nil, avoids_st, ptrId_ptr, apart_ptr, bne_self_eq_false, Nat.add_eq_left, Nat.left_eq_add, Nat.add_left_cancel_iff, decide_true, decide_false, decide_not, Nat.succ_ne_self, pcallV_fn, im_pcf, gv_pcf, im_pc10, gv_pc10, im_pc20, gv_pc20, im_pc21, gv_pc21, im_pc30, gv_pc30, im_pc31, gv_pc31, im_pc32, gv_pc32, im_pc40, gv_pc40, im_pc41, gv_pc41, im_pc42, gv_pc42, im_pc43, gv_pc43, im_pc50, gv_pc50, im_pc51, gv_pc51, im_pc52, gv_pc52, im_pc53, gv_pc53, im_pc54, gv_pc54, rg_new, rg_box, rg_mks, rg_st, rg_iad, rg_iadg, rg_q, rg_qg, updO_some, updO_none, ev_t, ev_k, upd_at, ofL_zero, ofL_succ, ofL_nil, qt_mv, qt_pick, qt_mk, qt_ld1, qt_ldn, qt_nchk, qt_bin, qt_eqs, qt_eqn, qt_un, qt_cvi, qt_cvs, qt_mkf, qt_slc, qt_slz, qt_sla, qt_sls, qt_fad, qt_fld1, qt_fldn, qt_iaa, qt_ixa, qt_ixs, qt_ext, qt_lenv, qt_lenc, qt_capv, qt_mnx, kq_mv, vq_mv, kq_pick, vq_pick, kq_fad, vq_fad, kq_ld1, vq_ld1, kq_ldn, vq_ldn, kq_bin, vq_bin, kq_un, vq_un, kq_ext, vq_ext, kq_nchk, vq_nchk, kq_mk, vq_mk, kq_eqb, vq_eqb, kq_eqs, vq_eqs, kq_eqn, vq_eqn, kq_cvi, vq_cvi, kq_mkf, vq_mkf, kq_slc, vq_slc, kq_fld1, vq_fld1, kq_fldn, vq_fldn, kq_lenv, vq_lenv, kq_lenc, vq_lenc, kq_mnx, vq_mnx, isPtr_ptr, isBool_bool, bv_bool, fadA_ptr, ld1A_ptr, ldnA_ptr, getC_zero, getC_succ, cells_agg, cells_int, cells_bool, cells_str, cells_sl, cells_ptr, isTup_agg, isTup_int, isTup_bool, isTup_str, isTup_sl, isTup_ptr, sc_int, sc_bool, sc_str, pick_t, pick_f, nchkA_ptr, nchkA_fn, lay_nil, lay_cons, wr_def, eqbA_b, eqsA_agg, aeqs_nil, aeqs_i, aeqs_b, aeqs_s, eqnA_sl, eqnA_s0, cviA_i, obd_none, obd_some, toI_int, fld1A_agg, fldnA_agg, lenvA_sl, lenvA_s0, lenvA_str, amn_nil, amn_max, amn_min, idxOk_sl, idxV_sl, abin_add, abin_sub, abin_mul, abin_quo, abin_rem, abin_eql, abin_neq, abin_lss, abin_leq, abin_gtr, abin_geq, abin_seql, abin_sneq, aun_neg, aun_not, aext_tup, im_true, im_fad, im_ld1, im_ldn, im_binl, im_binr, im_un, im_bool, im_ext, gv_gv, gv_fad, gv_ld1, gv_ldn, gv_binl, gv_binr, gv_un, gv_ext, gv_pick, pick_or, pick_and, rd_new, rd_new0, rd_cons0, rd_consS, obOf, stOk_ptr, stH_ptr, put_new, put_new0, put_0, put_s, List.all_cons, List.all_nil, List.map_cons, List.map_nil, List.length_cons, List.length_nil, List.take_zero, List.take_succ_cons, List.take_nil, List.drop_zero, List.drop_succ_cons, List.drop_nil, Nat.reduceAdd, Nat.reduceMul, Nat.reduceSub, if_true, Nat.reduceLT, Nat.reduceLeDiff, ite_true, ite_false, Nat.reduceEqDiff, if_false, Bool.not_false, Bool.not_true, Bool.and_true, Bool.true_and, Bool.false_and, Bool.and_false, Bool.or_true, Bool.true_or, Bool.or_false, Bool.false_or, reduceCtorEq, ne_eq, not_false_eq_true, not_true_eq_false, List.getD, List.getElem?_cons_zero, List.getElem?_cons_succ, Option.getD_some, Option.bind_some, Option.map_some, Option.isSome_some, Nat.zero_add, Nat.add_zero, Bool.false_eq_true, reduceIte, List.length_append, List.append_assoc, List.cons_append, List.nil_append, true_and, and_true, and_self, Nat.le_refl, Nat.le_add_right, Option.some.injEq, true_implies, false_implies, forall_const, implies_true, Int.reduceNeg, avoids_none, eq_self, Prod.mk.injEq, AV.fn.injEq, List.self_eq_append_right, List.append_nil, exists_eq_left, exists_eq_left', exists_and_left, exists_eq_right, exists_and_right, and_assoc, List.cons_append, List.nil_append, List.map_cons, List.map_nil, gd_tt, gd_tf, gd_ft, gd_ff, im_t, im_f, gv_t, gv_f, im_eqbl, im_eqbr, gv_eqbl, gv_eqbr, im_eqsl, im_eqsr, gv_eqsl, gv_eqsr, im_eqn, gv_eqn, im_cvi, gv_cvi, im_fld1, gv_fld1, im_fldn, gv_fldn, im_lenv, gv_lenv, wnt_bool, wnt_gv, wnt_und, gv_pk1, gv_pk2, rg_appk, idx_gl, idx_gr, iok_gl, iok_gr, isPtr_fad, fad_fad, kq_ixa, vq_ixa, ixaA_0, ixaA_1, ixaA_t0, ixaA_t1, le_pl, rg_mkk, mkK_int]
  refine W_loop (fun q g1 h1 => ∃ k : Nat, q = 41 - k ∧ k ≤ 41 ∧ g1 19 = .ptr (H.length + 4) 0 0 ∧ g1 30 = .int .i64 last' ∧ g1 35 = .int .i64 n ∧ g1 36 = .int .i64 e ∧ g1 37 = .int .i64 k ∧ rdObj h1 (H.length + 4) 0 = some ⟨[.int .i64 la, .int .i64 ve], 0, 0, true, true⟩ ∧ SlL h1 (g1 27) P2.c 2 ls ∧ SlL h1 (g1 28) P2.c 2 ms) (by simp) 41 ⟨0, rfl, by omega, rfl, rfl, rfl, rfl, rfl, by simp [rdObj], hS1 _ _ _ _ _ _ _ _, hS2 _ _ _ _ _ _ _ _ _⟩ ?_
  clear hF1 hF2 hC2 hD2 hsl hS1 hS2 hLL
  rintro q g1 h1 hn1 ht ⟨k, rfl, hk41, e19, e30, e35, e36, e37, r19, hs1, hs2⟩
  have r19' : ∀ l, rdObj (h1 ++ l) (H.length + 4) 0 = _ := fun l => rd_keep r19
  by_cases h40 : k ≤ 40
  · have h40' : decide ((k : Int) ≤ 40) = true := decide_eq_true (by omega)
    have hwk : IntKind.i64.wrap ((k : Int) + 1) = ((k + 1 : Nat) : Int) := by rw [wrap64 (by omega) (by omega)]; omega
    have hwt : IntKind.i64.wrap ((last' : Int) + (k : Int)) = ((last' + k : Nat) : Int) := by rw [wrap64 (by omega) (by omega)]; omega
    have hkk := hk k h40
    have far := hc.far (last' + k) (by omega)
    have far2 := hd.far (last' + k) (by omega)
    have htl : last' + k < 61 := by omega
    generalize last' + k = t at *
    have hgx : ∀ (l : List P2) i, i < l.length → l[i]? = some ⟨gX l i, gY l i⟩ := fun l i hi => by
      unfold gX gY
      rw [List.getD_eq_getElem?_getD, List.getElem?_eq_getElem hi]; rfl
    have hok1 : idxOk 2 (g1 27) (.int .i64 (t : Int)) := hs1.ok (by omega) (by omega)
    have hok2 : idxOk 2 (g1 28) (.int .i64 (t : Int)) := hs2.ok (by omega) (by omega)
    have ld1 := hs1.ldn (i := (t : Int)) (kk := .i64) (x := ⟨gX ls t, gY ls t⟩) (by omega) (by rw [Int.toNat_natCast]; exact hgx ls t (by omega))
    have ld2 := hs2.ldn (i := (t : Int)) (kk := .i64) (x := ⟨gX ms t, gY ms t⟩) (by omega) (by rw [Int.toNat_natCast]; exact hgx ms t (by omega))
    have hlsq := lsq_pc (gX ls t) (gY ls t) (gX ms t) (gY ms t)
    rw [dst_eq (by omega) (by omega) (by omega) (by omega) (by omega) (by omega) (by omega) (by omega)] at hlsq
    have hsq : IntKind.i64.wrap (la * la) = la * la := sq_eq (by omega) (by omega)
    simp only [P2.c] at ld1 ld2
    simp (config := {maxSteps := 8000000}) only [e19, e30, e35, e36, e37, r19, r19', h40', hwk, hwt, hok1, hok2, isPtr_idx hok1, isPtr_idx hok2, ld1, ld2, hlsq, hsq, hn1, wc_seq, wc_reg, wc_cond_t, wc_cond_k, wc_blk, wc_loop, wc_exit, wc_ret, wc_skip, thenQ_n, thenQ_e, thenQ_r, leaveQ_n, leaveQ_e, leaveQ_r, exOk_n, exOk_r, rvq_nil, rvq_t, rvq_c1, rvq_cn, mkRes1, mkRes2, mkRes3, rg_nil, rg_gcall, rg_callp, avoids_nil, avoids_st, ptrId_ptr, apart_ptr, bne_self_eq_false, Nat.add_eq_left, Nat.left_eq_add, Nat.add_left_cancel_iff, decide_true, decide_false, decide_not, Nat.succ_ne_self, pcallV_fn, im_pcf, gv_pcf, im_pc10, gv_pc10, im_pc20, gv_pc20, im_pc21, gv_pc21, im_pc30, gv_pc30, im_pc31, gv_pc31, im_pc32, gv_pc32, im_pc40, gv_pc40, im_pc41, gv_pc41, im_pc42, gv_pc42, im_pc43, gv_pc43, im_pc50, gv_pc50, im_pc51, gv_pc51, im_pc52, gv_pc52, im_pc53, gv_pc53, im_pc54, gv_pc54, rg_new, rg_box, rg_mks, rg_st, rg_iad, rg_iadg, rg_q, rg_qg, updO_some, updO_none, ev_t, ev_k, upd_at, ofL_zero, ofL_succ, ofL_nil, qt_mv, qt_pick, qt_mk, qt_ld1, qt_ldn, qt_nchk, qt_bin, qt_eqs, qt_eqn, qt_un, qt_cvi, qt_cvs, qt_mkf, qt_slc, qt_slz, qt_sla, qt_sls, qt_fad, qt_fld1, qt_fldn, qt_iaa, qt_ixa, qt_ixs, qt_ext, qt_lenv, qt_lenc, qt_capv, qt_mnx, kq_mv, vq_mv, kq_pick, vq_pick, kq_fad, vq_fad, kq_ld1, vq_ld1, kq_ldn, vq_ldn, kq_bin, vq_bin, kq_un, vq_un, kq_ext, vq_ext, kq_nchk, vq_nchk, kq_mk, vq_mk, kq_eqb, vq_eqb, kq_eqs, vq_eqs, kq_eqn, vq_eqn, kq_cvi, vq_cvi, kq_mkf, vq_mkf, kq_slc, vq_slc, kq_fld1, vq_fld1, kq_fldn, vq_fldn, kq_lenv, vq_lenv, kq_lenc, vq_lenc, kq_mnx, vq_mnx, isPtr_ptr, isBool_bool, bv_bool, fadA_ptr, ld1A_ptr, ldnA_ptr, getC_zero, getC_succ, cells_agg, cells_int, cells_bool, cells_str, cells_sl, cells_ptr, isTup_agg, isTup_int, isTup_bool, isTup_str, isTup_sl, isTup_ptr, sc_int, sc_bool, sc_str, pick_t, pick_f, nchkA_ptr, nchkA_fn, lay_nil, lay_cons, wr_def, eqbA_b, eqsA_agg, aeqs_nil, aeqs_i, aeqs_b, aeqs_s, eqnA_sl, eqnA_s0, cviA_i, obd_none, obd_some, toI_int, fld1A_agg, fldnA_agg, lenvA_sl, lenvA_s0, lenvA_str, amn_nil, amn_max, amn_min, idxOk_sl, idxV_sl, abin_add, abin_sub, abin_mul, abin_quo, abin_rem, abin_eql, abin_neq, abin_lss, abin_leq, abin_gtr, abin_geq, abin_seql, abin_sneq, aun_neg, aun_not, aext_tup, im_true, im_fad, im_ld1, im_ldn, im_binl, im_binr, im_un, im_bool, im_ext, gv_gv, gv_fad, gv_ld1, gv_ldn, gv_binl, gv_binr, gv_un, gv_ext, gv_pick, pick_or, pick_and, rd_new, rd_new0, rd_cons0, rd_consS, obOf, stOk_ptr, stH_ptr, put_new, put_new0, put_0, put_s, List.all_cons, List.all_nil, List.map_cons, List.map_nil, List.length_cons, List.length_nil, List.take_zero, List.take_succ_cons, List.take_nil, List.drop_zero, List.drop_succ_cons, List.drop_nil, Nat.reduceAdd, Nat.reduceMul, Nat.reduceSub, if_true, Nat.reduceLT, Nat.reduceLeDiff, ite_true, ite_false, Nat.reduceEqDiff, if_false, Bool.not_false, Bool.not_true, Bool.and_true, Bool.true_and, Bool.false_and, Bool.and_false, Bool.or_true, Bool.true_or, Bool.or_false, Bool.false_or, reduceCtorEq, ne_eq, not_false_eq_true, not_true_eq_false, List.getD, List.getElem?_cons_zero, List.getElem?_cons_succ, Option.getD_some, Option.bind_some, Option.map_some, Option.isSome_some, Nat.zero_add, Nat.add_zero, Bool.false_eq_true, reduceIte, List.length_append, List.append_assoc, List.cons_append, List.nil_append, true_and, and_true, and_self, Nat.le_refl, Nat.le_add_right, Option.some.injEq, true_implies, false_implies, forall_const, implies_true, Int.reduceNeg, avoids_none, eq_self, Prod.mk.injEq, AV.fn.injEq, List.self_eq_append_right, List.append_nil, exists_eq_left, exists_eq_left', exists_and_left, exists_eq_right, exists_and_right, and_assoc, List.cons_append, List.nil_append, List.map_cons, List.map_nil, gd_tt, gd_tf, gd_ft, gd_ff, im_t, im_f, gv_t, gv_f, im_eqbl, im_eqbr, gv_eqbl, gv_eqbr, im_eqsl, im_eqsr, gv_eqsl, gv_eqsr, im_eqn, gv_eqn, im_cvi, gv_cvi, im_fld1, gv_fld1, im_fldn, gv_fldn, im_lenv, gv_lenv, wnt_bool, wnt_gv, wnt_und, gv_pk1, gv_pk2, rg_appk, idx_gl, idx_gr, iok_gl, iok_gr, isPtr_fad, fad_fad, kq_ixa, vq_ixa, ixaA_0, ixaA_1, ixaA_t0, ixaA_t1, le_pl, rg_mkk, mkK_int]
    refine ⟨fun c => ?_, fun c => ?_⟩
    · obtain ⟨x1, x2⟩ := hkk (of_decide_eq_true c)
      simp [x1, x2]
    · exact ⟨_, by omega, k + 1, rfl, by omega, rfl, hs1, hs2⟩
  · have h40' : decide ((k : Int) ≤ 40) = false := decide_eq_false (by omega)
    simp (config := {maxSteps := 8000000}) only [e19, e30, e35, e36, e37, h40', wc_seq, wc_reg, wc_cond_t, wc_cond_k, wc_blk, wc_loop, wc_exit, wc_ret, wc_skip, thenQ_n, thenQ_e, thenQ_r, leaveQ_n, leaveQ_e, leaveQ_r, exOk_n, exOk_r, rvq_nil, rvq_t, rvq_c1, rvq_cn, mkRes1, mkRes2, mkRes3, rg_nil, rg_gcall, rg_callp, avoids_nil, avoids_st, ptrId_ptr, apart_ptr, bne_self_eq_false, Nat.add_eq_left, Nat.left_eq_add, Nat.add_left_cancel_iff, decide_true, decide_false, decide_not, Nat.succ_ne_self, pcallV_fn, im_pcf, gv_pcf, im_pc10, gv_pc10, im_pc20, gv_pc20, im_pc21, gv_pc21, im_pc30, gv_pc30, im_pc31, gv_pc31, im_pc32, gv_pc32, im_pc40, gv_pc40, im_pc41, gv_pc41, im_pc42, gv_pc42, im_pc43, gv_pc43, im_pc50, gv_pc50, im_pc51, gv_pc51, im_pc52, gv_pc52, im_pc53, gv_pc53, im_pc54, gv_pc54, rg_new, rg_box, rg_mks, rg_st, rg_iad, rg_iadg, rg_q, rg_qg, updO_some, updO_none, ev_t, ev_k, upd_at, ofL_zero, ofL_succ, ofL_nil, qt_mv, qt_pick, qt_mk, qt_ld1, qt_ldn, qt_nchk, qt_bin, qt_eqs, qt_eqn, qt_un, qt_cvi, qt_cvs, qt_mkf, qt_slc, qt_slz, qt_sla, qt_sls, qt_fad, qt_fld1, qt_fldn, qt_iaa, qt_ixa, qt_ixs, qt_ext, qt_lenv, qt_lenc, qt_capv, qt_mnx, kq_mv, vq_mv, kq_pick, vq_pick, kq_fad, vq_fad, kq_ld1, vq_ld1, kq_ldn, vq_ldn, kq_bin, vq_bin, kq_un, vq_un, kq_ext, vq_ext, kq_nchk, vq_nchk, kq_mk, vq_mk, kq_eqb, vq_eqb, kq_eqs, vq_eqs, kq_eqn, vq_eqn, kq_cvi, vq_cvi, kq_mkf, vq_mkf, kq_slc, vq_slc, kq_fld1, vq_fld1, kq_fldn, vq_fldn, kq_lenv, vq_lenv, kq_lenc, vq_lenc, kq_mnx, vq_mnx, isPtr_ptr, isBool_bool, bv_bool, fadA_ptr, ld1A_ptr, ldnA_ptr, getC_zero, getC_succ, cells_agg, cells_int, cells_bool, cells_str, cells_sl, cells_ptr, isTup_agg, isTup_int, isTup_bool, isTup_str, isTup_sl, isTup_ptr, sc_int, sc_bool, sc_str, pick_t, pick_f, nchkA_ptr, nchkA_fn, lay_nil, lay_cons, wr_def, eqbA_b, eqsA_agg, aeqs_nil, aeqs_i, aeqs_b, aeqs_s, eqnA_sl, eqnA_s0, cviA_i, obd_none, obd_some, toI_int, fld1A_agg, fldnA_agg, lenvA_sl, lenvA_s0, lenvA_str, amn_nil, amn_max, amn_min, idxOk_sl, idxV_sl, abin_add, abin_sub, abin_mul, abin_quo, abin_rem, abin_eql, abin_neq, abin_lss, abin_leq, abin_gtr, abin_geq, abin_seql, abin_sneq, aun_neg, aun_not, aext_tup, im_true, im_fad, im_ld1, im_ldn, im_binl, im_binr, im_un, im_bool, im_ext, gv_gv, gv_fad, gv_ld1, gv_ldn, gv_binl, gv_binr, gv_un, gv_ext, gv_pick, pick_or, pick_and, rd_new, rd_new0, rd_cons0, rd_consS, obOf, stOk_ptr, stH_ptr, put_new, put_new0, put_0, put_s, List.all_cons, List.all_nil, List.map_cons, List.map_nil, List.length_cons, List.length_nil, List.take_zero, List.take_succ_cons, List.take_nil, List.drop_zero, List.drop_succ_cons, List.drop_nil, Nat.reduceAdd, Nat.reduceMul, Nat.reduceSub, if_true, Nat.reduceLT, Nat.reduceLeDiff, ite_true, ite_false, Nat.reduceEqDiff, if_false, Bool.not_false, Bool.not_true, Bool.and_true, Bool.true_and, Bool.false_and, Bool.and_false, Bool.or_true, Bool.true_or, Bool.or_false, Bool.false_or, reduceCtorEq, ne_eq, not_false_eq_true, not_true_eq_false, List.getD, List.getElem?_cons_zero, List.getElem?_cons_succ, Option.getD_some, Option.bind_some, Option.map_some, Option.isSome_some, Nat.zero_add, Nat.add_zero, Bool.false_eq_true, reduceIte, List.length_append, List.append_assoc, List.cons_append, List.nil_append, true_and, and_true, and_self, Nat.le_refl, Nat.le_add_right, Option.some.injEq, true_implies, false_implies, forall_const, implies_true, Int.reduceNeg, avoids_none, eq_self, Prod.mk.injEq, AV.fn.injEq, List.self_eq_append_right, List.append_nil, exists_eq_left, exists_eq_left', exists_and_left, exists_eq_right, exists_and_right, and_assoc, List.cons_append, List.nil_append, List.map_cons, List.map_nil, gd_tt, gd_tf, gd_ft, gd_ff, im_t, im_f, gv_t, gv_f, im_eqbl, im_eqbr, gv_eqbl, gv_eqbr, im_eqsl, im_eqsr, gv_eqsl, gv_eqsr, im_eqn, gv_eqn, im_cvi, gv_cvi, im_fld1, gv_fld1, im_fldn, gv_fldn, im_lenv, gv_lenv, wnt_bool, wnt_gv, wnt_und, gv_pk1, gv_pk2, rg_appk, idx_gl, idx_gr, iok_gl, iok_gr, isPtr_fad, fad_fad, kq_ixa, vq_ixa, ixaA_0, ixaA_1, ixaA_t0, ixaA_t1, le_pl, rg_mkk, mkK_int]
    rcases he with rfl | rfl <;> rfl


theorem proved : Pure := by
  intro xs hg
  obtain ⟨e0, s0, rfl, u0, v0⟩ := goodL_cons hg
  obtain ⟨l1, rfl, q1⟩ := good_st u0
  obtain ⟨d1_0, r1_0, rfl, h1_0, g1_0⟩ := goodL_cons q1
  obtain ⟨n2, rfl, lo2, hi2⟩ := good_i64 h1_0
  obtain ⟨d1_1, r1_1, rfl, h1_1, g1_1⟩ := goodL_cons g1_0
  obtain ⟨n3, rfl, lo3, hi3⟩ := good_i64 h1_1
  obtain rfl := goodL_nil g1_1
  obtain ⟨e1, s1, rfl, u1, v1⟩ := goodL_cons v0
  obtain ⟨l4, rfl, q4⟩ := good_st u1
  obtain ⟨d4_0, r4_0, rfl, h4_0, g4_0⟩ := goodL_cons q4
  obtain ⟨n5, rfl, lo5, hi5⟩ := good_i64 h4_0
  obtain ⟨d4_1, r4_1, rfl, h4_1, g4_1⟩ := goodL_cons g4_0
  obtain ⟨n6, rfl, lo6, hi6⟩ := good_i64 h4_1
  obtain rfl := goodL_nil g4_1
  obtain ⟨e2, s2, rfl, u2, v2⟩ := goodL_cons v1
  obtain ⟨l7, rfl, q7⟩ := good_st u2
  obtain ⟨d7_0, r7_0, rfl, h7_0, g7_0⟩ := goodL_cons q7
  obtain ⟨n8, rfl, lo8, hi8⟩ := good_i64 h7_0
  obtain ⟨d7_1, r7_1, rfl, h7_1, g7_1⟩ := goodL_cons g7_0
  obtain ⟨n9, rfl, lo9, hi9⟩ := good_i64 h7_1
  obtain rfl := goodL_nil g7_1
  obtain ⟨e3, s3, rfl, u3, v3⟩ := goodL_cons v2
  obtain ⟨l10, rfl, q10⟩ := good_st u3
  obtain ⟨d10_0, r10_0, rfl, h10_0, g10_0⟩ := goodL_cons q10
  obtain ⟨n11, rfl, lo11, hi11⟩ := good_i64 h10_0
  obtain ⟨d10_1, r10_1, rfl, h10_1, g10_1⟩ := goodL_cons g10_0
  obtain ⟨n12, rfl, lo12, hi12⟩ := good_i64 h10_1
  obtain rfl := goodL_nil g10_1
  obtain ⟨e4, s4, rfl, u4, v4⟩ := goodL_cons v3
  obtain ⟨x4, p4, b4, k4⟩ := in_sl (c := intC) (P := (fun _ => True)) dv_i (fun x => rfl) (by decide) u4
  obtain ⟨w4, o4, e4', r4⟩ := k4 (0)
  obtain ⟨e5, s5, rfl, u5, v5⟩ := goodL_cons v4
  obtain ⟨x5, p5, b5, k5⟩ := in_sl (c := intC) (P := (fun _ => True)) dv_i (fun x => rfl) (by decide) u5
  obtain ⟨w5, o5, e5', r5⟩ := k5 (o4.length)
  obtain ⟨e6, s6, rfl, u6, v6⟩ := goodL_cons v5
  obtain ⟨n13, rfl, lo13, hi13⟩ := good_i64 u6
  obtain ⟨e7, s7, rfl, u7, v7⟩ := goodL_cons v6
  obtain ⟨n14, rfl, lo14, hi14⟩ := good_i64 u7
  obtain ⟨e8, s8, rfl, u8, v8⟩ := goodL_cons v7
  obtain ⟨n15, rfl, lo15, hi15⟩ := good_i64 u8
  obtain ⟨e9, s9, rfl, u9, v9⟩ := goodL_cons v8
  obtain ⟨l16, rfl, q16⟩ := good_st u9
  obtain ⟨d16_0, r16_0, rfl, h16_0, g16_0⟩ := goodL_cons q16
  obtain ⟨n17, rfl, lo17, hi17⟩ := good_i64 h16_0
  obtain ⟨d16_1, r16_1, rfl, h16_1, g16_1⟩ := goodL_cons g16_0
  obtain ⟨n18, rfl, lo18, hi18⟩ := good_i64 h16_1
  obtain rfl := goodL_nil g16_1
  obtain rfl := goodL_nil v9
  have := law ⟨n2, n3⟩ ⟨n5, n6⟩ ⟨n8, n9⟩ ⟨n11, n12⟩ x4 w4 x5 w5 n13 n14 n15 n17 n18 (o4 ++ (o5)) (by have := r4 ([] : List Ob) (o5) (by simp); simp only [List.append_nil, List.nil_append, List.append_assoc] at this; exact this) (by have := r5 (o4) [] (by simp); simp only [List.append_nil, List.nil_append, List.append_assoc] at this; exact this)
  simpa only [P2.c, layA, layD, layL, argA, shapes, e4', e5', List.nil_append, List.cons_append, List.append_nil, List.append_assoc, List.length_nil, List.length_append, Nat.add_zero, Nat.zero_add, List.headD_cons] using this

end Go.Proofs.Ytpehhlfbnkakpaa.MyAlertNeverLate
