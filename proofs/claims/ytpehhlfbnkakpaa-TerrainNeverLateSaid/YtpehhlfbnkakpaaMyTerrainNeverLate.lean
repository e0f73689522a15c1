/- The law TerrainNeverLate: the abstract machine answers true. No condition. -/
import Derived.Test.YtpehhlfbnkakpaaInTerrainNeverLate
import Derived.Test.YtpehhlfbnkakpaaEvaY
import Derived.Test.YtpehhlfbnkakpaaCrR
import Derived.Test.YtpehhlfbnkakpaaTrB
namespace Go.Proofs.Ytpehhlfbnkakpaa.MyTerrainNeverLate
open Go Go.Proofs.Ytpehhlfbnkakpaa.Eva Go.Proofs.Ytpehhlfbnkakpaa.CodeAll Go.Proofs.Ytpehhlfbnkakpaa.InTerrainNeverLate Go.Proofs.Ytpehhlfbnkakpaa.Fl
set_option linter.unusedVariables false
set_option linter.unusedSimpArgs false
set_option maxRecDepth 10000
set_option maxHeartbeats 4000000

/-- Where an aircraft is too low, it has been warned. -/
theorem low_warn {X Y : Nat → Int} {N : Nat} {acc : Int} (hc : Crs X Y N acc) {E : Int} {f : T} {last : Nat} (hf : Inv X Y E f last) {g : G} {hs : List Int} (hg : gchk g hs = 0) {clr : Int} (c0 : 0 ≤ clr) (c1 : clr ≤ 3000) {k : Nat} (hk : last + k < N) (hk6 : last + k ≤ 60) :
    (f.pred (w (f.ti + k)) acc).2 = 0 ∧ (heightT g hs (X (last + k)) (Y (last + k))).2 = 0 ∧ w ((heightT g hs (X (last + k)) (Y (last + k))).1 + clr) = (heightT g hs (X (last + k)) (Y (last + k))).1 + clr ∧
    (5000 < (heightT g hs (X (last + k)) (Y (last + k))).1 + clr → w (w ((f.pred (w (f.ti + k)) acc).1.hgt - 100) - w (0 * k)) < (safeT g hs (f.pred (w (f.ti + k)) acc).1.x (f.pred (w (f.ti + k)) acc).1.y (f.pred (w (f.ti + k)) acc).1.rad clr).1) := by
  obtain ⟨p, hp, hm, _⟩ := hf.pred hc (d := k) hk hk6
  have hti := hf.ti
  have ht : w (f.ti + k) = ((last + k : Nat) : Int) := by
    rw [hti]
    have : (last : Int) + k = ((last + k : Nat) : Int) := by omega
    rw [this]; exact w_id (by omega) (by omega)
  rw [ht, hp]
  have hpo := (pred_ok hp).2.1
  have far := hc.far (last + k) (by omega)
  have px0 := hpo.x0; have px1 := hpo.x1; have py0 := hpo.y0; have py1 := hpo.y1; have pr := hpo.rad1
  obtain ⟨h1, h2, h3⟩ := high_ge hg px0 px1 py0 py1 (by omega) (by omega) (by omega) (by omega) pr hm.pos
  obtain ⟨b0, b1⟩ := high_bd (g := g) (hs := hs) (px := p.x) (py := p.y) (rad := p.rad)
  have hq : 0 ≤ (heightT g hs (X (last + k)) (Y (last + k))).1 := by
    unfold heightT
    obtain ⟨_, _, _, _, _, _, _, _, _, _, _, _, hh⟩ := gchk_ok hg
    split
    · simp
    · split
      · simp
      · split
        · simp
        · simp only
          rw [List.getD_eq_getElem?_getD]
          cases hj : hs[(dvd (w (Y (last + k) - g.y)) g.size * g.nx + dvd (w (X (last + k) - g.x)) g.size).toNat]? with
          | none => simp
          | some z => exact (hgt_ok hh z (List.mem_of_getElem? hj)).1
  refine ⟨rfl, h1, w_id (by omega) (by omega), fun hlt => ?_⟩
  have hh := hm.hgt
  have e1 : w (0 * (k : Int)) = 0 := by rw [Int.zero_mul]; decide
  unfold safeT
  simp only
  rw [h3, if_neg (by decide), if_neg (by simp only [Bool.or_eq_true, decide_eq_true_eq]; omega), hh, e1]
  have e2 : w (w (5000 - 100) - 0) = 4900 := by decide
  rw [e2]
  simp only
  rw [w_id (by omega) (by omega)]; omega

theorem law (g : G) (hs : List Int) (U : AV) (p v : P2) (ps : List Int) (V : AV) (accel far clr : Int) (H : List Ob) (hv : SlL H U intC 1 hs) (hp : SlL H V intC 1 ps) :
    ∃ r, ecall E 10 [.agg (g.c U), .agg p.c, .agg v.c, V, .int .i64 accel, .int .i64 far, .int .i64 clr] H = some (.bool true, r) := by
  refine call_true e10 rfl (Nat.le_of_ble_eq_true rfl) ?_
  have w1 := fun H => within_pc accel 0 3 H (by decide)
  obtain ⟨a0, a1⟩ := wi_bd (n := accel) (lo := 0) (hi := 3) (by decide) (by decide) (by decide)
  generalize wi accel 0 3 = acc at w1 a0 a1
  have w5 := fun H => within_pc far 0 100 H (by decide)
  obtain ⟨f0, f1⟩ := wi_bd (n := far) (lo := 0) (hi := 100) (by decide) (by decide) (by decide)
  generalize wi far 0 100 = fa at w5 f0 f1
  have w6 := fun H => within_pc clr 0 3000 H (by decide)
  obtain ⟨c0, c1⟩ := wi_bd (n := clr) (lo := 0) (hi := 3000) (by decide) (by decide) (by decide)
  generalize wi clr 0 3000 = cl at w6 c0 c1
  obtain ⟨hl, hc⟩ := course_crs p v ps a0 (by omega) (n := 50) (by decide)
  have hC := fun x => ncall_some.2 (course_run (hp.keep x) p v a0 (by omega) (secs := 50) (by decide))
  generalize courseT p v ps acc 50 = ls at hl hc hC
  have hls : ls.length = 51 := by omega
  have hC2 : ∀ x, ncall E 36 [.agg [.int .i64 p.x, .int .i64 p.y], .agg [.int .i64 v.x, .int .i64 v.y], V, .int .i64 acc, .int .i64 50] (H ++ x) = some (.sl false (H.length + x.length) 0 2 0 51, [⟨flat P2.c ls, 0, 2, true, true⟩]) := fun x => by
    have := hC x
    rw [hls, List.length_append] at this
    exact this
  clear hC
  have hsl : ∀ k, slcA 2 none (some 9) (.sl false k 0 2 0 51) = some (.sl false k 0 2 0 9) := fun k => by simp [slcA]
  have hLL : ∀ (G : List Ob) (x : List Ob), SlL (G ++ (⟨flat P2.c ls, 0, 2, true, true⟩ :: x)) (.sl false G.length 0 2 0 51) P2.c 2 ls ∧ SlL (G ++ (⟨flat P2.c ls, 0, 2, true, true⟩ :: x)) (.sl false G.length 0 2 0 9) P2.c 2 (ls.take 9) := fun G x => by
    have h0 : SlL (G ++ (⟨flat P2.c ls, 0, 2, true, true⟩ :: x)) (.sl false G.length 0 2 0 51) P2.c 2 ls :=
      ⟨fun _ => rfl, by decide, flat_len (c := P2.c) (k := 2) (fun _ => rfl) ls, Or.inr ⟨_, 0, 0, ⟨flat P2.c ls, 0, 2, true, true⟩, by rw [hls], by simp [rdObj], by rw [flat_len (c := P2.c) (k := 2) (fun _ => rfl)]; omega, by rw [List.drop_zero, List.take_of_length_le (by rw [flat_len (c := P2.c) (k := 2) (fun _ => rfl)]; omega)]⟩⟩
    obtain ⟨V', h1, h2, _⟩ := h0.slc (a := none) (b := some 9) (lo := 0) (hi := 9) rfl rfl (by omega) (by omega)
    rw [hsl] at h1
    simp only [Option.some.injEq] at h1
    subst h1
    exact ⟨h0, by simpa using h2⟩
  have tkl : (ls.take 9).length = 9 := by rw [List.length_take]; omega
  obtain ⟨f, last, hfo, hinv, hla, hlb, hlm⟩ := follow_inv (ls := ls.take 9) (X := gX ls) (Y := gY ls) (N := 50) hc
    (fun i hi => by unfold gX; rw [List.getD_eq_getElem?_getD, List.getD_eq_getElem?_getD, List.getElem?_take, if_pos (by omega)])
    (fun i hi => by unfold gY; rw [List.getD_eq_getElem?_getD, List.getD_eq_getElem?_getD, List.getElem?_take, if_pos (by omega)])
    (by omega) (by omega) (by omega) [] (ev := 4) (by omega) f0 (by omega) (place := 128) (speed := 128) (by decide) (by decide) (by decide) (by decide)
  have hF1 : ∀ A B C D F x, pcall E 37 [.sl false (H.length + 5) 0 2 0 9, .int .i64 4, .int .i64 fa, .int .i64 acc, .int .i64 128, .int .i64 128, .sl true 0 0 0 0 0] (H ++ (A :: B :: C :: D :: F :: ⟨flat P2.c ls, 0, 2, true, true⟩ :: x)) = some (.tup [.agg f.c, .int .i64 last, .bool true]) := fun A B C D F x => by
    have h1 := (hLL (H ++ [A, B, C, D, F]) x).2
    have h2 := follow_pc h1 (SlL.nil (c := intC) (sz := 1) (fun _ => rfl) (by decide)) (by simp) (by omega) (by omega) (ev := 4) (by omega) (by omega) f0 (by omega) acc 128 128
    rw [hfo] at h2
    simpa [fout] using h2
  have hS1 : ∀ A B C D F x, SlL (H ++ (A :: B :: C :: D :: F :: ⟨flat P2.c ls, 0, 2, true, true⟩ :: x)) (.sl false (H.length + 5) 0 2 0 51) P2.c 2 ls := fun A B C D F x => by
    have := (hLL (H ++ [A, B, C, D, F]) x).1
    simpa using this
  -- the example
  have g0 : ∀ A B C D, SlL (H ++ [A, B, C, D, ⟨[.int .i64 3000], 0, 1, true, true⟩]) (.sl false (H.length + 4) 0 1 0 1) intC 1 [3000] := fun A B C D =>
    ⟨fun _ => rfl, by decide, rfl, Or.inr ⟨_, 0, 0, ⟨[.int .i64 3000], 0, 1, true, true⟩, rfl, by simp [rdObj], by decide, rfl⟩⟩
  have z1 := fun A B C D => warn_pc ⟨1000, -500, 1000, 1, 1⟩ (g0 A B C D) { T.zero with hgt := 3000, sx := 1600 } 60 0 0 500
  have e1 : warnT ⟨1000, -500, 1000, 1, 1⟩ [3000] { T.zero with hgt := 3000, sx := 1600 } 60 0 0 500 = (10, 0) := by rfl
  rw [e1] at z1
  have hUt := hv.isTup
  have hUc := hv.cells
  have hgr := ground_nc
  have hck := fun x => gchk_pc g (hv.keep x)
  simp only [tout, T.c, T.zero, G.c] at z1 hgr hck hF1
  by_cases hg : gchk g hs = 0
  · have hg' : (gchk g hs != 0) = false := by simpa using hg
    have hfok := hinv.ok hc (by omega) (by omega)
    have hti := hinv.ti
    have hwn := fun x => warn_pc g (hv.keep x) f 40 acc 0 cl
    have hlw := fun k (hk : last + k < 50) => low_warn hc hinv hg c0 c1 (k := k) hk (by omega)
    have hwt : warnT g hs f 40 acc 0 cl = wGo g hs f acc 0 cl 41 0 := by
      unfold warnT
      rw [hg, ok_chk hfok, if_neg (by decide), if_neg (by decide), if_neg (by simp only [Bool.or_eq_true, decide_eq_true_eq]; omega)]; rfl
    have hres : ∃ n e, warnT g hs f 40 acc 0 cl = (n, e) ∧ (e = 0 ∨ e = 8) ∧ ∀ k : Nat, k ≤ 40 → 5000 < (heightT g hs (gX ls (last + k)) (gY ls (last + k))).1 + cl → e = 0 ∧ n ≤ k := by
      rw [hwt]
      rcases wGo_spec g hs f acc 0 cl 41 0 with ⟨m, h1, h2, h3, h4⟩ | ⟨m, h1, h2, h4⟩ | ⟨h3, h4⟩
      · refine ⟨m, 0, h3, Or.inl rfl, fun k hk hlt => ⟨rfl, ?_⟩⟩
        by_cases hle : m ≤ k
        · omega
        · exact absurd ((hlw k (by omega)).2.2.2 hlt) (h4 k (by omega) (by omega))
      · exact absurd (hlw m (by omega)).1 h4
      · exact ⟨0, 8, h3, Or.inr rfl, fun k hk hlt => absurd ((hlw k (by omega)).2.2.2 hlt) (h4 k (by omega) (by omega))⟩
    obtain ⟨n, e, hne, he, hk⟩ := hres
    rw [hne] at hwn
    have hlast : last = 8 := by omega
    subst hlast
    have l8 : ((8 : Nat) : Int) = 8 := rfl
    simp only [tout, T.c, G.c] at hwn
    simp (config := {maxSteps := 8000000}) only [c10, P2.c, G.c, rg_calln, ncallV_fn, w1, w5, w6, hgr, hC2, hF1, hwn, z1, hck, hg', hUt, hUc, kq_slc, vq_slc, hsl, bne_self_eq_false, Int.reduceLT, wc_seq, wc_reg, wc_cond_t, wc_cond_k, wc_blk, wc_loop, wc_exit, wc_ret, wc_skip, thenQ_n, thenQ_e, thenQ_r, leaveQ_n, leaveQ_e, leaveQ_r, exOk_n, exOk_r, rvq_nil, rvq_t, rvq_c1, rvq_cn, mkRes1, mkRes2, mkRes3, rg_nil, rg_gcall, rg_callp, avoids_nil, avoids_st, ptrId_ptr, apart_ptr, bne_self_eq_false, Nat.add_eq_left, Nat.left_eq_add, Nat.add_left_cancel_iff, decide_true, decide_false, decide_not, Nat.succ_ne_self, pcallV_fn, im_pcf, gv_pcf, im_pc10, gv_pc10, im_pc20, gv_pc20, im_pc21, gv_pc21, im_pc30, gv_pc30, im_pc31, gv_pc31, im_pc32, gv_pc32, im_pc40, gv_pc40, im_pc41, gv_pc41, im_pc42, gv_pc42, im_pc43, gv_pc43, im_pc50, gv_pc50, im_pc51, gv_pc51, im_pc52, gv_pc52, im_pc53, gv_pc53, im_pc54, gv_pc54, rg_new, rg_box, rg_mks, rg_st, rg_iad, rg_iadg, rg_q, rg_qg, updO_some, updO_none, ev_t, ev_k, upd_at, ofL_zero, ofL_succ, ofL_nil, qt_mv, qt_pick, qt_mk, qt_ld1, qt_ldn, qt_nchk, qt_bin, qt_eqs, qt_eqn, qt_un, qt_cvi, qt_cvs, qt_mkf, qt_slc, qt_slz, qt_sla, qt_sls, qt_fad, qt_fld1, qt_fldn, qt_iaa, qt_ixa, qt_ixs, qt_ext, qt_lenv, qt_lenc, qt_capv, qt_mnx, kq_mv, vq_mv, kq_pick, vq_pick, kq_fad, vq_fad, kq_ld1, vq_ld1, kq_ldn, vq_ldn, kq_bin, vq_bin, kq_un, vq_un, kq_ext, vq_ext, kq_nchk, vq_nchk, kq_mk, vq_mk, kq_eqb, vq_eqb, kq_eqs, vq_eqs, kq_eqn, vq_eqn, kq_cvi, vq_cvi, kq_mkf, vq_mkf, kq_slc, vq_slc, kq_fld1, vq_fld1, kq_fldn, vq_fldn, kq_lenv, vq_lenv, kq_lenc, vq_lenc, kq_mnx, vq_mnx, isPtr_ptr, isBool_bool, bv_bool, fadA_ptr, ld1A_ptr, ldnA_ptr, getC_zero, getC_succ, cells_agg, cells_int, cells_bool, cells_str, cells_sl, cells_ptr, isTup_agg, isTup_int, isTup_bool, isTup_str, isTup_sl, isTup_ptr, sc_int, sc_bool, sc_str, pick_t, pick_f, nchkA_ptr, nchkA_fn, lay_nil, lay_cons, wr_def, eqbA_b, eqsA_agg, aeqs_nil, aeqs_i, aeqs_b, aeqs_s, eqnA_sl, eqnA_s0, cviA_i, obd_none, obd_some, toI_int, fld1A_agg, fldnA_agg, lenvA_sl, lenvA_s0, lenvA_str, amn_nil, amn_max, amn_min, idxOk_sl, idxV_sl, abin_add, abin_sub, abin_mul, abin_quo, abin_rem, abin_eql, abin_neq, abin_lss, abin_leq, abin_gtr, abin_geq, abin_seql, abin_sneq, aun_neg, aun_not, aext_tup, im_true, im_fad, im_ld1, im_ldn, im_binl, im_binr, im_un, im_bool, im_ext, gv_gv, gv_fad, gv_ld1, gv_ldn, gv_binl, gv_binr, gv_un, gv_ext, gv_pick, pick_or, pick_and, rd_new, rd_new0, rd_cons0, rd_consS, obOf, stOk_ptr, stH_ptr, put_new, put_new0, put_0, put_s, List.all_cons, List.all_nil, List.map_cons, List.map_nil, List.length_cons, List.length_nil, List.take_zero, List.take_succ_cons, List.take_nil, List.drop_zero, List.drop_succ_cons, List.drop_nil, Nat.reduceAdd, Nat.reduceMul, Nat.reduceSub, if_true, Nat.reduceLT, Nat.reduceLeDiff, ite_true, ite_false, Nat.reduceEqDiff, if_false, Bool.not_false, Bool.not_true, Bool.and_true, Bool.true_and, Bool.false_and, Bool.and_false, Bool.or_true, Bool.true_or, Bool.or_false, Bool.false_or, reduceCtorEq, ne_eq, not_false_eq_true, not_true_eq_false, List.getD, List.getElem?_cons_zero, List.getElem?_cons_succ, Option.getD_some, Option.bind_some, Option.map_some, Option.isSome_some, Nat.zero_add, Nat.add_zero, Bool.false_eq_true, reduceIte, List.length_append, List.append_assoc, List.cons_append, List.nil_append, true_and, and_true, and_self, Nat.le_refl, Nat.le_add_right, Option.some.injEq, true_implies, false_implies, forall_const, implies_true, Int.reduceNeg, avoids_none, eq_self, Prod.mk.injEq, AV.fn.injEq, List.self_eq_append_right, List.append_nil, exists_eq_left, exists_eq_left', exists_and_left, exists_eq_right, exists_and_right, and_assoc, List.cons_append, List.nil_append, List.map_cons, List.map_nil, gd_tt, gd_tf, gd_ft, gd_ff, im_t, im_f, gv_t, gv_f, im_eqbl, im_eqbr, gv_eqbl, gv_eqbr, im_eqsl, im_eqsr, gv_eqsl, gv_eqsr, im_eqn, gv_eqn, im_cvi, gv_cvi, im_fld1, gv_fld1, im_fldn, gv_fldn, im_lenv, gv_lenv, wnt_bool, wnt_gv, wnt_und, gv_pk1, gv_pk2, rg_appk, idx_gl, idx_gr, iok_gl, iok_gr, isPtr_fad, fad_fad, kq_ixa, vq_ixa, ixaA_0, ixaA_1, ixaA_t0, ixaA_t1, le_pl, rg_mkk, mkK_int]
    refine W_loop (fun q g1 h1 => ∃ (k : Nat) (fl : Bool), q = 41 - k ∧ k ≤ 41 ∧ g1 6 = .int .i64 cl ∧ g1 7 = .ptr H.length 0 0 ∧ g1 19 = .ptr (H.length + 6) 0 0 ∧ g1 20 = .int .i64 ((8 : Nat) : Int) ∧ g1 22 = .int .i64 n ∧ g1 23 = .int .i64 e ∧ g1 24 = .int .i64 k ∧ rdObj h1 H.length 0 = some ⟨g.c U, 0, 0, true, fl⟩ ∧ rdObj h1 (H.length + 6) 0 = some ⟨f.c, 0, 0, true, true⟩ ∧ SlL h1 (g1 18) P2.c 2 ls) (by simp) 41 ⟨0, U.scalar, rfl, by omega, rfl, rfl, rfl, rfl, rfl, rfl, rfl, by simp only [G.c, rdObj, List.getElem?_append_right, Nat.le_refl, Nat.sub_self, List.getElem?_cons_zero, if_true], by simp [rdObj, T.c], hS1 _ _ _ _ _ _⟩ ?_
    clear hF1 hC2 hsl hS1 hLL
    rintro q g1 h1 hn1 ht ⟨k, fl, rfl, hk41, e6, e7, e19, e20, e22, e23, e24, r7, r19, hs1⟩
    rw [List.take_left] at ht
    have hH := take_eq ht
    generalize h1.drop H.length = y at hH
    subst hH
    by_cases h40 : k ≤ 40
    · have h40' : decide ((k : Int) ≤ 40) = true := decide_eq_true (by omega)
      have hwk : IntKind.i64.wrap ((k : Int) + 1) = ((k + 1 : Nat) : Int) := by rw [wrap64 (by omega) (by omega)]; omega
      have hwt2 : IntKind.i64.wrap (((8 : Nat) : Int) + (k : Int)) = ((8 + k : Nat) : Int) := by rw [wrap64 (by omega) (by omega)]; omega
      have hkk := hk k h40
      obtain ⟨_, y1, y2, _⟩ := hlw k (by omega)
      have hht := fun z => height_pc g (hv.keep z) (gX ls (8 + k)) (gY ls (8 + k))
      have hgx : ∀ i, i < ls.length → ls[i]? = some ⟨gX ls i, gY ls i⟩ := fun i hi => by
        unfold gX gY
        rw [List.getD_eq_getElem?_getD, List.getElem?_eq_getElem hi]; rfl
      have hhg := hinv.hgt
      generalize htt : 8 + k = t at *
      have hok1 : idxOk 2 (g1 18) (.int .i64 (t : Int)) := hs1.ok (by omega) (by omega)
      have ld1 := hs1.ldn (i := (t : Int)) (kk := .i64) (x := ⟨gX ls t, gY ls t⟩) (by omega) (by rw [Int.toNat_natCast]; exact hgx t (by omega))
      generalize heightT g hs (gX ls t) (gY ls t) = Z at *
      obtain ⟨z, ze⟩ := Z
      simp only at y1 y2 hkk
      subst y1
      simp only [P2.c, tout, T.c, G.c, hhg] at ld1 hht r7 r19
      simp (config := {maxSteps := 8000000}) only [e6, e7, e19, e20, e22, e23, e24, r7, r19, h40', hwk, hwt2, hok1, isPtr_idx hok1, ld1, hht, y2, hn1, bne_self_eq_false, wc_seq, wc_reg, wc_cond_t, wc_cond_k, wc_blk, wc_loop, wc_exit, wc_ret, wc_skip, thenQ_n, thenQ_e, thenQ_r, leaveQ_n, leaveQ_e, leaveQ_r, exOk_n, exOk_r, rvq_nil, rvq_t, rvq_c1, rvq_cn, mkRes1, mkRes2, mkRes3, rg_nil, rg_gcall, rg_callp, avoids_nil, avoids_st, ptrId_ptr, apart_ptr, bne_self_eq_false, Nat.add_eq_left, Nat.left_eq_add, Nat.add_left_cancel_iff, decide_true, decide_false, decide_not, Nat.succ_ne_self, pcallV_fn, im_pcf, gv_pcf, im_pc10, gv_pc10, im_pc20, gv_pc20, im_pc21, gv_pc21, im_pc30, gv_pc30, im_pc31, gv_pc31, im_pc32, gv_pc32, im_pc40, gv_pc40, im_pc41, gv_pc41, im_pc42, gv_pc42, im_pc43, gv_pc43, im_pc50, gv_pc50, im_pc51, gv_pc51, im_pc52, gv_pc52, im_pc53, gv_pc53, im_pc54, gv_pc54, rg_new, rg_box, rg_mks, rg_st, rg_iad, rg_iadg, rg_q, rg_qg, updO_some, updO_none, ev_t, ev_k, upd_at, ofL_zero, ofL_succ, ofL_nil, qt_mv, qt_pick, qt_mk, qt_ld1, qt_ldn, qt_nchk, qt_bin, qt_eqs, qt_eqn, qt_un, qt_cvi, qt_cvs, qt_mkf, qt_slc, qt_slz, qt_sla, qt_sls, qt_fad, qt_fld1, qt_fldn, qt_iaa, qt_ixa, qt_ixs, qt_ext, qt_lenv, qt_lenc, qt_capv, qt_mnx, kq_mv, vq_mv, kq_pick, vq_pick, kq_fad, vq_fad, kq_ld1, vq_ld1, kq_ldn, vq_ldn, kq_bin, vq_bin, kq_un, vq_un, kq_ext, vq_ext, kq_nchk, vq_nchk, kq_mk, vq_mk, kq_eqb, vq_eqb, kq_eqs, vq_eqs, kq_eqn, vq_eqn, kq_cvi, vq_cvi, kq_mkf, vq_mkf, kq_slc, vq_slc, kq_fld1, vq_fld1, kq_fldn, vq_fldn, kq_lenv, vq_lenv, kq_lenc, vq_lenc, kq_mnx, vq_mnx, isPtr_ptr, isBool_bool, bv_bool, fadA_ptr, ld1A_ptr, ldnA_ptr, getC_zero, getC_succ, cells_agg, cells_int, cells_bool, cells_str, cells_sl, cells_ptr, isTup_agg, isTup_int, isTup_bool, isTup_str, isTup_sl, isTup_ptr, sc_int, sc_bool, sc_str, pick_t, pick_f, nchkA_ptr, nchkA_fn, lay_nil, lay_cons, wr_def, eqbA_b, eqsA_agg, aeqs_nil, aeqs_i, aeqs_b, aeqs_s, eqnA_sl, eqnA_s0, cviA_i, obd_none, obd_some, toI_int, fld1A_agg, fldnA_agg, lenvA_sl, lenvA_s0, lenvA_str, amn_nil, amn_max, amn_min, idxOk_sl, idxV_sl, abin_add, abin_sub, abin_mul, abin_quo, abin_rem, abin_eql, abin_neq, abin_lss, abin_leq, abin_gtr, abin_geq, abin_seql, abin_sneq, aun_neg, aun_not, aext_tup, im_true, im_fad, im_ld1, im_ldn, im_binl, im_binr, im_un, im_bool, im_ext, gv_gv, gv_fad, gv_ld1, gv_ldn, gv_binl, gv_binr, gv_un, gv_ext, gv_pick, pick_or, pick_and, rd_new, rd_new0, rd_cons0, rd_consS, obOf, stOk_ptr, stH_ptr, put_new, put_new0, put_0, put_s, List.all_cons, List.all_nil, List.map_cons, List.map_nil, List.length_cons, List.length_nil, List.take_zero, List.take_succ_cons, List.take_nil, List.drop_zero, List.drop_succ_cons, List.drop_nil, Nat.reduceAdd, Nat.reduceMul, Nat.reduceSub, if_true, Nat.reduceLT, Nat.reduceLeDiff, ite_true, ite_false, Nat.reduceEqDiff, if_false, Bool.not_false, Bool.not_true, Bool.and_true, Bool.true_and, Bool.false_and, Bool.and_false, Bool.or_true, Bool.true_or, Bool.or_false, Bool.false_or, reduceCtorEq, ne_eq, not_false_eq_true, not_true_eq_false, List.getD, List.getElem?_cons_zero, List.getElem?_cons_succ, Option.getD_some, Option.bind_some, Option.map_some, Option.isSome_some, Nat.zero_add, Nat.add_zero, Bool.false_eq_true, reduceIte, List.length_append, List.append_assoc, List.cons_append, List.nil_append, true_and, and_true, and_self, Nat.le_refl, Nat.le_add_right, Option.some.injEq, true_implies, false_implies, forall_const, implies_true, Int.reduceNeg, avoids_none, eq_self, Prod.mk.injEq, AV.fn.injEq, List.self_eq_append_right, List.append_nil, exists_eq_left, exists_eq_left', exists_and_left, exists_eq_right, exists_and_right, and_assoc, List.cons_append, List.nil_append, List.map_cons, List.map_nil, gd_tt, gd_tf, gd_ft, gd_ff, im_t, im_f, gv_t, gv_f, im_eqbl, im_eqbr, gv_eqbl, gv_eqbr, im_eqsl, im_eqsr, gv_eqsl, gv_eqsr, im_eqn, gv_eqn, im_cvi, gv_cvi, im_fld1, gv_fld1, im_fldn, gv_fldn, im_lenv, gv_lenv, wnt_bool, wnt_gv, wnt_und, gv_pk1, gv_pk2, rg_appk, idx_gl, idx_gr, iok_gl, iok_gr, isPtr_fad, fad_fad, kq_ixa, vq_ixa, ixaA_0, ixaA_1, ixaA_t0, ixaA_t1, le_pl, rg_mkk, mkK_int]
      refine ⟨fun c => ?_, fun c => ?_⟩
      · obtain ⟨x1, x2⟩ := hkk (of_decide_eq_true c)
        simp [x1, x2]
      · first
        | exact ⟨_, by omega, k + 1, rfl, by omega, rfl, ⟨fl, rfl⟩, by simp only [T.c, hhg], hs1⟩
        | exact ⟨_, by omega, k + 1, rfl, by omega, rfl, ⟨fl, rfl⟩, rfl, hs1⟩
        | exact ⟨_, by omega, k + 1, rfl, by omega, rfl, fl, rfl, rfl, hs1⟩
        | exact ⟨_, by omega, k + 1, rfl, by omega, rfl, fl, rfl, by simp only [T.c, hhg], hs1⟩
    · have h40' : decide ((k : Int) ≤ 40) = false := decide_eq_false (by omega)
      simp (config := {maxSteps := 8000000}) only [e6, e7, e19, e20, e22, e23, e24, h40', wc_seq, wc_reg, wc_cond_t, wc_cond_k, wc_blk, wc_loop, wc_exit, wc_ret, wc_skip, thenQ_n, thenQ_e, thenQ_r, leaveQ_n, leaveQ_e, leaveQ_r, exOk_n, exOk_r, rvq_nil, rvq_t, rvq_c1, rvq_cn, mkRes1, mkRes2, mkRes3, rg_nil, rg_gcall, rg_callp, avoids_nil, avoids_st, ptrId_ptr, apart_ptr, bne_self_eq_false, Nat.add_eq_left, Nat.left_eq_add, Nat.add_left_cancel_iff, decide_true, decide_false, decide_not, Nat.succ_ne_self, pcallV_fn, im_pcf, gv_pcf, im_pc10, gv_pc10, im_pc20, gv_pc20, im_pc21, gv_pc21, im_pc30, gv_pc30, im_pc31, gv_pc31, im_pc32, gv_pc32, im_pc40, gv_pc40, im_pc41, gv_pc41, im_pc42, gv_pc42, im_pc43, gv_pc43, im_pc50, gv_pc50, im_pc51, gv_pc51, im_pc52, gv_pc52, im_pc53, gv_pc53, im_pc54, gv_pc54, rg_new, rg_box, rg_mks, rg_st, rg_iad, rg_iadg, rg_q, rg_qg, updO_some, updO_none, ev_t, ev_k, upd_at, ofL_zero, ofL_succ, ofL_nil, qt_mv, qt_pick, qt_mk, qt_ld1, qt_ldn, qt_nchk, qt_bin, qt_eqs, qt_eqn, qt_un, qt_cvi, qt_cvs, qt_mkf, qt_slc, qt_slz, qt_sla, qt_sls, qt_fad, qt_fld1, qt_fldn, qt_iaa, qt_ixa, qt_ixs, qt_ext, qt_lenv, qt_lenc, qt_capv, qt_mnx, kq_mv, vq_mv, kq_pick, vq_pick, kq_fad, vq_fad, kq_ld1, vq_ld1, kq_ldn, vq_ldn, kq_bin, vq_bin, kq_un, vq_un, kq_ext, vq_ext, kq_nchk, vq_nchk, kq_mk, vq_mk, kq_eqb, vq_eqb, kq_eqs, vq_eqs, kq_eqn, vq_eqn, kq_cvi, vq_cvi, kq_mkf, vq_mkf, kq_slc, vq_slc, kq_fld1, vq_fld1, kq_fldn, vq_fldn, kq_lenv, vq_lenv, kq_lenc, vq_lenc, kq_mnx, vq_mnx, isPtr_ptr, isBool_bool, bv_bool, fadA_ptr, ld1A_ptr, ldnA_ptr, getC_zero, getC_succ, cells_agg, cells_int, cells_bool, cells_str, cells_sl, cells_ptr, isTup_agg, isTup_int, isTup_bool, isTup_str, isTup_sl, isTup_ptr, sc_int, sc_bool, sc_str, pick_t, pick_f, nchkA_ptr, nchkA_fn, lay_nil, lay_cons, wr_def, eqbA_b, eqsA_agg, aeqs_nil, aeqs_i, aeqs_b, aeqs_s, eqnA_sl, eqnA_s0, cviA_i, obd_none, obd_some, toI_int, fld1A_agg, fldnA_agg, lenvA_sl, lenvA_s0, lenvA_str, amn_nil, amn_max, amn_min, idxOk_sl, idxV_sl, abin_add, abin_sub, abin_mul, abin_quo, abin_rem, abin_eql, abin_neq, abin_lss, abin_leq, abin_gtr, abin_geq, abin_seql, abin_sneq, aun_neg, aun_not, aext_tup, im_true, im_fad, im_ld1, im_ldn, im_binl, im_binr, im_un, im_bool, im_ext, gv_gv, gv_fad, gv_ld1, gv_ldn, gv_binl, gv_binr, gv_un, gv_ext, gv_pick, pick_or, pick_and, rd_new, rd_new0, rd_cons0, rd_consS, obOf, stOk_ptr, stH_ptr, put_new, put_new0, put_0, put_s, List.all_cons, List.all_nil, List.map_cons, List.map_nil, List.length_cons, List.length_nil, List.take_zero, List.take_succ_cons, List.take_nil, List.drop_zero, List.drop_succ_cons, List.drop_nil, Nat.reduceAdd, Nat.reduceMul, Nat.reduceSub, if_true, Nat.reduceLT, Nat.reduceLeDiff, ite_true, ite_false, Nat.reduceEqDiff, if_false, Bool.not_false, Bool.not_true, Bool.and_true, Bool.true_and, Bool.false_and, Bool.and_false, Bool.or_true, Bool.true_or, Bool.or_false, Bool.false_or, reduceCtorEq, ne_eq, not_false_eq_true, not_true_eq_false, List.getD, List.getElem?_cons_zero, List.getElem?_cons_succ, Option.getD_some, Option.bind_some, Option.map_some, Option.isSome_some, Nat.zero_add, Nat.add_zero, Bool.false_eq_true, reduceIte, List.length_append, List.append_assoc, List.cons_append, List.nil_append, true_and, and_true, and_self, Nat.le_refl, Nat.le_add_right, Option.some.injEq, true_implies, false_implies, forall_const, implies_true, Int.reduceNeg, avoids_none, eq_self, Prod.mk.injEq, AV.fn.injEq, List.self_eq_append_right, List.append_nil, exists_eq_left, exists_eq_left', exists_and_left, exists_eq_right, exists_and_right, and_assoc, List.cons_append, List.nil_append, List.map_cons, List.map_nil, gd_tt, gd_tf, gd_ft, gd_ff, im_t, im_f, gv_t, gv_f, im_eqbl, im_eqbr, gv_eqbl, gv_eqbr, im_eqsl, im_eqsr, gv_eqsl, gv_eqsr, im_eqn, gv_eqn, im_cvi, gv_cvi, im_fld1, gv_fld1, im_fldn, gv_fldn, im_lenv, gv_lenv, wnt_bool, wnt_gv, wnt_und, gv_pk1, gv_pk2, rg_appk, idx_gl, idx_gr, iok_gl, iok_gr, isPtr_fad, fad_fad, kq_ixa, vq_ixa, ixaA_0, ixaA_1, ixaA_t0, ixaA_t1, le_pl, rg_mkk, mkK_int]
      rcases he with rfl | rfl <;> rfl
  · have hg' : (gchk g hs != 0) = true := by simpa using hg
    simp (config := {maxSteps := 8000000}) only [c10, P2.c, G.c, rg_calln, ncallV_fn, w1, w5, w6, hgr, hC2, hF1, z1, hck, hg', hUt, hUc, kq_slc, vq_slc, hsl, bne_self_eq_false, Int.reduceLT, wc_seq, wc_reg, wc_cond_t, wc_cond_k, wc_blk, wc_loop, wc_exit, wc_ret, wc_skip, thenQ_n, thenQ_e, thenQ_r, leaveQ_n, leaveQ_e, leaveQ_r, exOk_n, exOk_r, rvq_nil, rvq_t, rvq_c1, rvq_cn, mkRes1, mkRes2, mkRes3, rg_nil, rg_gcall, rg_callp, avoids_nil, avoids_st, ptrId_ptr, apart_ptr, bne_self_eq_false, Nat.add_eq_left, Nat.left_eq_add, Nat.add_left_cancel_iff, decide_true, decide_false, decide_not, Nat.succ_ne_self, pcallV_fn, im_pcf, gv_pcf, im_pc10, gv_pc10, im_pc20, gv_pc20, im_pc21, gv_pc21, im_pc30, gv_pc30, im_pc31, gv_pc31, im_pc32, gv_pc32, im_pc40, gv_pc40, im_pc41, gv_pc41, im_pc42, gv_pc42, im_pc43, gv_pc43, im_pc50, gv_pc50, im_pc51, gv_pc51, im_pc52, gv_pc52, im_pc53, gv_pc53, im_pc54, gv_pc54, rg_new, rg_box, rg_mks, rg_st, rg_iad, rg_iadg, rg_q, rg_qg, updO_some, updO_none, ev_t, ev_k, upd_at, ofL_zero, ofL_succ, ofL_nil, qt_mv, qt_pick, qt_mk, qt_ld1, qt_ldn, qt_nchk, qt_bin, qt_eqs, qt_eqn, qt_un, qt_cvi, qt_cvs, qt_mkf, qt_slc, qt_slz, qt_sla, qt_sls, qt_fad, qt_fld1, qt_fldn, qt_iaa, qt_ixa, qt_ixs, qt_ext, qt_lenv, qt_lenc, qt_capv, qt_mnx, kq_mv, vq_mv, kq_pick, vq_pick, kq_fad, vq_fad, kq_ld1, vq_ld1, kq_ldn, vq_ldn, kq_bin, vq_bin, kq_un, vq_un, kq_ext, vq_ext, kq_nchk, vq_nchk, kq_mk, vq_mk, kq_eqb, vq_eqb, kq_eqs, vq_eqs, kq_eqn, vq_eqn, kq_cvi, vq_cvi, kq_mkf, vq_mkf, kq_slc, vq_slc, kq_fld1, vq_fld1, kq_fldn, vq_fldn, kq_lenv, vq_lenv, kq_lenc, vq_lenc, kq_mnx, vq_mnx, isPtr_ptr, isBool_bool, bv_bool, fadA_ptr, ld1A_ptr, ldnA_ptr, getC_zero, getC_succ, cells_agg, cells_int, cells_bool, cells_str, cells_sl, cells_ptr, isTup_agg, isTup_int, isTup_bool, isTup_str, isTup_sl, isTup_ptr, sc_int, sc_bool, sc_str, pick_t, pick_f, nchkA_ptr, nchkA_fn, lay_nil, lay_cons, wr_def, eqbA_b, eqsA_agg, aeqs_nil, aeqs_i, aeqs_b, aeqs_s, eqnA_sl, eqnA_s0, cviA_i, obd_none, obd_some, toI_int, fld1A_agg, fldnA_agg, lenvA_sl, lenvA_s0, lenvA_str, amn_nil, amn_max, amn_min, idxOk_sl, idxV_sl, abin_add, abin_sub, abin_mul, abin_quo, abin_rem, abin_eql, abin_neq, abin_lss, abin_leq, abin_gtr, abin_geq, abin_seql, abin_sneq, aun_neg, aun_not, aext_tup, im_true, im_fad, im_ld1, im_ldn, im_binl, im_binr, im_un, im_bool, im_ext, gv_gv, gv_fad, gv_ld1, gv_ldn, gv_binl, gv_binr, gv_un, gv_ext, gv_pick, pick_or, pick_and, rd_new, rd_new0, rd_cons0, rd_consS, obOf, stOk_ptr, stH_ptr, put_new, put_new0, put_0, put_s, List.all_cons, List.all_nil, List.map_cons, List.map_nil, List.length_cons, List.length_nil, List.take_zero, List.take_succ_cons, List.take_nil, List.drop_zero, List.drop_succ_cons, List.drop_nil, Nat.reduceAdd, Nat.reduceMul, Nat.reduceSub, if_true, Nat.reduceLT, Nat.reduceLeDiff, ite_true, ite_false, Nat.reduceEqDiff, if_false, Bool.not_false, Bool.not_true, Bool.and_true, Bool.true_and, Bool.false_and, Bool.and_false, Bool.or_true, Bool.true_or, Bool.or_false, Bool.false_or, reduceCtorEq, ne_eq, not_false_eq_true, not_true_eq_false, List.getD, List.getElem?_cons_zero, List.getElem?_cons_succ, Option.getD_some, Option.bind_some, Option.map_some, Option.isSome_some, Nat.zero_add, Nat.add_zero, Bool.false_eq_true, reduceIte, List.length_append, List.append_assoc, List.cons_append, List.nil_append, true_and, and_true, and_self, Nat.le_refl, Nat.le_add_right, Option.some.injEq, true_implies, false_implies, forall_const, implies_true, Int.reduceNeg, avoids_none, eq_self, Prod.mk.injEq, AV.fn.injEq, List.self_eq_append_right, List.append_nil, exists_eq_left, exists_eq_left', exists_and_left, exists_eq_right, exists_and_right, and_assoc, List.cons_append, List.nil_append, List.map_cons, List.map_nil, gd_tt, gd_tf, gd_ft, gd_ff, im_t, im_f, gv_t, gv_f, im_eqbl, im_eqbr, gv_eqbl, gv_eqbr, im_eqsl, im_eqsr, gv_eqsl, gv_eqsr, im_eqn, gv_eqn, im_cvi, gv_cvi, im_fld1, gv_fld1, im_fldn, gv_fldn, im_lenv, gv_lenv, wnt_bool, wnt_gv, wnt_und, gv_pk1, gv_pk2, rg_appk, idx_gl, idx_gr, iok_gl, iok_gr, isPtr_fad, fad_fad, kq_ixa, vq_ixa, ixaA_0, ixaA_1, ixaA_t0, ixaA_t1, le_pl, rg_mkk, mkK_int]


theorem proved : Pure := by
  intro xs hg
  obtain ⟨e0, s0, rfl, u0, v0⟩ := goodL_cons hg
  obtain ⟨lg, rfl, qg⟩ := good_st u0
  obtain ⟨dg0, rg0, rfl, hg0, gg0⟩ := goodL_cons qg
  obtain ⟨l1, rfl, q1⟩ := good_st hg0
  obtain ⟨d1_0, r1_0, rfl, h1_0, g1_0⟩ := goodL_cons q1
  obtain ⟨n2, rfl, lo2, hi2⟩ := good_i64 h1_0
  obtain ⟨d1_1, r1_1, rfl, h1_1, g1_1⟩ := goodL_cons g1_0
  obtain ⟨n3, rfl, lo3, hi3⟩ := good_i64 h1_1
  obtain rfl := goodL_nil g1_1
  obtain ⟨dg1, rg1, rfl, hg1, gg1⟩ := goodL_cons gg0
  obtain ⟨n4, rfl, lo4, hi4⟩ := good_i64 hg1
  obtain ⟨dg2, rg2, rfl, hg2, gg2⟩ := goodL_cons gg1
  obtain ⟨n5, rfl, lo5, hi5⟩ := good_i64 hg2
  obtain ⟨dg3, rg3, rfl, hg3, gg3⟩ := goodL_cons gg2
  obtain ⟨n6, rfl, lo6, hi6⟩ := good_i64 hg3
  obtain ⟨dgs, rgs, rfl, hgs, ggs⟩ := goodL_cons gg3
  obtain rfl := goodL_nil ggs
  obtain ⟨x0, p0, b0, k0⟩ := in_sl (c := intC) (P := fun _ => True) dv_i (fun x => rfl) (by decide) hgs
  obtain ⟨w0, o0, e0', r0⟩ := k0 (0)
  obtain ⟨e1, s1, rfl, u1, v1⟩ := goodL_cons v0
  obtain ⟨l7, rfl, q7⟩ := good_st u1
  obtain ⟨d7_0, r7_0, rfl, h7_0, g7_0⟩ := goodL_cons q7
  obtain ⟨n8, rfl, lo8, hi8⟩ := good_i64 h7_0
  obtain ⟨d7_1, r7_1, rfl, h7_1, g7_1⟩ := goodL_cons g7_0
  obtain ⟨n9, rfl, lo9, hi9⟩ := good_i64 h7_1
  obtain rfl := goodL_nil g7_1
  obtain ⟨e2, s2, rfl, u2, v2⟩ := goodL_cons v1
  obtain ⟨l10, rfl, q10⟩ := good_st u2
  obtain ⟨d10_0, r10_0, rfl, h10_0, g10_0⟩ := goodL_cons q10
  obtain ⟨n11, rfl, lo11, hi11⟩ := good_i64 h10_0
  obtain ⟨d10_1, r10_1, rfl, h10_1, g10_1⟩ := goodL_cons g10_0
  obtain ⟨n12, rfl, lo12, hi12⟩ := good_i64 h10_1
  obtain rfl := goodL_nil g10_1
  obtain ⟨e3, s3, rfl, u3, v3⟩ := goodL_cons v2
  obtain ⟨x3, p3, b3, k3⟩ := in_sl (c := intC) (P := (fun _ => True)) dv_i (fun x => rfl) (by decide) u3
  obtain ⟨w3, o3, e3', r3⟩ := k3 (o0.length)
  obtain ⟨e4, s4, rfl, u4, v4⟩ := goodL_cons v3
  obtain ⟨n13, rfl, lo13, hi13⟩ := good_i64 u4
  obtain ⟨e5, s5, rfl, u5, v5⟩ := goodL_cons v4
  obtain ⟨n14, rfl, lo14, hi14⟩ := good_i64 u5
  obtain ⟨e6, s6, rfl, u6, v6⟩ := goodL_cons v5
  obtain ⟨n15, rfl, lo15, hi15⟩ := good_i64 u6
  obtain rfl := goodL_nil v6
  have := law ⟨n2, n3, n4, n5, n6⟩ x0 w0 ⟨n8, n9⟩ ⟨n11, n12⟩ x3 w3 n13 n14 n15 (o0 ++ (o3)) (by have := r0 ([] : List Ob) (o3) (by simp); simp only [List.append_nil, List.nil_append, List.append_assoc] at this; exact this) (by have := r3 (o0) [] (by simp); simp only [List.append_nil, List.nil_append, List.append_assoc] at this; exact this)
  simpa only [P2.c, G.c, layA, layD, layL, argA, shapes, e0', e3', List.nil_append, List.cons_append, List.append_nil, List.append_assoc, List.length_nil, List.length_append, Nat.add_zero, Nat.zero_add, List.headD_cons] using this

end Go.Proofs.Ytpehhlfbnkakpaa.MyTerrainNeverLate
