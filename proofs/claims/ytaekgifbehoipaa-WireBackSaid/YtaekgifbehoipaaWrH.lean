/- Encode of the package wire. Conditions stand in each lemma. -/
import Derived.Test.YtaekgifbehoipaaWrG
namespace Go.Proofs.Ytaekgifbehoipaa.Wr
open Go Go.Proofs.Ytaekgifbehoipaa.Eva Go.Proofs.Ytaekgifbehoipaa.CodeAll
set_option linter.unusedVariables false
set_option linter.unusedSimpArgs false
set_option maxRecDepth 10000
set_option maxHeartbeats 4000000

theorem bytesA_gU : ∀ xs : List UInt8, bytesA (xs.map gU) = some xs
  | [] => rfl
  | x :: xs => by
    have ih := bytesA_gU xs
    show (bytesA (xs.map gU)).map (fun l => UInt8.ofNat ((x.toNat : Int)).toNat :: l) = _
    rw [ih]
    simp
theorem cbs_arr {n0 : Nat} {h : List Ob} {v : AV} {xs : List UInt8} (A : Arr n0 h v gU xs) : cbsA h v = some (.str ⟨xs.toArray⟩) := by
  obtain ⟨id, ep, rfl, h2, h3⟩ := A
  unfold cbsA acbs
  simp only [content, h2]
  by_cases h0 : xs.length = 0
  · have : xs = [] := List.length_eq_zero_iff.1 h0
    subst this; rfl
  · rw [if_neg h0]
    simp only [Bool.false_eq_true, if_false, if_true]
    rw [if_pos (by simp)]
    simp only [Option.bind_some, List.drop_zero, Nat.mul_one]
    rw [List.take_of_length_le (by simp), bytesA_gU]
    rfl
/-- A call of put in a region. -/
theorem put_reg {n0 n : Nat} {f : Fr} {h : List Ob} {pre post : List Ins} {a c d kk : Nat} {K : Fr → List Ob → Prop}
    (hpre : RG E n0 n pre (fun f1 h1 => ∃ v m xs, ev n f1 (.t a) = v ∧ ev n f1 (.t c) = .int .u64 ((m : Nat) : Int) ∧ Arr n0 h1 v gU xs ∧ m < M64 ∧ kk ≤ 8 ∧ xs.length ≤ 100000 ∧ n0 ≤ h1.length ∧
      ∀ v' h2, Arr n0 h2 v' gU (xs ++ pB m kk) → (∀ id, idOf v' id ↔ idOf v id) → (∀ id ep o, ¬ idOf v id → rdObj h1 id ep = some o → rdObj h2 id ep = some o) → h1.length ≤ h2.length → h2.take n0 = h1.take n0 → RG E n0 n post K (updO f1 (some d) v') h2) f h) :
    RG E n0 n (pre ++ (⟨some d, .call (.k (.fn 60 [])) [.t a, .t c, .k (.int .i64 (kk : Int))], none, [], false⟩ :: post)) K f h := by
  refine RG_split hpre ?_
  rintro f1 h1 hn1 ht ⟨v, m, xs, e1, e2, A, hm, hk, hx, hn, hK⟩
  obtain ⟨v', h2, wl, wa, k1, k2, k3, k4, k5, k6, k7, k8⟩ := put_ex A hn hm hk hx
  have hargs : List.map (ev n f1) [.t a, .t c, .k (.int .i64 (kk : Int))] ++ [] = [v, .int .u64 (m : Int), .int .i64 (kk : Int)] := by
    simp only [List.map_cons, List.map_nil, e1, e2, List.append_nil]
    rfl
  exact RG_call (k := 60) (caps := []) (v := v') (h2 := h2) (wl := wl) (wa := wa) rfl (by rw [hargs]; exact k1) k2 k3 (Nat.le_trans hn k5) k4 (fun h => by cases h) (hK v' h2 k6 k7 k8 k5 k4)

def encP (p : Pl) : List UInt8 := pB (Fl.dblW p.rg 0) 8 ++ (pB p.az.toNat 2 ++ (pB p.ht.toNat 4 ++ pB (p.cd + 1).toNat 2))
def hd (R T : Int) (k : Nat) : List UInt8 := [83, 87] ++ (pB R.toNat 1 ++ (pB T.toNat 4 ++ pB k 2))
def body (R T : Int) (ps : List Pl) : List UInt8 := hd R T ps.length ++ (ps.map encP).flatten
def enc (R T : Int) (ps : List Pl) : List UInt8 := body R T ps ++ pB (sumL (body R T ps)) 2
theorem encP_len (p : Pl) : (encP p).length = 16 := by simp [encP, pB_len]
theorem encs_len (ps : List Pl) : ((ps.map encP).flatten).length = 16 * ps.length := by
  induction ps with
  | nil => rfl
  | cons p ps ih => rw [List.map_cons, List.flatten_cons, List.length_append, encP_len, ih, List.length_cons]; omega
theorem hd_len (R T : Int) (k : Nat) : (hd R T k).length = 9 := by simp [hd, pB_len]
theorem body_len (R T : Int) (ps : List Pl) : (body R T ps).length = 9 + 16 * ps.length := by rw [body, List.length_append, hd_len, encs_len]
theorem enc_len (R T : Int) (ps : List Pl) : (enc R T ps).length = 11 + 16 * ps.length := by rw [enc, List.length_append, body_len, pB_len]; omega
theorem dbl_lt {r : Int} (hr : 0 ≤ r) (h2 : r ≤ 2000000) : Fl.dblW r 0 < M64 := by
  by_cases h0 : r = 0
  · subst h0; decide
  · obtain ⟨e, F, g1, g2, g3, g4, g5, g6⟩ := Fl.near_wd (n := r) (by omega) (by omega) h0 (d := 0) (by decide)
    rw [← g6]
    exact Fl.wd_lt _ (by omega) g4
theorem enc_err {H : List Ob} {V : AV} {ps : List Pl} (hs : SlL H V Pl.c 6 ps) (hb : ps.length < 1125899906842624) {R T : Int} (hno : ¬ VF R T ps) :
    ∃ e, e ≠ 0 ∧ ecall E 22 [.agg [.int .i64 R, .int .i64 T, V]] H = some (.tup [.str ⟨#[]⟩, .int .i64 e], H, H.length, H.length) := by
  obtain ⟨e, h1, h2⟩ := check_ex hs hb R T
  have hne : e ≠ 0 := fun h => hno (h1.1 h)
  have b : (e != 0) = true := by rw [bne_iff_ne]; exact hne
  refine ⟨e, hne, call_plain e22 rfl (Nat.le_of_ble_eq_true rfl) rfl ?_⟩
  have hce := hs.cells
  simp (config := {maxSteps := 4000000}) only [c22, h2, b, hce, SS, bne_self_eq_false, wr_def, obOf, List.all_cons, List.all_nil, List.map_cons, List.map_nil, List.length_cons, List.length_nil, List.take_zero, List.take_succ_cons, List.take_nil, List.drop_zero, List.drop_succ_cons, List.drop_nil, Nat.reduceAdd, Nat.reduceMul, Nat.reduceSub, if_true, Nat.reduceLT, Nat.reduceLeDiff, ite_true, ite_false, Nat.reduceEqDiff, if_false, reduceCtorEq, ne_eq, List.getD, List.getElem?_cons_zero, List.getElem?_cons_succ, Option.getD_some, Option.bind_some, Option.map_some, Option.isSome_some, reduceIte, List.length_append, List.append_assoc, List.cons_append, List.nil_append, Option.some.injEq, forall_const, implies_true, Int.reduceNeg, eq_self, Prod.mk.injEq, List.self_eq_append_right, List.append_nil, exists_eq_left, exists_eq_left', exists_and_left, exists_eq_right, exists_and_right]
/-- What stands while a frame is written. -/
def St (H : List Ob) (r t : Nat) (V : AV) (f : Fr) (h : List Ob) (xs : List UInt8) : Prop :=
  f 1 = .ptr H.length 0 0 ∧ (∃ fl, rdObj h H.length 0 = some ⟨[.int .i64 (r : Int), .int .i64 (t : Int), V], 0, 0, true, fl⟩) ∧ Arr H.length h (f 5) gU xs ∧ (∀ id, idOf (f 5) id → H.length + 1 ≤ id) ∧ H.length ≤ h.length ∧ h.take H.length = H
theorem St.put {H : List Ob} {r t : Nat} {V : AV} {f g : Fr} {h h2 : List Ob} {xs ys : List UInt8} {v' : AV} (S : St H r t V f h xs) (g1 : g 1 = f 1) (g5 : g 5 = v') (A' : Arr H.length h2 v' gU ys) (hid : ∀ id, idOf v' id ↔ idOf (f 5) id)
    (hfr : ∀ id ep o, ¬ idOf (f 5) id → rdObj h id ep = some o → rdObj h2 id ep = some o) (hl : h.length ≤ h2.length) (ht : h2.take H.length = h.take H.length) : St H r t V g h2 ys := by
  obtain ⟨e1, ⟨fl, hrd⟩, A, hi, hn, hT⟩ := S
  exact ⟨by rw [g1, e1], ⟨fl, hfr _ _ _ (fun h => by have := hi _ h; omega) hrd⟩, by rw [g5]; exact A', fun id h => hi id ((hid id).1 (by rw [← g5]; exact h)), Nat.le_trans hn hl, by rw [ht, hT]⟩
theorem St.fr {H : List Ob} {r t : Nat} {V : AV} {f g : Fr} {h : List Ob} {xs : List UInt8} (S : St H r t V f h xs) (g1 : g 1 = f 1) (g5 : g 5 = f 5) : St H r t V g h xs := by
  obtain ⟨e1, hr, A, hi, hn, hT⟩ := S
  exact ⟨by rw [g1, e1], hr, by rw [g5]; exact A, fun id h => hi id (by rw [← g5]; exact h), hn, hT⟩
theorem St.keep {H : List Ob} {r t : Nat} {V : AV} {f : Fr} {h : List Ob} {xs : List UInt8} (S : St H r t V f h xs) (o : List Ob) : St H r t V f (h ++ o) xs := by
  obtain ⟨e1, ⟨fl, hr⟩, A, hi, hn, hT⟩ := S
  exact ⟨e1, ⟨fl, rd_keep hr⟩, A.keep o, hi, by simp; omega, by rw [List.take_append_of_le_length hn, hT]⟩
/-- What stands while a plot is written. -/
def Lp (V : AV) (n i : Nat) (p : Pl) (q : Nat) (f : Fr) (h : List Ob) : Prop :=
  f 34 = V ∧ f 35 = .int .i64 (n : Int) ∧ f 36 = .int .i64 (i : Int) ∧ f 7 = .ptr q 0 0 ∧ rdObj h q 0 = some ⟨p.c, 0, 0, true, true⟩ ∧ ∀ id, idOf (f 5) id → id ≠ q
theorem Lp.put {V : AV} {n i : Nat} {p : Pl} {q : Nat} {f g : Fr} {h h2 : List Ob} {v' : AV} (L : Lp V n i p q f h) (g34 : g 34 = f 34) (g35 : g 35 = f 35) (g36 : g 36 = f 36) (g7 : g 7 = f 7) (g5 : g 5 = v') (hid : ∀ id, idOf v' id ↔ idOf (f 5) id)
    (hfr : ∀ id ep o, ¬ idOf (f 5) id → rdObj h id ep = some o → rdObj h2 id ep = some o) : Lp V n i p q g h2 := by
  obtain ⟨a, b, c, d, e, k⟩ := L
  exact ⟨by rw [g34, a], by rw [g35, b], by rw [g36, c], by rw [g7, d], hfr _ _ _ (fun h => k q h rfl) e, fun id h => k id ((hid id).1 (by rw [← g5]; exact h))⟩
theorem enc_ok {H : List Ob} {V : AV} {ps : List Pl} (hs : SlL H V Pl.c 6 ps) {R T : Int} (hv : VF R T ps) :
    ecall E 22 [.agg [.int .i64 R, .int .i64 T, V]] H = some (.tup [.str ⟨(enc R T ps).toArray⟩, .int .i64 0], H, H.length, H.length) := by
  obtain ⟨e, h1, h2⟩ := check_ex hs (by have := hv.1; omega) R T
  have he0 := h1.2 hv
  subst he0
  obtain ⟨v1, v2, v3, v4, v5, v6⟩ := hv
  obtain ⟨r, rfl⟩ : ∃ r : Nat, R = (r : Int) := ⟨R.toNat, by omega⟩
  obtain ⟨t, rfl⟩ : ∃ t : Nat, T = (t : Int) := ⟨T.toNat, by omega⟩
  have hlen := hs.len
  have hce := hs.cells
  have b0 : ((0 : Int) != 0) = false := rfl
  have hn : H.length ≤ H.length := Nat.le_refl _
  refine call_plainW e22 rfl (Nat.le_of_ble_eq_true rfl) rfl ?_
  refine W_seqI (wc_sound _ _ _ _ hn ?_)
  simp (config := {maxSteps := 4000000}) only [c22, hce, SS, bne_self_eq_false, wr_def, obOf, List.all_cons, List.all_nil, List.map_cons, List.map_nil, List.length_cons, List.length_nil, List.take_zero, List.take_succ_cons, List.take_nil, List.drop_zero, List.drop_succ_cons, List.drop_nil, Nat.reduceAdd, Nat.reduceMul, Nat.reduceSub, if_true, Nat.reduceLT, Nat.reduceLeDiff, ite_true, ite_false, Nat.reduceEqDiff, if_false, reduceCtorEq, ne_eq, List.getD, List.getElem?_cons_zero, List.getElem?_cons_succ, Option.getD_some, Option.bind_some, Option.map_some, Option.isSome_some, reduceIte, List.length_append, List.append_assoc, List.cons_append, List.nil_append, Option.some.injEq, forall_const, implies_true, Int.reduceNeg, eq_self, Prod.mk.injEq, List.self_eq_append_right, List.append_nil, exists_eq_left, exists_eq_left', exists_and_left, exists_eq_right, exists_and_right]
  have hn1 : ∀ o : List Ob, H.length ≤ (H ++ o).length := fun o => by simp
  refine W_seqI (wc_sound _ _ _ _ (hn1 _) ?_)
  simp (config := {maxSteps := 4000000}) only [c22, h2, b0, hce, SS, bne_self_eq_false, wr_def, obOf, List.all_cons, List.all_nil, List.map_cons, List.map_nil, List.length_cons, List.length_nil, List.take_zero, List.take_succ_cons, List.take_nil, List.drop_zero, List.drop_succ_cons, List.drop_nil, Nat.reduceAdd, Nat.reduceMul, Nat.reduceSub, if_true, Nat.reduceLT, Nat.reduceLeDiff, ite_true, ite_false, Nat.reduceEqDiff, if_false, reduceCtorEq, ne_eq, List.getD, List.getElem?_cons_zero, List.getElem?_cons_succ, Option.getD_some, Option.bind_some, Option.map_some, Option.isSome_some, reduceIte, List.length_append, List.append_assoc, List.cons_append, List.nil_append, Option.some.injEq, forall_const, implies_true, Int.reduceNeg, eq_self, Prod.mk.injEq, List.self_eq_append_right, List.append_nil, exists_eq_left, exists_eq_left', exists_and_left, exists_eq_right, exists_and_right]
  refine W_seqI (W.mono (Q := fun e f1 h1 => e = .nrm ∧ St H r t V f1 h1 [83, 87]) (wc_sound _ _ _ _ (hn1 _) ?_) ?_)
  · simp (config := {maxSteps := 4000000}) only [c22, SS, bne_self_eq_false, wr_def, obOf, List.all_cons, List.all_nil, List.map_cons, List.map_nil, List.length_cons, List.length_nil, List.take_zero, List.take_succ_cons, List.take_nil, List.drop_zero, List.drop_succ_cons, List.drop_nil, Nat.reduceAdd, Nat.reduceMul, Nat.reduceSub, if_true, Nat.reduceLT, Nat.reduceLeDiff, ite_true, ite_false, Nat.reduceEqDiff, if_false, reduceCtorEq, ne_eq, List.getD, List.getElem?_cons_zero, List.getElem?_cons_succ, Option.getD_some, Option.bind_some, Option.map_some, Option.isSome_some, reduceIte, List.length_append, List.append_assoc, List.cons_append, List.nil_append, Option.some.injEq, forall_const, implies_true, Int.reduceNeg, eq_self, Prod.mk.injEq, List.self_eq_append_right, List.append_nil, exists_eq_left, exists_eq_left', exists_and_left, exists_eq_right, exists_and_right]
    have ro0 : ∀ fl, rdObj (H ++ [(⟨[.int .i64 (r : Int), .int .i64 (t : Int), V], 0, 0, true, fl⟩ : Ob), ⟨[.int .u8 83, .int .u8 87], 0, 1, true, true⟩]) H.length 0 = some ⟨[.int .i64 (r : Int), .int .i64 (t : Int), V], 0, 0, true, fl⟩ := fun fl => by
      unfold rdObj; rw [List.getElem?_append_right (Nat.le_refl _), Nat.sub_self]; rfl
    have ro1 : ∀ fl, rdObj (H ++ [(⟨[.int .i64 (r : Int), .int .i64 (t : Int), V], 0, 0, true, fl⟩ : Ob), ⟨[.int .u8 83, .int .u8 87], 0, 1, true, true⟩]) (H.length + 1) 0 = some ⟨[.int .u8 83, .int .u8 87], 0, 1, true, true⟩ := fun fl => by
      unfold rdObj; rw [List.getElem?_append_right (by omega), Nat.add_sub_cancel_left]; rfl
    exact ⟨⟨H.length + 1, 0, 1, 0, 2, _, rfl, ro1 _, rfl, by decide, by omega⟩, rfl, ⟨_, ro0 _⟩, ⟨H.length + 1, 0, rfl, ro1 _, by omega⟩, fun id hid => by obtain ⟨_, rfl⟩ := (show idOf (.sl false (H.length + 1) 0 1 0 2) id from hid); exact Nat.le_refl _, hn1 _, by simp⟩
  rintro e f0 h0 - - ⟨rfl, S0⟩
  simp only [thenQ_n]
  have cv : ∀ m : Nat, m < M64 → cviA .u64 (.int .i64 (m : Int)) = some (.int .u64 (m : Int)) := fun m hm => cvi_u .i64 m hm
  refine W_seqI (W.mono (Q := fun e f1 h1 => e = .nrm ∧ St H r t V f1 h1 ([83, 87] ++ pB r 1)) (W_regI (put_reg (pre := [⟨some 17, .mv (.t 5), none, [], false⟩, ⟨some 18, .fad 0 (.t 1), none, [], false⟩, ⟨some 19, .ld1 (.t 18), none, [], false⟩, ⟨some 20, .cvi .u64 (.t 19), none, [], false⟩]) (post := [⟨some 5, .mv (.t 21), none, [], false⟩]) (a := 17) (c := 20) (d := 21) (kk := 1) ?_)) ?_)
  · obtain ⟨e1, ⟨fl, hrd⟩, A, hid, hn2, ht⟩ := (show St H r t V f0 h0 ([83, 87]) from S0)
    generalize e5 : f0 5 = v5 at *
    have c1 := cv r (by unfold M64; omega)
    refine RG_of hn2 ?_
    simp (config := {maxSteps := 4000000}) only [e1, e5, hrd, c1, SS, bne_self_eq_false, wr_def, obOf, List.all_cons, List.all_nil, List.map_cons, List.map_nil, List.length_cons, List.length_nil, List.take_zero, List.take_succ_cons, List.take_nil, List.drop_zero, List.drop_succ_cons, List.drop_nil, Nat.reduceAdd, Nat.reduceMul, Nat.reduceSub, if_true, Nat.reduceLT, Nat.reduceLeDiff, ite_true, ite_false, Nat.reduceEqDiff, if_false, reduceCtorEq, ne_eq, List.getD, List.getElem?_cons_zero, List.getElem?_cons_succ, Option.getD_some, Option.bind_some, Option.map_some, Option.isSome_some, reduceIte, List.length_append, List.append_assoc, List.cons_append, List.nil_append, Option.some.injEq, forall_const, implies_true, Int.reduceNeg, eq_self, Prod.mk.injEq, List.self_eq_append_right, List.append_nil, exists_eq_left, exists_eq_left', exists_and_left, exists_eq_right, exists_and_right]
    refine ⟨r, rfl, _, A, by unfold M64; omega, by simp [pB_len], hn2, fun v' h2 k6 k7 k8 k5 k4 => RG_of (Nat.le_trans hn2 k5) ?_⟩
    simp (config := {maxSteps := 4000000}) only [SS, bne_self_eq_false, wr_def, obOf, List.all_cons, List.all_nil, List.map_cons, List.map_nil, List.length_cons, List.length_nil, List.take_zero, List.take_succ_cons, List.take_nil, List.drop_zero, List.drop_succ_cons, List.drop_nil, Nat.reduceAdd, Nat.reduceMul, Nat.reduceSub, if_true, Nat.reduceLT, Nat.reduceLeDiff, ite_true, ite_false, Nat.reduceEqDiff, if_false, reduceCtorEq, ne_eq, List.getD, List.getElem?_cons_zero, List.getElem?_cons_succ, Option.getD_some, Option.bind_some, Option.map_some, Option.isSome_some, reduceIte, List.length_append, List.append_assoc, List.cons_append, List.nil_append, Option.some.injEq, forall_const, implies_true, Int.reduceNeg, eq_self, Prod.mk.injEq, List.self_eq_append_right, List.append_nil, exists_eq_left, exists_eq_left', exists_and_left, exists_eq_right, exists_and_right]
    refine S0.put (v' := v') rfl rfl ?_ (by rw [e5]; exact k7) (by rw [e5]; exact k8) k5 k4
    simpa [List.append_assoc] using k6
  rintro e f1 h1 - - ⟨rfl, S1⟩
  simp only [thenQ_n]
  refine W_seqI (W.mono (Q := fun e f1 h1 => e = .nrm ∧ St H r t V f1 h1 ([83, 87] ++ (pB r 1 ++ pB t 4))) (W_regI (put_reg (pre := [⟨some 22, .mv (.t 5), none, [], false⟩, ⟨some 23, .fad 1 (.t 1), none, [], false⟩, ⟨some 24, .ld1 (.t 23), none, [], false⟩, ⟨some 25, .cvi .u64 (.t 24), none, [], false⟩]) (post := [⟨some 5, .mv (.t 26), none, [], false⟩]) (a := 22) (c := 25) (d := 26) (kk := 4) ?_)) ?_)
  · obtain ⟨e1, ⟨fl, hrd⟩, A, hid, hn2, ht⟩ := (show St H r t V f1 h1 ([83, 87] ++ pB r 1) from S1)
    generalize e5 : f1 5 = v5 at *
    have c1 := cv t (by unfold M64; omega)
    refine RG_of hn2 ?_
    simp (config := {maxSteps := 4000000}) only [e1, e5, hrd, c1, SS, bne_self_eq_false, wr_def, obOf, List.all_cons, List.all_nil, List.map_cons, List.map_nil, List.length_cons, List.length_nil, List.take_zero, List.take_succ_cons, List.take_nil, List.drop_zero, List.drop_succ_cons, List.drop_nil, Nat.reduceAdd, Nat.reduceMul, Nat.reduceSub, if_true, Nat.reduceLT, Nat.reduceLeDiff, ite_true, ite_false, Nat.reduceEqDiff, if_false, reduceCtorEq, ne_eq, List.getD, List.getElem?_cons_zero, List.getElem?_cons_succ, Option.getD_some, Option.bind_some, Option.map_some, Option.isSome_some, reduceIte, List.length_append, List.append_assoc, List.cons_append, List.nil_append, Option.some.injEq, forall_const, implies_true, Int.reduceNeg, eq_self, Prod.mk.injEq, List.self_eq_append_right, List.append_nil, exists_eq_left, exists_eq_left', exists_and_left, exists_eq_right, exists_and_right]
    refine ⟨t, rfl, _, A, by unfold M64; omega, by simp [pB_len], hn2, fun v' h2 k6 k7 k8 k5 k4 => RG_of (Nat.le_trans hn2 k5) ?_⟩
    simp (config := {maxSteps := 4000000}) only [SS, bne_self_eq_false, wr_def, obOf, List.all_cons, List.all_nil, List.map_cons, List.map_nil, List.length_cons, List.length_nil, List.take_zero, List.take_succ_cons, List.take_nil, List.drop_zero, List.drop_succ_cons, List.drop_nil, Nat.reduceAdd, Nat.reduceMul, Nat.reduceSub, if_true, Nat.reduceLT, Nat.reduceLeDiff, ite_true, ite_false, Nat.reduceEqDiff, if_false, reduceCtorEq, ne_eq, List.getD, List.getElem?_cons_zero, List.getElem?_cons_succ, Option.getD_some, Option.bind_some, Option.map_some, Option.isSome_some, reduceIte, List.length_append, List.append_assoc, List.cons_append, List.nil_append, Option.some.injEq, forall_const, implies_true, Int.reduceNeg, eq_self, Prod.mk.injEq, List.self_eq_append_right, List.append_nil, exists_eq_left, exists_eq_left', exists_and_left, exists_eq_right, exists_and_right]
    refine S1.put (v' := v') rfl rfl ?_ (by rw [e5]; exact k7) (by rw [e5]; exact k8) k5 k4
    simpa [List.append_assoc] using k6
  rintro e f2 h2 - - ⟨rfl, S2⟩
  simp only [thenQ_n]
  refine W_seqI (W.mono (Q := fun e f1 h1 => e = .nrm ∧ St H r t V f1 h1 (hd r t ps.length)) (W_regI (put_reg (pre := [⟨some 27, .mv (.t 5), none, [], false⟩, ⟨some 28, .fad 2 (.t 1), none, [], false⟩, ⟨some 29, .ld1 (.t 28), none, [], false⟩, ⟨some 30, .lenv false (.t 29), none, [], false⟩, ⟨some 31, .cvi .u64 (.t 30), none, [], false⟩]) (post := [⟨some 5, .mv (.t 32), none, [], false⟩]) (a := 27) (c := 31) (d := 32) (kk := 2) ?_)) ?_)
  · obtain ⟨e1, ⟨fl, hrd⟩, A, hid, hn2, ht⟩ := (show St H r t V f2 h2 ([83, 87] ++ (pB r 1 ++ pB t 4)) from S2)
    generalize e5 : f2 5 = v5 at *
    have c1 := cv ps.length (by unfold M64; omega)
    refine RG_of hn2 ?_
    simp (config := {maxSteps := 4000000}) only [e1, e5, hrd, c1, hlen, SS, bne_self_eq_false, wr_def, obOf, List.all_cons, List.all_nil, List.map_cons, List.map_nil, List.length_cons, List.length_nil, List.take_zero, List.take_succ_cons, List.take_nil, List.drop_zero, List.drop_succ_cons, List.drop_nil, Nat.reduceAdd, Nat.reduceMul, Nat.reduceSub, if_true, Nat.reduceLT, Nat.reduceLeDiff, ite_true, ite_false, Nat.reduceEqDiff, if_false, reduceCtorEq, ne_eq, List.getD, List.getElem?_cons_zero, List.getElem?_cons_succ, Option.getD_some, Option.bind_some, Option.map_some, Option.isSome_some, reduceIte, List.length_append, List.append_assoc, List.cons_append, List.nil_append, Option.some.injEq, forall_const, implies_true, Int.reduceNeg, eq_self, Prod.mk.injEq, List.self_eq_append_right, List.append_nil, exists_eq_left, exists_eq_left', exists_and_left, exists_eq_right, exists_and_right]
    refine ⟨ps.length, rfl, _, A, by unfold M64; omega, by simp [pB_len], hn2, fun v' h2 k6 k7 k8 k5 k4 => RG_of (Nat.le_trans hn2 k5) ?_⟩
    simp (config := {maxSteps := 4000000}) only [SS, bne_self_eq_false, wr_def, obOf, List.all_cons, List.all_nil, List.map_cons, List.map_nil, List.length_cons, List.length_nil, List.take_zero, List.take_succ_cons, List.take_nil, List.drop_zero, List.drop_succ_cons, List.drop_nil, Nat.reduceAdd, Nat.reduceMul, Nat.reduceSub, if_true, Nat.reduceLT, Nat.reduceLeDiff, ite_true, ite_false, Nat.reduceEqDiff, if_false, reduceCtorEq, ne_eq, List.getD, List.getElem?_cons_zero, List.getElem?_cons_succ, Option.getD_some, Option.bind_some, Option.map_some, Option.isSome_some, reduceIte, List.length_append, List.append_assoc, List.cons_append, List.nil_append, Option.some.injEq, forall_const, implies_true, Int.reduceNeg, eq_self, Prod.mk.injEq, List.self_eq_append_right, List.append_nil, exists_eq_left, exists_eq_left', exists_and_left, exists_eq_right, exists_and_right]
    refine S2.put (v' := v') rfl rfl ?_ (by rw [e5]; exact k7) (by rw [e5]; exact k8) k5 k4
    simpa [hd, List.append_assoc] using k6
  rintro e f3 h3 - - ⟨rfl, S3⟩
  simp only [thenQ_n]
  -- the plots
  have hbl : ∀ n : Nat, n ≤ 1000 → n ≤ 100000 := fun n h => by omega
  refine W_seqI (W.mono (Q := fun e f1 h1 => e = .nrm ∧ St H r t V f1 h1 (body r t ps)) (W_seqI (W.mono (Q := fun e f1 h1 => e = .nrm ∧ St H r t V f1 h1 (hd r t ps.length) ∧ f1 34 = V ∧ f1 35 = .int .i64 (ps.length : Int) ∧ f1 36 = .int .i64 0) (W_regI ?_) ?_)) ?_)
  · obtain ⟨e1, ⟨fl, hrd⟩, A, hid, hn2, ht⟩ := (show St H r t V f3 h3 (hd r t ps.length) from S3)
    refine RG_of hn2 ?_
    simp (config := {maxSteps := 4000000}) only [e1, hrd, hlen, SS, bne_self_eq_false, wr_def, obOf, List.all_cons, List.all_nil, List.map_cons, List.map_nil, List.length_cons, List.length_nil, List.take_zero, List.take_succ_cons, List.take_nil, List.drop_zero, List.drop_succ_cons, List.drop_nil, Nat.reduceAdd, Nat.reduceMul, Nat.reduceSub, if_true, Nat.reduceLT, Nat.reduceLeDiff, ite_true, ite_false, Nat.reduceEqDiff, if_false, reduceCtorEq, ne_eq, List.getD, List.getElem?_cons_zero, List.getElem?_cons_succ, Option.getD_some, Option.bind_some, Option.map_some, Option.isSome_some, reduceIte, List.length_append, List.append_assoc, List.cons_append, List.nil_append, Option.some.injEq, forall_const, implies_true, Int.reduceNeg, eq_self, Prod.mk.injEq, List.self_eq_append_right, List.append_nil, exists_eq_left, exists_eq_left', exists_and_left, exists_eq_right, exists_and_right]
    exact S3.fr rfl rfl
  · rintro e f4 h4 hn4 ht4 ⟨rfl, S4, e34, e35, e36⟩
    simp only [thenQ_n]
    refine W_blkI (W_loopW (fun q f1 h1 => ∃ i : Nat, q = ps.length - i ∧ i ≤ ps.length ∧ f1 34 = V ∧ f1 35 = .int .i64 (ps.length : Int) ∧ f1 36 = .int .i64 (i : Int) ∧ St H r t V f1 h1 (hd r t ps.length ++ ((ps.take i).map encP).flatten)) hn4 ps.length ⟨0, rfl, by omega, e34, e35, e36, by simpa using S4⟩ ?_)
    clear e34 e35 e36 S4
    rintro q f4 h4 hn4 ht4 ⟨i, rfl, hi, e34, e35, e36, S4⟩
    have hw1 : IntKind.i64.wrap ((i : Int) + 1) = ((i + 1 : Nat) : Int) := by rw [wrap64 (by omega) (by omega)]; omega
    by_cases hiR : i < ps.length
    rotate_left
    · have hc : decide ((i : Int) < (ps.length : Int)) = false := decide_eq_false (by omega)
      have hiE : i = ps.length := by omega
      subst hiE
      refine wc_sound _ _ _ _ hn4 ?_
      simp (config := {maxSteps := 4000000}) only [e34, e35, e36, hc, SS, bne_self_eq_false, wr_def, obOf, List.all_cons, List.all_nil, List.map_cons, List.map_nil, List.length_cons, List.length_nil, List.take_zero, List.take_succ_cons, List.take_nil, List.drop_zero, List.drop_succ_cons, List.drop_nil, Nat.reduceAdd, Nat.reduceMul, Nat.reduceSub, if_true, Nat.reduceLT, Nat.reduceLeDiff, ite_true, ite_false, Nat.reduceEqDiff, if_false, reduceCtorEq, ne_eq, List.getD, List.getElem?_cons_zero, List.getElem?_cons_succ, Option.getD_some, Option.bind_some, Option.map_some, Option.isSome_some, reduceIte, List.length_append, List.append_assoc, List.cons_append, List.nil_append, Option.some.injEq, forall_const, implies_true, Int.reduceNeg, eq_self, Prod.mk.injEq, List.self_eq_append_right, List.append_nil, exists_eq_left, exists_eq_left', exists_and_left, exists_eq_right, exists_and_right]
      rw [List.take_length] at S4
      exact S4.fr rfl rfl
    have hc : decide ((i : Int) < (ps.length : Int)) = true := decide_eq_true (by omega)
    obtain ⟨p, hp⟩ : ∃ p, ps[i]? = some p := ⟨_, List.getElem?_eq_getElem hiR⟩
    have hpv := v6 p (List.mem_of_getElem? hp)
    have htk : ((ps.take (i + 1)).map encP).flatten = ((ps.take i).map encP).flatten ++ encP p := by
      rw [List.take_add_one, hp]; simp
    have htl : (ps.take i).length = i := by rw [List.length_take]; omega
    have hdb := dbl_lt hpv.2.2.1 hpv.2.2.2.1
    have hff : ∀ H, pcall E 61 [.int .i64 p.rg, .int .i64 0] H = some (.tup [.int .u64 (Fl.dblW p.rg 0 : Int), .int .i64 0]) := fun H => Fl.ff_pc (n := p.rg) (by have := hpv.2.2.1; omega) (by have := hpv.2.2.2.1; omega) (d := 0) (by decide) H
    refine W_seqI (wc_sound _ _ _ _ hn4 ?_)
    simp (config := {maxSteps := 4000000}) only [e34, e35, e36, hc, SS, bne_self_eq_false, wr_def, obOf, List.all_cons, List.all_nil, List.map_cons, List.map_nil, List.length_cons, List.length_nil, List.take_zero, List.take_succ_cons, List.take_nil, List.drop_zero, List.drop_succ_cons, List.drop_nil, Nat.reduceAdd, Nat.reduceMul, Nat.reduceSub, if_true, Nat.reduceLT, Nat.reduceLeDiff, ite_true, ite_false, Nat.reduceEqDiff, if_false, reduceCtorEq, ne_eq, List.getD, List.getElem?_cons_zero, List.getElem?_cons_succ, Option.getD_some, Option.bind_some, Option.map_some, Option.isSome_some, reduceIte, List.length_append, List.append_assoc, List.cons_append, List.nil_append, Option.some.injEq, forall_const, implies_true, Int.reduceNeg, eq_self, Prod.mk.injEq, List.self_eq_append_right, List.append_nil, exists_eq_left, exists_eq_left', exists_and_left, exists_eq_right, exists_and_right]
    refine W_seqI (wc_sound _ _ _ _ hn4 ?_)
    simp (config := {maxSteps := 4000000}) only [e34, e35, e36, hc, SS, bne_self_eq_false, wr_def, obOf, List.all_cons, List.all_nil, List.map_cons, List.map_nil, List.length_cons, List.length_nil, List.take_zero, List.take_succ_cons, List.take_nil, List.drop_zero, List.drop_succ_cons, List.drop_nil, Nat.reduceAdd, Nat.reduceMul, Nat.reduceSub, if_true, Nat.reduceLT, Nat.reduceLeDiff, ite_true, ite_false, Nat.reduceEqDiff, if_false, reduceCtorEq, ne_eq, List.getD, List.getElem?_cons_zero, List.getElem?_cons_succ, Option.getD_some, Option.bind_some, Option.map_some, Option.isSome_some, reduceIte, List.length_append, List.append_assoc, List.cons_append, List.nil_append, Option.some.injEq, forall_const, implies_true, Int.reduceNeg, eq_self, Prod.mk.injEq, List.self_eq_append_right, List.append_nil, exists_eq_left, exists_eq_left', exists_and_left, exists_eq_right, exists_and_right]
    refine W_seqI (W_blkI (W.mono (Q := fun e f1 h1 => e = .nrm ∧ St H r t V f1 h1 ((hd r t ps.length ++ ((ps.take i).map encP).flatten) ++ encP p) ∧ f1 34 = V ∧ f1 35 = .int .i64 (ps.length : Int) ∧ f1 36 = .int .i64 (i : Int)) (W_seqI (W.mono (Q := fun e f1 h1 => e = .nrm ∧ St H r t V f1 h1 (hd r t ps.length ++ ((ps.take i).map encP).flatten) ∧ ∃ q, Lp V ps.length i p q f1 h1) (wc_sound _ _ _ _ hn4 ?_) ?_)) ?_))
    · have hs4 : SlL h4 V Pl.c 6 ps := by
        have := hs.keep (h4.drop H.length)
        rwa [← take_eq S4.2.2.2.2.2] at this
      have hok := hs4.ok (i := (i : Int)) (kk := .i64) (by omega) (by omega)
      have hld := hs4.ldn (i := (i : Int)) (kk := .i64) (x := p) (by omega) (by simpa using hp)
      have hcc : p.c.length = 6 := rfl
      unfold Pl.c at hld
      simp (config := {maxSteps := 4000000}) only [e34, e35, e36, hok, hld, SS, bne_self_eq_false, wr_def, obOf, List.all_cons, List.all_nil, List.map_cons, List.map_nil, List.length_cons, List.length_nil, List.take_zero, List.take_succ_cons, List.take_nil, List.drop_zero, List.drop_succ_cons, List.drop_nil, Nat.reduceAdd, Nat.reduceMul, Nat.reduceSub, if_true, Nat.reduceLT, Nat.reduceLeDiff, ite_true, ite_false, Nat.reduceEqDiff, if_false, reduceCtorEq, ne_eq, List.getD, List.getElem?_cons_zero, List.getElem?_cons_succ, Option.getD_some, Option.bind_some, Option.map_some, Option.isSome_some, reduceIte, List.length_append, List.append_assoc, List.cons_append, List.nil_append, Option.some.injEq, forall_const, implies_true, Int.reduceNeg, eq_self, Prod.mk.injEq, List.self_eq_append_right, List.append_nil, exists_eq_left, exists_eq_left', exists_and_left, exists_eq_right, exists_and_right]
      exact ⟨hn4, (S4.keep _).fr rfl rfl, h4.length, e34, e35, e36, rfl, by unfold rdObj Pl.c; simp, fun id hid => Nat.ne_of_lt (S4.2.2.1.lt hid)⟩
    · rintro e f5 h5 hn5 ht5 ⟨rfl, S5, q, L5⟩
      simp only [thenQ_n]
      have hpc : p.c = [.int .i64 p.rd, .int .i64 p.tm, .int .i64 p.rg, .int .i64 p.az, .int .i64 p.ht, .int .i64 p.cd] := rfl
      obtain ⟨az, haz⟩ : ∃ az : Nat, p.az = (az : Int) := ⟨p.az.toNat, by have := hpv.2.2.2.2.1; omega⟩
      obtain ⟨ht, hht⟩ : ∃ ht : Nat, p.ht = (ht : Int) := ⟨p.ht.toNat, by have := hpv.2.2.2.2.2.2.1; omega⟩
      obtain ⟨cd, hcd⟩ : ∃ cd : Nat, p.cd + 1 = (cd : Int) := ⟨(p.cd + 1).toNat, by have := hpv.2.2.2.2.2.2.2.2.1; omega⟩
      have hazb : az < 65536 := by have := hpv.2.2.2.2.2.1; omega
      have hhtb : ht < 65536 := by have := hpv.2.2.2.2.2.2.2.1; omega
      have hcdb : cd < 65536 := by have := hpv.2.2.2.2.2.2.2.2.2; omega
      obtain ⟨D, hD⟩ : ∃ D, Fl.dblW p.rg 0 = D := ⟨_, rfl⟩
      rw [hD] at hdb hff
      have hwc : IntKind.i64.wrap (p.cd + 1) = (cd : Int) := by rw [hcd]; exact wrap64 (by omega) (by omega)
      have c1 := cv az (by unfold M64; omega)
      have c2 := cv ht (by unfold M64; omega)
      have c3 := cv cd (by unfold M64; omega)
      have hxl : ((ps.take i).map encP).flatten.length ≤ 16000 := by rw [encs_len, htl]; omega
      rw [haz] at hpc
      rw [hht] at hpc
      have hencp : encP p = pB D 8 ++ (pB az 2 ++ (pB ht 4 ++ pB cd 2)) := by
        rw [encP, hD, haz, hht, hcd]; rfl
      rw [hencp]
      obtain ⟨bs0, hbs0⟩ : ∃ bs0, hd (↑r) (↑t) ps.length ++ ((ps.take i).map encP).flatten = bs0 := ⟨_, rfl⟩
      have hb0l : bs0.length ≤ 20000 := by rw [← hbs0, List.length_append, hd_len]; omega
      rw [hbs0] at S5 ⊢
      refine W_seqI (W.mono (Q := fun e f1 h1 => e = .nrm ∧ St H r t V f1 h1 bs0 ∧ Lp V ps.length i p q f1 h1 ∧ f1 8 = .int .u64 (D : Int)) (wc_sound _ _ _ _ hn5 ?_) ?_)
      · obtain ⟨e1, ⟨fl, hrd⟩, A, hid, hn2, hTk⟩ := (show St H r t V f5 h5 bs0 from S5)
        obtain ⟨g34, g35, g36, g7, gq, gi⟩ := (show Lp V ps.length i p q f5 h5 from L5)
        rw [hpc] at gq
        simp (config := {maxSteps := 4000000}) only [e1, hrd, hff, g7, gq, SS, bne_self_eq_false, wr_def, obOf, List.all_cons, List.all_nil, List.map_cons, List.map_nil, List.length_cons, List.length_nil, List.take_zero, List.take_succ_cons, List.take_nil, List.drop_zero, List.drop_succ_cons, List.drop_nil, Nat.reduceAdd, Nat.reduceMul, Nat.reduceSub, if_true, Nat.reduceLT, Nat.reduceLeDiff, ite_true, ite_false, Nat.reduceEqDiff, if_false, reduceCtorEq, ne_eq, List.getD, List.getElem?_cons_zero, List.getElem?_cons_succ, Option.getD_some, Option.bind_some, Option.map_some, Option.isSome_some, reduceIte, List.length_append, List.append_assoc, List.cons_append, List.nil_append, Option.some.injEq, forall_const, implies_true, Int.reduceNeg, eq_self, Prod.mk.injEq, List.self_eq_append_right, List.append_nil, exists_eq_left, exists_eq_left', exists_and_left, exists_eq_right, exists_and_right]
        exact ⟨hn5, S5.fr rfl rfl, ⟨g34, g35, g36, g7, by rw [hpc]; exact gq, gi⟩⟩
      clear S5 L5
      rintro e f5 h5 hn5 ht5 ⟨rfl, S5, L5, g8⟩
      simp only [thenQ_n]
      refine W_seqI (W.mono (Q := fun e f1 h1 => e = .nrm ∧ St H r t V f1 h1 (bs0 ++ pB D 8) ∧ Lp V ps.length i p q f1 h1) (W_regI (put_reg (pre := [⟨some 46, .mv (.t 5), none, [], false⟩, ⟨some 47, .mv (.t 8), none, [], false⟩]) (post := [⟨some 5, .mv (.t 48), none, [], false⟩]) (a := 46) (c := 47) (d := 48) (kk := 8) ?_)) ?_)
      · obtain ⟨e1, ⟨fl, hrd⟩, A, hid, hn2, hTk⟩ := (show St H r t V f5 h5 (bs0) from S5)
        obtain ⟨g34, g35, g36, g7, gq, gi⟩ := (show Lp V ps.length i p q f5 h5 from L5)
        rw [hpc] at gq
        generalize e5 : f5 5 = v5 at *
        refine RG_of hn2 ?_
        simp (config := {maxSteps := 4000000}) only [e1, e5, hrd, g7, gq, g8, SS, bne_self_eq_false, wr_def, obOf, List.all_cons, List.all_nil, List.map_cons, List.map_nil, List.length_cons, List.length_nil, List.take_zero, List.take_succ_cons, List.take_nil, List.drop_zero, List.drop_succ_cons, List.drop_nil, Nat.reduceAdd, Nat.reduceMul, Nat.reduceSub, if_true, Nat.reduceLT, Nat.reduceLeDiff, ite_true, ite_false, Nat.reduceEqDiff, if_false, reduceCtorEq, ne_eq, List.getD, List.getElem?_cons_zero, List.getElem?_cons_succ, Option.getD_some, Option.bind_some, Option.map_some, Option.isSome_some, reduceIte, List.length_append, List.append_assoc, List.cons_append, List.nil_append, Option.some.injEq, forall_const, implies_true, Int.reduceNeg, eq_self, Prod.mk.injEq, List.self_eq_append_right, List.append_nil, exists_eq_left, exists_eq_left', exists_and_left, exists_eq_right, exists_and_right]
        refine ⟨D, rfl, _, A, hdb, by omega, hn2, fun v' h2 k6 k7 k8 k5 k4 => RG_of (Nat.le_trans hn2 k5) ?_⟩ --, hn2, fun v' h2 k6 k7 k8 k5 k4 => RG_of (Nat.le_trans hn2 k5) ?_⟩
        simp (config := {maxSteps := 4000000}) only [SS, bne_self_eq_false, wr_def, obOf, List.all_cons, List.all_nil, List.map_cons, List.map_nil, List.length_cons, List.length_nil, List.take_zero, List.take_succ_cons, List.take_nil, List.drop_zero, List.drop_succ_cons, List.drop_nil, Nat.reduceAdd, Nat.reduceMul, Nat.reduceSub, if_true, Nat.reduceLT, Nat.reduceLeDiff, ite_true, ite_false, Nat.reduceEqDiff, if_false, reduceCtorEq, ne_eq, List.getD, List.getElem?_cons_zero, List.getElem?_cons_succ, Option.getD_some, Option.bind_some, Option.map_some, Option.isSome_some, reduceIte, List.length_append, List.append_assoc, List.cons_append, List.nil_append, Option.some.injEq, forall_const, implies_true, Int.reduceNeg, eq_self, Prod.mk.injEq, List.self_eq_append_right, List.append_nil, exists_eq_left, exists_eq_left', exists_and_left, exists_eq_right, exists_and_right]
        exact ⟨S5.put (v' := v') rfl rfl (by simpa [List.append_assoc] using k6) (by rw [e5]; exact k7) (by rw [e5]; exact k8) k5 k4, L5.put (v' := v') rfl rfl rfl rfl rfl (by rw [e5]; exact k7) (by rw [e5]; exact k8)⟩
      clear S5 L5
      rintro e f5 h5 hn5 ht5 ⟨rfl, S5, L5⟩
      simp only [thenQ_n]
      refine W_seqI (W.mono (Q := fun e f1 h1 => e = .nrm ∧ St H r t V f1 h1 (bs0 ++ (pB D 8 ++ pB az 2)) ∧ Lp V ps.length i p q f1 h1) (W_regI (put_reg (pre := [⟨some 49, .mv (.t 5), none, [], false⟩, ⟨some 50, .fad 3 (.t 7), none, [], false⟩, ⟨some 51, .ld1 (.t 50), none, [], false⟩, ⟨some 52, .cvi .u64 (.t 51), none, [], false⟩]) (post := [⟨some 5, .mv (.t 53), none, [], false⟩]) (a := 49) (c := 52) (d := 53) (kk := 2) ?_)) ?_)
      · obtain ⟨e1, ⟨fl, hrd⟩, A, hid, hn2, hTk⟩ := (show St H r t V f5 h5 (bs0 ++ pB D 8) from S5)
        obtain ⟨g34, g35, g36, g7, gq, gi⟩ := (show Lp V ps.length i p q f5 h5 from L5)
        rw [hpc] at gq
        generalize e5 : f5 5 = v5 at *
        refine RG_of hn2 ?_
        simp (config := {maxSteps := 4000000}) only [e1, e5, hrd, g7, gq, c1, SS, bne_self_eq_false, wr_def, obOf, List.all_cons, List.all_nil, List.map_cons, List.map_nil, List.length_cons, List.length_nil, List.take_zero, List.take_succ_cons, List.take_nil, List.drop_zero, List.drop_succ_cons, List.drop_nil, Nat.reduceAdd, Nat.reduceMul, Nat.reduceSub, if_true, Nat.reduceLT, Nat.reduceLeDiff, ite_true, ite_false, Nat.reduceEqDiff, if_false, reduceCtorEq, ne_eq, List.getD, List.getElem?_cons_zero, List.getElem?_cons_succ, Option.getD_some, Option.bind_some, Option.map_some, Option.isSome_some, reduceIte, List.length_append, List.append_assoc, List.cons_append, List.nil_append, Option.some.injEq, forall_const, implies_true, Int.reduceNeg, eq_self, Prod.mk.injEq, List.self_eq_append_right, List.append_nil, exists_eq_left, exists_eq_left', exists_and_left, exists_eq_right, exists_and_right]
        refine ⟨az, rfl, _, A, by unfold M64; omega, by simp [pB_len]; omega, hn2, fun v' h2 k6 k7 k8 k5 k4 => RG_of (Nat.le_trans hn2 k5) ?_⟩
        simp (config := {maxSteps := 4000000}) only [SS, bne_self_eq_false, wr_def, obOf, List.all_cons, List.all_nil, List.map_cons, List.map_nil, List.length_cons, List.length_nil, List.take_zero, List.take_succ_cons, List.take_nil, List.drop_zero, List.drop_succ_cons, List.drop_nil, Nat.reduceAdd, Nat.reduceMul, Nat.reduceSub, if_true, Nat.reduceLT, Nat.reduceLeDiff, ite_true, ite_false, Nat.reduceEqDiff, if_false, reduceCtorEq, ne_eq, List.getD, List.getElem?_cons_zero, List.getElem?_cons_succ, Option.getD_some, Option.bind_some, Option.map_some, Option.isSome_some, reduceIte, List.length_append, List.append_assoc, List.cons_append, List.nil_append, Option.some.injEq, forall_const, implies_true, Int.reduceNeg, eq_self, Prod.mk.injEq, List.self_eq_append_right, List.append_nil, exists_eq_left, exists_eq_left', exists_and_left, exists_eq_right, exists_and_right]
        exact ⟨S5.put (v' := v') rfl rfl (by simpa [List.append_assoc] using k6) (by rw [e5]; exact k7) (by rw [e5]; exact k8) k5 k4, L5.put (v' := v') rfl rfl rfl rfl rfl (by rw [e5]; exact k7) (by rw [e5]; exact k8)⟩
      clear S5 L5
      rintro e f5 h5 hn5 ht5 ⟨rfl, S5, L5⟩
      simp only [thenQ_n]
      refine W_seqI (W.mono (Q := fun e f1 h1 => e = .nrm ∧ St H r t V f1 h1 (bs0 ++ (pB D 8 ++ (pB az 2 ++ pB ht 4))) ∧ Lp V ps.length i p q f1 h1) (W_regI (put_reg (pre := [⟨some 54, .mv (.t 5), none, [], false⟩, ⟨some 55, .fad 4 (.t 7), none, [], false⟩, ⟨some 56, .ld1 (.t 55), none, [], false⟩, ⟨some 57, .cvi .u64 (.t 56), none, [], false⟩]) (post := [⟨some 5, .mv (.t 58), none, [], false⟩]) (a := 54) (c := 57) (d := 58) (kk := 4) ?_)) ?_)
      · obtain ⟨e1, ⟨fl, hrd⟩, A, hid, hn2, hTk⟩ := (show St H r t V f5 h5 (bs0 ++ (pB D 8 ++ pB az 2)) from S5)
        obtain ⟨g34, g35, g36, g7, gq, gi⟩ := (show Lp V ps.length i p q f5 h5 from L5)
        rw [hpc] at gq
        generalize e5 : f5 5 = v5 at *
        refine RG_of hn2 ?_
        simp (config := {maxSteps := 4000000}) only [e1, e5, hrd, g7, gq, c2, SS, bne_self_eq_false, wr_def, obOf, List.all_cons, List.all_nil, List.map_cons, List.map_nil, List.length_cons, List.length_nil, List.take_zero, List.take_succ_cons, List.take_nil, List.drop_zero, List.drop_succ_cons, List.drop_nil, Nat.reduceAdd, Nat.reduceMul, Nat.reduceSub, if_true, Nat.reduceLT, Nat.reduceLeDiff, ite_true, ite_false, Nat.reduceEqDiff, if_false, reduceCtorEq, ne_eq, List.getD, List.getElem?_cons_zero, List.getElem?_cons_succ, Option.getD_some, Option.bind_some, Option.map_some, Option.isSome_some, reduceIte, List.length_append, List.append_assoc, List.cons_append, List.nil_append, Option.some.injEq, forall_const, implies_true, Int.reduceNeg, eq_self, Prod.mk.injEq, List.self_eq_append_right, List.append_nil, exists_eq_left, exists_eq_left', exists_and_left, exists_eq_right, exists_and_right]
        refine ⟨ht, rfl, _, A, by unfold M64; omega, by simp [pB_len]; omega, hn2, fun v' h2 k6 k7 k8 k5 k4 => RG_of (Nat.le_trans hn2 k5) ?_⟩
        simp (config := {maxSteps := 4000000}) only [SS, bne_self_eq_false, wr_def, obOf, List.all_cons, List.all_nil, List.map_cons, List.map_nil, List.length_cons, List.length_nil, List.take_zero, List.take_succ_cons, List.take_nil, List.drop_zero, List.drop_succ_cons, List.drop_nil, Nat.reduceAdd, Nat.reduceMul, Nat.reduceSub, if_true, Nat.reduceLT, Nat.reduceLeDiff, ite_true, ite_false, Nat.reduceEqDiff, if_false, reduceCtorEq, ne_eq, List.getD, List.getElem?_cons_zero, List.getElem?_cons_succ, Option.getD_some, Option.bind_some, Option.map_some, Option.isSome_some, reduceIte, List.length_append, List.append_assoc, List.cons_append, List.nil_append, Option.some.injEq, forall_const, implies_true, Int.reduceNeg, eq_self, Prod.mk.injEq, List.self_eq_append_right, List.append_nil, exists_eq_left, exists_eq_left', exists_and_left, exists_eq_right, exists_and_right]
        exact ⟨S5.put (v' := v') rfl rfl (by simpa [List.append_assoc] using k6) (by rw [e5]; exact k7) (by rw [e5]; exact k8) k5 k4, L5.put (v' := v') rfl rfl rfl rfl rfl (by rw [e5]; exact k7) (by rw [e5]; exact k8)⟩
      clear S5 L5
      rintro e f5 h5 hn5 ht5 ⟨rfl, S5, L5⟩
      simp only [thenQ_n]
      refine W.mono (Q := fun e f1 h1 => e = .nrm ∧ St H r t V f1 h1 (bs0 ++ (pB D 8 ++ (pB az 2 ++ (pB ht 4 ++ pB cd 2)))) ∧ Lp V ps.length i p q f1 h1) (W_regI (put_reg (pre := [⟨some 59, .mv (.t 5), none, [], false⟩, ⟨some 60, .fad 5 (.t 7), none, [], false⟩, ⟨some 61, .ld1 (.t 60), none, [], false⟩, ⟨some 62, .bin .add (.t 61) (.k (.int .i64 1)), none, [], false⟩, ⟨some 63, .cvi .u64 (.t 62), none, [], false⟩]) (post := [⟨some 5, .mv (.t 64), none, [], false⟩]) (a := 59) (c := 63) (d := 64) (kk := 2) ?_)) ?_
      · obtain ⟨e1, ⟨fl, hrd⟩, A, hid, hn2, hTk⟩ := (show St H r t V f5 h5 (bs0 ++ (pB D 8 ++ (pB az 2 ++ pB ht 4))) from S5)
        obtain ⟨g34, g35, g36, g7, gq, gi⟩ := (show Lp V ps.length i p q f5 h5 from L5)
        rw [hpc] at gq
        generalize e5 : f5 5 = v5 at *
        refine RG_of hn2 ?_
        simp (config := {maxSteps := 4000000}) only [e1, e5, hrd, g7, gq, c3, hwc, SS, bne_self_eq_false, wr_def, obOf, List.all_cons, List.all_nil, List.map_cons, List.map_nil, List.length_cons, List.length_nil, List.take_zero, List.take_succ_cons, List.take_nil, List.drop_zero, List.drop_succ_cons, List.drop_nil, Nat.reduceAdd, Nat.reduceMul, Nat.reduceSub, if_true, Nat.reduceLT, Nat.reduceLeDiff, ite_true, ite_false, Nat.reduceEqDiff, if_false, reduceCtorEq, ne_eq, List.getD, List.getElem?_cons_zero, List.getElem?_cons_succ, Option.getD_some, Option.bind_some, Option.map_some, Option.isSome_some, reduceIte, List.length_append, List.append_assoc, List.cons_append, List.nil_append, Option.some.injEq, forall_const, implies_true, Int.reduceNeg, eq_self, Prod.mk.injEq, List.self_eq_append_right, List.append_nil, exists_eq_left, exists_eq_left', exists_and_left, exists_eq_right, exists_and_right]
        refine ⟨cd, rfl, _, A, by unfold M64; omega, by simp [pB_len]; omega, hn2, fun v' h2 k6 k7 k8 k5 k4 => RG_of (Nat.le_trans hn2 k5) ?_⟩
        simp (config := {maxSteps := 4000000}) only [SS, bne_self_eq_false, wr_def, obOf, List.all_cons, List.all_nil, List.map_cons, List.map_nil, List.length_cons, List.length_nil, List.take_zero, List.take_succ_cons, List.take_nil, List.drop_zero, List.drop_succ_cons, List.drop_nil, Nat.reduceAdd, Nat.reduceMul, Nat.reduceSub, if_true, Nat.reduceLT, Nat.reduceLeDiff, ite_true, ite_false, Nat.reduceEqDiff, if_false, reduceCtorEq, ne_eq, List.getD, List.getElem?_cons_zero, List.getElem?_cons_succ, Option.getD_some, Option.bind_some, Option.map_some, Option.isSome_some, reduceIte, List.length_append, List.append_assoc, List.cons_append, List.nil_append, Option.some.injEq, forall_const, implies_true, Int.reduceNeg, eq_self, Prod.mk.injEq, List.self_eq_append_right, List.append_nil, exists_eq_left, exists_eq_left', exists_and_left, exists_eq_right, exists_and_right]
        exact ⟨S5.put (v' := v') rfl rfl (by simpa [List.append_assoc] using k6) (by rw [e5]; exact k7) (by rw [e5]; exact k8) k5 k4, L5.put (v' := v') rfl rfl rfl rfl rfl (by rw [e5]; exact k7) (by rw [e5]; exact k8)⟩
      clear S5 L5
      rintro e f5 h5 hn5 ht5 ⟨rfl, S5, L5⟩
      exact ⟨rfl, S5, L5.1, L5.2.1, L5.2.2.1⟩
    · rintro e f9 h9 hn9 ht9 ⟨rfl, S9, e34, e35, e36⟩
      simp only [leaveQ, thenQ_n]
      refine wc_sound _ _ _ _ hn9 ?_
      simp (config := {maxSteps := 4000000}) only [e34, e35, e36, hw1, SS, bne_self_eq_false, wr_def, obOf, List.all_cons, List.all_nil, List.map_cons, List.map_nil, List.length_cons, List.length_nil, List.take_zero, List.take_succ_cons, List.take_nil, List.drop_zero, List.drop_succ_cons, List.drop_nil, Nat.reduceAdd, Nat.reduceMul, Nat.reduceSub, if_true, Nat.reduceLT, Nat.reduceLeDiff, ite_true, ite_false, Nat.reduceEqDiff, if_false, reduceCtorEq, ne_eq, List.getD, List.getElem?_cons_zero, List.getElem?_cons_succ, Option.getD_some, Option.bind_some, Option.map_some, Option.isSome_some, reduceIte, List.length_append, List.append_assoc, List.cons_append, List.nil_append, Option.some.injEq, forall_const, implies_true, Int.reduceNeg, eq_self, Prod.mk.injEq, List.self_eq_append_right, List.append_nil, exists_eq_left, exists_eq_left', exists_and_left, exists_eq_right, exists_and_right]
      exact ⟨ps.length - (i + 1), by omega, i + 1, rfl, by omega, rfl, by rw [htk, ← List.append_assoc]; exact S9.fr rfl rfl⟩
  rintro e f4 h4 hn4 - ⟨rfl, S4⟩
  simp only [thenQ_n]
  have hbl : (body r t ps).length ≤ 20000 := by rw [body_len]; omega
  have hsm := sm_lt (bs ⟨(body r t ps).toArray⟩)
  refine W_seqI (W.mono (Q := fun e f1 h1 => e = .nrm ∧ f1 2 = .str ⟨(enc r t ps).toArray⟩ ∧ f1 3 = .int .i64 0 ∧ h1.take H.length = H) (W_regI (put_reg (pre := [⟨some 66, .mv (.t 5), none, [], false⟩, ⟨some 67, .mv (.t 5), none, [], false⟩, ⟨some 68, .cbs (.t 67), none, [], false⟩, ⟨some 69, .call (.k (.fn 57 [])) [.t 68], none, [], false⟩, ⟨some 70, .cvi .u64 (.t 69), none, [], false⟩]) (post := [⟨some 72, .cbs (.t 71), none, [], false⟩, ⟨some 2, .mv (.t 72), none, [], false⟩, ⟨some 3, .mv (.k (.int .i64 0)), none, [], false⟩]) (a := 66) (c := 70) (d := 71) (kk := 2) ?_)) ?_)
  · obtain ⟨e1, ⟨fl, hrd⟩, A, hid, hn2, hTk⟩ := (show St H r t V f4 h4 (body r t ps) from S4)
    generalize e5 : f4 5 = v5 at *
    have hcb := cbs_arr A
    have hbsb : bs ⟨(body r t ps).toArray⟩ = body r t ps := rfl
    have hsum := fun h => sum_pc (s := ⟨(body r t ps).toArray⟩) (by show (body r t ps).length < _; omega) h
    rw [hbsb] at hsum hsm
    have hsl : sumL (body r t ps) < 65536 := by unfold sumL; omega
    have c1 := cv (sumL (body r t ps)) (by unfold M64; omega)
    generalize hB : body r t ps = B at *
    refine RG_of hn2 ?_
    simp (config := {maxSteps := 4000000}) only [e1, e5, hrd, hcb, hsum, c1, SS, bne_self_eq_false, wr_def, obOf, List.all_cons, List.all_nil, List.map_cons, List.map_nil, List.length_cons, List.length_nil, List.take_zero, List.take_succ_cons, List.take_nil, List.drop_zero, List.drop_succ_cons, List.drop_nil, Nat.reduceAdd, Nat.reduceMul, Nat.reduceSub, if_true, Nat.reduceLT, Nat.reduceLeDiff, ite_true, ite_false, Nat.reduceEqDiff, if_false, reduceCtorEq, ne_eq, List.getD, List.getElem?_cons_zero, List.getElem?_cons_succ, Option.getD_some, Option.bind_some, Option.map_some, Option.isSome_some, reduceIte, List.length_append, List.append_assoc, List.cons_append, List.nil_append, Option.some.injEq, forall_const, implies_true, Int.reduceNeg, eq_self, Prod.mk.injEq, List.self_eq_append_right, List.append_nil, exists_eq_left, exists_eq_left', exists_and_left, exists_eq_right, exists_and_right]
    refine ⟨hn2, sumL B, rfl, _, A, by unfold M64; omega, by omega, hn2, fun v' h2 k6 k7 k8 k5 k4 => RG_of (Nat.le_trans hn2 k5) ?_⟩
    have hcb2 := cbs_arr k6
    simp (config := {maxSteps := 4000000}) only [hcb2, SS, bne_self_eq_false, wr_def, obOf, List.all_cons, List.all_nil, List.map_cons, List.map_nil, List.length_cons, List.length_nil, List.take_zero, List.take_succ_cons, List.take_nil, List.drop_zero, List.drop_succ_cons, List.drop_nil, Nat.reduceAdd, Nat.reduceMul, Nat.reduceSub, if_true, Nat.reduceLT, Nat.reduceLeDiff, ite_true, ite_false, Nat.reduceEqDiff, if_false, reduceCtorEq, ne_eq, List.getD, List.getElem?_cons_zero, List.getElem?_cons_succ, Option.getD_some, Option.bind_some, Option.map_some, Option.isSome_some, reduceIte, List.length_append, List.append_assoc, List.cons_append, List.nil_append, Option.some.injEq, forall_const, implies_true, Int.reduceNeg, eq_self, Prod.mk.injEq, List.self_eq_append_right, List.append_nil, exists_eq_left, exists_eq_left', exists_and_left, exists_eq_right, exists_and_right]
    exact ⟨by rw [enc, hB], by rw [k4, hTk]⟩
  rintro e f5 h5 hn5 ht5 ⟨rfl, e2, e3, hT⟩
  simp only [thenQ_n]
  refine wc_sound _ _ _ _ hn5 ?_
  simp (config := {maxSteps := 4000000}) only [e2, e3, hT, SS, bne_self_eq_false, wr_def, obOf, List.all_cons, List.all_nil, List.map_cons, List.map_nil, List.length_cons, List.length_nil, List.take_zero, List.take_succ_cons, List.take_nil, List.drop_zero, List.drop_succ_cons, List.drop_nil, Nat.reduceAdd, Nat.reduceMul, Nat.reduceSub, if_true, Nat.reduceLT, Nat.reduceLeDiff, ite_true, ite_false, Nat.reduceEqDiff, if_false, reduceCtorEq, ne_eq, List.getD, List.getElem?_cons_zero, List.getElem?_cons_succ, Option.getD_some, Option.bind_some, Option.map_some, Option.isSome_some, reduceIte, List.length_append, List.append_assoc, List.cons_append, List.nil_append, Option.some.injEq, forall_const, implies_true, Int.reduceNeg, eq_self, Prod.mk.injEq, List.self_eq_append_right, List.append_nil, exists_eq_left, exists_eq_left', exists_and_left, exists_eq_right, exists_and_right]
end Go.Proofs.Ytaekgifbehoipaa.Wr
