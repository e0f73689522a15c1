/- The law AssignMisses: the abstract machine answers true. No condition. -/
import Derived.Test.YtpehhlfbnkakpaaInAssignMisses
import Derived.Test.YtpehhlfbnkakpaaHgU
namespace Go.Proofs.Ytpehhlfbnkakpaa.MyAssignMisses
open Go Go.Proofs.Ytpehhlfbnkakpaa.Eva Go.Proofs.Ytpehhlfbnkakpaa.CodeAll Go.Proofs.Ytpehhlfbnkakpaa.InAssignMisses Go.Proofs.Ytpehhlfbnkakpaa.Fl Go.Proofs.Ytpehhlfbnkakpaa.Hg
set_option linter.unusedVariables false
set_option linter.unusedSimpArgs false
set_option maxRecDepth 10000
set_option maxHeartbeats 4000000

theorem neg_pc (k : Int) (H : List Ob) : pcall E 52 ([.int .i64 k] ++ []) H = some (.bool (decide (0 ≤ k))) := by
  refine pcall_some.2 (call_plain e52 rfl (Nat.le_of_ble_eq_true rfl) rfl ?_)
  simp (config := {maxSteps := 4000000}) only [c52, SS, bne_self_eq_false, wr_def, obOf, List.all_cons, List.all_nil, List.map_cons, List.map_nil, List.length_cons, List.length_nil, List.take_zero, List.take_succ_cons, List.take_nil, List.drop_zero, List.drop_succ_cons, List.drop_nil, Nat.reduceAdd, Nat.reduceMul, Nat.reduceSub, if_true, Nat.reduceLT, Nat.reduceLeDiff, ite_true, ite_false, Nat.reduceEqDiff, if_false, reduceCtorEq, ne_eq, List.getD, List.getElem?_cons_zero, List.getElem?_cons_succ, Option.getD_some, Option.bind_some, Option.map_some, Option.isSome_some, reduceIte, List.length_append, List.append_assoc, List.cons_append, List.nil_append, Option.some.injEq, forall_const, implies_true, Int.reduceNeg, eq_self, Prod.mk.injEq, List.self_eq_append_right, List.append_nil, exists_eq_left, exists_eq_left', exists_and_left, exists_eq_right, exists_and_right]
theorem first8 {H : List Ob} {V : AV} {vs : List AV} {rows : List (List Int)} (A : NsS intC 1 H V vs rows) (h8 : 8 < rows.length) : ∃ V2, slcA 1 none (some 8) V = some V2 ∧ NsS intC 1 H V2 (vs.take 8) (rows.take 8) := by
  obtain ⟨V2, h1, h2, _⟩ := A.out.slc (a := none) (b := some 8) (lo := 0) (hi := 8) rfl rfl (by omega) (by rw [A.len]; omega)
  simp only [List.drop_zero, Nat.sub_zero] at h2
  refine ⟨V2, h1, h2, by rw [List.length_take, List.length_take, A.len], fun i u r hu hr => ?_⟩
  rw [List.getElem?_take] at hu hr
  split at hu <;> (try (cases hu; done))
  rename_i hi
  rw [if_pos hi] at hr
  exact A.inn i u r hu hr
theorem law (rows : List (List Int)) (V : AV) (vs : List AV) (H : List Ob) (A0 : NsS intC 1 H V vs rows) : ∃ r, ecall E 14 [V] H = some (.bool true, r) := by
  refine call_trueW e14 rfl (Nat.le_of_ble_eq_true rfl) ?_
  have hn : H.length ≤ H.length := Nat.le_refl _
  have hass := assigns_pc (H := H)
  have hlen0 := A0.out.len
  rw [A0.len] at hlen0
  refine W_seqI (wc_sound _ _ _ _ hn ?_)
  simp (config := {maxSteps := 8000000}) only [c14, SS, bne_self_eq_false, wr_def, obOf, List.all_cons, List.all_nil, List.map_cons, List.map_nil, List.length_cons, List.length_nil, List.take_zero, List.take_succ_cons, List.take_nil, List.drop_zero, List.drop_succ_cons, List.drop_nil, Nat.reduceAdd, Nat.reduceMul, Nat.reduceSub, if_true, Nat.reduceLT, Nat.reduceLeDiff, ite_true, ite_false, Nat.reduceEqDiff, if_false, reduceCtorEq, ne_eq, List.getD, List.getElem?_cons_zero, List.getElem?_cons_succ, Option.getD_some, Option.bind_some, Option.map_some, Option.isSome_some, reduceIte, List.length_append, List.append_assoc, List.cons_append, List.nil_append, Option.some.injEq, forall_const, implies_true, Int.reduceNeg, eq_self, Prod.mk.injEq, List.self_eq_append_right, List.append_nil, exists_eq_left, exists_eq_left', exists_and_left, exists_eq_right, exists_and_right]
  refine W_seqI (wc_sound _ _ _ _ hn ?_)
  simp (config := {maxSteps := 8000000}) only [hass, c14, SS, bne_self_eq_false, wr_def, obOf, List.all_cons, List.all_nil, List.map_cons, List.map_nil, List.length_cons, List.length_nil, List.take_zero, List.take_succ_cons, List.take_nil, List.drop_zero, List.drop_succ_cons, List.drop_nil, Nat.reduceAdd, Nat.reduceMul, Nat.reduceSub, if_true, Nat.reduceLT, Nat.reduceLeDiff, ite_true, ite_false, Nat.reduceEqDiff, if_false, reduceCtorEq, ne_eq, List.getD, List.getElem?_cons_zero, List.getElem?_cons_succ, Option.getD_some, Option.bind_some, Option.map_some, Option.isSome_some, reduceIte, List.length_append, List.append_assoc, List.cons_append, List.nil_append, Option.some.injEq, forall_const, implies_true, Int.reduceNeg, eq_self, Prod.mk.injEq, List.self_eq_append_right, List.append_nil, exists_eq_left, exists_eq_left', exists_and_left, exists_eq_right, exists_and_right]
  refine W_seqI (W.mono (Q := fun e f1 h1 => e = .nrm ∧ h1 = H ∧ ∃ V2 vs2 rows2, f1 0 = V2 ∧ rows2.length ≤ 8 ∧ NsS intC 1 H V2 vs2 rows2) ?_ ?_)
  · by_cases h8 : 8 < rows.length
    · have hb : decide ((8 : Int) < (rows.length : Int)) = true := decide_eq_true (by omega)
      obtain ⟨V2, hV1, A⟩ := first8 A0 h8
      refine wc_sound _ _ _ _ hn ?_
      simp (config := {maxSteps := 8000000}) only [hlen0, hb, kq_slc, vq_slc, hV1, c14, SS, bne_self_eq_false, wr_def, obOf, List.all_cons, List.all_nil, List.map_cons, List.map_nil, List.length_cons, List.length_nil, List.take_zero, List.take_succ_cons, List.take_nil, List.drop_zero, List.drop_succ_cons, List.drop_nil, Nat.reduceAdd, Nat.reduceMul, Nat.reduceSub, if_true, Nat.reduceLT, Nat.reduceLeDiff, ite_true, ite_false, Nat.reduceEqDiff, if_false, reduceCtorEq, ne_eq, List.getD, List.getElem?_cons_zero, List.getElem?_cons_succ, Option.getD_some, Option.bind_some, Option.map_some, Option.isSome_some, reduceIte, List.length_append, List.append_assoc, List.cons_append, List.nil_append, Option.some.injEq, forall_const, implies_true, Int.reduceNeg, eq_self, Prod.mk.injEq, List.self_eq_append_right, List.append_nil, exists_eq_left, exists_eq_left', exists_and_left, exists_eq_right, exists_and_right]
      exact ⟨_, _, by rw [List.length_take]; omega, A⟩
    · have hb : decide ((8 : Int) < (rows.length : Int)) = false := decide_eq_false (by omega)
      refine wc_sound _ _ _ _ hn ?_
      simp (config := {maxSteps := 8000000}) only [hlen0, hb, c14, SS, bne_self_eq_false, wr_def, obOf, List.all_cons, List.all_nil, List.map_cons, List.map_nil, List.length_cons, List.length_nil, List.take_zero, List.take_succ_cons, List.take_nil, List.drop_zero, List.drop_succ_cons, List.drop_nil, Nat.reduceAdd, Nat.reduceMul, Nat.reduceSub, if_true, Nat.reduceLT, Nat.reduceLeDiff, ite_true, ite_false, Nat.reduceEqDiff, if_false, reduceCtorEq, ne_eq, List.getD, List.getElem?_cons_zero, List.getElem?_cons_succ, Option.getD_some, Option.bind_some, Option.map_some, Option.isSome_some, reduceIte, List.length_append, List.append_assoc, List.cons_append, List.nil_append, Option.some.injEq, forall_const, implies_true, Int.reduceNeg, eq_self, Prod.mk.injEq, List.self_eq_append_right, List.append_nil, exists_eq_left, exists_eq_left', exists_and_left, exists_eq_right, exists_and_right]
      exact ⟨_, _, by omega, A0⟩
  clear hlen0 A0
  rintro e f1 h1 hn1 ht ⟨rfl, rfl, V2, vs2, rows2, e0, h8, A0⟩
  have A := NsL.of A0
  have hf := NsS.fg A0
  have hlen := A.out.len
  rw [A.len] at hlen
  simp only [thenQ_n]
  refine wc_sound _ _ _ _ hn ?_
  have b0 : ((0 : Int) == 0) = true := rfl
  have b1 : ((0 : Int) != 0) = false := rfl
  by_cases hok : Ok rows2 0
  rotate_left
  · obtain ⟨e, hne, hb⟩ := best_err A hok
    have hp := pcall_some.2 hb
    have b2 : (e != 0) = true := by rw [bne_iff_ne]; exact hne
    have b3 : (((0 : Nat) : Int) == 0) = true := rfl
    simp (config := {maxSteps := 8000000}) only [e0, hp, b0, b2, b3, c14, SS, bne_self_eq_false, wr_def, obOf, List.all_cons, List.all_nil, List.map_cons, List.map_nil, List.length_cons, List.length_nil, List.take_zero, List.take_succ_cons, List.take_nil, List.drop_zero, List.drop_succ_cons, List.drop_nil, Nat.reduceAdd, Nat.reduceMul, Nat.reduceSub, if_true, Nat.reduceLT, Nat.reduceLeDiff, ite_true, ite_false, Nat.reduceEqDiff, if_false, reduceCtorEq, ne_eq, List.getD, List.getElem?_cons_zero, List.getElem?_cons_succ, Option.getD_some, Option.bind_some, Option.map_some, Option.isSome_some, reduceIte, List.length_append, List.append_assoc, List.cons_append, List.nil_append, Option.some.injEq, forall_const, implies_true, Int.reduceNeg, eq_self, Prod.mk.injEq, List.self_eq_append_right, List.append_nil, exists_eq_left, exists_eq_left', exists_and_left, exists_eq_right, exists_and_right]
  obtain ⟨n, T, τs, hnn, hC, hLP, hT, hl, hV, hc, htie, hb⟩ := best_ok A hf hok
  have hτ := htie rfl
  have hT0 : T = 0 := by
    rw [← hc, costOf, sumN_congr (g := fun _ => (0 : Int)) (fun i hi => ?_), sumN_const]
    · simp
    · obtain ⟨t, ht⟩ : ∃ t, τs[i]? = some t := ⟨_, List.getElem?_eq_getElem (by omega)⟩
      have := hτ t (List.mem_of_getElem? ht)
      rw [ht, costAt]
      simp only [Option.getD_some]
      rw [if_pos (by omega)]
  subst hT0
  have hbn := ncall_some.2 hb
  have hS1 := out_sl (h := h1) hl
  generalize outO 1 rows2.length (flat intC τs) = o1 at *
  generalize outV h1.length 1 rows2.length = v1 at *
  have hany : (τs.any fun k => decide (0 ≤ k)) = false := by
    rw [List.any_eq_false]
    intro t ht
    have := hτ t ht
    simp; omega
  have hcf := ctf_Int (g := 52) (caps := []) (p := fun k => decide (0 ≤ k)) hS1 (by omega) (fun x k hk => neg_pc k _)
  rw [hany] at hcf
  have hok2 : Ok rows2 1099511627776 := ⟨hok.1, hok.2.1, by decide, by decide⟩
  have hf1 : ∀ u ∈ vs2, FgL (h1 ++ o1) u := fun u hu => by
    obtain ⟨i, hi, rfl⟩ := List.getElem_of_mem hu
    exact (hf _ hu).keep (A.inn i _ _ (List.getElem?_eq_getElem hi) (List.getElem?_eq_getElem (by rw [← A.len]; exact hi))) _
  obtain ⟨n2, T2, σs, hnn2, hC2, hLP2, hT2, hl2, hV2, hc2, -, hb2⟩ := best_ok (A.keep o1) hf1 hok2
  have hbn2 := ncall_some.2 hb2
  have hS2 := out_sl (h := h1 ++ o1) hl2
  generalize outO 1 rows2.length (flat intC σs) = o2 at *
  generalize outV (h1 ++ o1).length 1 rows2.length = v2 at *
  simp (config := {maxSteps := 8000000}) only [e0, rg_calln, ncallV_fn, hbn, hcf, hbn2, b0, b1, hlen, c14, SS, bne_self_eq_false, wr_def, obOf, List.all_cons, List.all_nil, List.map_cons, List.map_nil, List.length_cons, List.length_nil, List.take_zero, List.take_succ_cons, List.take_nil, List.drop_zero, List.drop_succ_cons, List.drop_nil, Nat.reduceAdd, Nat.reduceMul, Nat.reduceSub, if_true, Nat.reduceLT, Nat.reduceLeDiff, ite_true, ite_false, Nat.reduceEqDiff, if_false, reduceCtorEq, ne_eq, List.getD, List.getElem?_cons_zero, List.getElem?_cons_succ, Option.getD_some, Option.bind_some, Option.map_some, Option.isSome_some, reduceIte, List.length_append, List.append_assoc, List.cons_append, List.nil_append, Option.some.injEq, forall_const, implies_true, Int.reduceNeg, eq_self, Prod.mk.injEq, List.self_eq_append_right, List.append_nil, exists_eq_left, exists_eq_left', exists_and_left, exists_eq_right, exists_and_right]
  have hS2' : SlL (h1 ++ (o1 ++ o2)) v2 intC 1 σs := by rw [← List.append_assoc]; exact hS2
  clear hbn hcf hbn2 hS1 hS2 hf1 hb hb2 hany hV hc hLP
  refine W_loopW (fun q f2 h2 => ∃ i : Nat, q = rows2.length - i ∧ i ≤ rows2.length ∧ f2 6 = v2 ∧ f2 8 = .int .i64 0 ∧ f2 43 = V2 ∧ f2 44 = .int .i64 (rows2.length : Int) ∧ f2 45 = .int .i64 (i : Int) ∧ SlL h2 v2 intC 1 σs) (by simp) rows2.length
    ⟨0, rfl, by omega, rfl, rfl, rfl, rfl, rfl, hS2'⟩ ?_
  clear hS2' e0
  rintro q f2 h2 hn2 ht2 ⟨i, rfl, hi, e6, e8, e43, e44, e45, hS⟩
  rw [List.take_left] at ht2
  have hw1 : IntKind.i64.wrap ((i : Int) + 1) = ((i + 1 : Nat) : Int) := by rw [wrap64 (by omega) (by omega)]; omega
  have hH := take_eq ht2
  generalize h2.drop h1.length = x at hH
  subst hH
  by_cases hiR : i < rows2.length
  rotate_left
  · have hc1 : decide ((i : Int) < (rows2.length : Int)) = false := decide_eq_false (by omega)
    refine wc_sound _ _ _ _ hn2 ?_
    simp (config := {maxSteps := 8000000}) only [e6, e8, e43, e44, e45, hc1, b0, c14, SS, bne_self_eq_false, wr_def, obOf, List.all_cons, List.all_nil, List.map_cons, List.map_nil, List.length_cons, List.length_nil, List.take_zero, List.take_succ_cons, List.take_nil, List.drop_zero, List.drop_succ_cons, List.drop_nil, Nat.reduceAdd, Nat.reduceMul, Nat.reduceSub, if_true, Nat.reduceLT, Nat.reduceLeDiff, ite_true, ite_false, Nat.reduceEqDiff, if_false, reduceCtorEq, ne_eq, List.getD, List.getElem?_cons_zero, List.getElem?_cons_succ, Option.getD_some, Option.bind_some, Option.map_some, Option.isSome_some, reduceIte, List.length_append, List.append_assoc, List.cons_append, List.nil_append, Option.some.injEq, forall_const, implies_true, Int.reduceNeg, eq_self, Prod.mk.injEq, List.self_eq_append_right, List.append_nil, exists_eq_left, exists_eq_left', exists_and_left, exists_eq_right, exists_and_right]
  have hc1 : decide ((i : Int) < (rows2.length : Int)) = true := decide_eq_true (by omega)
  obtain ⟨u, r, hr, hu, S, d1, o1'⟩ := A.row hiR
  have hrl : r.length = n2 := rok_len hC2 r (List.mem_of_getElem? hr)
  have hgr : gRow rows2 i = r := gRow_eq hr
  obtain ⟨t, htt⟩ : ∃ t, σs[i]? = some t := ⟨_, List.getElem?_eq_getElem (by omega)⟩
  have ov : idxOk 1 v2 (.int .i64 (i : Int)) := hS.ok (by omega) (by omega)
  have dv : ld1A (h1 ++ x) (idxV 1 v2 (.int .i64 (i : Int))) = some (.int .i64 t) := by rw [hS.ld0 (x := t) (by omega) (by simpa using htt)]; rfl
  by_cases ht0 : t < 0
  rotate_left
  · have hb3 : decide (t < 0) = false := decide_eq_false ht0
    refine wc_sound _ _ _ _ hn2 ?_
    simp (config := {maxSteps := 8000000}) only [e6, e8, e43, e44, e45, hc1, hw1, b0, hb3, o1', isPtr_idx o1', d1, ov, isPtr_idx ov, dv, rg_mksg, rg_appg, true_implies, false_implies, Bool.true_eq_false, Bool.false_eq_true, and_true, true_and, c14, SS, bne_self_eq_false, wr_def, obOf, List.all_cons, List.all_nil, List.map_cons, List.map_nil, List.length_cons, List.length_nil, List.take_zero, List.take_succ_cons, List.take_nil, List.drop_zero, List.drop_succ_cons, List.drop_nil, Nat.reduceAdd, Nat.reduceMul, Nat.reduceSub, if_true, Nat.reduceLT, Nat.reduceLeDiff, ite_true, ite_false, Nat.reduceEqDiff, if_false, reduceCtorEq, ne_eq, List.getD, List.getElem?_cons_zero, List.getElem?_cons_succ, Option.getD_some, Option.bind_some, Option.map_some, Option.isSome_some, reduceIte, List.length_append, List.append_assoc, List.cons_append, List.nil_append, Option.some.injEq, forall_const, implies_true, Int.reduceNeg, eq_self, Prod.mk.injEq, List.self_eq_append_right, List.append_nil, exists_eq_left, exists_eq_left', exists_and_left, exists_eq_right, exists_and_right]
    exact ⟨_, by omega, i + 1, rfl, by omega, rfl, hS⟩
  have hb3 : decide (t < 0) = true := decide_eq_true ht0
  obtain ⟨X, o', hcl2, hW0⟩ := clone_i (S.keep x) ((hf u (List.mem_of_getElem? hu)).keep S x) (by omega)
  have hB0 : Bu h1.length (h1 ++ (x ++ o')) X 1 (r.map gI) r.length := by
    rcases hW0 with ⟨rfl, rfl, rfl⟩ | ⟨rfl, rfl⟩
    · exact ⟨rfl, Or.inl ⟨rfl, rfl⟩⟩
    · refine ⟨by simp, Or.inr ⟨_, 0, r.map gI, rfl, ?_, by simp, Or.inr rfl⟩⟩
      rw [← List.append_assoc]; exact rd_last (o := ⟨r.map gI, 0, 1, true, true⟩)
  have hXid : ∀ id, idOf X id → (h1 ++ x).length ≤ id := by
    rcases hW0 with ⟨rfl, rfl, rfl⟩ | ⟨rfl, rfl⟩
    · exact fun id hid => absurd hid idOf_nil
    · rintro id ⟨_, rfl⟩; exact Nat.le_refl _
  refine W_seqI (wc_sound _ _ _ _ hn2 ?_)
  simp (config := {maxSteps := 8000000}) only [e6, e8, e43, e44, e45, hc1, c14, SS, bne_self_eq_false, wr_def, obOf, List.all_cons, List.all_nil, List.map_cons, List.map_nil, List.length_cons, List.length_nil, List.take_zero, List.take_succ_cons, List.take_nil, List.drop_zero, List.drop_succ_cons, List.drop_nil, Nat.reduceAdd, Nat.reduceMul, Nat.reduceSub, if_true, Nat.reduceLT, Nat.reduceLeDiff, ite_true, ite_false, Nat.reduceEqDiff, if_false, reduceCtorEq, ne_eq, List.getD, List.getElem?_cons_zero, List.getElem?_cons_succ, Option.getD_some, Option.bind_some, Option.map_some, Option.isSome_some, reduceIte, List.length_append, List.append_assoc, List.cons_append, List.nil_append, Option.some.injEq, forall_const, implies_true, Int.reduceNeg, eq_self, Prod.mk.injEq, List.self_eq_append_right, List.append_nil, exists_eq_left, exists_eq_left', exists_and_left, exists_eq_right, exists_and_right]
  refine W_seqI (wc_sound _ _ _ _ hn2 ?_)
  simp (config := {maxSteps := 8000000}) only [e6, e8, e43, e44, e45, hc1, c14, SS, bne_self_eq_false, wr_def, obOf, List.all_cons, List.all_nil, List.map_cons, List.map_nil, List.length_cons, List.length_nil, List.take_zero, List.take_succ_cons, List.take_nil, List.drop_zero, List.drop_succ_cons, List.drop_nil, Nat.reduceAdd, Nat.reduceMul, Nat.reduceSub, if_true, Nat.reduceLT, Nat.reduceLeDiff, ite_true, ite_false, Nat.reduceEqDiff, if_false, reduceCtorEq, ne_eq, List.getD, List.getElem?_cons_zero, List.getElem?_cons_succ, Option.getD_some, Option.bind_some, Option.map_some, Option.isSome_some, reduceIte, List.length_append, List.append_assoc, List.cons_append, List.nil_append, Option.some.injEq, forall_const, implies_true, Int.reduceNeg, eq_self, Prod.mk.injEq, List.self_eq_append_right, List.append_nil, exists_eq_left, exists_eq_left', exists_and_left, exists_eq_right, exists_and_right]
  refine W_seqI (W_blkI (W_seqI (wc_sound _ _ _ _ hn2 ?_)))
  simp (config := {maxSteps := 8000000}) only [e6, e8, e43, e44, e45, hc1, o1', isPtr_idx o1', d1, c14, SS, bne_self_eq_false, wr_def, obOf, List.all_cons, List.all_nil, List.map_cons, List.map_nil, List.length_cons, List.length_nil, List.take_zero, List.take_succ_cons, List.take_nil, List.drop_zero, List.drop_succ_cons, List.drop_nil, Nat.reduceAdd, Nat.reduceMul, Nat.reduceSub, if_true, Nat.reduceLT, Nat.reduceLeDiff, ite_true, ite_false, Nat.reduceEqDiff, if_false, reduceCtorEq, ne_eq, List.getD, List.getElem?_cons_zero, List.getElem?_cons_succ, Option.getD_some, Option.bind_some, Option.map_some, Option.isSome_some, reduceIte, List.length_append, List.append_assoc, List.cons_append, List.nil_append, Option.some.injEq, forall_const, implies_true, Int.reduceNeg, eq_self, Prod.mk.injEq, List.self_eq_append_right, List.append_nil, exists_eq_left, exists_eq_left', exists_and_left, exists_eq_right, exists_and_right]
  refine W_seqI (W_regI (RG_cut (K1 := fun f' h' => f' 6 = v2 ∧ f' 8 = .int .i64 0 ∧ f' 10 = u ∧ f' 43 = V2 ∧ f' 44 = .int .i64 (rows2.length : Int) ∧ f' 45 = .int .i64 (i : Int) ∧ f' 59 = .bool true ∧ f' 60 = u ∧ h' = h1 ++ x) 11 (RG_of hn2 ?_) ?_))
  · simp (config := {maxSteps := 8000000}) only [e6, e8, e43, e44, e45, b0, hb3, ov, isPtr_idx ov, dv, c14, SS, bne_self_eq_false, wr_def, obOf, List.all_cons, List.all_nil, List.map_cons, List.map_nil, List.length_cons, List.length_nil, List.take_zero, List.take_succ_cons, List.take_nil, List.drop_zero, List.drop_succ_cons, List.drop_nil, Nat.reduceAdd, Nat.reduceMul, Nat.reduceSub, if_true, Nat.reduceLT, Nat.reduceLeDiff, ite_true, ite_false, Nat.reduceEqDiff, if_false, reduceCtorEq, ne_eq, List.getD, List.getElem?_cons_zero, List.getElem?_cons_succ, Option.getD_some, Option.bind_some, Option.map_some, Option.isSome_some, reduceIte, List.length_append, List.append_assoc, List.cons_append, List.nil_append, Option.some.injEq, forall_const, implies_true, Int.reduceNeg, eq_self, Prod.mk.injEq, List.self_eq_append_right, List.append_nil, exists_eq_left, exists_eq_left', exists_and_left, exists_eq_right, exists_and_right]
  clear e6 e8 e43 e44 e45
  rintro f3 h3 hn3 ht3 ⟨e6, e8, e10, e43, e44, e45, e59, e60, rfl⟩
  simp (config := {maxSteps := 8000000}) only [c14, SS, bne_self_eq_false, wr_def, obOf, List.all_cons, List.all_nil, List.map_cons, List.map_nil, List.length_cons, List.length_nil, List.take_zero, List.take_succ_cons, List.take_nil, List.drop_zero, List.drop_succ_cons, List.drop_nil, Nat.reduceAdd, Nat.reduceMul, Nat.reduceSub, if_true, Nat.reduceLT, Nat.reduceLeDiff, ite_true, ite_false, Nat.reduceEqDiff, if_false, reduceCtorEq, ne_eq, List.getD, List.getElem?_cons_zero, List.getElem?_cons_succ, Option.getD_some, Option.bind_some, Option.map_some, Option.isSome_some, reduceIte, List.length_append, List.append_assoc, List.cons_append, List.nil_append, Option.some.injEq, forall_const, implies_true, Int.reduceNeg, eq_self, Prod.mk.injEq, List.self_eq_append_right, List.append_nil, exists_eq_left, exists_eq_left', exists_and_left, exists_eq_right, exists_and_right]
  have hargs : List.map (ev 90 f3) [.t 60] ++ [] = [u] := by
    simp only [e60, c14, SS, bne_self_eq_false, wr_def, obOf, List.all_cons, List.all_nil, List.map_cons, List.map_nil, List.length_cons, List.length_nil, List.take_zero, List.take_succ_cons, List.take_nil, List.drop_zero, List.drop_succ_cons, List.drop_nil, Nat.reduceAdd, Nat.reduceMul, Nat.reduceSub, if_true, Nat.reduceLT, Nat.reduceLeDiff, ite_true, ite_false, Nat.reduceEqDiff, if_false, reduceCtorEq, ne_eq, List.getD, List.getElem?_cons_zero, List.getElem?_cons_succ, Option.getD_some, Option.bind_some, Option.map_some, Option.isSome_some, reduceIte, List.length_append, List.append_assoc, List.cons_append, List.nil_append, Option.some.injEq, forall_const, implies_true, Int.reduceNeg, eq_self, Prod.mk.injEq, List.self_eq_append_right, List.append_nil, exists_eq_left, exists_eq_left', exists_and_left, exists_eq_right, exists_and_right]
  have hn4 : h1.length ≤ (h1 ++ x ++ o').length := by simp only [List.length_append]; omega
  refine RG_guard_t (by rw [ev_t, e59]; rfl) (RG_call (k := 49) (caps := []) (v := X) (h2 := h1 ++ x ++ o') (wl := (h1 ++ x).length) (wa := (h1 ++ x).length) (by simp only [c14, SS, bne_self_eq_false, wr_def, obOf, List.all_cons, List.all_nil, List.map_cons, List.map_nil, List.length_cons, List.length_nil, List.take_zero, List.take_succ_cons, List.take_nil, List.drop_zero, List.drop_succ_cons, List.drop_nil, Nat.reduceAdd, Nat.reduceMul, Nat.reduceSub, if_true, Nat.reduceLT, Nat.reduceLeDiff, ite_true, ite_false, Nat.reduceEqDiff, if_false, reduceCtorEq, ne_eq, List.getD, List.getElem?_cons_zero, List.getElem?_cons_succ, Option.getD_some, Option.bind_some, Option.map_some, Option.isSome_some, reduceIte, List.length_append, List.append_assoc, List.cons_append, List.nil_append, Option.some.injEq, forall_const, implies_true, Int.reduceNeg, eq_self, Prod.mk.injEq, List.self_eq_append_right, List.append_nil, exists_eq_left, exists_eq_left', exists_and_left, exists_eq_right, exists_and_right]) (by rw [hargs]; exact hcl2) hn3 hn3 hn4 (by simp) (fun h => Nat.le_refl _)
    (RG_cut (K1 := fun f' h' => f' 6 = v2 ∧ f' 8 = .int .i64 0 ∧ f' 10 = u ∧ f' 43 = V2 ∧ f' 44 = .int .i64 (rows2.length : Int) ∧ f' 45 = .int .i64 (i : Int) ∧ f' 59 = .bool true ∧ SlL h' v2 intC 1 σs ∧ SlL h' (f' 63) intC 1 (r ++ [-1])) 2 (RG_of hn4 ?_) ?_))
  · have hS3 := hS.keep o'
    simp (config := {maxSteps := 8000000}) only [e6, e8, e10, e43, e44, e45, e59, rg_mksg, rg_appg, true_implies, false_implies, Bool.true_eq_false, and_true, c14, SS, bne_self_eq_false, wr_def, obOf, List.all_cons, List.all_nil, List.map_cons, List.map_nil, List.length_cons, List.length_nil, List.take_zero, List.take_succ_cons, List.take_nil, List.drop_zero, List.drop_succ_cons, List.drop_nil, Nat.reduceAdd, Nat.reduceMul, Nat.reduceSub, if_true, Nat.reduceLT, Nat.reduceLeDiff, ite_true, ite_false, Nat.reduceEqDiff, if_false, reduceCtorEq, ne_eq, List.getD, List.getElem?_cons_zero, List.getElem?_cons_succ, Option.getD_some, Option.bind_some, Option.map_some, Option.isSome_some, reduceIte, List.length_append, List.append_assoc, List.cons_append, List.nil_append, Option.some.injEq, forall_const, implies_true, Int.reduceNeg, eq_self, Prod.mk.injEq, List.self_eq_append_right, List.append_nil, exists_eq_left, exists_eq_left', exists_and_left, exists_eq_right, exists_and_right]
    have hrm' : rdObj (h1 ++ (x ++ (o' ++ [(⟨[.int .i64 (-1)], 0, 1, true, true⟩ : Ob)]))) (h1.length + (x.length + o'.length)) 0 = some ⟨[.int .i64 (-1)], 0, 1, true, true⟩ := by
      unfold rdObj
      rw [List.getElem?_append_right (by omega), Nat.add_sub_cancel_left, List.getElem?_append_right (by omega), Nat.add_sub_cancel_left, List.getElem?_append_right (Nat.le_refl _), Nat.sub_self]
      rfl
    have hs1 : SlL (h1 ++ (x ++ (o' ++ [(⟨[.int .i64 (-1)], 0, 1, true, true⟩ : Ob)]))) (.sl false (h1.length + (x.length + o'.length)) 0 1 0 1) intC 1 [(-1 : Int)] := ⟨fun _ => rfl, by decide, rfl, Or.inr ⟨_, 0, 0, _, rfl, hrm', by simp, rfl⟩⟩
    have hf1 : FgL (h1 ++ (x ++ (o' ++ [(⟨[.int .i64 (-1)], 0, 1, true, true⟩ : Ob)]))) (.sl false (h1.length + (x.length + o'.length)) 0 1 0 1) := by
      rintro id ep ob ⟨_, rfl⟩ ho
      unfold rdObj at hrm' ho
      cases hx : (h1 ++ (x ++ (o' ++ [(⟨[.int .i64 (-1)], 0, 1, true, true⟩ : Ob)])))[h1.length + (x.length + o'.length)]? with
      | none => rw [hx] at ho; cases ho
      | some y =>
        rw [hx] at hrm' ho
        simp only at hrm' ho
        split at hrm' <;> (try (cases hrm'; done))
        split at ho <;> (try (cases ho; done))
        simp only [Option.some.injEq] at hrm' ho
        subst ho; rw [hrm']
    have hBk : Bu h1.length (h1 ++ (x ++ (o' ++ [(⟨[.int .i64 (-1)], 0, 1, true, true⟩ : Ob)]))) X 1 (r.map gI) r.length := hB0.mono fun id ep ob _ ho => by
      have := rd_keep (l := [(⟨[.int .i64 (-1)], 0, 1, true, true⟩ : Ob)]) ho
      simpa [List.append_assoc] using this
    refine bu_app hBk hs1 hf1 (by unfold appLim; simp; omega) (by simp) (fun v3 h4 q1 q2 q3 q4 q5 => ?_)
    refine ⟨hS3.mono fun id ep ob hid ho => q2 id ep ob (by have := rd_keep (l := [(⟨[.int .i64 (-1)], 0, 1, true, true⟩ : Ob)]) ho; simpa [List.append_assoc] using this) (fun hx => by have := hXid id hx; have := hS.idlt hid; omega), fun _ => rfl, by decide, ?_⟩
    have h9 := (q1.isl (by simp)).rd (by simp [flat, intC])
    rw [flat_intC]
    simpa [flat, intC, gI] using h9
  clear e6 e8 e10 e43 e44 e45 e59 e60 hargs hS
  rintro f4 h4 hn5 ht5 ⟨e6, e8, e10, e43, e44, e45, e59, hS, hX⟩
  obtain ⟨m, hmx⟩ := max_ex hX (by simp) (by simp; omega)
  simp (config := {maxSteps := 8000000}) only [c14, SS, bne_self_eq_false, wr_def, obOf, List.all_cons, List.all_nil, List.map_cons, List.map_nil, List.length_cons, List.length_nil, List.take_zero, List.take_succ_cons, List.take_nil, List.drop_zero, List.drop_succ_cons, List.drop_nil, Nat.reduceAdd, Nat.reduceMul, Nat.reduceSub, if_true, Nat.reduceLT, Nat.reduceLeDiff, ite_true, ite_false, Nat.reduceEqDiff, if_false, reduceCtorEq, ne_eq, List.getD, List.getElem?_cons_zero, List.getElem?_cons_succ, Option.getD_some, Option.bind_some, Option.map_some, Option.isSome_some, reduceIte, List.length_append, List.append_assoc, List.cons_append, List.nil_append, Option.some.injEq, forall_const, implies_true, Int.reduceNeg, eq_self, Prod.mk.injEq, List.self_eq_append_right, List.append_nil, exists_eq_left, exists_eq_left', exists_and_left, exists_eq_right, exists_and_right]
  have hH4 : h4 = h1 ++ h4.drop h1.length := take_eq (by rw [ht5]; simp)
  generalize h4.drop h1.length = y at hH4
  subst hH4
  by_cases hm0 : 0 ≤ m
  rotate_left
  · have hb4 : decide (0 ≤ m) = false := decide_eq_false hm0
    refine RG_of hn5 ?_
    simp (config := {maxSteps := 8000000}) only [e6, e8, e10, e43, e44, e45, e59, hmx, hb4, c14, SS, bne_self_eq_false, wr_def, obOf, List.all_cons, List.all_nil, List.map_cons, List.map_nil, List.length_cons, List.length_nil, List.take_zero, List.take_succ_cons, List.take_nil, List.drop_zero, List.drop_succ_cons, List.drop_nil, Nat.reduceAdd, Nat.reduceMul, Nat.reduceSub, if_true, Nat.reduceLT, Nat.reduceLeDiff, ite_true, ite_false, Nat.reduceEqDiff, if_false, reduceCtorEq, ne_eq, List.getD, List.getElem?_cons_zero, List.getElem?_cons_succ, Option.getD_some, Option.bind_some, Option.map_some, Option.isSome_some, reduceIte, List.length_append, List.append_assoc, List.cons_append, List.nil_append, Option.some.injEq, forall_const, implies_true, Int.reduceNeg, eq_self, Prod.mk.injEq, List.self_eq_append_right, List.append_nil, exists_eq_left, exists_eq_left', exists_and_left, exists_eq_right, exists_and_right]
    refine wc_sound _ _ _ _ hn5 ?_
    simp (config := {maxSteps := 8000000}) only [e6, e8, e10, e43, e44, e45, e59, hw1, c14, SS, bne_self_eq_false, wr_def, obOf, List.all_cons, List.all_nil, List.map_cons, List.map_nil, List.length_cons, List.length_nil, List.take_zero, List.take_succ_cons, List.take_nil, List.drop_zero, List.drop_succ_cons, List.drop_nil, Nat.reduceAdd, Nat.reduceMul, Nat.reduceSub, if_true, Nat.reduceLT, Nat.reduceLeDiff, ite_true, ite_false, Nat.reduceEqDiff, if_false, reduceCtorEq, ne_eq, List.getD, List.getElem?_cons_zero, List.getElem?_cons_succ, Option.getD_some, Option.bind_some, Option.map_some, Option.isSome_some, reduceIte, List.length_append, List.append_assoc, List.cons_append, List.nil_append, Option.some.injEq, forall_const, implies_true, Int.reduceNeg, eq_self, Prod.mk.injEq, List.self_eq_append_right, List.append_nil, exists_eq_left, exists_eq_left', exists_and_left, exists_eq_right, exists_and_right]
    refine wc_sound _ _ _ _ hn5 ?_
    simp (config := {maxSteps := 8000000}) only [e6, e8, e10, e43, e44, e45, e59, hw1, c14, SS, bne_self_eq_false, wr_def, obOf, List.all_cons, List.all_nil, List.map_cons, List.map_nil, List.length_cons, List.length_nil, List.take_zero, List.take_succ_cons, List.take_nil, List.drop_zero, List.drop_succ_cons, List.drop_nil, Nat.reduceAdd, Nat.reduceMul, Nat.reduceSub, if_true, Nat.reduceLT, Nat.reduceLeDiff, ite_true, ite_false, Nat.reduceEqDiff, if_false, reduceCtorEq, ne_eq, List.getD, List.getElem?_cons_zero, List.getElem?_cons_succ, Option.getD_some, Option.bind_some, Option.map_some, Option.isSome_some, reduceIte, List.length_append, List.append_assoc, List.cons_append, List.nil_append, Option.some.injEq, forall_const, implies_true, Int.reduceNeg, eq_self, Prod.mk.injEq, List.self_eq_append_right, List.append_nil, exists_eq_left, exists_eq_left', exists_and_left, exists_eq_right, exists_and_right]
    exact ⟨_, by omega, i + 1, rfl, by omega, rfl, hS⟩
  · have hb4 : decide (0 ≤ m) = true := decide_eq_true hm0
    refine RG_of hn5 ?_
    simp (config := {maxSteps := 8000000}) only [e6, e8, e10, e43, e44, e45, e59, hmx, hb4, c14, SS, bne_self_eq_false, wr_def, obOf, List.all_cons, List.all_nil, List.map_cons, List.map_nil, List.length_cons, List.length_nil, List.take_zero, List.take_succ_cons, List.take_nil, List.drop_zero, List.drop_succ_cons, List.drop_nil, Nat.reduceAdd, Nat.reduceMul, Nat.reduceSub, if_true, Nat.reduceLT, Nat.reduceLeDiff, ite_true, ite_false, Nat.reduceEqDiff, if_false, reduceCtorEq, ne_eq, List.getD, List.getElem?_cons_zero, List.getElem?_cons_succ, Option.getD_some, Option.bind_some, Option.map_some, Option.isSome_some, reduceIte, List.length_append, List.append_assoc, List.cons_append, List.nil_append, Option.some.injEq, forall_const, implies_true, Int.reduceNeg, eq_self, Prod.mk.injEq, List.self_eq_append_right, List.append_nil, exists_eq_left, exists_eq_left', exists_and_left, exists_eq_right, exists_and_right]
    refine wc_sound _ _ _ _ hn5 ?_
    have hlu := S.len
    simp (config := {maxSteps := 8000000}) only [e6, e8, e10, e43, e44, e45, e59, hlu, c14, SS, bne_self_eq_false, wr_def, obOf, List.all_cons, List.all_nil, List.map_cons, List.map_nil, List.length_cons, List.length_nil, List.take_zero, List.take_succ_cons, List.take_nil, List.drop_zero, List.drop_succ_cons, List.drop_nil, Nat.reduceAdd, Nat.reduceMul, Nat.reduceSub, if_true, Nat.reduceLT, Nat.reduceLeDiff, ite_true, ite_false, Nat.reduceEqDiff, if_false, reduceCtorEq, ne_eq, List.getD, List.getElem?_cons_zero, List.getElem?_cons_succ, Option.getD_some, Option.bind_some, Option.map_some, Option.isSome_some, reduceIte, List.length_append, List.append_assoc, List.cons_append, List.nil_append, Option.some.injEq, forall_const, implies_true, Int.reduceNeg, eq_self, Prod.mk.injEq, List.self_eq_append_right, List.append_nil, exists_eq_left, exists_eq_left', exists_and_left, exists_eq_right, exists_and_right]
    refine W_loop (fun q f2 h2 => ∃ k : Nat, q = r.length - k ∧ k ≤ r.length ∧ f2 6 = v2 ∧ f2 8 = .int .i64 0 ∧ f2 43 = V2 ∧ f2 44 = .int .i64 (rows2.length : Int) ∧ f2 45 = .int .i64 (i : Int) ∧ f2 67 = u ∧ f2 68 = .int .i64 (r.length : Int) ∧ f2 69 = .int .i64 (k : Int) ∧ SlL h2 v2 intC 1 σs) hn5 r.length ?_ ?_
    · exact ⟨0, rfl, by omega, e6, e8, e43, e44, e45, rfl, rfl, rfl, hS⟩
    clear e6 e8 e10 e43 e44 e45 e59 hS
    rintro q f5 h5 hn6 ht6 ⟨k, rfl, hk, e6, e8, e43, e44, e45, e67, e68, e69, hS⟩
    have hH5 : h5 = h1 ++ h5.drop h1.length := take_eq (by rw [ht6]; simp)
    generalize h5.drop h1.length = z at hH5
    subst hH5
    by_cases hkr : k < r.length
    · have hc5 : decide ((k : Int) < (r.length : Int)) = true := decide_eq_true (by omega)
      have hw2 : IntKind.i64.wrap ((k : Int) + 1) = ((k + 1 : Nat) : Int) := by rw [wrap64 (by omega) (by omega)]; omega
      obtain ⟨c, hcc⟩ : ∃ c, r[k]? = some c := ⟨_, List.getElem?_eq_getElem hkr⟩
      have hmk : mF rows2 i k = c := by rw [mF, hgr, hcc]; rfl
      have ou : idxOk 1 u (.int .i64 (k : Int)) := S.ok (by omega) (by omega)
      have du : ld1A (h1 ++ z) (idxV 1 u (.int .i64 (k : Int))) = some (.int .i64 c) := by rw [(S.keep z).ld0 (x := c) (by omega) (by simpa using hcc)]; rfl
      by_cases g1 : 0 ≤ c
      · have hb5 : decide (0 ≤ c) = true := decide_eq_true g1
        by_cases g2 : c < 1073741824
        · have hb6 : decide (c < 1073741824) = true := decide_eq_true g2
          have hct := contains_i hS (by omega) (k : Int)
          have hin := no_free hLP2 hV2 hc2 hl2 hiR (k := k) (by omega) (by rw [htt]; exact ht0) (by rw [hmk]; exact g1) (by rw [hmk]; exact g2)
          rw [hin] at hct
          simp (config := {maxSteps := 8000000}) only [e6, e8, e43, e44, e45, e67, e68, e69, hc5, hw2, ou, isPtr_idx ou, du, hb5, hb6, hct, c14, SS, bne_self_eq_false, wr_def, obOf, List.all_cons, List.all_nil, List.map_cons, List.map_nil, List.length_cons, List.length_nil, List.take_zero, List.take_succ_cons, List.take_nil, List.drop_zero, List.drop_succ_cons, List.drop_nil, Nat.reduceAdd, Nat.reduceMul, Nat.reduceSub, if_true, Nat.reduceLT, Nat.reduceLeDiff, ite_true, ite_false, Nat.reduceEqDiff, if_false, reduceCtorEq, ne_eq, List.getD, List.getElem?_cons_zero, List.getElem?_cons_succ, Option.getD_some, Option.bind_some, Option.map_some, Option.isSome_some, reduceIte, List.length_append, List.append_assoc, List.cons_append, List.nil_append, Option.some.injEq, forall_const, implies_true, Int.reduceNeg, eq_self, Prod.mk.injEq, List.self_eq_append_right, List.append_nil, exists_eq_left, exists_eq_left', exists_and_left, exists_eq_right, exists_and_right]
          exact ⟨_, by omega, k + 1, rfl, by omega, rfl, hS⟩
        · have hb6 : decide (c < 1073741824) = false := decide_eq_false g2
          simp (config := {maxSteps := 8000000}) only [e6, e8, e43, e44, e45, e67, e68, e69, hc5, hw2, ou, isPtr_idx ou, du, hb5, hb6, c14, SS, bne_self_eq_false, wr_def, obOf, List.all_cons, List.all_nil, List.map_cons, List.map_nil, List.length_cons, List.length_nil, List.take_zero, List.take_succ_cons, List.take_nil, List.drop_zero, List.drop_succ_cons, List.drop_nil, Nat.reduceAdd, Nat.reduceMul, Nat.reduceSub, if_true, Nat.reduceLT, Nat.reduceLeDiff, ite_true, ite_false, Nat.reduceEqDiff, if_false, reduceCtorEq, ne_eq, List.getD, List.getElem?_cons_zero, List.getElem?_cons_succ, Option.getD_some, Option.bind_some, Option.map_some, Option.isSome_some, reduceIte, List.length_append, List.append_assoc, List.cons_append, List.nil_append, Option.some.injEq, forall_const, implies_true, Int.reduceNeg, eq_self, Prod.mk.injEq, List.self_eq_append_right, List.append_nil, exists_eq_left, exists_eq_left', exists_and_left, exists_eq_right, exists_and_right]
          exact ⟨_, by omega, k + 1, rfl, by omega, rfl, hS⟩
      · have hb5 : decide (0 ≤ c) = false := decide_eq_false g1
        simp (config := {maxSteps := 8000000}) only [e6, e8, e43, e44, e45, e67, e68, e69, hc5, hw2, ou, isPtr_idx ou, du, hb5, c14, SS, bne_self_eq_false, wr_def, obOf, List.all_cons, List.all_nil, List.map_cons, List.map_nil, List.length_cons, List.length_nil, List.take_zero, List.take_succ_cons, List.take_nil, List.drop_zero, List.drop_succ_cons, List.drop_nil, Nat.reduceAdd, Nat.reduceMul, Nat.reduceSub, if_true, Nat.reduceLT, Nat.reduceLeDiff, ite_true, ite_false, Nat.reduceEqDiff, if_false, reduceCtorEq, ne_eq, List.getD, List.getElem?_cons_zero, List.getElem?_cons_succ, Option.getD_some, Option.bind_some, Option.map_some, Option.isSome_some, reduceIte, List.length_append, List.append_assoc, List.cons_append, List.nil_append, Option.some.injEq, forall_const, implies_true, Int.reduceNeg, eq_self, Prod.mk.injEq, List.self_eq_append_right, List.append_nil, exists_eq_left, exists_eq_left', exists_and_left, exists_eq_right, exists_and_right]
        exact ⟨_, by omega, k + 1, rfl, by omega, rfl, hS⟩
    · have hc5 : decide ((k : Int) < (r.length : Int)) = false := decide_eq_false (by omega)
      simp (config := {maxSteps := 8000000}) only [e6, e8, e43, e44, e45, e67, e68, e69, hc5, hw1, c14, SS, bne_self_eq_false, wr_def, obOf, List.all_cons, List.all_nil, List.map_cons, List.map_nil, List.length_cons, List.length_nil, List.take_zero, List.take_succ_cons, List.take_nil, List.drop_zero, List.drop_succ_cons, List.drop_nil, Nat.reduceAdd, Nat.reduceMul, Nat.reduceSub, if_true, Nat.reduceLT, Nat.reduceLeDiff, ite_true, ite_false, Nat.reduceEqDiff, if_false, reduceCtorEq, ne_eq, List.getD, List.getElem?_cons_zero, List.getElem?_cons_succ, Option.getD_some, Option.bind_some, Option.map_some, Option.isSome_some, reduceIte, List.length_append, List.append_assoc, List.cons_append, List.nil_append, Option.some.injEq, forall_const, implies_true, Int.reduceNeg, eq_self, Prod.mk.injEq, List.self_eq_append_right, List.append_nil, exists_eq_left, exists_eq_left', exists_and_left, exists_eq_right, exists_and_right]
      refine wc_sound _ _ _ _ hn6 ?_
      simp (config := {maxSteps := 8000000}) only [e6, e8, e43, e44, e45, e67, e68, e69, hc5, hw1, c14, SS, bne_self_eq_false, wr_def, obOf, List.all_cons, List.all_nil, List.map_cons, List.map_nil, List.length_cons, List.length_nil, List.take_zero, List.take_succ_cons, List.take_nil, List.drop_zero, List.drop_succ_cons, List.drop_nil, Nat.reduceAdd, Nat.reduceMul, Nat.reduceSub, if_true, Nat.reduceLT, Nat.reduceLeDiff, ite_true, ite_false, Nat.reduceEqDiff, if_false, reduceCtorEq, ne_eq, List.getD, List.getElem?_cons_zero, List.getElem?_cons_succ, Option.getD_some, Option.bind_some, Option.map_some, Option.isSome_some, reduceIte, List.length_append, List.append_assoc, List.cons_append, List.nil_append, Option.some.injEq, forall_const, implies_true, Int.reduceNeg, eq_self, Prod.mk.injEq, List.self_eq_append_right, List.append_nil, exists_eq_left, exists_eq_left', exists_and_left, exists_eq_right, exists_and_right]
      exact ⟨_, by omega, i + 1, rfl, by omega, rfl, hS⟩

theorem proved : Pure := by
  intro xs hg
  obtain ⟨e0, s0, rfl, u0, v0⟩ := goodL_cons hg
  obtain rfl := goodL_nil v0
  obtain ⟨rows, p0, b0, k0⟩ := in_sls (c := intC) (P := fun _ => True) dv_i (fun x => rfl) (by decide) u0
  obtain ⟨w0, o0, e0', r0⟩ := k0 0
  obtain ⟨vs, A⟩ := r0 [] [] rfl
  simp only [List.append_nil, List.nil_append] at A
  have := law rows w0 vs o0 A
  simpa only [layA, layD, layL, argA, shapes, e0', List.nil_append, List.cons_append, List.append_nil, List.append_assoc, List.length_nil, List.length_append, Nat.add_zero, Nat.zero_add, List.headD_cons] using this
end Go.Proofs.Ytpehhlfbnkakpaa.MyAssignMisses
