/- What choose of the package assign does. Conditions stand in each lemma. -/
import Derived.Test.YtpehhlfbnkakpaaHgS
namespace Go.Proofs.Ytpehhlfbnkakpaa.Hg
open Go Go.Proofs.Ytpehhlfbnkakpaa.Eva Go.Proofs.Ytpehhlfbnkakpaa.CodeAll Go.Proofs.Ytpehhlfbnkakpaa.Fl
set_option linter.unusedVariables false
set_option linter.unusedSimpArgs false
set_option maxRecDepth 10000
set_option maxHeartbeats 4000000

theorem out_fg {sz k : Nat} {cs : List AV} {h : List Ob} : FgL (h ++ outO sz k cs) (outV h.length sz k) := by
  unfold outV outO
  by_cases hk : k = 0
  · simp only [if_pos hk]; exact fun id ep o hid _ => absurd hid idOf_nil
  · rw [if_neg hk, if_neg hk]
    rintro id ep o ⟨_, rfl⟩ ho
    unfold rdObj at ho
    simp at ho
    obtain ⟨_, rfl⟩ := ho; rfl
/-- What stays, and where the rows lie. -/
structure Fr1 (B : List Ob) (v : AV) (vs vs' : List AV) (h : List Ob) : Prop where
  len : B.length ≤ h.length
  inn : ∀ id, InW v vs' id → InW v vs id ∨ B.length ≤ id
  keep : ∀ id ep o, rdObj B id ep = some o → ¬ idOf v id → rdObj h id ep = some o
theorem Fr1.st {B : List Ob} {v nv : AV} {vs vs' : List AV} {h h' : List Ob} (F : Fr1 B v vs vs' h) (hn : ∀ id, idOf nv id → B.length ≤ id) (hl : h'.length = h.length) (hm : ∀ id ep o, ¬ idOf nv id → rdObj h id ep = some o → rdObj h' id ep = some o) : Fr1 B v vs vs' h' :=
  ⟨by rw [hl]; exact F.len, F.inn, fun id ep o ho hv => hm id ep o (fun hx => by have := hn id hx; have := rd_lt ho; omega) (F.keep id ep o ho hv)⟩
theorem choose_ex {H x : List Ob} {v : AV} {vs : List AV} {rows : List (List Int)} {C i many : Nat} {T : Int} (hW : Wd H.length (H ++ x) v vs rows) (hCl : ∀ r ∈ rows, r.length = C) (hb : ∀ a k, 0 ≤ mF rows a k ∧ mF rows a k ≤ 1125899906842624)
    (hi : i < rows.length) (hCe : C = many + rows.length) (hC : C ≤ 64) (hpriv : ∀ k, many ≤ k → k < C → k ≠ many + i → mF rows i k = 1125899906842624) (L : Least (mF rows) rows.length C T) (hT : T < 1125899906842624) :
    ∃ h' wl wa k, k < C ∧ ecall E 90 [v, .int .i64 (i : Int), .int .i64 (many : Int), .int .i64 T] (H ++ x) = some (.int .i64 (if k < many then (k : Int) else -1), h', wl, wa) ∧ H.length ≤ wl ∧ H.length ≤ wa ∧ H.length ≤ h'.length ∧ h'.take H.length = H ∧
      mF rows i k ≠ 1125899906842624 ∧ Least (mF (rows.set i (single C k (mF rows i k)))) rows.length C T ∧ (∃ vs', Wd H.length h' v vs' (rows.set i (single C k (mF rows i k))) ∧ Fr1 (H ++ x) v vs vs' h') ∧
      (k ≠ many + i → mF rows i (many + i) = 1125899906842624 ∨ ¬ Least (mF (rows.set i (single C (many + i) (mF rows i (many + i))))) rows.length C T) := by
  have A := hW.ns
  obtain ⟨u, r, hr, hu, S, d1, o1⟩ := A.row hi
  have hrl := hCl r (List.mem_of_getElem? hr)
  have hrF : ∀ k, k < C → r[k]? = some (mF rows i k) := fun k hk => by
    have : r[k]? = some r[k] := List.getElem?_eq_getElem (by omega)
    rw [mF, gRow_eq hr, this]; rfl
  have key : WX E H.length c90.nt c90.code (fun e f h' w => exOk e = true ∧ w < (H ++ x).length ∧ ∃ v', (rvq c90.nt f h' c90.res).map mkRes = some v' ∧ ∃ k, k < C ∧ v' = .int .i64 (if k < many then (k : Int) else -1) ∧ mF rows i k ≠ 1125899906842624 ∧ Least (mF (rows.set i (single C k (mF rows i k)))) rows.length C T ∧ (∃ vs', Wd H.length h' v vs' (rows.set i (single C k (mF rows i k))) ∧ Fr1 (H ++ x) v vs vs' h') ∧
      (k ≠ many + i → mF rows i (many + i) = 1125899906842624 ∨ ¬ Least (mF (rows.set i (single C (many + i) (mF rows i (many + i))))) rows.length C T)) (ofL [v, .int .i64 (i : Int), .int .i64 (many : Int), .int .i64 T]) (H ++ x) (H ++ x).length := by
    have hn : H.length ≤ (H ++ x).length := by simp
    refine WX_seq (WX_of hn (wc_sound _ _ _ _ hn ?_))
    simp (config := {maxSteps := 8000000}) only [c90, SS, bne_self_eq_false, wr_def, obOf, List.all_cons, List.all_nil, List.map_cons, List.map_nil, List.length_cons, List.length_nil, List.take_zero, List.take_succ_cons, List.take_nil, List.drop_zero, List.drop_succ_cons, List.drop_nil, Nat.reduceAdd, Nat.reduceMul, Nat.reduceSub, if_true, Nat.reduceLT, Nat.reduceLeDiff, ite_true, ite_false, Nat.reduceEqDiff, if_false, reduceCtorEq, ne_eq, List.getD, List.getElem?_cons_zero, List.getElem?_cons_succ, Option.getD_some, Option.bind_some, Option.map_some, Option.isSome_some, reduceIte, List.length_append, List.append_assoc, List.cons_append, List.nil_append, Option.some.injEq, forall_const, implies_true, Int.reduceNeg, eq_self, Prod.mk.injEq, List.self_eq_append_right, List.append_nil, exists_eq_left, exists_eq_left', exists_and_left, exists_eq_right, exists_and_right]
    intro w1 hw1 hw1'
    refine WX_seq (WX_of hw1 (wc_sound _ _ _ _ hn ?_))
    have d1' := d1 []
    rw [List.append_nil] at d1'
    simp (config := {maxSteps := 8000000}) only [o1, isPtr_idx o1, d1', SS, bne_self_eq_false, wr_def, obOf, List.all_cons, List.all_nil, List.map_cons, List.map_nil, List.length_cons, List.length_nil, List.take_zero, List.take_succ_cons, List.take_nil, List.drop_zero, List.drop_succ_cons, List.drop_nil, Nat.reduceAdd, Nat.reduceMul, Nat.reduceSub, if_true, Nat.reduceLT, Nat.reduceLeDiff, ite_true, ite_false, Nat.reduceEqDiff, if_false, reduceCtorEq, ne_eq, List.getD, List.getElem?_cons_zero, List.getElem?_cons_succ, Option.getD_some, Option.bind_some, Option.map_some, Option.isSome_some, reduceIte, List.length_append, List.append_assoc, List.cons_append, List.nil_append, Option.some.injEq, forall_const, implies_true, Int.reduceNeg, eq_self, Prod.mk.injEq, List.self_eq_append_right, List.append_nil, exists_eq_left, exists_eq_left', exists_and_left, exists_eq_right, exists_and_right]
    intro w2 hw2 hw2'
    have wmi : IntKind.i64.wrap ((many : Int) + (i : Int)) = ((many + i : Nat) : Int) := by rw [wrap64 (by omega) (by omega)]; omega
    have hcn := fun o => ncall_some.2 (count_run (H ++ (x ++ o)) (n := many) (by omega))
    simp only [List.length_append] at hcn
    refine WX_seq (WX_seq (WX_of hw2 (wc_sound _ _ _ _ hn ?_)))
    simp (config := {maxSteps := 8000000}) only [wmi, rg_calln, ncallV_fn, hcn, SS, bne_self_eq_false, wr_def, obOf, List.all_cons, List.all_nil, List.map_cons, List.map_nil, List.length_cons, List.length_nil, List.take_zero, List.take_succ_cons, List.take_nil, List.drop_zero, List.drop_succ_cons, List.drop_nil, Nat.reduceAdd, Nat.reduceMul, Nat.reduceSub, if_true, Nat.reduceLT, Nat.reduceLeDiff, ite_true, ite_false, Nat.reduceEqDiff, if_false, reduceCtorEq, ne_eq, List.getD, List.getElem?_cons_zero, List.getElem?_cons_succ, Option.getD_some, Option.bind_some, Option.map_some, Option.isSome_some, reduceIte, List.length_append, List.append_assoc, List.cons_append, List.nil_append, Option.some.injEq, forall_const, implies_true, Int.reduceNeg, eq_self, Prod.mk.injEq, List.self_eq_append_right, List.append_nil, exists_eq_left, exists_eq_left', exists_and_left, exists_eq_right, exists_and_right]
    have hs1 : SlL (H ++ (x ++ (⟨[.int .i64 ((many + i : Nat) : Int)], 0, 1, true, true⟩ :: outO 1 many (flat intC (ints many))))) (outV (H.length + (x.length + 1)) 1 many) intC 1 (ints many) := by
      have := out_rd (h := H ++ (x ++ [⟨[.int .i64 ((many + i : Nat) : Int)], 0, 1, true, true⟩])) (sz := 1) (k := many) (cs := flat intC (ints many)) (by rw [flat_len (k := 1) (fun _ => rfl), ints_len])
      simp only [List.length_append, List.length_cons, List.length_nil, List.append_assoc, List.cons_append, List.nil_append, Nat.zero_add] at this
      exact ⟨fun _ => rfl, by decide, by rw [ints_len]; exact this⟩
    have hf1 : FgL (H ++ (x ++ (⟨[.int .i64 ((many + i : Nat) : Int)], 0, 1, true, true⟩ :: outO 1 many (flat intC (ints many))))) (outV (H.length + (x.length + 1)) 1 many) := by
      have := out_fg (h := H ++ (x ++ [⟨[.int .i64 ((many + i : Nat) : Int)], 0, 1, true, true⟩])) (sz := 1) (k := many) (cs := flat intC (ints many))
      simp only [List.length_append, List.length_cons, List.length_nil, List.append_assoc, List.cons_append, List.nil_append, Nat.zero_add] at this
      exact this
    refine bu_app (c := intC) (ys := ints many) (cs := [.int .i64 ((many + i : Nat) : Int)]) (k := 1) ⟨rfl, Or.inr ⟨_, 0, _, rfl, by simp [rdObj], by omega, Or.inr rfl⟩⟩ hs1 hf1 (by rw [ints_len]; unfold appLim; omega) (by simp) (fun W h2 q1 q2 q3 q4 q5 => ?_)
    have hlW := q1.len
    rw [ints_len] at hlW q1
    have hWS : SlL h2 W intC 1 (cand many i) := ⟨fun _ => rfl, by decide, by
      have := (q1.isl (by omega)).rd (by simpa [ints_len] using q1.1)
      rw [cand_len, Nat.add_comm many 1]
      exact this⟩
    simp (config := {maxSteps := 8000000}) only [hlW, SS, bne_self_eq_false, wr_def, obOf, List.all_cons, List.all_nil, List.map_cons, List.map_nil, List.length_cons, List.length_nil, List.take_zero, List.take_succ_cons, List.take_nil, List.drop_zero, List.drop_succ_cons, List.drop_nil, Nat.reduceAdd, Nat.reduceMul, Nat.reduceSub, if_true, Nat.reduceLT, Nat.reduceLeDiff, ite_true, ite_false, Nat.reduceEqDiff, if_false, reduceCtorEq, ne_eq, List.getD, List.getElem?_cons_zero, List.getElem?_cons_succ, Option.getD_some, Option.bind_some, Option.map_some, Option.isSome_some, reduceIte, List.length_append, List.append_assoc, List.cons_append, List.nil_append, Option.some.injEq, forall_const, implies_true, Int.reduceNeg, eq_self, Prod.mk.injEq, List.self_eq_append_right, List.append_nil, exists_eq_left, exists_eq_left', exists_and_left, exists_eq_right, exists_and_right]
    intro w3 hw3 hw3'
    have hsepu : ∀ id, idOf u id → ¬ idOf v id := hW.sep u (List.mem_of_getElem? hu)
    have hidW : ∀ id, idOf W id → H.length + x.length ≤ id := by
      intro id hid
      rcases q4 with h9 | h9
      · have := idOf_inj h9 hid; simp at this; omega
      · obtain ⟨_, rfl⟩ := h9 id hid; exact Nat.le_refl _
    have hvlt : ∀ id, idOf v id → id < H.length + x.length := fun id hid => by have := hW.isl.idlt hid; simpa using this
    have hbase : ∀ id, id < H.length + x.length → ¬ idOf (.sl false (H.length + x.length) 0 1 0 1) id := fun id hid hx => by obtain ⟨_, rfl⟩ := hx; omega
    have hW2 : Wd H.length h2 v vs rows := hW.mono fun id ep o hid ho => q2 id ep o (rd_keep2 ho) (hbase id (by have := hW.lt hid; simpa using this))
    have hS2 : SlL h2 u intC 1 r := S.mono fun id ep o hid ho => q2 id ep o (rd_keep2 ho) (hbase id (by have := S.idlt hid; simpa using this))
    have hn2 : H.length ≤ h2.length := by simp at q3; omega
    have hFr2 : Fr1 (H ++ x) v vs vs h2 := ⟨by simp at q3 ⊢; omega, fun id h => Or.inl h, fun id ep o ho hv => q2 id ep o (rd_keep2 ho) (hbase id (by have := rd_lt ho; simpa using this))⟩
    clear q1 q2 q3 q4 q5 hs1 hf1 hcn
    refine (WX_blk (WX_loop (fun q f h => ∃ j : Nat, q = many + 1 - j ∧ j ≤ many + 1 ∧ f 0 = v ∧ f 1 = .int .i64 (i : Int) ∧ f 2 = .int .i64 (many : Int) ∧ f 3 = .int .i64 T ∧ f 9 = u ∧ f 23 = W ∧ f 24 = .int .i64 ((1 + many : Nat) : Int) ∧ f 25 = .int .i64 (j : Int) ∧ SlL h u intC 1 r ∧ SlL h W intC 1 (cand many i) ∧ (∃ vs' rows', Wd H.length h v vs' rows' ∧ Fr1 (H ++ x) v vs vs' h ∧ rows'.length = rows.length ∧ ∀ a, a ≠ i → rows'[a]? = rows[a]?) ∧
      ∀ (j' k : Nat), j' < j → (cand many i)[j']? = some (k : Int) → mF rows i k = 1125899906842624 ∨ ¬ Least (mF (rows.set i (single C k (mF rows i k)))) rows.length C T) hn2 hw3 (many + 1)
      ⟨0, rfl, by omega, rfl, rfl, rfl, rfl, rfl, rfl, rfl, rfl, hS2, hWS, ⟨vs, rows, hW2, hFr2, rfl, fun _ _ => rfl⟩, fun j' k h => by omega⟩ ?_))
    rintro q f1 h1 wa1 hn1 ht1 hwa1 hwa1' ⟨j, rfl, hj, e0, e1, e2, e3, e9, e23, e24, e25, hS1, hW1, ⟨vs', rows', hWd, hFr1, hlen', hoth⟩, hist⟩
    by_cases hjm : j < many + 1
    · have hc : decide ((j : Int) < ((1 + many : Nat) : Int)) = true := decide_eq_true (by omega)
      have wj : IntKind.i64.wrap ((j : Int) + 1) = ((j + 1 : Nat) : Int) := by rw [wrap64 (by omega) (by omega)]; omega
      obtain ⟨k, hk, hkc⟩ := cand_get (i := i) hjm
      have hkC : k < C := by omega
      have oW : idxOk 1 W (.int .i64 (j : Int)) := hW1.ok (by omega) (by rw [cand_len]; omega)
      have dW : ld1A h1 (idxV 1 W (.int .i64 (j : Int))) = some (.int .i64 (k : Int)) := by rw [hW1.ld0 (x := (k : Int)) (by omega) (by simpa using hk)]; rfl
      have ou : idxOk 1 u (.int .i64 (k : Int)) := hS1.ok (by omega) (by omega)
      have du : ld1A h1 (idxV 1 u (.int .i64 (k : Int))) = some (.int .i64 (mF rows i k)) := by rw [hS1.ld0 (x := mF rows i k) (by omega) (by simpa using hrF k hkC)]; rfl
      have histS : (mF rows i k = 1125899906842624 ∨ ¬ Least (mF (rows.set i (single C k (mF rows i k)))) rows.length C T) → ∀ (j' k' : Nat), j' < j + 1 → (cand many i)[j']? = some (k' : Int) → mF rows i k' = 1125899906842624 ∨ ¬ Least (mF (rows.set i (single C k' (mF rows i k')))) rows.length C T := by
        intro hbad j' k' hj' hk'
        by_cases h : j' < j
        · exact hist j' k' h hk'
        · have : j' = j := by omega
          subst this
          rw [hk] at hk'
          have h8 : (k : Int) = (k' : Int) := by simpa using hk'
          have : k = k' := by omega
          subst this; exact hbad
      refine WX_seq (WX_of hwa1 (wc_sound _ _ _ _ hn1 ?_))
      simp (config := {maxSteps := 8000000}) only [e0, e1, e2, e3, e9, e23, e24, e25, hc, SS, bne_self_eq_false, wr_def, obOf, List.all_cons, List.all_nil, List.map_cons, List.map_nil, List.length_cons, List.length_nil, List.take_zero, List.take_succ_cons, List.take_nil, List.drop_zero, List.drop_succ_cons, List.drop_nil, Nat.reduceAdd, Nat.reduceMul, Nat.reduceSub, if_true, Nat.reduceLT, Nat.reduceLeDiff, ite_true, ite_false, Nat.reduceEqDiff, if_false, reduceCtorEq, ne_eq, List.getD, List.getElem?_cons_zero, List.getElem?_cons_succ, Option.getD_some, Option.bind_some, Option.map_some, Option.isSome_some, reduceIte, List.length_append, List.append_assoc, List.cons_append, List.nil_append, Option.some.injEq, forall_const, implies_true, Int.reduceNeg, eq_self, Prod.mk.injEq, List.self_eq_append_right, List.append_nil, exists_eq_left, exists_eq_left', exists_and_left, exists_eq_right, exists_and_right]
      intro wa2 hwa2 hwa2'
      refine WX_seq (WX_of hwa2 (wc_sound _ _ _ _ hn1 ?_))
      simp (config := {maxSteps := 8000000}) only [e0, e1, e2, e3, e9, e23, e24, e25, hc, SS, bne_self_eq_false, wr_def, obOf, List.all_cons, List.all_nil, List.map_cons, List.map_nil, List.length_cons, List.length_nil, List.take_zero, List.take_succ_cons, List.take_nil, List.drop_zero, List.drop_succ_cons, List.drop_nil, Nat.reduceAdd, Nat.reduceMul, Nat.reduceSub, if_true, Nat.reduceLT, Nat.reduceLeDiff, ite_true, ite_false, Nat.reduceEqDiff, if_false, reduceCtorEq, ne_eq, List.getD, List.getElem?_cons_zero, List.getElem?_cons_succ, Option.getD_some, Option.bind_some, Option.map_some, Option.isSome_some, reduceIte, List.length_append, List.append_assoc, List.cons_append, List.nil_append, Option.some.injEq, forall_const, implies_true, Int.reduceNeg, eq_self, Prod.mk.injEq, List.self_eq_append_right, List.append_nil, exists_eq_left, exists_eq_left', exists_and_left, exists_eq_right, exists_and_right]
      intro wa3 hwa3 hwa3'
      refine WX_seq (WX_blk (WX_seq (WX_of hwa3 (wc_sound _ _ _ _ hn1 ?_))))
      simp (config := {maxSteps := 8000000}) only [e0, e1, e2, e3, e9, e23, e24, e25, oW, isPtr_idx oW, dW, SS, bne_self_eq_false, wr_def, obOf, List.all_cons, List.all_nil, List.map_cons, List.map_nil, List.length_cons, List.length_nil, List.take_zero, List.take_succ_cons, List.take_nil, List.drop_zero, List.drop_succ_cons, List.drop_nil, Nat.reduceAdd, Nat.reduceMul, Nat.reduceSub, if_true, Nat.reduceLT, Nat.reduceLeDiff, ite_true, ite_false, Nat.reduceEqDiff, if_false, reduceCtorEq, ne_eq, List.getD, List.getElem?_cons_zero, List.getElem?_cons_succ, Option.getD_some, Option.bind_some, Option.map_some, Option.isSome_some, reduceIte, List.length_append, List.append_assoc, List.cons_append, List.nil_append, Option.some.injEq, forall_const, implies_true, Int.reduceNeg, eq_self, Prod.mk.injEq, List.self_eq_append_right, List.append_nil, exists_eq_left, exists_eq_left', exists_and_left, exists_eq_right, exists_and_right]
      intro wa4 hwa4 hwa4'
      refine WX_seq (WX_of hwa4 (wc_sound _ _ _ _ hn1 ?_))
      by_cases hnev : mF rows i k = 1125899906842624
      · have hb1 : (mF rows i k == 1125899906842624) = true := by rw [beq_iff_eq]; exact hnev
        simp (config := {maxSteps := 8000000}) only [e0, e1, e2, e3, e9, e23, e24, e25, ou, isPtr_idx ou, du, hb1, SS, bne_self_eq_false, wr_def, obOf, List.all_cons, List.all_nil, List.map_cons, List.map_nil, List.length_cons, List.length_nil, List.take_zero, List.take_succ_cons, List.take_nil, List.drop_zero, List.drop_succ_cons, List.drop_nil, Nat.reduceAdd, Nat.reduceMul, Nat.reduceSub, if_true, Nat.reduceLT, Nat.reduceLeDiff, ite_true, ite_false, Nat.reduceEqDiff, if_false, reduceCtorEq, ne_eq, List.getD, List.getElem?_cons_zero, List.getElem?_cons_succ, Option.getD_some, Option.bind_some, Option.map_some, Option.isSome_some, reduceIte, List.length_append, List.append_assoc, List.cons_append, List.nil_append, Option.some.injEq, forall_const, implies_true, Int.reduceNeg, eq_self, Prod.mk.injEq, List.self_eq_append_right, List.append_nil, exists_eq_left, exists_eq_left', exists_and_left, exists_eq_right, exists_and_right]
        intro wa5 hwa5 hwa5'
        refine WX_of hwa5 (wc_sound _ _ _ _ hn1 ?_)
        simp (config := {maxSteps := 8000000}) only [e0, e1, e2, e3, e9, e23, e24, e25, wj, SS, bne_self_eq_false, wr_def, obOf, List.all_cons, List.all_nil, List.map_cons, List.map_nil, List.length_cons, List.length_nil, List.take_zero, List.take_succ_cons, List.take_nil, List.drop_zero, List.drop_succ_cons, List.drop_nil, Nat.reduceAdd, Nat.reduceMul, Nat.reduceSub, if_true, Nat.reduceLT, Nat.reduceLeDiff, ite_true, ite_false, Nat.reduceEqDiff, if_false, reduceCtorEq, ne_eq, List.getD, List.getElem?_cons_zero, List.getElem?_cons_succ, Option.getD_some, Option.bind_some, Option.map_some, Option.isSome_some, reduceIte, List.length_append, List.append_assoc, List.cons_append, List.nil_append, Option.some.injEq, forall_const, implies_true, Int.reduceNeg, eq_self, Prod.mk.injEq, List.self_eq_append_right, List.append_nil, exists_eq_left, exists_eq_left', exists_and_left, exists_eq_right, exists_and_right]
        intro wa6 hwa6 hwa6'
        exact ⟨_, by omega, j + 1, rfl, by omega, rfl, hS1, hW1, ⟨vs', rows', hWd, hFr1, hlen', hoth⟩, histS (Or.inl hnev)⟩
      · have hb1 : (mF rows i k == 1125899906842624) = false := by rw [beq_eq_false_iff_ne]; exact hnev
        simp (config := {maxSteps := 8000000}) only [e0, e1, e2, e3, e9, e23, e24, e25, ou, isPtr_idx ou, du, hb1, SS, bne_self_eq_false, wr_def, obOf, List.all_cons, List.all_nil, List.map_cons, List.map_nil, List.length_cons, List.length_nil, List.take_zero, List.take_succ_cons, List.take_nil, List.drop_zero, List.drop_succ_cons, List.drop_nil, Nat.reduceAdd, Nat.reduceMul, Nat.reduceSub, if_true, Nat.reduceLT, Nat.reduceLeDiff, ite_true, ite_false, Nat.reduceEqDiff, if_false, reduceCtorEq, ne_eq, List.getD, List.getElem?_cons_zero, List.getElem?_cons_succ, Option.getD_some, Option.bind_some, Option.map_some, Option.isSome_some, reduceIte, List.length_append, List.append_assoc, List.cons_append, List.nil_append, Option.some.injEq, forall_const, implies_true, Int.reduceNeg, eq_self, Prod.mk.injEq, List.self_eq_append_right, List.append_nil, exists_eq_left, exists_eq_left', exists_and_left, exists_eq_right, exists_and_right]
        intro wa5 hwa5 hwa5'
        have hfresh : ∀ id, idOf (.sl false h1.length 0 1 0 C) id → ¬ InW v vs' id := by
          rintro id ⟨_, rfl⟩ hin; have := hWd.lt hin; omega
        obtain ⟨id, ep, off, o, p1, p2, p3, p4, p5, p6, p7⟩ := wd_put (i := i) (hWd.keep [⟨zrep C [.int .i64 0], 0, 1, true, true⟩]) (by omega) hfresh
        have hlu : lenvA false u = some (.int .i64 (C : Int)) := by rw [hS1.len, hrl]
        have oiv : idxOk 1 v (.int .i64 (i : Int)) := hWd.ns.out.ok (by omega) (by rw [hWd.len]; omega)
        refine WX_seq (WX_st (l := [⟨some 34, .mv (.t 0), none, [], false⟩, ⟨some 35, .mv (.t 1), none, [], false⟩, ⟨some 36, .mv (.t 9), none, [], false⟩, ⟨some 37, .lenv false (.t 36), none, [], false⟩, ⟨some 38, .mksl [.int .i64 0] 8 (.t 37) (.t 37), none, [], false⟩, ⟨some 39, .iad 1 (.t 34) (.t 35), none, [], false⟩]) (a := .t 39) (x := .t 38) (q := false) hwa5 (RG_of hn1 ?_))
        simp (config := {maxSteps := 8000000}) only [e0, e1, e2, e3, e9, e23, e24, e25, hlu, oiv, isPtr_idx oiv, Int.toNat_natCast, SS, bne_self_eq_false, wr_def, obOf, List.all_cons, List.all_nil, List.map_cons, List.map_nil, List.length_cons, List.length_nil, List.take_zero, List.take_succ_cons, List.take_nil, List.drop_zero, List.drop_succ_cons, List.drop_nil, Nat.reduceAdd, Nat.reduceMul, Nat.reduceSub, if_true, Nat.reduceLT, Nat.reduceLeDiff, ite_true, ite_false, Nat.reduceEqDiff, if_false, reduceCtorEq, ne_eq, List.getD, List.getElem?_cons_zero, List.getElem?_cons_succ, Option.getD_some, Option.bind_some, Option.map_some, Option.isSome_some, reduceIte, List.length_append, List.append_assoc, List.cons_append, List.nil_append, Option.some.injEq, forall_const, implies_true, Int.reduceNeg, eq_self, Prod.mk.injEq, List.self_eq_append_right, List.append_nil, exists_eq_left, exists_eq_left', exists_and_left, exists_eq_right, exists_and_right]
        refine ⟨by omega, Int.le_refl _, by unfold appLim; omega, id, ep, off, p1, o, p2, p3, p4, p5, rfl, fun w hw hw' hwid => ?_⟩
        obtain ⟨hX, q2, q3⟩ := p7 rfl rfl
        have hF : FA H.length (stH (h1 ++ [⟨zrep C [.int .i64 0], 0, 1, true, true⟩]) (.ptr id ep off) (.sl false h1.length 0 1 0 C)) (.sl false h1.length 0 1 0 C) gI C (fun _ => 0) := by
          have : FA H.length (h1 ++ [⟨zrep C [.int .i64 0], 0, 1, true, true⟩]) (.sl false h1.length 0 1 0 C) gI C (fun _ => (0 : Int)) := FA.new (g := gI) hn1 []
          exact this.mono fun id' ep' o' hid' ho' => q2 id' ep' o' (fun hx => hfresh id' hid' (Or.inl hx)) ho'
        have hSu : SlL (stH (h1 ++ [⟨zrep C [.int .i64 0], 0, 1, true, true⟩]) (.ptr id ep off) (.sl false h1.length 0 1 0 C)) u intC 1 r := (hS1.keep _).mono fun id' ep' o' hid' ho' => q2 id' ep' o' (hsepu id' hid') ho'
        have hSW : SlL (stH (h1 ++ [⟨zrep C [.int .i64 0], 0, 1, true, true⟩]) (.ptr id ep off) (.sl false h1.length 0 1 0 C)) W intC 1 (cand many i) := (hW1.keep _).mono fun id' ep' o' hid' ho' => q2 id' ep' o' (fun hx => by have := hidW id' hid'; have := hvlt id' hx; omega) ho'
        have hnu : ∀ id', idOf u id' → ¬ idOf (.sl false h1.length 0 1 0 C) id' := by
          rintro id' hid' ⟨_, rfl⟩; have := hS1.idlt hid'; omega
        have hnW : ∀ id', idOf W id' → ¬ idOf (.sl false h1.length 0 1 0 C) id' := by
          rintro id' hid' ⟨_, rfl⟩; have := hW1.idlt hid'; omega
        have hnvid : ∀ id', idOf (.sl false h1.length 0 1 0 C) id' → (H ++ x).length ≤ id' := by rintro id' ⟨_, rfl⟩; exact hFr1.len
        have hFr3 : Fr1 (H ++ x) v vs (vs'.set i (.sl false h1.length 0 1 0 C)) (stH (h1 ++ [⟨zrep C [.int .i64 0], 0, 1, true, true⟩]) (.ptr id ep off) (.sl false h1.length 0 1 0 C)) := by
          refine ⟨by rw [q3]; have := hFr1.len; simp at this ⊢; omega, fun id' hin => ?_, fun id' ep' o' ho' hv' => q2 id' ep' o' hv' (rd_keep (hFr1.keep id' ep' o' ho' hv'))⟩
          rcases hin with h9 | ⟨u', hu', hid'⟩
          · exact Or.inl (Or.inl h9)
          · rcases List.mem_or_eq_of_mem_set hu' with h9 | rfl
            · exact hFr1.inn id' (Or.inr ⟨u', h9, hid'⟩)
            · exact Or.inr (hnvid id' hid')
        have hn3 : H.length ≤ (stH (h1 ++ [⟨zrep C [.int .i64 0], 0, 1, true, true⟩]) (.ptr id ep off) (.sl false h1.length 0 1 0 C)).length := by rw [q3]; simp; omega
        have hwlt : w < H.length + x.length := by have := hvlt id p6; omega
        obtain ⟨hC', hCe⟩ : ∃ x, stH (h1 ++ [⟨zrep C [.int .i64 0], 0, 1, true, true⟩]) (.ptr id ep off) (.sl false h1.length 0 1 0 C) = x := ⟨_, rfl⟩
        rw [hCe] at hX hF hSu hSW hn3 hFr3
        simp only [stH_ptr, cells_sl] at hCe
        rw [hCe]
        clear q2 q3 p7 p1 p2 p3 p4 p5 p6 hwid hfresh hWd hCe
        generalize AV.sl false h1.length 0 1 0 C = nv at *
        refine WX_seq (WX_of hw (wc_sound _ _ _ _ hn3 ?_))
        simp (config := {maxSteps := 8000000}) only [e0, e1, e2, e3, e9, e23, e24, e25, hlu, SS, bne_self_eq_false, wr_def, obOf, List.all_cons, List.all_nil, List.map_cons, List.map_nil, List.length_cons, List.length_nil, List.take_zero, List.take_succ_cons, List.take_nil, List.drop_zero, List.drop_succ_cons, List.drop_nil, Nat.reduceAdd, Nat.reduceMul, Nat.reduceSub, if_true, Nat.reduceLT, Nat.reduceLeDiff, ite_true, ite_false, Nat.reduceEqDiff, if_false, reduceCtorEq, ne_eq, List.getD, List.getElem?_cons_zero, List.getElem?_cons_succ, Option.getD_some, Option.bind_some, Option.map_some, Option.isSome_some, reduceIte, List.length_append, List.append_assoc, List.cons_append, List.nil_append, Option.some.injEq, forall_const, implies_true, Int.reduceNeg, eq_self, Prod.mk.injEq, List.self_eq_append_right, List.append_nil, exists_eq_left, exists_eq_left', exists_and_left, exists_eq_right, exists_and_right]
        -- the row is filled
        refine W_loop (fun q f2 h2 => ∃ m : Nat, q = C - m ∧ m ≤ C ∧ f2 0 = v ∧ f2 1 = .int .i64 (i : Int) ∧ f2 2 = .int .i64 (many : Int) ∧ f2 3 = .int .i64 T ∧ f2 9 = u ∧ f2 11 = .int .i64 (k : Int) ∧ f2 23 = W ∧ f2 24 = .int .i64 ((1 + many : Nat) : Int) ∧ f2 25 = .int .i64 (j : Int) ∧ f2 41 = .int .i64 (C : Int) ∧ f2 42 = .int .i64 (m : Int) ∧ SlL h2 u intC 1 r ∧ SlL h2 W intC 1 (cand many i) ∧ WdX H.length h2 v (vs'.set i nv) rows' i nv ∧ Fr1 (H ++ x) v vs (vs'.set i nv) h2 ∧ FA H.length h2 nv gI C (fun x => if x < m then 1125899906842624 else 0)) hn3 C
          ⟨0, by omega, by omega, by simp only [e0, SS, bne_self_eq_false, wr_def, obOf, List.all_cons, List.all_nil, List.map_cons, List.map_nil, List.length_cons, List.length_nil, List.take_zero, List.take_succ_cons, List.take_nil, List.drop_zero, List.drop_succ_cons, List.drop_nil, Nat.reduceAdd, Nat.reduceMul, Nat.reduceSub, if_true, Nat.reduceLT, Nat.reduceLeDiff, ite_true, ite_false, Nat.reduceEqDiff, if_false, reduceCtorEq, ne_eq, List.getD, List.getElem?_cons_zero, List.getElem?_cons_succ, Option.getD_some, Option.bind_some, Option.map_some, Option.isSome_some, reduceIte, List.length_append, List.append_assoc, List.cons_append, List.nil_append, Option.some.injEq, forall_const, implies_true, Int.reduceNeg, eq_self, Prod.mk.injEq, List.self_eq_append_right, List.append_nil, exists_eq_left, exists_eq_left', exists_and_left, exists_eq_right, exists_and_right], by simp only [e1, SS, bne_self_eq_false, wr_def, obOf, List.all_cons, List.all_nil, List.map_cons, List.map_nil, List.length_cons, List.length_nil, List.take_zero, List.take_succ_cons, List.take_nil, List.drop_zero, List.drop_succ_cons, List.drop_nil, Nat.reduceAdd, Nat.reduceMul, Nat.reduceSub, if_true, Nat.reduceLT, Nat.reduceLeDiff, ite_true, ite_false, Nat.reduceEqDiff, if_false, reduceCtorEq, ne_eq, List.getD, List.getElem?_cons_zero, List.getElem?_cons_succ, Option.getD_some, Option.bind_some, Option.map_some, Option.isSome_some, reduceIte, List.length_append, List.append_assoc, List.cons_append, List.nil_append, Option.some.injEq, forall_const, implies_true, Int.reduceNeg, eq_self, Prod.mk.injEq, List.self_eq_append_right, List.append_nil, exists_eq_left, exists_eq_left', exists_and_left, exists_eq_right, exists_and_right], by simp only [e2, SS, bne_self_eq_false, wr_def, obOf, List.all_cons, List.all_nil, List.map_cons, List.map_nil, List.length_cons, List.length_nil, List.take_zero, List.take_succ_cons, List.take_nil, List.drop_zero, List.drop_succ_cons, List.drop_nil, Nat.reduceAdd, Nat.reduceMul, Nat.reduceSub, if_true, Nat.reduceLT, Nat.reduceLeDiff, ite_true, ite_false, Nat.reduceEqDiff, if_false, reduceCtorEq, ne_eq, List.getD, List.getElem?_cons_zero, List.getElem?_cons_succ, Option.getD_some, Option.bind_some, Option.map_some, Option.isSome_some, reduceIte, List.length_append, List.append_assoc, List.cons_append, List.nil_append, Option.some.injEq, forall_const, implies_true, Int.reduceNeg, eq_self, Prod.mk.injEq, List.self_eq_append_right, List.append_nil, exists_eq_left, exists_eq_left', exists_and_left, exists_eq_right, exists_and_right], by simp only [e3, SS, bne_self_eq_false, wr_def, obOf, List.all_cons, List.all_nil, List.map_cons, List.map_nil, List.length_cons, List.length_nil, List.take_zero, List.take_succ_cons, List.take_nil, List.drop_zero, List.drop_succ_cons, List.drop_nil, Nat.reduceAdd, Nat.reduceMul, Nat.reduceSub, if_true, Nat.reduceLT, Nat.reduceLeDiff, ite_true, ite_false, Nat.reduceEqDiff, if_false, reduceCtorEq, ne_eq, List.getD, List.getElem?_cons_zero, List.getElem?_cons_succ, Option.getD_some, Option.bind_some, Option.map_some, Option.isSome_some, reduceIte, List.length_append, List.append_assoc, List.cons_append, List.nil_append, Option.some.injEq, forall_const, implies_true, Int.reduceNeg, eq_self, Prod.mk.injEq, List.self_eq_append_right, List.append_nil, exists_eq_left, exists_eq_left', exists_and_left, exists_eq_right, exists_and_right], by simp only [e9, SS, bne_self_eq_false, wr_def, obOf, List.all_cons, List.all_nil, List.map_cons, List.map_nil, List.length_cons, List.length_nil, List.take_zero, List.take_succ_cons, List.take_nil, List.drop_zero, List.drop_succ_cons, List.drop_nil, Nat.reduceAdd, Nat.reduceMul, Nat.reduceSub, if_true, Nat.reduceLT, Nat.reduceLeDiff, ite_true, ite_false, Nat.reduceEqDiff, if_false, reduceCtorEq, ne_eq, List.getD, List.getElem?_cons_zero, List.getElem?_cons_succ, Option.getD_some, Option.bind_some, Option.map_some, Option.isSome_some, reduceIte, List.length_append, List.append_assoc, List.cons_append, List.nil_append, Option.some.injEq, forall_const, implies_true, Int.reduceNeg, eq_self, Prod.mk.injEq, List.self_eq_append_right, List.append_nil, exists_eq_left, exists_eq_left', exists_and_left, exists_eq_right, exists_and_right], by simp only [SS, bne_self_eq_false, wr_def, obOf, List.all_cons, List.all_nil, List.map_cons, List.map_nil, List.length_cons, List.length_nil, List.take_zero, List.take_succ_cons, List.take_nil, List.drop_zero, List.drop_succ_cons, List.drop_nil, Nat.reduceAdd, Nat.reduceMul, Nat.reduceSub, if_true, Nat.reduceLT, Nat.reduceLeDiff, ite_true, ite_false, Nat.reduceEqDiff, if_false, reduceCtorEq, ne_eq, List.getD, List.getElem?_cons_zero, List.getElem?_cons_succ, Option.getD_some, Option.bind_some, Option.map_some, Option.isSome_some, reduceIte, List.length_append, List.append_assoc, List.cons_append, List.nil_append, Option.some.injEq, forall_const, implies_true, Int.reduceNeg, eq_self, Prod.mk.injEq, List.self_eq_append_right, List.append_nil, exists_eq_left, exists_eq_left', exists_and_left, exists_eq_right, exists_and_right], by simp only [e23, SS, bne_self_eq_false, wr_def, obOf, List.all_cons, List.all_nil, List.map_cons, List.map_nil, List.length_cons, List.length_nil, List.take_zero, List.take_succ_cons, List.take_nil, List.drop_zero, List.drop_succ_cons, List.drop_nil, Nat.reduceAdd, Nat.reduceMul, Nat.reduceSub, if_true, Nat.reduceLT, Nat.reduceLeDiff, ite_true, ite_false, Nat.reduceEqDiff, if_false, reduceCtorEq, ne_eq, List.getD, List.getElem?_cons_zero, List.getElem?_cons_succ, Option.getD_some, Option.bind_some, Option.map_some, Option.isSome_some, reduceIte, List.length_append, List.append_assoc, List.cons_append, List.nil_append, Option.some.injEq, forall_const, implies_true, Int.reduceNeg, eq_self, Prod.mk.injEq, List.self_eq_append_right, List.append_nil, exists_eq_left, exists_eq_left', exists_and_left, exists_eq_right, exists_and_right], by simp only [e24, SS, bne_self_eq_false, wr_def, obOf, List.all_cons, List.all_nil, List.map_cons, List.map_nil, List.length_cons, List.length_nil, List.take_zero, List.take_succ_cons, List.take_nil, List.drop_zero, List.drop_succ_cons, List.drop_nil, Nat.reduceAdd, Nat.reduceMul, Nat.reduceSub, if_true, Nat.reduceLT, Nat.reduceLeDiff, ite_true, ite_false, Nat.reduceEqDiff, if_false, reduceCtorEq, ne_eq, List.getD, List.getElem?_cons_zero, List.getElem?_cons_succ, Option.getD_some, Option.bind_some, Option.map_some, Option.isSome_some, reduceIte, List.length_append, List.append_assoc, List.cons_append, List.nil_append, Option.some.injEq, forall_const, implies_true, Int.reduceNeg, eq_self, Prod.mk.injEq, List.self_eq_append_right, List.append_nil, exists_eq_left, exists_eq_left', exists_and_left, exists_eq_right, exists_and_right], by simp only [e25, SS, bne_self_eq_false, wr_def, obOf, List.all_cons, List.all_nil, List.map_cons, List.map_nil, List.length_cons, List.length_nil, List.take_zero, List.take_succ_cons, List.take_nil, List.drop_zero, List.drop_succ_cons, List.drop_nil, Nat.reduceAdd, Nat.reduceMul, Nat.reduceSub, if_true, Nat.reduceLT, Nat.reduceLeDiff, ite_true, ite_false, Nat.reduceEqDiff, if_false, reduceCtorEq, ne_eq, List.getD, List.getElem?_cons_zero, List.getElem?_cons_succ, Option.getD_some, Option.bind_some, Option.map_some, Option.isSome_some, reduceIte, List.length_append, List.append_assoc, List.cons_append, List.nil_append, Option.some.injEq, forall_const, implies_true, Int.reduceNeg, eq_self, Prod.mk.injEq, List.self_eq_append_right, List.append_nil, exists_eq_left, exists_eq_left', exists_and_left, exists_eq_right, exists_and_right], by simp only [SS, bne_self_eq_false, wr_def, obOf, List.all_cons, List.all_nil, List.map_cons, List.map_nil, List.length_cons, List.length_nil, List.take_zero, List.take_succ_cons, List.take_nil, List.drop_zero, List.drop_succ_cons, List.drop_nil, Nat.reduceAdd, Nat.reduceMul, Nat.reduceSub, if_true, Nat.reduceLT, Nat.reduceLeDiff, ite_true, ite_false, Nat.reduceEqDiff, if_false, reduceCtorEq, ne_eq, List.getD, List.getElem?_cons_zero, List.getElem?_cons_succ, Option.getD_some, Option.bind_some, Option.map_some, Option.isSome_some, reduceIte, List.length_append, List.append_assoc, List.cons_append, List.nil_append, Option.some.injEq, forall_const, implies_true, Int.reduceNeg, eq_self, Prod.mk.injEq, List.self_eq_append_right, List.append_nil, exists_eq_left, exists_eq_left', exists_and_left, exists_eq_right, exists_and_right], by simp only [SS, bne_self_eq_false, wr_def, obOf, List.all_cons, List.all_nil, List.map_cons, List.map_nil, List.length_cons, List.length_nil, List.take_zero, List.take_succ_cons, List.take_nil, List.drop_zero, List.drop_succ_cons, List.drop_nil, Nat.reduceAdd, Nat.reduceMul, Nat.reduceSub, if_true, Nat.reduceLT, Nat.reduceLeDiff, ite_true, ite_false, Nat.reduceEqDiff, if_false, reduceCtorEq, ne_eq, List.getD, List.getElem?_cons_zero, List.getElem?_cons_succ, Option.getD_some, Option.bind_some, Option.map_some, Option.isSome_some, reduceIte, List.length_append, List.append_assoc, List.cons_append, List.nil_append, Option.some.injEq, forall_const, implies_true, Int.reduceNeg, eq_self, Prod.mk.injEq, List.self_eq_append_right, List.append_nil, exists_eq_left, exists_eq_left', exists_and_left, exists_eq_right, exists_and_right]; rfl, hSu, hSW, hX, hFr3, hF.ext fun _ _ => by simp⟩ ?_
        clear e0 e1 e2 e3 e9 e23 e24 e25 hSu hSW hX hF hn3 hFr3
        rintro q f2 h2 hn4 ht4 ⟨m, rfl, hm, e0, e1, e2, e3, e9, e11, e23, e24, e25, e41, e42, hSu, hSW, hX, hFr, hF⟩
        have oiv2 := hX.ok
        have div2 := hX.ld
        by_cases hmC : m < C
        · have hc2 : decide ((m : Int) < (C : Int)) = true := decide_eq_true (by omega)
          have wm : IntKind.i64.wrap ((m : Int) + 1) = ((m + 1 : Nat) : Int) := by rw [wrap64 (by omega) (by omega)]; omega
          have onv := hF.ok hmC
          have stnv := hF.stOk hmC (1125899906842624 : Int)
          obtain ⟨s1, s2, s3⟩ := hF.st hmC (1125899906842624 : Int)
          have s4 := hF.stTake m (1125899906842624 : Int)
          simp only [gI] at stnv s1 s2 s3 s4
          simp (config := {maxSteps := 8000000}) only [e0, e1, e2, e3, e9, e11, e23, e24, e25, e41, e42, hc2, wm, oiv2, isPtr_idx oiv2, div2, onv, isPtr_idx onv, stnv, SS, bne_self_eq_false, wr_def, obOf, List.all_cons, List.all_nil, List.map_cons, List.map_nil, List.length_cons, List.length_nil, List.take_zero, List.take_succ_cons, List.take_nil, List.drop_zero, List.drop_succ_cons, List.drop_nil, Nat.reduceAdd, Nat.reduceMul, Nat.reduceSub, if_true, Nat.reduceLT, Nat.reduceLeDiff, ite_true, ite_false, Nat.reduceEqDiff, if_false, reduceCtorEq, ne_eq, List.getD, List.getElem?_cons_zero, List.getElem?_cons_succ, Option.getD_some, Option.bind_some, Option.map_some, Option.isSome_some, reduceIte, List.length_append, List.append_assoc, List.cons_append, List.nil_append, Option.some.injEq, forall_const, implies_true, Int.reduceNeg, eq_self, Prod.mk.injEq, List.self_eq_append_right, List.append_nil, exists_eq_left, exists_eq_left', exists_and_left, exists_eq_right, exists_and_right]
          refine ⟨_, by omega, m + 1, rfl, by omega, rfl, hSu.mono fun id' ep' o' hid' ho' => s2 id' ep' o' (hnu id' hid') ho', hSW.mono fun id' ep' o' hid' ho' => s2 id' ep' o' (hnW id' hid') ho', hX.mono s2, hFr.st hnvid s3 s2, s1.ext fun y hy => ?_⟩
          unfold upd
          by_cases hym : y = m
          · rw [if_pos hym, if_pos (by omega)]
          · rw [if_neg hym]
            dsimp only
            by_cases hyl : y < m
            · rw [if_pos hyl, if_pos (by omega)]
            · rw [if_neg hyl, if_neg (by omega)]
        · have hc2 : decide ((m : Int) < (C : Int)) = false := decide_eq_false (by omega)
          have hmE : m = C := by omega
          subst hmE
          simp (config := {maxSteps := 8000000}) only [e0, e1, e2, e3, e9, e11, e23, e24, e25, e41, e42, hc2, SS, bne_self_eq_false, wr_def, obOf, List.all_cons, List.all_nil, List.map_cons, List.map_nil, List.length_cons, List.length_nil, List.take_zero, List.take_succ_cons, List.take_nil, List.drop_zero, List.drop_succ_cons, List.drop_nil, Nat.reduceAdd, Nat.reduceMul, Nat.reduceSub, if_true, Nat.reduceLT, Nat.reduceLeDiff, ite_true, ite_false, Nat.reduceEqDiff, if_false, reduceCtorEq, ne_eq, List.getD, List.getElem?_cons_zero, List.getElem?_cons_succ, Option.getD_some, Option.bind_some, Option.map_some, Option.isSome_some, reduceIte, List.length_append, List.append_assoc, List.cons_append, List.nil_append, Option.some.injEq, forall_const, implies_true, Int.reduceNeg, eq_self, Prod.mk.injEq, List.self_eq_append_right, List.append_nil, exists_eq_left, exists_eq_left', exists_and_left, exists_eq_right, exists_and_right]
          intro wa6 hwa6 hwa6'
          have onv := hF.ok hkC
          have stnv := hF.stOk hkC (mF rows i k)
          obtain ⟨s1, s2, s3⟩ := hF.st hkC (mF rows i k)
          have s4 := hF.stTake k (mF rows i k)
          have ou2 : idxOk 1 u (.int .i64 (k : Int)) := hSu.ok (by omega) (by omega)
          have du2 : ld1A h2 (idxV 1 u (.int .i64 (k : Int))) = some (.int .i64 (mF rows i k)) := by rw [hSu.ld0 (x := mF rows i k) (by omega) (by simpa using hrF k hkC)]; rfl
          simp only [gI] at stnv s1 s2 s3 s4
          have t1 := hSu.mono fun id' ep' o' hid' ho' => s2 id' ep' o' (hnu id' hid') ho'
          have t2 := hSW.mono fun id' ep' o' hid' ho' => s2 id' ep' o' (hnW id' hid') ho'
          have t3 := hX.mono s2
          have t4 := hFr.st hnvid s3 s2
          refine WX_seq (WX_of hwa6 (wc_sound _ _ _ _ hn4 ?_))
          simp (config := {maxSteps := 8000000}) only [e0, e1, e2, e3, e9, e11, e23, e24, e25, oiv2, isPtr_idx oiv2, div2, onv, isPtr_idx onv, ou2, isPtr_idx ou2, du2, stnv, SS, bne_self_eq_false, wr_def, obOf, List.all_cons, List.all_nil, List.map_cons, List.map_nil, List.length_cons, List.length_nil, List.take_zero, List.take_succ_cons, List.take_nil, List.drop_zero, List.drop_succ_cons, List.drop_nil, Nat.reduceAdd, Nat.reduceMul, Nat.reduceSub, if_true, Nat.reduceLT, Nat.reduceLeDiff, ite_true, ite_false, Nat.reduceEqDiff, if_false, reduceCtorEq, ne_eq, List.getD, List.getElem?_cons_zero, List.getElem?_cons_succ, Option.getD_some, Option.bind_some, Option.map_some, Option.isSome_some, reduceIte, List.length_append, List.append_assoc, List.cons_append, List.nil_append, Option.some.injEq, forall_const, implies_true, Int.reduceNeg, eq_self, Prod.mk.injEq, List.self_eq_append_right, List.append_nil, exists_eq_left, exists_eq_left', exists_and_left, exists_eq_right, exists_and_right]
          intro wa7 hwa7 hwa7'
          generalize stH h2 (idxV 1 nv (.int .i64 (k : Int))) (.int .i64 (mF rows i k)) = h5 at *
          have hn5 : H.length ≤ h5.length := by rw [s3]; exact hn4
          have hAr : Arr H.length h5 nv gI (single m k (mF rows i k)) := by
            refine FA.ext (f' := fun j => if j = k then mF rows i k else 1125899906842624) s1 fun y hy => ?_
            unfold upd
            by_cases hyk : y = k
            · rw [if_pos hyk, if_pos hyk]
            · rw [if_neg hyk, if_neg hyk]
              dsimp only
              rw [if_pos hy]
          have hIs := hAr.isl (by rw [single_len]; omega)
          have hWd5 := t3.wd hIs
          have hsame : rows'.set i (single m k (mF rows i k)) = rows.set i (single m k (mF rows i k)) := by
            apply List.ext_getElem?
            intro a
            rw [List.getElem?_set, List.getElem?_set, hlen']
            by_cases hia : i = a
            · rw [if_pos hia, if_pos hia]
            · rw [if_neg hia, if_neg hia]; exact hoth a fun h => hia h.symm
          rw [hsame] at hWd5
          have hM5 : ∀ a b, 0 ≤ mF (rows.set i (single m k (mF rows i k))) a b ∧ mF (rows.set i (single m k (mF rows i k))) a b ≤ 1125899906842624 := by
            intro a b
            rw [mF_set hi]
            split
            · by_cases hb' : b < m
              · rw [single_get hb']
                simp only [Option.getD_some]
                split
                · exact hb i k
                · omega
              · rw [List.getElem?_eq_none (by rw [single_len]; omega)]
                simp
            · exact hb a b
          have hCl5 : ∀ r ∈ rows.set i (single m k (mF rows i k)), r.length = m := by
            intro r' hr'
            rcases List.mem_or_eq_of_mem_set hr' with h9 | rfl
            · exact hCl r' h9
            · exact single_len
          have mx5 := hWd5.ns.mx hCl5
          rw [List.length_set] at mx5
          obtain ⟨T', L', htot⟩ := total_ex hM5 mx5 (by omega) hC
          have htp := pcall_some.2 htot
          by_cases hTT : T' = T
          · subst hTT
            have hb2 : (T' == T') = true := by simp
            have hlast : k ≠ many + i → mF rows i (many + i) = 1125899906842624 ∨ ¬ Least (mF (rows.set i (single m (many + i) (mF rows i (many + i))))) rows.length m T' := by
              intro hne
              have hj0 : 0 < j := by
                rcases Nat.eq_zero_or_pos j with h0 | h0
                · subst h0
                  have h8 : (((many + i : Nat) : Int)) = (k : Int) := by simpa [cand] using hk
                  omega
                · exact h0
              exact hist 0 (many + i) hj0 rfl
            by_cases hkm : k < many
            · have hb3 : decide ((k : Int) < (many : Int)) = true := decide_eq_true (by omega)
              refine WX_of hwa7 (wc_sound _ _ _ _ hn5 ?_)
              simp (config := {maxSteps := 8000000}) only [e0, e1, e2, e3, e9, e11, e23, e24, e25, htp, hb2, hb3, c90, SS, bne_self_eq_false, wr_def, obOf, List.all_cons, List.all_nil, List.map_cons, List.map_nil, List.length_cons, List.length_nil, List.take_zero, List.take_succ_cons, List.take_nil, List.drop_zero, List.drop_succ_cons, List.drop_nil, Nat.reduceAdd, Nat.reduceMul, Nat.reduceSub, if_true, Nat.reduceLT, Nat.reduceLeDiff, ite_true, ite_false, Nat.reduceEqDiff, if_false, reduceCtorEq, ne_eq, List.getD, List.getElem?_cons_zero, List.getElem?_cons_succ, Option.getD_some, Option.bind_some, Option.map_some, Option.isSome_some, reduceIte, List.length_append, List.append_assoc, List.cons_append, List.nil_append, Option.some.injEq, forall_const, implies_true, Int.reduceNeg, eq_self, Prod.mk.injEq, List.self_eq_append_right, List.append_nil, exists_eq_left, exists_eq_left', exists_and_left, exists_eq_right, exists_and_right]
              exact ⟨hn5, fun wa' h1 h2 => ⟨by omega, k, hkC, by rw [if_pos hkm], hnev, L', ⟨_, hWd5, t4⟩, hlast⟩⟩
            · have hb3 : decide ((k : Int) < (many : Int)) = false := decide_eq_false (by omega)
              refine WX_of hwa7 (wc_sound _ _ _ _ hn5 ?_)
              simp (config := {maxSteps := 8000000}) only [e0, e1, e2, e3, e9, e11, e23, e24, e25, htp, hb2, hb3, c90, SS, bne_self_eq_false, wr_def, obOf, List.all_cons, List.all_nil, List.map_cons, List.map_nil, List.length_cons, List.length_nil, List.take_zero, List.take_succ_cons, List.take_nil, List.drop_zero, List.drop_succ_cons, List.drop_nil, Nat.reduceAdd, Nat.reduceMul, Nat.reduceSub, if_true, Nat.reduceLT, Nat.reduceLeDiff, ite_true, ite_false, Nat.reduceEqDiff, if_false, reduceCtorEq, ne_eq, List.getD, List.getElem?_cons_zero, List.getElem?_cons_succ, Option.getD_some, Option.bind_some, Option.map_some, Option.isSome_some, reduceIte, List.length_append, List.append_assoc, List.cons_append, List.nil_append, Option.some.injEq, forall_const, implies_true, Int.reduceNeg, eq_self, Prod.mk.injEq, List.self_eq_append_right, List.append_nil, exists_eq_left, exists_eq_left', exists_and_left, exists_eq_right, exists_and_right]
              exact ⟨hn5, fun wa' h1 h2 => ⟨by omega, k, hkC, by rw [if_neg hkm], hnev, L', ⟨_, hWd5, t4⟩, hlast⟩⟩
          · have hb2 : (T' == T) = false := by rw [beq_eq_false_iff_ne]; exact hTT
            have hnL : ¬ Least (mF (rows.set i (single m k (mF rows i k)))) rows.length m T := fun hL => by
              obtain ⟨⟨σ, hI, hs⟩, hmin⟩ := hL
              obtain ⟨⟨τ, hJ, ht⟩, hmin'⟩ := L'
              have := hmin τ hJ
              have := hmin' σ hI
              omega
            refine WX_of hwa7 (wc_sound _ _ _ _ hn5 ?_)
            simp (config := {maxSteps := 8000000}) only [e0, e1, e2, e3, e9, e11, e23, e24, e25, htp, hb2, wj, SS, bne_self_eq_false, wr_def, obOf, List.all_cons, List.all_nil, List.map_cons, List.map_nil, List.length_cons, List.length_nil, List.take_zero, List.take_succ_cons, List.take_nil, List.drop_zero, List.drop_succ_cons, List.drop_nil, Nat.reduceAdd, Nat.reduceMul, Nat.reduceSub, if_true, Nat.reduceLT, Nat.reduceLeDiff, ite_true, ite_false, Nat.reduceEqDiff, if_false, reduceCtorEq, ne_eq, List.getD, List.getElem?_cons_zero, List.getElem?_cons_succ, Option.getD_some, Option.bind_some, Option.map_some, Option.isSome_some, reduceIte, List.length_append, List.append_assoc, List.cons_append, List.nil_append, Option.some.injEq, forall_const, implies_true, Int.reduceNeg, eq_self, Prod.mk.injEq, List.self_eq_append_right, List.append_nil, exists_eq_left, exists_eq_left', exists_and_left, exists_eq_right, exists_and_right]
            refine ⟨hn5, fun wa8 hwa8 hwa8' => WX_of hwa8 (wc_sound _ _ _ _ hn5 ?_)⟩
            simp (config := {maxSteps := 8000000}) only [e0, e1, e2, e3, e9, e11, e23, e24, e25, wj, SS, bne_self_eq_false, wr_def, obOf, List.all_cons, List.all_nil, List.map_cons, List.map_nil, List.length_cons, List.length_nil, List.take_zero, List.take_succ_cons, List.take_nil, List.drop_zero, List.drop_succ_cons, List.drop_nil, Nat.reduceAdd, Nat.reduceMul, Nat.reduceSub, if_true, Nat.reduceLT, Nat.reduceLeDiff, ite_true, ite_false, Nat.reduceEqDiff, if_false, reduceCtorEq, ne_eq, List.getD, List.getElem?_cons_zero, List.getElem?_cons_succ, Option.getD_some, Option.bind_some, Option.map_some, Option.isSome_some, reduceIte, List.length_append, List.append_assoc, List.cons_append, List.nil_append, Option.some.injEq, forall_const, implies_true, Int.reduceNeg, eq_self, Prod.mk.injEq, List.self_eq_append_right, List.append_nil, exists_eq_left, exists_eq_left', exists_and_left, exists_eq_right, exists_and_right]
            exact fun wa' h1 h2 => ⟨_, by omega, j + 1, rfl, by omega, rfl, t1, t2, ⟨_, _, hWd5, t4, by rw [List.length_set], fun a ha => by rw [List.getElem?_set_ne (fun h => ha h.symm)]⟩, histS (Or.inr hnL)⟩
    · exfalso
      have : j = many + 1 := by omega
      subst this
      obtain ⟨k, hk, ⟨σ, hI, hT', hσ⟩, hL⟩ := single_ex hi (fun k hk => (hb i k).2) L
      have hlt : mF rows i k < 1125899906842624 := by
        have := (sumN_ge (f := fun a => mF rows a (σ a)) (fun a _ => (hb a _).1) i hi).1
        rw [← hT'] at this
        rw [hσ] at this; omega
      have hkc : k = many + i ∨ k < many := by
        by_cases h1 : k < many
        · exact Or.inr h1
        · by_cases h2 : k = many + i
          · exact Or.inl h2
          · have := hpriv k (by omega) hk h2; omega
      obtain ⟨j', hj', hg⟩ := cand_mem hkc
      rcases hist j' k hj' hg with h | h
      · omega
      · exact h hL
  obtain ⟨v', h', wl, wa, k1, k2, k3, k4, k5, k, k6, rfl, k7, k8, k9, k10⟩ := call_mutX e90 rfl (Nat.le_of_ble_eq_true rfl) (by simp) key
  exact ⟨h', wl, wa, k, k6, k1, k2, k3, k4, by rw [k5]; simp, k7, k8, k9, k10⟩
end Go.Proofs.Ytpehhlfbnkakpaa.Hg
