/- What Spots of the package fuse answers. Conditions stand in each lemma. -/
import Derived.Test.YtaekgifbehoipaaZFuseOncec
namespace Go.Proofs.Ytaekgifbehoipaa.So
open Go Go.Proofs.Ytaekgifbehoipaa.Eva Go.Proofs.Ytaekgifbehoipaa.CodeAll Go.Proofs.Ytaekgifbehoipaa.Fl
set_option linter.unusedVariables false
set_option linter.unusedSimpArgs false
set_option maxRecDepth 10000
set_option maxHeartbeats 4000000

def SpOk (l : List Sd) (band : Int) : Prop := l.length ≤ 128 ∧ (∀ s ∈ l, s.chk = 0) ∧ 0 ≤ band ∧ band ≤ 60000
def SpP (l : List Sd) (band : Int) (out : List Sd) (e : Int) : Prop :=
  (e ≠ 0 ∧ out = [] ∧ ¬ SpOk l band) ∨ (e = 0 ∧ SpOk l band ∧ ∃ ys : List Sd, ys.Perm l ∧ ys.Pairwise (fun x y => sLt y x = false) ∧ out = ddup band [] ys)
theorem sp_clos {H : List Ob} {p q : Nat} {band : Int} {s k : Sd} {rw' fl' rw2 fl2 : Bool} (hp : rdObj H p 0 = some ⟨s.c, 0, 0, rw', fl'⟩) (hq : rdObj H q 0 = some ⟨[.int .i64 band], 0, 0, rw2, fl2⟩) (h1 : k.chk = 0) (h2 : s.chk = 0) (h3 : 0 ≤ band) (h4 : band ≤ 60000) :
    pcall E 77 [.agg k.c, .ptr p 0 0, .ptr q 0 0] H = some (.bool (alk band k s)) := by
  refine pcall_some.2 (call_plain e77 rfl (Nat.le_of_ble_eq_true rfl) rfl ?_)
  have hpp := fun o => rd_keep (l := o) hp
  have hqq := fun o => rd_keep (l := o) hq
  have ha := fun H => alike_pc h1 h2 h3 h4 H
  simp only [Sd.c] at hpp ha
  simp (config := {maxSteps := 8000000}) only [c77, Sd.c, hpp, hqq, ha, SS, bne_self_eq_false, wr_def, obOf, List.all_cons, List.all_nil, List.map_cons, List.map_nil, List.length_cons, List.length_nil, List.take_zero, List.take_succ_cons, List.take_nil, List.drop_zero, List.drop_succ_cons, List.drop_nil, Nat.reduceAdd, Nat.reduceMul, Nat.reduceSub, if_true, Nat.reduceLT, Nat.reduceLeDiff, ite_true, ite_false, Nat.reduceEqDiff, if_false, reduceCtorEq, ne_eq, List.getD, List.getElem?_cons_zero, List.getElem?_cons_succ, Option.getD_some, Option.bind_some, Option.map_some, Option.isSome_some, reduceIte, List.length_append, List.append_assoc, List.cons_append, List.nil_append, Option.some.injEq, forall_const, implies_true, Int.reduceNeg, eq_self, Prod.mk.injEq, List.self_eq_append_right, List.append_nil, exists_eq_left, exists_eq_left', exists_and_left, exists_eq_right, exists_and_right]
theorem call_list_ex {g : Nat} {cf : CF} (hE : E g = some cf) {args : List AV} (hn : args.length = cf.np) (hnt : args.length ≤ cf.nt) {h : List Ob} {α : Type} {c : α → List AV} {sz : Nat} {P : List α → Int → Prop}
    (hw : wc E h.length cf.nt cf.code (fun e f h' => exOk e = true ∧ ∃ v er, rvq cf.nt f h' cf.res = some [v, .int .i64 er] ∧ ∃ xs : List α, IsL h.length h' v sz true (flat c xs) xs.length ∧ P xs er) (ofL args) h) :
    ∃ xs er, P xs er ∧ ecall E g args h = some (.tup [outV h.length sz xs.length, .int .i64 er], h ++ outO sz xs.length (flat c xs), h.length, h.length) := by
  obtain ⟨e, f', h', k1, k2, ⟨k3, v, er, k4, xs, k5, hP⟩, k6⟩ := call_wc hE hn hnt hw
  refine ⟨xs, er, hP, ?_⟩
  rw [k6 _ k3 k4]
  have := fin_list (n := cf.nt) (f := f') k5 [.int .i64 er] rfl
  simp only [mkRes, this, k2]

theorem spots_ex {H : List Ob} {V : AV} {l : List Sd} (band : Int) (hs : SlL H V Sd.c 6 l) (hf : FgL H V) (hbig : l.length < 1125899906842624) :
    ∃ out e, SpP l band out e ∧ ecall E 36 [V, .int .i64 band] H = some (.tup [outV H.length 6 out.length, .int .i64 e], H ++ outO 6 out.length (flat Sd.c out), H.length, H.length) := by
  refine call_list_ex (P := SpP l band) e36 rfl (Nat.le_of_ble_eq_true rfl) ?_
  have len := hs.len
  have n0 : ((0 : Int) != 0) = false := rfl
  by_cases c0 : 128 < l.length
  · have b0 : decide ((128 : Int) < (l.length : Int)) = true := decide_eq_true (by omega)
    simp (config := {maxSteps := 4000000}) only [c36, len, b0, SS, bne_self_eq_false, wr_def, obOf, List.all_cons, List.all_nil, List.map_cons, List.map_nil, List.length_cons, List.length_nil, List.take_zero, List.take_succ_cons, List.take_nil, List.drop_zero, List.drop_succ_cons, List.drop_nil, Nat.reduceAdd, Nat.reduceMul, Nat.reduceSub, if_true, Nat.reduceLT, Nat.reduceLeDiff, ite_true, ite_false, Nat.reduceEqDiff, if_false, reduceCtorEq, ne_eq, List.getD, List.getElem?_cons_zero, List.getElem?_cons_succ, Option.getD_some, Option.bind_some, Option.map_some, Option.isSome_some, reduceIte, List.length_append, List.append_assoc, List.cons_append, List.nil_append, Option.some.injEq, forall_const, implies_true, Int.reduceNeg, eq_self, Prod.mk.injEq, List.self_eq_append_right, List.append_nil, exists_eq_left, exists_eq_left', exists_and_left, exists_eq_right, exists_and_right]
    exact ⟨_, _, rfl, [], IsL.nil, Or.inl ⟨by decide, rfl, fun h => by have := h.1; omega⟩⟩
  have b0 : decide ((128 : Int) < (l.length : Int)) = false := decide_eq_false (by omega)
  simp (config := {maxSteps := 4000000}) only [c36, len, b0, SS, bne_self_eq_false, wr_def, obOf, List.all_cons, List.all_nil, List.map_cons, List.map_nil, List.length_cons, List.length_nil, List.take_zero, List.take_succ_cons, List.take_nil, List.drop_zero, List.drop_succ_cons, List.drop_nil, Nat.reduceAdd, Nat.reduceMul, Nat.reduceSub, if_true, Nat.reduceLT, Nat.reduceLeDiff, ite_true, ite_false, Nat.reduceEqDiff, if_false, reduceCtorEq, ne_eq, List.getD, List.getElem?_cons_zero, List.getElem?_cons_succ, Option.getD_some, Option.bind_some, Option.map_some, Option.isSome_some, reduceIte, List.length_append, List.append_assoc, List.cons_append, List.nil_append, Option.some.injEq, forall_const, implies_true, Int.reduceNeg, eq_self, Prod.mk.injEq, List.self_eq_append_right, List.append_nil, exists_eq_left, exists_eq_left', exists_and_left, exists_eq_right, exists_and_right]
  refine Eva.W.mono (Q := fun ex f1 h1 => (ex = .rt ∧ f1 4 = .sl true 0 0 0 0 0 ∧ f1 5 = .int .i64 4 ∧ ¬ SpOk l band) ∨ (ex = .ex 0 ∧ f1 0 = V ∧ f1 3 = .ptr H.length 0 0 ∧ SlL h1 V Sd.c 6 l ∧ FgL h1 V ∧ rdObj h1 H.length 0 = some ⟨[.int .i64 band], 0, 0, true, true⟩ ∧ ∀ s ∈ l, s.chk = 0))
    (W_loop (fun k f1 h1 => ∃ j : Nat, k = l.length - j ∧ j ≤ l.length ∧ f1 0 = V ∧ f1 3 = .ptr H.length 0 0 ∧ f1 16 = V ∧ f1 17 = .int .i64 (l.length : Int) ∧ f1 18 = .int .i64 (j : Int) ∧ SlL h1 V Sd.c 6 l ∧ FgL h1 V ∧ rdObj h1 H.length 0 = some ⟨[.int .i64 band], 0, 0, true, true⟩ ∧ ∀ (i : Nat) s, i < j → l[i]? = some s → s.chk = 0) (by simp) _ ⟨0, rfl, by omega, rfl, rfl, rfl, rfl, rfl, hs.keep _, hf.keep hs _, by simp [rdObj], fun i s h => by omega⟩ ?_) ?_
  · rintro k f1 h1 hn1 ht ⟨j, rfl, hj, e0, e3, e16, e17, e18, S, F, R, C⟩
    by_cases hjl : j < l.length
    · have b1 : decide ((j : Int) < (l.length : Int)) = true := decide_eq_true (by omega)
      have wj : IntKind.i64.wrap ((j : Int) + 1) = ((j + 1 : Nat) : Int) := by rw [wrap64 (by omega) (by omega)]; omega
      obtain ⟨s, hs'⟩ : ∃ s, l[j]? = some s := ⟨_, List.getElem?_eq_getElem hjl⟩
      have ok : idxOk 6 V (.int .i64 (j : Int)) := S.ok (by omega) (by omega)
      have ld : ldnA 6 h1 (idxV 6 V (.int .i64 (j : Int))) = some (.agg s.c) := S.ldn (x := s) (by omega) (by simpa using hs')
      have hck := fun H => schk_pc' s H
      by_cases c1 : s.chk = 0
      · rw [c1] at hck
        simp only [Sd.c] at ld hck
        simp (config := {maxSteps := 4000000}) only [e0, e3, e16, e17, e18, b1, wj, ok, isPtr_idx ok, ld, hck, n0, hn1, SS, bne_self_eq_false, wr_def, obOf, List.all_cons, List.all_nil, List.map_cons, List.map_nil, List.length_cons, List.length_nil, List.take_zero, List.take_succ_cons, List.take_nil, List.drop_zero, List.drop_succ_cons, List.drop_nil, Nat.reduceAdd, Nat.reduceMul, Nat.reduceSub, if_true, Nat.reduceLT, Nat.reduceLeDiff, ite_true, ite_false, Nat.reduceEqDiff, if_false, reduceCtorEq, ne_eq, List.getD, List.getElem?_cons_zero, List.getElem?_cons_succ, Option.getD_some, Option.bind_some, Option.map_some, Option.isSome_some, reduceIte, List.length_append, List.append_assoc, List.cons_append, List.nil_append, Option.some.injEq, forall_const, implies_true, Int.reduceNeg, eq_self, Prod.mk.injEq, List.self_eq_append_right, List.append_nil, exists_eq_left, exists_eq_left', exists_and_left, exists_eq_right, exists_and_right]
        refine ⟨_, by omega, j + 1, rfl, by omega, rfl, S.keep _, F.keep S _, rd_keep R, fun i s' hi hs2 => ?_⟩
        by_cases h : i < j
        · exact C i s' h hs2
        · have : i = j := by omega
          subst this
          rw [hs'] at hs2
          obtain rfl := Option.some.inj hs2
          exact c1
      · have c4 : s.chk = 4 := by
          unfold Sd.chk at c1 ⊢
          split
          · rfl
          · rename_i h; rw [if_neg h] at c1; exact absurd rfl c1
        rw [c4] at hck
        have b2 : ((4 : Int) != 0) = true := rfl
        simp only [Sd.c] at ld hck
        simp (config := {maxSteps := 4000000}) only [e0, e3, e16, e17, e18, b1, wj, ok, isPtr_idx ok, ld, hck, b2, hn1, SS, bne_self_eq_false, wr_def, obOf, List.all_cons, List.all_nil, List.map_cons, List.map_nil, List.length_cons, List.length_nil, List.take_zero, List.take_succ_cons, List.take_nil, List.drop_zero, List.drop_succ_cons, List.drop_nil, Nat.reduceAdd, Nat.reduceMul, Nat.reduceSub, if_true, Nat.reduceLT, Nat.reduceLeDiff, ite_true, ite_false, Nat.reduceEqDiff, if_false, reduceCtorEq, ne_eq, List.getD, List.getElem?_cons_zero, List.getElem?_cons_succ, Option.getD_some, Option.bind_some, Option.map_some, Option.isSome_some, reduceIte, List.length_append, List.append_assoc, List.cons_append, List.nil_append, Option.some.injEq, forall_const, implies_true, Int.reduceNeg, eq_self, Prod.mk.injEq, List.self_eq_append_right, List.append_nil, exists_eq_left, exists_eq_left', exists_and_left, exists_eq_right, exists_and_right]
        exact Or.inl fun h => c1 (h.2.1 s (List.mem_of_getElem? hs'))
    · have b1 : decide ((j : Int) < (l.length : Int)) = false := decide_eq_false (by omega)
      simp (config := {maxSteps := 4000000}) only [e0, e3, e16, e17, e18, b1, SS, bne_self_eq_false, wr_def, obOf, List.all_cons, List.all_nil, List.map_cons, List.map_nil, List.length_cons, List.length_nil, List.take_zero, List.take_succ_cons, List.take_nil, List.drop_zero, List.drop_succ_cons, List.drop_nil, Nat.reduceAdd, Nat.reduceMul, Nat.reduceSub, if_true, Nat.reduceLT, Nat.reduceLeDiff, ite_true, ite_false, Nat.reduceEqDiff, if_false, reduceCtorEq, ne_eq, List.getD, List.getElem?_cons_zero, List.getElem?_cons_succ, Option.getD_some, Option.bind_some, Option.map_some, Option.isSome_some, reduceIte, List.length_append, List.append_assoc, List.cons_append, List.nil_append, Option.some.injEq, forall_const, implies_true, Int.reduceNeg, eq_self, Prod.mk.injEq, List.self_eq_append_right, List.append_nil, exists_eq_left, exists_eq_left', exists_and_left, exists_eq_right, exists_and_right]
      refine Or.inr ⟨S, F, R, fun s hs' => ?_⟩
      obtain ⟨i, hi⟩ := List.mem_iff_getElem?.1 hs'
      exact C i s (by have := (List.getElem?_eq_some_iff.1 hi).1; omega) hi
  rintro ex f1 h1 hn1 ht (⟨rfl, e4, e5, hno⟩ | ⟨rfl, e0, e3, S, F, R, C⟩)
  · simp (config := {maxSteps := 4000000}) only [e4, e5, SS, bne_self_eq_false, wr_def, obOf, List.all_cons, List.all_nil, List.map_cons, List.map_nil, List.length_cons, List.length_nil, List.take_zero, List.take_succ_cons, List.take_nil, List.drop_zero, List.drop_succ_cons, List.drop_nil, Nat.reduceAdd, Nat.reduceMul, Nat.reduceSub, if_true, Nat.reduceLT, Nat.reduceLeDiff, ite_true, ite_false, Nat.reduceEqDiff, if_false, reduceCtorEq, ne_eq, List.getD, List.getElem?_cons_zero, List.getElem?_cons_succ, Option.getD_some, Option.bind_some, Option.map_some, Option.isSome_some, reduceIte, List.length_append, List.append_assoc, List.cons_append, List.nil_append, Option.some.injEq, forall_const, implies_true, Int.reduceNeg, eq_self, Prod.mk.injEq, List.self_eq_append_right, List.append_nil, exists_eq_left, exists_eq_left', exists_and_left, exists_eq_right, exists_and_right]
    exact ⟨_, _, rfl, [], IsL.nil, Or.inl ⟨by decide, rfl, hno⟩⟩
  by_cases c2 : 0 ≤ band ∧ band ≤ 60000
  rotate_left
  · have hno : ¬ SpOk l band := fun h => c2 h.2.2
    by_cases c3 : band < 0
    · have b3 : decide (band < 0) = true := decide_eq_true c3
      simp (config := {maxSteps := 4000000}) only [e0, e3, R, b3, hn1, SS, bne_self_eq_false, wr_def, obOf, List.all_cons, List.all_nil, List.map_cons, List.map_nil, List.length_cons, List.length_nil, List.take_zero, List.take_succ_cons, List.take_nil, List.drop_zero, List.drop_succ_cons, List.drop_nil, Nat.reduceAdd, Nat.reduceMul, Nat.reduceSub, if_true, Nat.reduceLT, Nat.reduceLeDiff, ite_true, ite_false, Nat.reduceEqDiff, if_false, reduceCtorEq, ne_eq, List.getD, List.getElem?_cons_zero, List.getElem?_cons_succ, Option.getD_some, Option.bind_some, Option.map_some, Option.isSome_some, reduceIte, List.length_append, List.append_assoc, List.cons_append, List.nil_append, Option.some.injEq, forall_const, implies_true, Int.reduceNeg, eq_self, Prod.mk.injEq, List.self_eq_append_right, List.append_nil, exists_eq_left, exists_eq_left', exists_and_left, exists_eq_right, exists_and_right]
      exact ⟨_, _, rfl, [], IsL.nil, Or.inl ⟨by decide, rfl, hno⟩⟩
    · have b3 : decide (band < 0) = false := decide_eq_false c3
      have b4 : decide (60000 < band) = true := decide_eq_true (by omega)
      simp (config := {maxSteps := 4000000}) only [e0, e3, R, b3, b4, hn1, SS, bne_self_eq_false, wr_def, obOf, List.all_cons, List.all_nil, List.map_cons, List.map_nil, List.length_cons, List.length_nil, List.take_zero, List.take_succ_cons, List.take_nil, List.drop_zero, List.drop_succ_cons, List.drop_nil, Nat.reduceAdd, Nat.reduceMul, Nat.reduceSub, if_true, Nat.reduceLT, Nat.reduceLeDiff, ite_true, ite_false, Nat.reduceEqDiff, if_false, reduceCtorEq, ne_eq, List.getD, List.getElem?_cons_zero, List.getElem?_cons_succ, Option.getD_some, Option.bind_some, Option.map_some, Option.isSome_some, reduceIte, List.length_append, List.append_assoc, List.cons_append, List.nil_append, Option.some.injEq, forall_const, implies_true, Int.reduceNeg, eq_self, Prod.mk.injEq, List.self_eq_append_right, List.append_nil, exists_eq_left, exists_eq_left', exists_and_left, exists_eq_right, exists_and_right]
      exact ⟨_, _, rfl, [], IsL.nil, Or.inl ⟨by decide, rfl, hno⟩⟩
  have hok : SpOk l band := ⟨by omega, C, c2.1, c2.2⟩
  have b3 : decide (band < 0) = false := decide_eq_false (by omega)
  have b4 : decide (60000 < band) = false := decide_eq_false (by omega)
  -- a sorted copy
  obtain ⟨U, o, hcl, hU⟩ := clone_Sd S F (by omega)
  have A : Fs H.length (h1 ++ o) U Sd.c 6 l.length (fun i => (l[i]?).getD ⟨0, 0, 0, 0, 0, 0⟩) := by
    rcases hU with ⟨rfl, rfl, rfl⟩ | ⟨rfl, rfl⟩
    · exact Or.inl ⟨rfl, rfl, rfl, rfl, fun id => idOf_nil⟩
    · refine Or.inr ⟨h1.length, 0, rfl, ?_, hn1⟩
      rw [← arr_list]; exact rd_last (o := ⟨flat Sd.c l, 0, 6, true, true⟩)
  have hUi : ∀ id, idOf U id → h1.length ≤ id := fun id h => by
    rcases hU with ⟨rfl, rfl, rfl⟩ | ⟨rfl, rfl⟩
    · exact absurd h idOf_nil
    · obtain ⟨_, rfl⟩ := h; exact Nat.le_refl _
  have hHl := rd_lt R
  obtain ⟨h2, g, m2, l2, A2, K2, p2, s2⟩ := KS.sort_m sCtx A (by simp; omega) (by omega)
  rw [← arr_list] at p2
  obtain ⟨ys, hys⟩ : ∃ ys, arr l.length g = ys := ⟨_, rfl⟩
  have hyl : ys.length = l.length := by rw [← hys, arr_len]
  rw [hys] at p2 s2
  have hU2 : SlL h2 U Sd.c 6 ys := by
    by_cases hz : l.length = 0
    · have hy0 : ys = [] := List.length_eq_zero_iff.1 (by omega)
      rw [hy0]
      rcases hU with ⟨rfl, _, _⟩ | ⟨rfl, _⟩
      · exact SlL.nil (fun _ => rfl) (by decide)
      · rcases A2 with ⟨_, _, _, _, h⟩ | ⟨id, ep, h, h3, h4⟩
        · exact absurd ⟨rfl, rfl⟩ (h h1.length)
        · skip
          refine ⟨fun _ => rfl, by decide, rfl, Or.inr ⟨id, ep, 0, _, ?_, h3, by simp, by simp [flat]⟩⟩
          rw [h, hz]; rfl
    · rw [← hys]; exact A2.sl sCtx.L (i := 0) (by omega)
  have R2 := K2.2 _ _ _ (fun h => by have := hUi _ h; omega) (rd_keep (l := o) R)
  have lenU := hU2.len
  have lenV := S.len
  simp (config := {maxSteps := 4000000}) only [e0, e3, R, b3, b4, hn1, rg_calln, ncallV_fn, hcl, rg_callm, mcallV_fn, m2, lenU, SS, bne_self_eq_false, wr_def, obOf, List.all_cons, List.all_nil, List.map_cons, List.map_nil, List.length_cons, List.length_nil, List.take_zero, List.take_succ_cons, List.take_nil, List.drop_zero, List.drop_succ_cons, List.drop_nil, Nat.reduceAdd, Nat.reduceMul, Nat.reduceSub, if_true, Nat.reduceLT, Nat.reduceLeDiff, ite_true, ite_false, Nat.reduceEqDiff, if_false, reduceCtorEq, ne_eq, List.getD, List.getElem?_cons_zero, List.getElem?_cons_succ, Option.getD_some, Option.bind_some, Option.map_some, Option.isSome_some, reduceIte, List.length_append, List.append_assoc, List.cons_append, List.nil_append, Option.some.injEq, forall_const, implies_true, Int.reduceNeg, eq_self, Prod.mk.injEq, List.self_eq_append_right, List.append_nil, exists_eq_left, exists_eq_left', exists_and_left, exists_eq_right, exists_and_right]
  refine W_loop (fun k f3 h3 => ∃ j : Nat, k = ys.length - j ∧ j ≤ ys.length ∧ f3 3 = .ptr H.length 0 0 ∧ f3 38 = U ∧ f3 39 = .int .i64 (ys.length : Int) ∧ f3 40 = .int .i64 (j : Int) ∧ SlL h3 U Sd.c 6 ys ∧ rdObj h3 H.length 0 = some ⟨[.int .i64 band], 0, 0, true, true⟩ ∧ (∀ id, idOf (f3 10) id → id ≠ H.length ∧ ¬ idOf U id) ∧ ∃ out : List Sd, IsL H.length h3 (f3 10) 6 true (flat Sd.c out) out.length ∧ (∀ s ∈ out, s.chk = 0) ∧ out.length ≤ j ∧ ddup band out (ys.drop j) = ddup band [] ys) l2 _ ⟨0, rfl, by omega, by simp only [e3, SS, bne_self_eq_false, wr_def, obOf, List.all_cons, List.all_nil, List.map_cons, List.map_nil, List.length_cons, List.length_nil, List.take_zero, List.take_succ_cons, List.take_nil, List.drop_zero, List.drop_succ_cons, List.drop_nil, Nat.reduceAdd, Nat.reduceMul, Nat.reduceSub, if_true, Nat.reduceLT, Nat.reduceLeDiff, ite_true, ite_false, Nat.reduceEqDiff, if_false, reduceCtorEq, ne_eq, List.getD, List.getElem?_cons_zero, List.getElem?_cons_succ, Option.getD_some, Option.bind_some, Option.map_some, Option.isSome_some, reduceIte, List.length_append, List.append_assoc, List.cons_append, List.nil_append, Option.some.injEq, forall_const, implies_true, Int.reduceNeg, eq_self, Prod.mk.injEq, List.self_eq_append_right, List.append_nil, exists_eq_left, exists_eq_left', exists_and_left, exists_eq_right, exists_and_right], rfl, rfl, rfl, hU2, R2, fun id h => absurd h idOf_nil, [], IsL.nil, by simp, Nat.le_refl _, rfl⟩ ?_
  clear e0 e3 S F R A K2 m2 A2 hcl R2 hU2 lenU lenV
  rintro k f3 h3 hn3 ht3 ⟨j, rfl, hj, e3, e38, e39, e40, SU, R, D, out, LL, CO, hoj, hdd⟩
  generalize e10 : f3 10 = vo at *
  have hHl3 := rd_lt R
  by_cases hjl : j < ys.length
  rotate_left
  · have b1 : decide ((j : Int) < (ys.length : Int)) = false := decide_eq_false (by omega)
    simp (config := {maxSteps := 4000000}) only [e3, e10, e38, e39, e40, b1, SS, bne_self_eq_false, wr_def, obOf, List.all_cons, List.all_nil, List.map_cons, List.map_nil, List.length_cons, List.length_nil, List.take_zero, List.take_succ_cons, List.take_nil, List.drop_zero, List.drop_succ_cons, List.drop_nil, Nat.reduceAdd, Nat.reduceMul, Nat.reduceSub, if_true, Nat.reduceLT, Nat.reduceLeDiff, ite_true, ite_false, Nat.reduceEqDiff, if_false, reduceCtorEq, ne_eq, List.getD, List.getElem?_cons_zero, List.getElem?_cons_succ, Option.getD_some, Option.bind_some, Option.map_some, Option.isSome_some, reduceIte, List.length_append, List.append_assoc, List.cons_append, List.nil_append, Option.some.injEq, forall_const, implies_true, Int.reduceNeg, eq_self, Prod.mk.injEq, List.self_eq_append_right, List.append_nil, exists_eq_left, exists_eq_left', exists_and_left, exists_eq_right, exists_and_right]
    rw [List.drop_eq_nil_of_le (by omega), ddup] at hdd
    exact ⟨_, _, rfl, out, LL, Or.inr ⟨rfl, hok, ys, p2, s2, hdd⟩⟩
  have b1 : decide ((j : Int) < (ys.length : Int)) = true := decide_eq_true (by omega)
  have wj : IntKind.i64.wrap ((j : Int) + 1) = ((j + 1 : Nat) : Int) := by rw [wrap64 (by omega) (by omega)]; omega
  obtain ⟨s, hs'⟩ : ∃ s, ys[j]? = some s := ⟨_, List.getElem?_eq_getElem hjl⟩
  have hd : ys.drop j = s :: ys.drop (j + 1) := by
    have := (List.getElem?_eq_some_iff.1 hs').2
    rw [← this]; exact List.drop_eq_getElem_cons hjl
  have hsc : s.chk = 0 := hok.2.1 s (p2.mem_iff.1 (List.mem_of_getElem? hs'))
  have ok : idxOk 6 U (.int .i64 (j : Int)) := SU.ok (by omega) (by omega)
  have ld : ldnA 6 h3 (idxV 6 U (.int .i64 (j : Int))) = some (.agg s.c) := SU.ldn (x := s) (by omega) (by simpa using hs')
  have LS : SlL (h3 ++ [⟨s.c, 0, 0, true, true⟩]) vo Sd.c 6 out := ⟨fun _ => rfl, by decide, (LL.keep _).rd (flat_len (k := 6) (fun _ => rfl) out)⟩
  have hcf := ctf_Sd (g := 77) (caps := [.ptr h3.length 0 0, .ptr H.length 0 0]) (p := fun k => alk band k s) LS (by omega) (fun x k hk => by
    have hp : rdObj (h3 ++ [⟨s.c, 0, 0, true, true⟩] ++ x) h3.length 0 = some ⟨s.c, 0, 0, true, true⟩ := rd_keep (rd_last (o := ⟨s.c, 0, 0, true, true⟩))
    have hq : rdObj (h3 ++ [⟨s.c, 0, 0, true, true⟩] ++ x) H.length 0 = some ⟨[.int .i64 band], 0, 0, true, true⟩ := rd_keep (rd_keep R)
    exact sp_clos hp hq (CO k hk) hsc c2.1 c2.2)
  rw [hd, ddup] at hdd
  have lt9 : ∀ id, idOf vo id → id < h3.length := fun id h => LL.idlt h
  simp only [Sd.c] at ld hcf
  cases hany : out.any (fun k => alk band k s)
  · rw [hany] at hcf
    rw [hany, if_neg (by decide)] at hdd
    simp (config := {maxSteps := 4000000}) only [e3, e10, e38, e39, e40, b1, wj, ok, isPtr_idx ok, ld, hcf, hn3, SS, bne_self_eq_false, wr_def, obOf, List.all_cons, List.all_nil, List.map_cons, List.map_nil, List.length_cons, List.length_nil, List.take_zero, List.take_succ_cons, List.take_nil, List.drop_zero, List.drop_succ_cons, List.drop_nil, Nat.reduceAdd, Nat.reduceMul, Nat.reduceSub, if_true, Nat.reduceLT, Nat.reduceLeDiff, ite_true, ite_false, Nat.reduceEqDiff, if_false, reduceCtorEq, ne_eq, List.getD, List.getElem?_cons_zero, List.getElem?_cons_succ, Option.getD_some, Option.bind_some, Option.map_some, Option.isSome_some, reduceIte, List.length_append, List.append_assoc, List.cons_append, List.nil_append, Option.some.injEq, forall_const, implies_true, Int.reduceNeg, eq_self, Prod.mk.injEq, List.self_eq_append_right, List.append_nil, exists_eq_left, exists_eq_left', exists_and_left, exists_eq_right, exists_and_right]
    refine appK_at (c := s.c) (rw' := true) (fl' := true) (LL.keep _) (by simp [rdObj, Sd.c]) (by rw [flat_len (k := 6) (fun _ => rfl)]) rfl (by unfold appLim; omega) (by simp; omega) (fun v' h' hv' hfr hlen' hidv => ?_)
    have kp : ∀ id ep o, rdObj h3 id ep = some o → ¬ idOf vo id → rdObj h' id ep = some o := fun id ep o ho hne => hfr id ep o (rd_keep ho) hne
    simp only [List.length_append, List.length_cons, List.length_nil] at hlen' hidv
    have nid : ∀ id, idOf v' id → id ≠ H.length ∧ ¬ idOf U id := fun id h => by
      rcases hidv with h1 | h1
      · have := idOf_inj h h1
        exact ⟨by omega, fun h => by have := SU.idlt h; omega⟩
      · exact D id (h1 id h)
    refine ⟨_, by omega, j + 1, rfl, by omega, rfl, SU.mono fun id ep o hid ho => kp id ep o ho fun h => (D id h).2 hid, kp _ _ _ R fun h => (D _ h).1 rfl, nid, out ++ [s], ?_, fun q hq => ?_, by rw [List.length_append]; simp; omega, hdd⟩
    · have e : flat Sd.c (out ++ [s]) = flat Sd.c out ++ s.c := by simp [flat]
      rw [e, List.length_append]
      simp only [Bool.and_self, ite_self] at hv'
      exact hv'
    · rw [List.mem_append, List.mem_singleton] at hq
      rcases hq with hq | rfl
      · exact CO q hq
      · exact hsc
  · rw [hany] at hcf
    rw [hany, if_pos rfl] at hdd
    simp (config := {maxSteps := 4000000}) only [e3, e10, e38, e39, e40, b1, wj, ok, isPtr_idx ok, ld, hcf, hn3, SS, bne_self_eq_false, wr_def, obOf, List.all_cons, List.all_nil, List.map_cons, List.map_nil, List.length_cons, List.length_nil, List.take_zero, List.take_succ_cons, List.take_nil, List.drop_zero, List.drop_succ_cons, List.drop_nil, Nat.reduceAdd, Nat.reduceMul, Nat.reduceSub, if_true, Nat.reduceLT, Nat.reduceLeDiff, ite_true, ite_false, Nat.reduceEqDiff, if_false, reduceCtorEq, ne_eq, List.getD, List.getElem?_cons_zero, List.getElem?_cons_succ, Option.getD_some, Option.bind_some, Option.map_some, Option.isSome_some, reduceIte, List.length_append, List.append_assoc, List.cons_append, List.nil_append, Option.some.injEq, forall_const, implies_true, Int.reduceNeg, eq_self, Prod.mk.injEq, List.self_eq_append_right, List.append_nil, exists_eq_left, exists_eq_left', exists_and_left, exists_eq_right, exists_and_right]
    exact ⟨_, by omega, j + 1, rfl, by omega, rfl, SU.keep _, rd_keep R, D, out, LL.keep _, CO, by omega, hdd⟩
end Go.Proofs.Ytaekgifbehoipaa.So
/- Plain facts of spots that are joined. No condition. -/
namespace Go.Proofs.Ytaekgifbehoipaa.So
open Go Go.Proofs.Ytaekgifbehoipaa.Eva Go.Proofs.Ytaekgifbehoipaa.CodeAll Go.Proofs.Ytaekgifbehoipaa.Fl
set_option linter.unusedVariables false
set_option linter.unusedSimpArgs false

theorem ddup_sub (band : Int) : ∀ (r out : List Sd), ∃ s : List Sd, ddup band out r = out ++ s ∧ s.Sublist r
  | [], out => ⟨[], by simp [ddup], List.Sublist.slnil⟩
  | x :: r, out => by
    rw [ddup]
    split
    · obtain ⟨s, h1, h2⟩ := ddup_sub band r out
      exact ⟨s, h1, h2.cons x⟩
    · obtain ⟨s, h1, h2⟩ := ddup_sub band r (out ++ [x])
      exact ⟨x :: s, by rw [h1]; simp, h2.cons_cons x⟩
theorem ddup_pair (band : Int) : ∀ (r out : List Sd), out.Pairwise (fun k s => alk band k s = false) → (ddup band out r).Pairwise (fun k s => alk band k s = false)
  | [], out, h => h
  | x :: r, out, h => by
    rw [ddup]
    split
    · exact ddup_pair band r out h
    · rename_i hn
      refine ddup_pair band r _ ?_
      rw [List.pairwise_append]
      refine ⟨h, List.pairwise_singleton _ _, fun a ha b hb => ?_⟩
      rw [List.mem_singleton] at hb
      subst hb
      cases hab : alk band a b
      · rfl
      · exact absurd (List.any_eq_true.2 ⟨a, ha, hab⟩) hn
theorem ddup_id (band : Int) : ∀ (r out : List Sd), (out ++ r).Pairwise (fun k s => alk band k s = false) → ddup band out r = out ++ r
  | [], out, h => by simp [ddup]
  | x :: r, out, h => by
    rw [ddup, if_neg, ddup_id band r (out ++ [x]) (by simpa using h)]
    · simp
    · intro hn
      obtain ⟨a, ha, hab⟩ := List.any_eq_true.1 hn
      rw [List.pairwise_append] at h
      rw [h.2.2 a ha x (by simp)] at hab
      cases hab
theorem srt_uniq {xs ys : List Sd} (hp : xs.Perm ys) (h1 : xs.Pairwise (fun x y => sLt y x = false)) (h2 : ys.Pairwise (fun x y => sLt y x = false)) : xs = ys :=
  List.Perm.eq_of_pairwise (fun a b _ _ ha hb => sLt_anti hb ha) h1 h2 hp
/-- The order of what comes in does not matter. -/
theorem sp_perm {l l' : List Sd} {band : Int} {out out' : List Sd} {e e' : Int} (h : SpP l band out e) (h' : SpP l' band out' e') (hp : l'.Perm l) (he : e = 0) : e' = 0 ∧ out' = out := by
  rcases h with ⟨h0, _⟩ | ⟨_, ok, ys, p, s, rfl⟩
  · exact absurd he h0
  have ok' : SpOk l' band := ⟨by rw [hp.length_eq]; exact ok.1, fun s hs => ok.2.1 s (hp.mem_iff.1 hs), ok.2.2⟩
  rcases h' with ⟨_, _, hno⟩ | ⟨h0, _, ys', p', s', rfl⟩
  · exact absurd ok' hno
  · rw [srt_uniq (p'.trans (hp.trans p.symm)) s' s]
    exact ⟨h0, rfl⟩
/-- Again it changes nothing. -/
theorem sp_again {l : List Sd} {band : Int} {out out' : List Sd} {e e' : Int} (h : SpP l band out e) (h' : SpP out band out' e') (he : e = 0) : e' = 0 ∧ out' = out := by
  rcases h with ⟨h0, _⟩ | ⟨_, ok, ys, p, s, rfl⟩
  · exact absurd he h0
  obtain ⟨s0, e0, hsub⟩ := ddup_sub band ys []
  have hna := ddup_pair band ys [] List.Pairwise.nil
  rw [List.nil_append] at e0
  rw [e0] at h' hna ⊢
  have hlen : s0.length ≤ ys.length := hsub.length_le
  have ok' : SpOk s0 band := ⟨by rw [p.length_eq] at hlen; have := ok.1; omega, fun x hx => ok.2.1 x (p.mem_iff.1 (hsub.subset hx)), ok.2.2⟩
  rcases h' with ⟨_, _, hno⟩ | ⟨h0, _, ys', p', s', rfl⟩
  · exact absurd ok' hno
  · rw [srt_uniq p' s' (s.sublist hsub)]
    exact ⟨h0, by rw [ddup_id band s0 [] (by simpa using hna)]; rfl⟩
/-- No two are alike, either way. -/
theorem chk_b {s : Sd} (h : s.chk = 0) : -1000000 ≤ s.x ∧ s.x ≤ 1000000 ∧ -1000000 ≤ s.y ∧ s.y ≤ 1000000 ∧ 0 ≤ s.h ∧ s.h ≤ 60000 ∧ 0 ≤ s.e ∧ s.e ≤ 1000000 := by
  unfold Sd.chk at h
  split at h
  · omega
  · rename_i hc
    simp only [Bool.or_eq_true, decide_eq_true_eq, Bool.not_eq_true', pl, Bool.and_eq_false_iff, decide_eq_false_iff_not] at hc
    omega
theorem alk_comm {band : Int} {a b : Sd} (h1 : a.chk = 0) (h2 : b.chk = 0) : alk band a b = alk band b a := by
  have A := chk_b h1
  have B := chk_b h2
  have e1 : fsq a.x a.y b.x b.y = fsq b.x b.y a.x a.y := by
    unfold fsq
    have x1 : IntKind.i64.wrap (a.x - b.x) = a.x - b.x := wrap64 (by omega) (by omega)
    have x2 : IntKind.i64.wrap (b.x - a.x) = b.x - a.x := wrap64 (by omega) (by omega)
    have y1 : IntKind.i64.wrap (a.y - b.y) = a.y - b.y := wrap64 (by omega) (by omega)
    have y2 : IntKind.i64.wrap (b.y - a.y) = b.y - a.y := wrap64 (by omega) (by omega)
    rw [x1, x2, y1, y2]
    have p1 : (a.x - b.x) * (a.x - b.x) = (b.x - a.x) * (b.x - a.x) := by rw [← Int.neg_mul_neg]; congr 1 <;> omega
    have p2 : (a.y - b.y) * (a.y - b.y) = (b.y - a.y) * (b.y - a.y) := by rw [← Int.neg_mul_neg]; congr 1 <;> omega
    rw [p1, p2]
  have e2 : fap a.h b.h = fap b.h a.h := by unfold fap; omega
  unfold alk
  rw [e1, e2, Int.add_comm a.e b.e]
  by_cases hk : a.k = b.k
  · rw [hk]
    have : (a.t == b.t) = (b.t == a.t) := by rw [Bool.eq_iff_iff, beq_iff_eq, beq_iff_eq]; omega
    rw [this]
  · have h3 : (a.k == b.k) = false := by rw [beq_eq_false_iff_ne]; exact hk
    have h4 : (b.k == a.k) = false := by rw [beq_eq_false_iff_ne]; omega
    rw [h3, h4]; simp
theorem sp_out {l : List Sd} {band : Int} {out : List Sd} {e : Int} (h : SpP l band out e) (he : e = 0) : SpOk l band ∧ (∀ s ∈ out, s.chk = 0) ∧ out.length ≤ l.length ∧ ∀ (i j : Nat) a b, j < i → out[i]? = some a → out[j]? = some b → alk band a b = false := by
  rcases h with ⟨h0, _⟩ | ⟨_, ok, ys, p, s, rfl⟩
  · exact absurd he h0
  obtain ⟨s0, e0, hsub⟩ := ddup_sub band ys []
  have hna := ddup_pair band ys [] List.Pairwise.nil
  rw [List.nil_append] at e0
  rw [e0] at hna ⊢
  have hc : ∀ x ∈ s0, x.chk = 0 := fun x hx => ok.2.1 x (p.mem_iff.1 (hsub.subset hx))
  refine ⟨ok, hc, by rw [← p.length_eq]; exact hsub.length_le, fun i j a b hij ha hb => ?_⟩
  rw [List.pairwise_iff_getElem] at hna
  obtain ⟨i1, i2⟩ := List.getElem?_eq_some_iff.1 ha
  obtain ⟨j1, j2⟩ := List.getElem?_eq_some_iff.1 hb
  have := hna j i j1 i1 hij
  rw [i2, j2] at this
  rw [alk_comm (hc a (List.mem_of_getElem? ha)) (hc b (List.mem_of_getElem? hb))]
  exact this
/-- The example. -/
theorem sp_two {out : List Sd} {e : Int} (h : SpP [⟨0, 0, 0, 0, 5, 0⟩, ⟨0, 0, 0, 0, 5, 0⟩] 0 out e) : e = 0 ∧ out = [⟨0, 0, 0, 0, 5, 0⟩] := by
  rcases h with ⟨_, _, hno⟩ | ⟨h0, _, ys, p, _, rfl⟩
  · refine absurd ⟨by decide, fun s hs => ?_, by decide, by decide⟩ hno
    simp only [List.mem_cons, List.not_mem_nil, or_false, or_self] at hs
    subst hs; decide
  · have : ys = [⟨0, 0, 0, 0, 5, 0⟩, ⟨0, 0, 0, 0, 5, 0⟩] := List.perm_replicate (n := 2) (a := (⟨0, 0, 0, 0, 5, 0⟩ : Sd)).1 p
    subst this
    exact ⟨h0, by decide⟩
end Go.Proofs.Ytaekgifbehoipaa.So
/- Small functions of the laws: fine, within, Equal. Conditions stand in each lemma. -/
namespace Go.Proofs.Ytaekgifbehoipaa.So
open Go Go.Proofs.Ytaekgifbehoipaa.Eva Go.Proofs.Ytaekgifbehoipaa.CodeAll Go.Proofs.Ytaekgifbehoipaa.Fl
set_option linter.unusedVariables false
set_option linter.unusedSimpArgs false
set_option maxRecDepth 10000
set_option maxHeartbeats 4000000

/-- IndexFunc and ContainsFunc over Int. -/
theorem ixf_Int {H : List Ob} {V : AV} {ks : List Int} {g : Nat} {caps : List AV} {p : Int → Bool} (hs : SlL H V intC 1 ks) (hbig : ks.length ≤ 1125899906842624) (hf : ∀ x k, k ∈ ks → pcall E g ([.int .i64 k] ++ caps) (H ++ x) = some (.bool (p k))) :
    ecall E 111 [V, .fn g caps] H = some (.int .i64 (ixGo p ks 0), H, H.length, H.length) := by
  refine call_plain e111 rfl (Nat.le_of_ble_eq_true rfl) rfl ?_
  generalize hR : ixGo p ks 0 = R
  have hlen := hs.len
  simp (config := {maxSteps := 4000000}) only [c111, hlen, SS, bne_self_eq_false, wr_def, obOf, List.all_cons, List.all_nil, List.map_cons, List.map_nil, List.length_cons, List.length_nil, List.take_zero, List.take_succ_cons, List.take_nil, List.drop_zero, List.drop_succ_cons, List.drop_nil, Nat.reduceAdd, Nat.reduceMul, Nat.reduceSub, if_true, Nat.reduceLT, Nat.reduceLeDiff, ite_true, ite_false, Nat.reduceEqDiff, if_false, reduceCtorEq, ne_eq, List.getD, List.getElem?_cons_zero, List.getElem?_cons_succ, Option.getD_some, Option.bind_some, Option.map_some, Option.isSome_some, reduceIte, List.length_append, List.append_assoc, List.cons_append, List.nil_append, Option.some.injEq, forall_const, implies_true, Int.reduceNeg, eq_self, Prod.mk.injEq, List.self_eq_append_right, List.append_nil, exists_eq_left, exists_eq_left', exists_and_left, exists_eq_right, exists_and_right]
  refine W_loop (fun q f1 h1 => ∃ j : Nat, q = ks.length - j ∧ j ≤ ks.length ∧ f1 0 = V ∧ f1 1 = .fn g caps ∧ f1 7 = .int .i64 ks.length ∧ f1 8 = .int .i64 j ∧ ixGo p (ks.drop j) j = R) (Nat.le_refl _) ks.length ⟨0, rfl, Nat.zero_le _, rfl, rfl, rfl, rfl, hR⟩ ?_
  rintro q f1 h1 hn1 ht ⟨j, rfl, hj, e0, e1, e7, e8, hgo⟩
  rw [List.take_length] at ht
  have hH := take_eq ht
  generalize h1.drop H.length = y at hH
  subst hH
  by_cases hjl : j < ks.length
  · have hjl' : decide ((j : Int) < (ks.length : Int)) = true := by simpa using hjl
    obtain ⟨k, hk⟩ : ∃ k, ks[j]? = some k := ⟨_, List.getElem?_eq_getElem hjl⟩
    have hd : ks.drop j = k :: ks.drop (j + 1) := by
      rw [List.drop_eq_getElem_cons hjl]; congr 1
      rw [List.getElem?_eq_getElem hjl] at hk; simpa using hk
    have hwj : IntKind.i64.wrap ((j : Int) + 1) = ((j + 1 : Nat) : Int) := by rw [wrap64 (by omega) (by omega)]; omega
    have hok : idxOk 1 V (.int .i64 (j : Int)) := hs.ok (by omega) (by omega)
    have hld := (hs.keep y).ld0 (i := (j : Int)) (kk := .i64) (x := k) (by omega) (by simpa using hk)
    have hp := hf y k (List.mem_of_getElem? hk)
    rw [hd] at hgo
    simp only [ixGo] at hgo
    simp only [intC, getC_zero, List.cons_append, List.nil_append] at hld hp
    simp (config := {maxSteps := 4000000}) only [e0, e1, e7, e8, hjl', hwj, hok, isPtr_idx hok, hld, hp, pcallV_fn, SS, bne_self_eq_false, wr_def, obOf, List.all_cons, List.all_nil, List.map_cons, List.map_nil, List.length_cons, List.length_nil, List.take_zero, List.take_succ_cons, List.take_nil, List.drop_zero, List.drop_succ_cons, List.drop_nil, Nat.reduceAdd, Nat.reduceMul, Nat.reduceSub, if_true, Nat.reduceLT, Nat.reduceLeDiff, ite_true, ite_false, Nat.reduceEqDiff, if_false, reduceCtorEq, ne_eq, List.getD, List.getElem?_cons_zero, List.getElem?_cons_succ, Option.getD_some, Option.bind_some, Option.map_some, Option.isSome_some, reduceIte, List.length_append, List.append_assoc, List.cons_append, List.nil_append, Option.some.injEq, forall_const, implies_true, Int.reduceNeg, eq_self, Prod.mk.injEq, List.self_eq_append_right, List.append_nil, exists_eq_left, exists_eq_left', exists_and_left, exists_eq_right, exists_and_right]
    refine ⟨fun k1 => ?_, fun k1 => ?_⟩
    · rw [if_pos k1] at hgo; subst hgo; rfl
    · rw [if_neg (by simpa using k1)] at hgo
      exact ⟨_, by omega, j + 1, rfl, by omega, rfl, hgo⟩
  · have hjl' : decide ((j : Int) < (ks.length : Int)) = false := by simpa using hjl
    have hd : ks.drop j = [] := List.drop_eq_nil_of_le (by omega)
    rw [hd] at hgo
    simp only [ixGo] at hgo
    subst hgo
    simp (config := {maxSteps := 8000000}) only [e0, e1, e7, e8, hjl', SS, bne_self_eq_false, wr_def, obOf, List.all_cons, List.all_nil, List.map_cons, List.map_nil, List.length_cons, List.length_nil, List.take_zero, List.take_succ_cons, List.take_nil, List.drop_zero, List.drop_succ_cons, List.drop_nil, Nat.reduceAdd, Nat.reduceMul, Nat.reduceSub, if_true, Nat.reduceLT, Nat.reduceLeDiff, ite_true, ite_false, Nat.reduceEqDiff, if_false, reduceCtorEq, ne_eq, List.getD, List.getElem?_cons_zero, List.getElem?_cons_succ, Option.getD_some, Option.bind_some, Option.map_some, Option.isSome_some, reduceIte, List.length_append, List.append_assoc, List.cons_append, List.nil_append, Option.some.injEq, forall_const, implies_true, Int.reduceNeg, eq_self, Prod.mk.injEq, List.self_eq_append_right, List.append_nil, exists_eq_left, exists_eq_left', exists_and_left, exists_eq_right, exists_and_right]
theorem ctf_Int {H : List Ob} {V : AV} {ks : List Int} {g : Nat} {caps : List AV} {p : Int → Bool} (hs : SlL H V intC 1 ks) (hbig : ks.length ≤ 1125899906842624) (hf : ∀ x k, k ∈ ks → pcall E g ([.int .i64 k] ++ caps) (H ++ x) = some (.bool (p k))) :
    pcall E 80 [V, .fn g caps] H = some (.bool (ks.any p)) := by
  refine pcall_some.2 (call_plain e80 rfl (Nat.le_of_ble_eq_true rfl) rfl ?_)
  have h1 := pcall_some.2 (ixf_Int hs hbig hf)
  simp (config := {maxSteps := 4000000}) only [c80, h1, SS, bne_self_eq_false, wr_def, obOf, List.all_cons, List.all_nil, List.map_cons, List.map_nil, List.length_cons, List.length_nil, List.take_zero, List.take_succ_cons, List.take_nil, List.drop_zero, List.drop_succ_cons, List.drop_nil, Nat.reduceAdd, Nat.reduceMul, Nat.reduceSub, if_true, Nat.reduceLT, Nat.reduceLeDiff, ite_true, ite_false, Nat.reduceEqDiff, if_false, reduceCtorEq, ne_eq, List.getD, List.getElem?_cons_zero, List.getElem?_cons_succ, Option.getD_some, Option.bind_some, Option.map_some, Option.isSome_some, reduceIte, List.length_append, List.append_assoc, List.cons_append, List.nil_append, Option.some.injEq, forall_const, implies_true, Int.reduceNeg, eq_self, Prod.mk.injEq, List.self_eq_append_right, List.append_nil, exists_eq_left, exists_eq_left', exists_and_left, exists_eq_right, exists_and_right]
  exact congrArg AV.bool (ixGo_any p ks 0)

theorem fine_pc {H : List Ob} {V : AV} {ks : List Int} (hs : SlL H V intC 1 ks) (hb : ks.length ≤ 1125899906842624) : pcall E 39 [V] H = some (.bool (!ks.any (fun x => x != 0))) := by
  refine pcall_some.2 (call_plain e39 rfl (Nat.le_of_ble_eq_true rfl) rfl ?_)
  have h1 := ctf_Int (g := 81) (caps := []) (p := fun x => x != 0) hs hb (fun x k _ => by
    refine pcall_some.2 (call_plain e81 rfl (Nat.le_of_ble_eq_true rfl) rfl ?_)
    simp (config := {maxSteps := 4000000}) only [c81, SS, bne_self_eq_false, wr_def, obOf, List.all_cons, List.all_nil, List.map_cons, List.map_nil, List.length_cons, List.length_nil, List.take_zero, List.take_succ_cons, List.take_nil, List.drop_zero, List.drop_succ_cons, List.drop_nil, Nat.reduceAdd, Nat.reduceMul, Nat.reduceSub, if_true, Nat.reduceLT, Nat.reduceLeDiff, ite_true, ite_false, Nat.reduceEqDiff, if_false, reduceCtorEq, ne_eq, List.getD, List.getElem?_cons_zero, List.getElem?_cons_succ, Option.getD_some, Option.bind_some, Option.map_some, Option.isSome_some, reduceIte, List.length_append, List.append_assoc, List.cons_append, List.nil_append, Option.some.injEq, forall_const, implies_true, Int.reduceNeg, eq_self, Prod.mk.injEq, List.self_eq_append_right, List.append_nil, exists_eq_left, exists_eq_left', exists_and_left, exists_eq_right, exists_and_right])
  simp (config := {maxSteps := 4000000}) only [c39, h1, SS, bne_self_eq_false, wr_def, obOf, List.all_cons, List.all_nil, List.map_cons, List.map_nil, List.length_cons, List.length_nil, List.take_zero, List.take_succ_cons, List.take_nil, List.drop_zero, List.drop_succ_cons, List.drop_nil, Nat.reduceAdd, Nat.reduceMul, Nat.reduceSub, if_true, Nat.reduceLT, Nat.reduceLeDiff, ite_true, ite_false, Nat.reduceEqDiff, if_false, reduceCtorEq, ne_eq, List.getD, List.getElem?_cons_zero, List.getElem?_cons_succ, Option.getD_some, Option.bind_some, Option.map_some, Option.isSome_some, reduceIte, List.length_append, List.append_assoc, List.cons_append, List.nil_append, Option.some.injEq, forall_const, implies_true, Int.reduceNeg, eq_self, Prod.mk.injEq, List.self_eq_append_right, List.append_nil, exists_eq_left, exists_eq_left', exists_and_left, exists_eq_right, exists_and_right]
theorem within_ex (x : Int) {n : Nat} (h0 : 0 < n) (h1 : n < 1125899906842624) : ∃ k : Nat, k < n ∧ ∀ H : List Ob, pcall E 23 [.int .i64 x, .int .i64 0, .int .i64 ((n - 1 : Nat) : Int)] H = some (.int .i64 (k : Int)) := by
  have a1 := Int.tmod_lt_of_pos x (show (0 : Int) < n by omega)
  have a2 : -(n : Int) < x.tmod n := by
    have := Int.lt_tmod_of_pos x (show (0 : Int) < n by omega)
    omega
  generalize hy : x.tmod (n : Int) = y at a1 a2
  have b1 := Int.tmod_lt_of_pos (y + n) (show (0 : Int) < n by omega)
  have b2 : 0 ≤ (y + n).tmod n := Int.tmod_nonneg _ (by omega)
  obtain ⟨k, hk⟩ : ∃ k : Nat, (y + n).tmod n = (k : Int) := ⟨((y + n).tmod n).toNat, by omega⟩
  refine ⟨k, by omega, fun H => ?_⟩
  refine pcall_some.2 (call_plain e23 rfl (Nat.le_of_ble_eq_true rfl) rfl ?_)
  have w1 : IntKind.i64.wrap (((n - 1 : Nat) : Int) - 0) = ((n - 1 : Nat) : Int) := by rw [wrap64 (by omega) (by omega)]; omega
  have w2 : IntKind.i64.wrap (((n - 1 : Nat) : Int) + 1) = (n : Int) := by rw [wrap64 (by omega) (by omega)]; omega
  have r1 := abin_rem .i64 x (n : Int) (by omega)
  have w3 : IntKind.i64.wrap (y + (n : Int)) = y + n := wrap64 (by omega) (by omega)
  have r2 := abin_rem .i64 (y + n) (n : Int) (by omega)
  have w4 : IntKind.i64.wrap (0 + (k : Int)) = (k : Int) := by rw [wrap64 (by omega) (by omega)]; omega
  rw [hy] at r1
  rw [hk] at r2
  simp (config := {maxSteps := 4000000}) only [c23, w1, w2, r1, w3, r2, w4, SS, bne_self_eq_false, wr_def, obOf, List.all_cons, List.all_nil, List.map_cons, List.map_nil, List.length_cons, List.length_nil, List.take_zero, List.take_succ_cons, List.take_nil, List.drop_zero, List.drop_succ_cons, List.drop_nil, Nat.reduceAdd, Nat.reduceMul, Nat.reduceSub, if_true, Nat.reduceLT, Nat.reduceLeDiff, ite_true, ite_false, Nat.reduceEqDiff, if_false, reduceCtorEq, ne_eq, List.getD, List.getElem?_cons_zero, List.getElem?_cons_succ, Option.getD_some, Option.bind_some, Option.map_some, Option.isSome_some, reduceIte, List.length_append, List.append_assoc, List.cons_append, List.nil_append, Option.some.injEq, forall_const, implies_true, Int.reduceNeg, eq_self, Prod.mk.injEq, List.self_eq_append_right, List.append_nil, exists_eq_left, exists_eq_left', exists_and_left, exists_eq_right, exists_and_right]
/-- Equal of two slices of Sd that hold the same. -/
theorem eq_Sd {H : List Ob} {V W : AV} {ks : List Sd} (hs : SlL H V Sd.c 6 ks) (ht : SlL H W Sd.c 6 ks) (hbig : ks.length ≤ 1125899906842624) :
    pcall E 40 [V, W] H = some (.bool true) := by
  refine pcall_some.2 (call_plain e40 rfl (Nat.le_of_ble_eq_true rfl) rfl ?_)
  have hlen := hs.len
  have hlen2 := ht.len
  have hb : ((ks.length : Int) != (ks.length : Int)) = false := by simp
  have hbb : ∀ x : Int, (x == x) = true := fun x => by simp
  simp (config := {maxSteps := 4000000}) only [c40, hlen, hlen2, hb, SS, bne_self_eq_false, wr_def, obOf, List.all_cons, List.all_nil, List.map_cons, List.map_nil, List.length_cons, List.length_nil, List.take_zero, List.take_succ_cons, List.take_nil, List.drop_zero, List.drop_succ_cons, List.drop_nil, Nat.reduceAdd, Nat.reduceMul, Nat.reduceSub, if_true, Nat.reduceLT, Nat.reduceLeDiff, ite_true, ite_false, Nat.reduceEqDiff, if_false, reduceCtorEq, ne_eq, List.getD, List.getElem?_cons_zero, List.getElem?_cons_succ, Option.getD_some, Option.bind_some, Option.map_some, Option.isSome_some, reduceIte, List.length_append, List.append_assoc, List.cons_append, List.nil_append, Option.some.injEq, forall_const, implies_true, Int.reduceNeg, eq_self, Prod.mk.injEq, List.self_eq_append_right, List.append_nil, exists_eq_left, exists_eq_left', exists_and_left, exists_eq_right, exists_and_right]
  refine W_loop (fun q f1 h1 => ∃ j : Nat, q = ks.length - j ∧ j ≤ ks.length ∧ f1 0 = V ∧ f1 1 = W ∧ f1 12 = .int .i64 ks.length ∧ f1 13 = .int .i64 j) (Nat.le_refl _) ks.length ⟨0, rfl, Nat.zero_le _, rfl, rfl, rfl, rfl⟩ ?_
  rintro q f1 h1 hn1 ht1 ⟨j, rfl, hj, e0, e1, e12, e13⟩
  rw [List.take_length] at ht1
  have hH := take_eq ht1
  generalize h1.drop H.length = z at hH
  subst hH
  by_cases hjl : j < ks.length
  · have hjl' : decide ((j : Int) < (ks.length : Int)) = true := by simpa using hjl
    have hwj : IntKind.i64.wrap ((j : Int) + 1) = ((j + 1 : Nat) : Int) := by rw [wrap64 (by omega) (by omega)]; omega
    obtain ⟨k, hk⟩ : ∃ k, ks[j]? = some k := ⟨_, List.getElem?_eq_getElem hjl⟩
    have hok : idxOk 6 V (.int .i64 (j : Int)) := hs.ok (by omega) (by omega)
    have hok2 : idxOk 6 W (.int .i64 (j : Int)) := ht.ok (by omega) (by omega)
    have hld : ldnA 6 (H ++ z) (idxV 6 V (.int .i64 (j : Int))) = some (.agg (Sd.c k)) := (hs.keep z).ldn (x := k) (by omega) (by simpa using hk)
    have hld2 : ldnA 6 (H ++ z) (idxV 6 W (.int .i64 (j : Int))) = some (.agg (Sd.c k)) := (ht.keep z).ldn (x := k) (by omega) (by simpa using hk)
    simp only [Sd.c] at hld hld2
    simp (config := {maxSteps := 4000000}) only [e0, e1, e12, e13, hjl', hwj, hok, isPtr_idx hok, hld, hok2, isPtr_idx hok2, hld2, hbb, Bool.xor_self, SS, bne_self_eq_false, wr_def, obOf, List.all_cons, List.all_nil, List.map_cons, List.map_nil, List.length_cons, List.length_nil, List.take_zero, List.take_succ_cons, List.take_nil, List.drop_zero, List.drop_succ_cons, List.drop_nil, Nat.reduceAdd, Nat.reduceMul, Nat.reduceSub, if_true, Nat.reduceLT, Nat.reduceLeDiff, ite_true, ite_false, Nat.reduceEqDiff, if_false, reduceCtorEq, ne_eq, List.getD, List.getElem?_cons_zero, List.getElem?_cons_succ, Option.getD_some, Option.bind_some, Option.map_some, Option.isSome_some, reduceIte, List.length_append, List.append_assoc, List.cons_append, List.nil_append, Option.some.injEq, forall_const, implies_true, Int.reduceNeg, eq_self, Prod.mk.injEq, List.self_eq_append_right, List.append_nil, exists_eq_left, exists_eq_left', exists_and_left, exists_eq_right, exists_and_right]
    exact ⟨_, by omega, j + 1, rfl, by omega, rfl⟩
  · have hjl' : decide ((j : Int) < (ks.length : Int)) = false := by simpa using hjl
    simp (config := {maxSteps := 8000000}) only [e0, e1, e12, e13, hjl', SS, bne_self_eq_false, wr_def, obOf, List.all_cons, List.all_nil, List.map_cons, List.map_nil, List.length_cons, List.length_nil, List.take_zero, List.take_succ_cons, List.take_nil, List.drop_zero, List.drop_succ_cons, List.drop_nil, Nat.reduceAdd, Nat.reduceMul, Nat.reduceSub, if_true, Nat.reduceLT, Nat.reduceLeDiff, ite_true, ite_false, Nat.reduceEqDiff, if_false, reduceCtorEq, ne_eq, List.getD, List.getElem?_cons_zero, List.getElem?_cons_succ, Option.getD_some, Option.bind_some, Option.map_some, Option.isSome_some, reduceIte, List.length_append, List.append_assoc, List.cons_append, List.nil_append, Option.some.injEq, forall_const, implies_true, Int.reduceNeg, eq_self, Prod.mk.injEq, List.self_eq_append_right, List.append_nil, exists_eq_left, exists_eq_left', exists_and_left, exists_eq_right, exists_and_right]

theorem isl_fg {n0 : Nat} {h : List Ob} {v : AV} {sz k : Nat} {cs : List AV} (A : IsL n0 h v sz true cs k) : FgL h v := by
  rcases A with ⟨rfl, _, _⟩ | ⟨id, ep, rfl, h2, h3, h4⟩
  · intro id ep ob hid
    exact absurd hid idOf_nil
  · rintro id' ep' ob ⟨_, rfl⟩ ho
    unfold rdObj at h2 ho
    cases hh : h[id']? with
    | none => rw [hh] at ho; simp at ho
    | some w =>
      rw [hh] at h2 ho
      simp only at h2 ho
      by_cases c1 : w.ep = ep
      · rw [if_pos c1] at h2
        by_cases c2 : w.ep = ep'
        · rw [if_pos c2] at ho
          rw [h2] at ho
          obtain rfl := Option.some.inj ho
          rfl
        · rw [if_neg c2] at ho; cases ho
      · rw [if_neg c1] at h2; cases h2
theorem isl_out {n0 : Nat} {h : List Ob} {sz k : Nat} {cs : List AV} (hn : n0 ≤ h.length) (hk : k = 0 → cs = []) : IsL n0 (h ++ outO sz k cs) (outV h.length sz k) sz true cs k := by
  by_cases h0 : k = 0
  · subst h0
    obtain rfl := hk rfl
    exact IsL.nil
  · refine Or.inr ⟨h.length, 0, by rw [outV, if_neg h0], ?_, hn, h0⟩
    unfold rdObj
    rw [List.getElem?_append_right (Nat.le_refl _), Nat.sub_self, outO, if_neg h0]
    rfl
theorem out_len (n sz k : Nat) : lenvA false (outV n sz k) = some (.int .i64 (k : Int)) ∧ cellsOf (outV n sz k) = [outV n sz k] ∧ (outV n sz k).isTup = false := by
  unfold outV; split
  · rename_i h; subst h; exact ⟨rfl, rfl, rfl⟩
  · exact ⟨rfl, rfl, rfl⟩
theorem out_id {n sz k id : Nat} (h : idOf (outV n sz k) id) : id = n := by
  unfold outV at h; split at h
  · exact absurd h idOf_nil
  · exact h.2
end Go.Proofs.Ytaekgifbehoipaa.So
/- The law FuseOnce over what comes in as told. Conditions stand in the lemma. -/
namespace Go.Proofs.Ytaekgifbehoipaa.So
open Go Go.Proofs.Ytaekgifbehoipaa.Eva Go.Proofs.Ytaekgifbehoipaa.CodeAll Go.Proofs.Ytaekgifbehoipaa.Fl
set_option linter.unusedVariables false
set_option linter.unusedSimpArgs false
set_option maxRecDepth 10000
set_option maxHeartbeats 4000000

def s5 : Sd := ⟨0, 0, 0, 0, 5, 0⟩
def oS5 : Ob := ⟨[.int .i64 0, .int .i64 0, .int .i64 0, .int .i64 0, .int .i64 5, .int .i64 0, .int .i64 0, .int .i64 0, .int .i64 0, .int .i64 0, .int .i64 5, .int .i64 0], 0, 6, true, true⟩
def oS1 : Ob := ⟨[.int .i64 0, .int .i64 0, .int .i64 0, .int .i64 0, .int .i64 5, .int .i64 0], 0, 6, true, true⟩
theorem once_ex (H : List Ob) : ncall E 36 [.sl false H.length 0 6 0 2, .int .i64 0] (H ++ [oS5]) = some (.tup [.sl false (H.length + 1) 0 6 0 1, .int .i64 0], [oS1]) := by
  have hs : SlL (H ++ [oS5]) (.sl false H.length 0 6 0 2) Sd.c 6 [s5, s5] := ⟨fun _ => rfl, by decide, rfl, Or.inr ⟨_, 0, 0, oS5, rfl, by simp [rdObj, oS5], Nat.le_refl _, rfl⟩⟩
  have hf : FgL (H ++ [oS5]) (.sl false H.length 0 6 0 2) := by
    rintro id ep o ⟨_, rfl⟩ ho
    simp [rdObj, oS5] at ho
    obtain ⟨_, rfl⟩ := ho; rfl
  obtain ⟨out, e, h1, h2⟩ := spots_ex 0 hs hf (by decide)
  obtain ⟨rfl, rfl⟩ := sp_two h1
  have := ncall_some.2 h2
  simpa [outV, outO, flat, Sd.c, oS1] using this

theorem once_law {H : List Ob} {V0 : AV} {l0 : List Sd} (band byv : Int) (hs0 : SlL H V0 Sd.c 6 l0) (hf0 : FgL H V0) (hb : l0.length < 1125899906842624) : ∃ r, ecall E 10 [V0, .int .i64 band, .int .i64 byv] H = some (.bool true, r) := by
  refine call_true e10 rfl (Nat.le_of_ble_eq_true rfl) ?_
  have n0 : ((0 : Int) != 0) = false := rfl
  have z0 : ((0 : Int) == 0) = true := rfl
  have n1 : (((1 : Nat) : Int) != 1) = false := rfl
  have len0 := hs0.len
  have k1 := once_ex H
  obtain ⟨V, hV1, hV2, hV3⟩ := hs0.slc (a := none) (b := some (min (l0.length : Int) 20)) (lo := 0) (hi := min l0.length 20) rfl (by simp only [Option.getD_some]; omega) (by omega) (by omega)
  simp only [List.drop_zero, Nat.sub_zero] at hV2
  have hl20 : (l0.take (min l0.length 20)).length ≤ 20 := by rw [List.length_take]; omega
  generalize l0.take (min l0.length 20) = l at hV2 hl20
  have hf : FgL H V := fun id ep o hid ho => hf0 id ep o (hV3 id hid) ho
  have hs1 := hV2.keep [oS5, oS1]
  have hf1 := hf.keep hV2 [oS5, oS1]
  obtain ⟨out, e, P1, c1⟩ := spots_ex band hs1 hf1 (by omega)
  have k2 := ncall_some.2 c1
  have len := hV2.len
  have e2 : (H ++ [oS5, oS1]).length = H.length + 2 := by simp
  rw [e2] at k2
  obtain ⟨ol1, ol2, ol3⟩ := out_len (H.length + 2) 6 out.length
  have hio := isl_out (n0 := H.length) (h := H ++ [oS5, oS1]) (sz := 6) (k := out.length) (cs := flat Sd.c out) (by simp) (fun h => by rw [List.length_eq_zero_iff.1 h]; rfl)
  rw [e2] at hio
  have hid1 : ∀ id, idOf (outV (H.length + 2) 6 out.length) id → id = H.length + 2 := fun id h => out_id h
  generalize outO 6 out.length (flat Sd.c out) = o1 at k2 hio
  generalize outV (H.length + 2) 6 out.length = v1 at k2 hio ol1 ol2 ol3 hid1
  simp only [oS5, oS1] at k1 k2
  by_cases he : e = 0
  rotate_left
  · have b1 : (e != 0) = true := bne_iff_ne.2 he
    have ho : out = [] := by
      rcases P1 with ⟨_, h, _⟩ | ⟨h, _⟩
      · exact h
      · exact absurd h he
    have hz : (((0 : Nat) : Int) == 0) = true := rfl
    rw [ho] at ol1
    simp only [List.length_nil] at ol1
    simp (config := {maxSteps := 8000000}) only [c10, rg_calln, ncallV_fn, len0, k1, n0, n1, hV1, k2, len, ol1, b1, hz, SS, bne_self_eq_false, wr_def, obOf, List.all_cons, List.all_nil, List.map_cons, List.map_nil, List.length_cons, List.length_nil, List.take_zero, List.take_succ_cons, List.take_nil, List.drop_zero, List.drop_succ_cons, List.drop_nil, Nat.reduceAdd, Nat.reduceMul, Nat.reduceSub, if_true, Nat.reduceLT, Nat.reduceLeDiff, ite_true, ite_false, Nat.reduceEqDiff, if_false, reduceCtorEq, ne_eq, List.getD, List.getElem?_cons_zero, List.getElem?_cons_succ, Option.getD_some, Option.bind_some, Option.map_some, Option.isSome_some, reduceIte, List.length_append, List.append_assoc, List.cons_append, List.nil_append, Option.some.injEq, forall_const, implies_true, Int.reduceNeg, eq_self, Prod.mk.injEq, List.self_eq_append_right, List.append_nil, exists_eq_left, exists_eq_left', exists_and_left, exists_eq_right, exists_and_right]
  subst he
  obtain ⟨ok, hoc, hol, hna⟩ := sp_out P1 rfl
  by_cases hz : l.length = 0
  · have b2 : ((l.length : Int) == 0) = true := by rw [beq_iff_eq]; omega
    have b3 : ((out.length : Int) == 0) = true := by rw [beq_iff_eq]; omega
    simp (config := {maxSteps := 8000000}) only [c10, rg_calln, ncallV_fn, len0, k1, n0, n1, hV1, k2, len, ol1, b2, b3, SS, bne_self_eq_false, wr_def, obOf, List.all_cons, List.all_nil, List.map_cons, List.map_nil, List.length_cons, List.length_nil, List.take_zero, List.take_succ_cons, List.take_nil, List.drop_zero, List.drop_succ_cons, List.drop_nil, Nat.reduceAdd, Nat.reduceMul, Nat.reduceSub, if_true, Nat.reduceLT, Nat.reduceLeDiff, ite_true, ite_false, Nat.reduceEqDiff, if_false, reduceCtorEq, ne_eq, List.getD, List.getElem?_cons_zero, List.getElem?_cons_succ, Option.getD_some, Option.bind_some, Option.map_some, Option.isSome_some, reduceIte, List.length_append, List.append_assoc, List.cons_append, List.nil_append, Option.some.injEq, forall_const, implies_true, Int.reduceNeg, eq_self, Prod.mk.injEq, List.self_eq_append_right, List.append_nil, exists_eq_left, exists_eq_left', exists_and_left, exists_eq_right, exists_and_right]
  have b2 : ((l.length : Int) == 0) = false := by rw [beq_eq_false_iff_ne]; omega
  have wl : IntKind.i64.wrap ((l.length : Int) - 1) = ((l.length - 1 : Nat) : Int) := by rw [wrap64 (by omega) (by omega)]; omega
  obtain ⟨k, hk, kw⟩ := within_ex byv (n := l.length) (by omega) (by omega)
  have hs2 := hs1.keep o1
  have hf2 := hf1.keep hs1 o1
  obtain ⟨A, a1, a2, a3⟩ := hs2.slc (a := some (k : Int)) (b := none) (lo := k) (hi := l.length) (by rfl) (by rfl) (by omega) (by omega)
  obtain ⟨B, b1', b2', b3'⟩ := hs2.slc (a := none) (b := some (k : Int)) (lo := 0) (hi := k) rfl rfl (by omega) (by omega)
  simp only [List.drop_zero, Nat.sub_zero] at b2'
  rw [List.take_of_length_le (by rw [List.length_drop]; omega)] at a2
  have fA : FgL _ A := fun id ep o hid ho => hf2 id ep o (a3 id hid) ho
  have fB : FgL _ B := fun id ep o hid ho => hf2 id ep o (b3' id hid) ho
  obtain ⟨C, oc, cl, hC⟩ := clone_Sd a2 fA (by rw [List.length_drop]; omega)
  have cl' : ncall E 37 [A] (H ++ ([oS5, oS1] ++ o1)) = some (C, oc) := by rw [← List.append_assoc]; exact cl
  simp only [oS5, oS1, List.cons_append, List.nil_append] at cl'
  simp (config := {maxSteps := 8000000}) only [c10, rg_calln, ncallV_fn, len0, k1, n0, n1, hV1, k2, len, ol1, b2, wl, kw, a1, b1', cl', SS, bne_self_eq_false, wr_def, obOf, List.all_cons, List.all_nil, List.map_cons, List.map_nil, List.length_cons, List.length_nil, List.take_zero, List.take_succ_cons, List.take_nil, List.drop_zero, List.drop_succ_cons, List.drop_nil, Nat.reduceAdd, Nat.reduceMul, Nat.reduceSub, if_true, Nat.reduceLT, Nat.reduceLeDiff, ite_true, ite_false, Nat.reduceEqDiff, if_false, reduceCtorEq, ne_eq, List.getD, List.getElem?_cons_zero, List.getElem?_cons_succ, Option.getD_some, Option.bind_some, Option.map_some, Option.isSome_some, reduceIte, List.length_append, List.append_assoc, List.cons_append, List.nil_append, Option.some.injEq, forall_const, implies_true, Int.reduceNeg, eq_self, Prod.mk.injEq, List.self_eq_append_right, List.append_nil, exists_eq_left, exists_eq_left', exists_and_left, exists_eq_right, exists_and_right]
  have hCl : ∀ id, idOf C id → id = (H ++ [oS5, oS1] ++ o1).length := fun id h => by
    rcases hC with ⟨rfl, _, _⟩ | ⟨rfl, _⟩
    · exact absurd h idOf_nil
    · exact h.2
  have hBu : Bu H.length (H ++ [oS5, oS1] ++ o1 ++ oc) C 6 (flat Sd.c (l.drop k)) (l.drop k).length := by
    refine ⟨flat_len (k := 6) (fun _ => rfl) _, ?_⟩
    rcases hC with ⟨rfl, rfl, h⟩ | ⟨rfl, rfl⟩
    · exact Or.inl ⟨rfl, by rw [h]; rfl⟩
    · exact Or.inr ⟨_, 0, flat Sd.c (l.drop k), rfl, rd_last (o := ⟨flat Sd.c (l.drop k), 0, 6, true, true⟩), by simp, Or.inr rfl⟩
  have hperm : (l.drop k ++ l.take k).Perm l := by
    have := @List.perm_append_comm _ (l.drop k) (l.take k)
    rw [List.take_append_drop] at this
    exact this
  have hiO := (hio.keep oc)
  have happ := fun P => bu_app (bytes := 48) (P := P) hBu (b2'.keep oc) (fB.keep b2' oc) (by rw [List.length_drop, List.length_take]; unfold appLim; omega) (by simp)
  simp only [List.append_assoc, List.cons_append, List.nil_append, oS5, oS1] at happ hiO hCl
  refine happ _ (fun v3 h3 B3 fr3 len3 id3 _ => ?_)
  clear happ hBu
  have hn3 : H.length ≤ h3.length := by simp at len3; omega
  have hvl : (l.drop k).length + (l.take k).length = l.length := by rw [List.length_drop, List.length_take]; omega
  rw [hvl] at B3
  have I3 := B3.isl hz
  have S3 : SlL h3 v3 Sd.c 6 (l.drop k ++ l.take k) := ⟨fun _ => rfl, by decide, by
    rw [hperm.length_eq]
    have e : flat Sd.c (l.drop k ++ l.take k) = flat Sd.c (l.drop k) ++ flat Sd.c (l.take k) := by simp [flat]
    rw [e]; exact I3.rd (by rw [← e, flat_len (k := 6) (fun _ => rfl), hperm.length_eq])⟩
  have O3 := hiO.mono fun id ep o hid ho => fr3 id ep o ho (fun h => by
    have g1 := hid1 id hid
    have g2 := hCl id h
    have g3 := hio.idlt hid
    simp only [List.length_append, List.length_cons, List.length_nil] at g2 g3
    omega)
  have So : SlL h3 v1 Sd.c 6 out := ⟨fun _ => rfl, by decide, O3.rd (flat_len (k := 6) (fun _ => rfl) out)⟩
  have Fo := isl_fg O3
  obtain ⟨out2, e2', P2, c2⟩ := spots_ex band S3 (isl_fg I3) (by rw [hperm.length_eq]; omega)
  obtain ⟨rfl, rfl⟩ := sp_perm P1 P2 hperm rfl
  have k3 := ncall_some.2 c2
  have hio3 := isl_out (n0 := H.length) (h := h3) (sz := 6) (k := out2.length) (cs := flat Sd.c out2) hn3 (fun h => by rw [List.length_eq_zero_iff.1 h]; rfl)
  obtain ⟨-, q2, q3⟩ := out_len h3.length 6 out2.length
  generalize outV h3.length 6 out2.length = v4 at k3 hio3 q2 q3
  generalize outO 6 out2.length (flat Sd.c out2) = o4 at k3 hio3
  obtain ⟨out3, e3', P3, c3⟩ := spots_ex band (So.keep o4) (Fo.keep So o4) (by omega)
  obtain ⟨rfl, rfl⟩ := sp_again P1 P3 rfl
  have k4 := ncall_some.2 c3
  have hn4 : H.length ≤ (h3 ++ o4).length := by simp; omega
  have hio4 := isl_out (n0 := H.length) (h := h3 ++ o4) (sz := 6) (k := out3.length) (cs := flat Sd.c out3) hn4 (fun h => by rw [List.length_eq_zero_iff.1 h]; rfl)
  generalize outV (h3 ++ o4).length 6 out3.length = v5 at k4 hio4
  generalize outO 6 out3.length (flat Sd.c out3) = o5 at k4 hio4
  have T1 : SlL (h3 ++ (o4 ++ o5)) v1 Sd.c 6 out3 := by rw [← List.append_assoc]; exact (So.keep o4).keep o5
  have T4 : SlL (h3 ++ (o4 ++ o5)) v4 Sd.c 6 out3 := by
    rw [← List.append_assoc]
    exact SlL.keep (show SlL (h3 ++ o4) v4 Sd.c 6 out3 from ⟨fun _ => rfl, by decide, hio3.rd (flat_len (k := 6) (fun _ => rfl) out3)⟩) o5
  have T5 : SlL (h3 ++ (o4 ++ o5)) v5 Sd.c 6 out3 := by
    rw [← List.append_assoc]
    exact ⟨fun _ => rfl, by decide, hio4.rd (flat_len (k := 6) (fun _ => rfl) out3)⟩
  simp (config := {maxSteps := 8000000}) only [rg_calln, ncallV_fn, k3, k4, hn3, hn4, ol1, SS, bne_self_eq_false, wr_def, obOf, List.all_cons, List.all_nil, List.map_cons, List.map_nil, List.length_cons, List.length_nil, List.take_zero, List.take_succ_cons, List.take_nil, List.drop_zero, List.drop_succ_cons, List.drop_nil, Nat.reduceAdd, Nat.reduceMul, Nat.reduceSub, if_true, Nat.reduceLT, Nat.reduceLeDiff, ite_true, ite_false, Nat.reduceEqDiff, if_false, reduceCtorEq, ne_eq, List.getD, List.getElem?_cons_zero, List.getElem?_cons_succ, Option.getD_some, Option.bind_some, Option.map_some, Option.isSome_some, reduceIte, List.length_append, List.append_assoc, List.cons_append, List.nil_append, Option.some.injEq, forall_const, implies_true, Int.reduceNeg, eq_self, Prod.mk.injEq, List.self_eq_append_right, List.append_nil, exists_eq_left, exists_eq_left', exists_and_left, exists_eq_right, exists_and_right]
  refine Eva.W.mono (Q := fun ex f4 h4 => ex = .ex 0 ∧ f4 9 = v1 ∧ f4 12 = v4 ∧ f4 13 = .int .i64 0 ∧ f4 14 = v5 ∧ f4 15 = .int .i64 0 ∧ SlL h4 v1 Sd.c 6 out3 ∧ SlL h4 v4 Sd.c 6 out3 ∧ SlL h4 v5 Sd.c 6 out3)
    (W_loop (fun q f4 h4 => ∃ i : Nat, q = out3.length - i ∧ i ≤ out3.length ∧ f4 1 = .int .i64 band ∧ f4 9 = v1 ∧ f4 12 = v4 ∧ f4 13 = .int .i64 0 ∧ f4 14 = v5 ∧ f4 15 = .int .i64 0 ∧ f4 81 = v1 ∧ f4 82 = .int .i64 (out3.length : Int) ∧ f4 83 = .int .i64 (i : Int) ∧ SlL h4 v1 Sd.c 6 out3 ∧ SlL h4 v4 Sd.c 6 out3 ∧ SlL h4 v5 Sd.c 6 out3) (by simp; omega) out3.length ⟨0, rfl, by omega, rfl, rfl, rfl, rfl, rfl, rfl, rfl, rfl, rfl, T1, T4, T5⟩ ?_) ?_
  · clear T1 T4 T5 hn4 k4 hio4 k3 hio3 c3 c2 So Fo O3 S3 I3 B3 fr3 len3 id3
    rintro q f4 h4 hn4 ht4 ⟨i, rfl, hi, e1, e9, e12, e13, e14, e15, e81, e82, e83, T1, T4, T5⟩
    by_cases hil : i < out3.length
    rotate_left
    · have b4 : decide ((i : Int) < (out3.length : Int)) = false := decide_eq_false (by omega)
      simp (config := {maxSteps := 8000000}) only [e1, e9, e12, e13, e14, e15, e81, e82, e83, b4, SS, bne_self_eq_false, wr_def, obOf, List.all_cons, List.all_nil, List.map_cons, List.map_nil, List.length_cons, List.length_nil, List.take_zero, List.take_succ_cons, List.take_nil, List.drop_zero, List.drop_succ_cons, List.drop_nil, Nat.reduceAdd, Nat.reduceMul, Nat.reduceSub, if_true, Nat.reduceLT, Nat.reduceLeDiff, ite_true, ite_false, Nat.reduceEqDiff, if_false, reduceCtorEq, ne_eq, List.getD, List.getElem?_cons_zero, List.getElem?_cons_succ, Option.getD_some, Option.bind_some, Option.map_some, Option.isSome_some, reduceIte, List.length_append, List.append_assoc, List.cons_append, List.nil_append, Option.some.injEq, forall_const, implies_true, Int.reduceNeg, eq_self, Prod.mk.injEq, List.self_eq_append_right, List.append_nil, exists_eq_left, exists_eq_left', exists_and_left, exists_eq_right, exists_and_right]
      exact ⟨T1, T4, T5⟩
    have b4 : decide ((i : Int) < (out3.length : Int)) = true := decide_eq_true (by omega)
    have wi : IntKind.i64.wrap ((i : Int) + 1) = ((i + 1 : Nat) : Int) := by rw [wrap64 (by omega) (by omega)]; omega
    obtain ⟨s, hs'⟩ : ∃ s, out3[i]? = some s := ⟨_, List.getElem?_eq_getElem hil⟩
    have ok1 : idxOk 6 v1 (.int .i64 (i : Int)) := T1.ok (by omega) (by omega)
    have ld1 : ldnA 6 h4 (idxV 6 v1 (.int .i64 (i : Int))) = some (.agg s.c) := T1.ldn (x := s) (by omega) (by simpa using hs')
    have T1' := T1.keep [⟨s.c, 0, 0, true, true⟩]
    obtain ⟨w, w1, w2, w3⟩ := T1'.slc (a := none) (b := some (i : Int)) (lo := 0) (hi := i) rfl rfl (by omega) (by omega)
    simp only [List.drop_zero, Nat.sub_zero] at w2
    have wlen := w2.len
    rw [List.length_take, Nat.min_eq_left (by omega)] at wlen
    simp only [Sd.c] at ld1
    simp (config := {maxSteps := 8000000}) only [e1, e9, e12, e13, e14, e15, e81, e82, e83, b4, ok1, isPtr_idx ok1, ld1, w1, wlen, hn4, SS, bne_self_eq_false, wr_def, obOf, List.all_cons, List.all_nil, List.map_cons, List.map_nil, List.length_cons, List.length_nil, List.take_zero, List.take_succ_cons, List.take_nil, List.drop_zero, List.drop_succ_cons, List.drop_nil, Nat.reduceAdd, Nat.reduceMul, Nat.reduceSub, if_true, Nat.reduceLT, Nat.reduceLeDiff, ite_true, ite_false, Nat.reduceEqDiff, if_false, reduceCtorEq, ne_eq, List.getD, List.getElem?_cons_zero, List.getElem?_cons_succ, Option.getD_some, Option.bind_some, Option.map_some, Option.isSome_some, reduceIte, List.length_append, List.append_assoc, List.cons_append, List.nil_append, Option.some.injEq, forall_const, implies_true, Int.reduceNeg, eq_self, Prod.mk.injEq, List.self_eq_append_right, List.append_nil, exists_eq_left, exists_eq_left', exists_and_left, exists_eq_right, exists_and_right]
    refine W_loop (fun q f5 h5 => ∃ j : Nat, q = i - j ∧ j ≤ i ∧ f5 1 = .int .i64 band ∧ f5 9 = v1 ∧ f5 12 = v4 ∧ f5 13 = .int .i64 0 ∧ f5 14 = v5 ∧ f5 15 = .int .i64 0 ∧ f5 81 = v1 ∧ f5 82 = .int .i64 (out3.length : Int) ∧ f5 83 = .int .i64 (i : Int) ∧ f5 17 = .ptr h4.length 0 0 ∧ f5 90 = w ∧ f5 91 = .int .i64 (i : Int) ∧ f5 92 = .int .i64 (j : Int) ∧ SlL h5 v1 Sd.c 6 out3 ∧ SlL h5 v4 Sd.c 6 out3 ∧ SlL h5 v5 Sd.c 6 out3 ∧ SlL h5 w Sd.c 6 (out3.take i) ∧ rdObj h5 h4.length 0 = some ⟨s.c, 0, 0, true, true⟩) (by simp; omega) i ⟨0, rfl, by omega, by simp only [e1, SS, bne_self_eq_false, wr_def, obOf, List.all_cons, List.all_nil, List.map_cons, List.map_nil, List.length_cons, List.length_nil, List.take_zero, List.take_succ_cons, List.take_nil, List.drop_zero, List.drop_succ_cons, List.drop_nil, Nat.reduceAdd, Nat.reduceMul, Nat.reduceSub, if_true, Nat.reduceLT, Nat.reduceLeDiff, ite_true, ite_false, Nat.reduceEqDiff, if_false, reduceCtorEq, ne_eq, List.getD, List.getElem?_cons_zero, List.getElem?_cons_succ, Option.getD_some, Option.bind_some, Option.map_some, Option.isSome_some, reduceIte, List.length_append, List.append_assoc, List.cons_append, List.nil_append, Option.some.injEq, forall_const, implies_true, Int.reduceNeg, eq_self, Prod.mk.injEq, List.self_eq_append_right, List.append_nil, exists_eq_left, exists_eq_left', exists_and_left, exists_eq_right, exists_and_right], by simp only [e9, SS, bne_self_eq_false, wr_def, obOf, List.all_cons, List.all_nil, List.map_cons, List.map_nil, List.length_cons, List.length_nil, List.take_zero, List.take_succ_cons, List.take_nil, List.drop_zero, List.drop_succ_cons, List.drop_nil, Nat.reduceAdd, Nat.reduceMul, Nat.reduceSub, if_true, Nat.reduceLT, Nat.reduceLeDiff, ite_true, ite_false, Nat.reduceEqDiff, if_false, reduceCtorEq, ne_eq, List.getD, List.getElem?_cons_zero, List.getElem?_cons_succ, Option.getD_some, Option.bind_some, Option.map_some, Option.isSome_some, reduceIte, List.length_append, List.append_assoc, List.cons_append, List.nil_append, Option.some.injEq, forall_const, implies_true, Int.reduceNeg, eq_self, Prod.mk.injEq, List.self_eq_append_right, List.append_nil, exists_eq_left, exists_eq_left', exists_and_left, exists_eq_right, exists_and_right], by simp only [e12, SS, bne_self_eq_false, wr_def, obOf, List.all_cons, List.all_nil, List.map_cons, List.map_nil, List.length_cons, List.length_nil, List.take_zero, List.take_succ_cons, List.take_nil, List.drop_zero, List.drop_succ_cons, List.drop_nil, Nat.reduceAdd, Nat.reduceMul, Nat.reduceSub, if_true, Nat.reduceLT, Nat.reduceLeDiff, ite_true, ite_false, Nat.reduceEqDiff, if_false, reduceCtorEq, ne_eq, List.getD, List.getElem?_cons_zero, List.getElem?_cons_succ, Option.getD_some, Option.bind_some, Option.map_some, Option.isSome_some, reduceIte, List.length_append, List.append_assoc, List.cons_append, List.nil_append, Option.some.injEq, forall_const, implies_true, Int.reduceNeg, eq_self, Prod.mk.injEq, List.self_eq_append_right, List.append_nil, exists_eq_left, exists_eq_left', exists_and_left, exists_eq_right, exists_and_right], by simp only [e13, SS, bne_self_eq_false, wr_def, obOf, List.all_cons, List.all_nil, List.map_cons, List.map_nil, List.length_cons, List.length_nil, List.take_zero, List.take_succ_cons, List.take_nil, List.drop_zero, List.drop_succ_cons, List.drop_nil, Nat.reduceAdd, Nat.reduceMul, Nat.reduceSub, if_true, Nat.reduceLT, Nat.reduceLeDiff, ite_true, ite_false, Nat.reduceEqDiff, if_false, reduceCtorEq, ne_eq, List.getD, List.getElem?_cons_zero, List.getElem?_cons_succ, Option.getD_some, Option.bind_some, Option.map_some, Option.isSome_some, reduceIte, List.length_append, List.append_assoc, List.cons_append, List.nil_append, Option.some.injEq, forall_const, implies_true, Int.reduceNeg, eq_self, Prod.mk.injEq, List.self_eq_append_right, List.append_nil, exists_eq_left, exists_eq_left', exists_and_left, exists_eq_right, exists_and_right], by simp only [e14, SS, bne_self_eq_false, wr_def, obOf, List.all_cons, List.all_nil, List.map_cons, List.map_nil, List.length_cons, List.length_nil, List.take_zero, List.take_succ_cons, List.take_nil, List.drop_zero, List.drop_succ_cons, List.drop_nil, Nat.reduceAdd, Nat.reduceMul, Nat.reduceSub, if_true, Nat.reduceLT, Nat.reduceLeDiff, ite_true, ite_false, Nat.reduceEqDiff, if_false, reduceCtorEq, ne_eq, List.getD, List.getElem?_cons_zero, List.getElem?_cons_succ, Option.getD_some, Option.bind_some, Option.map_some, Option.isSome_some, reduceIte, List.length_append, List.append_assoc, List.cons_append, List.nil_append, Option.some.injEq, forall_const, implies_true, Int.reduceNeg, eq_self, Prod.mk.injEq, List.self_eq_append_right, List.append_nil, exists_eq_left, exists_eq_left', exists_and_left, exists_eq_right, exists_and_right], by simp only [e15, SS, bne_self_eq_false, wr_def, obOf, List.all_cons, List.all_nil, List.map_cons, List.map_nil, List.length_cons, List.length_nil, List.take_zero, List.take_succ_cons, List.take_nil, List.drop_zero, List.drop_succ_cons, List.drop_nil, Nat.reduceAdd, Nat.reduceMul, Nat.reduceSub, if_true, Nat.reduceLT, Nat.reduceLeDiff, ite_true, ite_false, Nat.reduceEqDiff, if_false, reduceCtorEq, ne_eq, List.getD, List.getElem?_cons_zero, List.getElem?_cons_succ, Option.getD_some, Option.bind_some, Option.map_some, Option.isSome_some, reduceIte, List.length_append, List.append_assoc, List.cons_append, List.nil_append, Option.some.injEq, forall_const, implies_true, Int.reduceNeg, eq_self, Prod.mk.injEq, List.self_eq_append_right, List.append_nil, exists_eq_left, exists_eq_left', exists_and_left, exists_eq_right, exists_and_right], by simp only [e81, SS, bne_self_eq_false, wr_def, obOf, List.all_cons, List.all_nil, List.map_cons, List.map_nil, List.length_cons, List.length_nil, List.take_zero, List.take_succ_cons, List.take_nil, List.drop_zero, List.drop_succ_cons, List.drop_nil, Nat.reduceAdd, Nat.reduceMul, Nat.reduceSub, if_true, Nat.reduceLT, Nat.reduceLeDiff, ite_true, ite_false, Nat.reduceEqDiff, if_false, reduceCtorEq, ne_eq, List.getD, List.getElem?_cons_zero, List.getElem?_cons_succ, Option.getD_some, Option.bind_some, Option.map_some, Option.isSome_some, reduceIte, List.length_append, List.append_assoc, List.cons_append, List.nil_append, Option.some.injEq, forall_const, implies_true, Int.reduceNeg, eq_self, Prod.mk.injEq, List.self_eq_append_right, List.append_nil, exists_eq_left, exists_eq_left', exists_and_left, exists_eq_right, exists_and_right], by simp only [e82, SS, bne_self_eq_false, wr_def, obOf, List.all_cons, List.all_nil, List.map_cons, List.map_nil, List.length_cons, List.length_nil, List.take_zero, List.take_succ_cons, List.take_nil, List.drop_zero, List.drop_succ_cons, List.drop_nil, Nat.reduceAdd, Nat.reduceMul, Nat.reduceSub, if_true, Nat.reduceLT, Nat.reduceLeDiff, ite_true, ite_false, Nat.reduceEqDiff, if_false, reduceCtorEq, ne_eq, List.getD, List.getElem?_cons_zero, List.getElem?_cons_succ, Option.getD_some, Option.bind_some, Option.map_some, Option.isSome_some, reduceIte, List.length_append, List.append_assoc, List.cons_append, List.nil_append, Option.some.injEq, forall_const, implies_true, Int.reduceNeg, eq_self, Prod.mk.injEq, List.self_eq_append_right, List.append_nil, exists_eq_left, exists_eq_left', exists_and_left, exists_eq_right, exists_and_right], by simp only [e83, SS, bne_self_eq_false, wr_def, obOf, List.all_cons, List.all_nil, List.map_cons, List.map_nil, List.length_cons, List.length_nil, List.take_zero, List.take_succ_cons, List.take_nil, List.drop_zero, List.drop_succ_cons, List.drop_nil, Nat.reduceAdd, Nat.reduceMul, Nat.reduceSub, if_true, Nat.reduceLT, Nat.reduceLeDiff, ite_true, ite_false, Nat.reduceEqDiff, if_false, reduceCtorEq, ne_eq, List.getD, List.getElem?_cons_zero, List.getElem?_cons_succ, Option.getD_some, Option.bind_some, Option.map_some, Option.isSome_some, reduceIte, List.length_append, List.append_assoc, List.cons_append, List.nil_append, Option.some.injEq, forall_const, implies_true, Int.reduceNeg, eq_self, Prod.mk.injEq, List.self_eq_append_right, List.append_nil, exists_eq_left, exists_eq_left', exists_and_left, exists_eq_right, exists_and_right], by simp only [SS, bne_self_eq_false, wr_def, obOf, List.all_cons, List.all_nil, List.map_cons, List.map_nil, List.length_cons, List.length_nil, List.take_zero, List.take_succ_cons, List.take_nil, List.drop_zero, List.drop_succ_cons, List.drop_nil, Nat.reduceAdd, Nat.reduceMul, Nat.reduceSub, if_true, Nat.reduceLT, Nat.reduceLeDiff, ite_true, ite_false, Nat.reduceEqDiff, if_false, reduceCtorEq, ne_eq, List.getD, List.getElem?_cons_zero, List.getElem?_cons_succ, Option.getD_some, Option.bind_some, Option.map_some, Option.isSome_some, reduceIte, List.length_append, List.append_assoc, List.cons_append, List.nil_append, Option.some.injEq, forall_const, implies_true, Int.reduceNeg, eq_self, Prod.mk.injEq, List.self_eq_append_right, List.append_nil, exists_eq_left, exists_eq_left', exists_and_left, exists_eq_right, exists_and_right], by simp only [SS, bne_self_eq_false, wr_def, obOf, List.all_cons, List.all_nil, List.map_cons, List.map_nil, List.length_cons, List.length_nil, List.take_zero, List.take_succ_cons, List.take_nil, List.drop_zero, List.drop_succ_cons, List.drop_nil, Nat.reduceAdd, Nat.reduceMul, Nat.reduceSub, if_true, Nat.reduceLT, Nat.reduceLeDiff, ite_true, ite_false, Nat.reduceEqDiff, if_false, reduceCtorEq, ne_eq, List.getD, List.getElem?_cons_zero, List.getElem?_cons_succ, Option.getD_some, Option.bind_some, Option.map_some, Option.isSome_some, reduceIte, List.length_append, List.append_assoc, List.cons_append, List.nil_append, Option.some.injEq, forall_const, implies_true, Int.reduceNeg, eq_self, Prod.mk.injEq, List.self_eq_append_right, List.append_nil, exists_eq_left, exists_eq_left', exists_and_left, exists_eq_right, exists_and_right], by simp only [SS, bne_self_eq_false, wr_def, obOf, List.all_cons, List.all_nil, List.map_cons, List.map_nil, List.length_cons, List.length_nil, List.take_zero, List.take_succ_cons, List.take_nil, List.drop_zero, List.drop_succ_cons, List.drop_nil, Nat.reduceAdd, Nat.reduceMul, Nat.reduceSub, if_true, Nat.reduceLT, Nat.reduceLeDiff, ite_true, ite_false, Nat.reduceEqDiff, if_false, reduceCtorEq, ne_eq, List.getD, List.getElem?_cons_zero, List.getElem?_cons_succ, Option.getD_some, Option.bind_some, Option.map_some, Option.isSome_some, reduceIte, List.length_append, List.append_assoc, List.cons_append, List.nil_append, Option.some.injEq, forall_const, implies_true, Int.reduceNeg, eq_self, Prod.mk.injEq, List.self_eq_append_right, List.append_nil, exists_eq_left, exists_eq_left', exists_and_left, exists_eq_right, exists_and_right], by simp only [SS, bne_self_eq_false, wr_def, obOf, List.all_cons, List.all_nil, List.map_cons, List.map_nil, List.length_cons, List.length_nil, List.take_zero, List.take_succ_cons, List.take_nil, List.drop_zero, List.drop_succ_cons, List.drop_nil, Nat.reduceAdd, Nat.reduceMul, Nat.reduceSub, if_true, Nat.reduceLT, Nat.reduceLeDiff, ite_true, ite_false, Nat.reduceEqDiff, if_false, reduceCtorEq, ne_eq, List.getD, List.getElem?_cons_zero, List.getElem?_cons_succ, Option.getD_some, Option.bind_some, Option.map_some, Option.isSome_some, reduceIte, List.length_append, List.append_assoc, List.cons_append, List.nil_append, Option.some.injEq, forall_const, implies_true, Int.reduceNeg, eq_self, Prod.mk.injEq, List.self_eq_append_right, List.append_nil, exists_eq_left, exists_eq_left', exists_and_left, exists_eq_right, exists_and_right]; rfl, T1.keep _, T4.keep _, T5.keep _, w2, rd_last (o := ⟨s.c, 0, 0, true, true⟩)⟩ ?_
    clear e1 e9 e12 e13 e14 e15 e81 e82 e83 T1 T4 T5 T1' w2
    rintro q f5 h5 hn5 ht5 ⟨j, rfl, hj, e1, e9, e12, e13, e14, e15, e81, e82, e83, e17, e90, e91, e92, T1, T4, T5, T6, R⟩
    by_cases hjl : j < i
    rotate_left
    · have b5 : decide ((j : Int) < (i : Int)) = false := decide_eq_false (by omega)
      simp (config := {maxSteps := 8000000}) only [e1, e9, e12, e13, e14, e15, e81, e82, e83, e17, e90, e91, e92, b5, wi, SS, bne_self_eq_false, wr_def, obOf, List.all_cons, List.all_nil, List.map_cons, List.map_nil, List.length_cons, List.length_nil, List.take_zero, List.take_succ_cons, List.take_nil, List.drop_zero, List.drop_succ_cons, List.drop_nil, Nat.reduceAdd, Nat.reduceMul, Nat.reduceSub, if_true, Nat.reduceLT, Nat.reduceLeDiff, ite_true, ite_false, Nat.reduceEqDiff, if_false, reduceCtorEq, ne_eq, List.getD, List.getElem?_cons_zero, List.getElem?_cons_succ, Option.getD_some, Option.bind_some, Option.map_some, Option.isSome_some, reduceIte, List.length_append, List.append_assoc, List.cons_append, List.nil_append, Option.some.injEq, forall_const, implies_true, Int.reduceNeg, eq_self, Prod.mk.injEq, List.self_eq_append_right, List.append_nil, exists_eq_left, exists_eq_left', exists_and_left, exists_eq_right, exists_and_right]
      exact ⟨_, by omega, i + 1, rfl, by omega, rfl, T1, T4, T5⟩
    have b5 : decide ((j : Int) < (i : Int)) = true := decide_eq_true (by omega)
    have wj : IntKind.i64.wrap ((j : Int) + 1) = ((j + 1 : Nat) : Int) := by rw [wrap64 (by omega) (by omega)]; omega
    obtain ⟨t, ht'⟩ : ∃ s, out3[j]? = some s := ⟨_, List.getElem?_eq_getElem (by omega)⟩
    have ht2 : (out3.take i)[j]? = some t := by rw [List.getElem?_take, if_pos hjl]; exact ht'
    have hlt6 : (out3.take i).length = i := by rw [List.length_take]; omega
    have ok2 : idxOk 6 w (.int .i64 (j : Int)) := T6.ok (by omega) (by omega)
    have ld2 : ldnA 6 h5 (idxV 6 w (.int .i64 (j : Int))) = some (.agg t.c) := T6.ldn (x := t) (by omega) (by simpa using ht2)
    have hal := fun H => alike_pc (hoc s (List.mem_of_getElem? hs')) (hoc t (List.mem_of_getElem? ht')) ok.2.2.1 ok.2.2.2 H
    rw [hna i j s t hjl hs' ht'] at hal
    have R' := fun o => rd_keep (l := o) R
    simp only [Sd.c] at ld2 hal R'
    simp (config := {maxSteps := 8000000}) only [e1, e9, e12, e13, e14, e15, e81, e82, e83, e17, e90, e91, e92, b5, wj, ok2, isPtr_idx ok2, ld2, hal, R', n0, hn5, SS, bne_self_eq_false, wr_def, obOf, List.all_cons, List.all_nil, List.map_cons, List.map_nil, List.length_cons, List.length_nil, List.take_zero, List.take_succ_cons, List.take_nil, List.drop_zero, List.drop_succ_cons, List.drop_nil, Nat.reduceAdd, Nat.reduceMul, Nat.reduceSub, if_true, Nat.reduceLT, Nat.reduceLeDiff, ite_true, ite_false, Nat.reduceEqDiff, if_false, reduceCtorEq, ne_eq, List.getD, List.getElem?_cons_zero, List.getElem?_cons_succ, Option.getD_some, Option.bind_some, Option.map_some, Option.isSome_some, reduceIte, List.length_append, List.append_assoc, List.cons_append, List.nil_append, Option.some.injEq, forall_const, implies_true, Int.reduceNeg, eq_self, Prod.mk.injEq, List.self_eq_append_right, List.append_nil, exists_eq_left, exists_eq_left', exists_and_left, exists_eq_right, exists_and_right]
    exact ⟨_, by omega, j + 1, rfl, by omega, rfl, T1.keep _, T4.keep _, T5.keep _, T6.keep _, rfl⟩
  · clear T1 T4 T5
    rintro ex f4 h4 hn4' ht4 ⟨rfl, e9, e12, e13, e14, e15, T1, T4, T5⟩
    have hfs : SlL (h4 ++ [⟨[.int .i64 0, .int .i64 0], 0, 1, true, true⟩]) (.sl false h4.length 0 1 0 2) intC 1 [0, 0] := ⟨fun _ => rfl, by decide, rfl, Or.inr ⟨_, 0, 0, ⟨[.int .i64 0, .int .i64 0], 0, 1, true, true⟩, rfl, rd_last (o := ⟨[.int .i64 0, .int .i64 0], 0, 1, true, true⟩), Nat.le_refl _, rfl⟩⟩
    have hfi := fine_pc hfs (by decide)
    have hfi' : pcall E 39 [.sl false h4.length 0 1 0 2] (h4 ++ [⟨[.int .i64 0, .int .i64 0], 0, 1, true, true⟩]) = some (.bool true) := hfi
    have q1 := eq_Sd (T1.keep [⟨[.int .i64 0, .int .i64 0], 0, 1, true, true⟩]) (T4.keep _) (by omega)
    have q2 := eq_Sd (T1.keep [⟨[.int .i64 0, .int .i64 0], 0, 1, true, true⟩]) (T5.keep _) (by omega)
    simp (config := {maxSteps := 8000000}) only [e9, e12, e13, e14, e15, hfi', q1, q2, hn4', SS, bne_self_eq_false, wr_def, obOf, List.all_cons, List.all_nil, List.map_cons, List.map_nil, List.length_cons, List.length_nil, List.take_zero, List.take_succ_cons, List.take_nil, List.drop_zero, List.drop_succ_cons, List.drop_nil, Nat.reduceAdd, Nat.reduceMul, Nat.reduceSub, if_true, Nat.reduceLT, Nat.reduceLeDiff, ite_true, ite_false, Nat.reduceEqDiff, if_false, reduceCtorEq, ne_eq, List.getD, List.getElem?_cons_zero, List.getElem?_cons_succ, Option.getD_some, Option.bind_some, Option.map_some, Option.isSome_some, reduceIte, List.length_append, List.append_assoc, List.cons_append, List.nil_append, Option.some.injEq, forall_const, implies_true, Int.reduceNeg, eq_self, Prod.mk.injEq, List.self_eq_append_right, List.append_nil, exists_eq_left, exists_eq_left', exists_and_left, exists_eq_right, exists_and_right]
end Go.Proofs.Ytaekgifbehoipaa.So
