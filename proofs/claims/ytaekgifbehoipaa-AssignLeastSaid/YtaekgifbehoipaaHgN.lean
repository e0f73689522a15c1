/- What Cost of the package assign answers. Conditions stand in each lemma. -/
import Derived.Test.YtaekgifbehoipaaHgM
namespace Go.Proofs.Ytaekgifbehoipaa.Hg
open Go Go.Proofs.Ytaekgifbehoipaa.Eva Go.Proofs.Ytaekgifbehoipaa.CodeAll Go.Proofs.Ytaekgifbehoipaa.Fl
set_option linter.unusedVariables false
set_option linter.unusedSimpArgs false
set_option maxRecDepth 10000
set_option maxHeartbeats 4000000

def tAt (ts : List Int) (i : Nat) : Int := (ts[i]?).getD (-1)
theorem tAt_eq {ts : List Int} {i : Nat} {t : Int} (h : ts[i]? = some t) : tAt ts i = t := by unfold tAt; rw [h]; rfl
/-- What one row may be given. -/
def vAt (rows : List (List Int)) (ts : List Int) (i : Nat) : Prop := tAt ts i = -1 ∨ (0 ≤ tAt ts i ∧ tAt ts i < (gRow rows i).length ∧ (∀ a, a < i → tAt ts a ≠ tAt ts i) ∧ 0 ≤ mF rows i (tAt ts i).toNat)
def CostOk (rows : List (List Int)) (miss : Int) (ts : List Int) : Prop := Ok rows miss ∧ ts.length = rows.length ∧ ∀ i, i < rows.length → vAt rows ts i
theorem cost_ex {H : List Ob} {V W : AV} {vs : List AV} {rows : List (List Int)} {ts : List Int} (A : NsL H V vs rows) (hs : SlL H W intC 1 ts) (miss : Int) :
    ∃ m e, (e = 0 ↔ CostOk rows miss ts) ∧ (e = 0 → m = costOf rows miss (tAt ts)) ∧ ecall E 14 [V, .int .i64 miss, W] H = some (.tup [.int .i64 m, .int .i64 e], H, H.length, H.length) := by
  have key : ∃ v, (∃ m e, (e = 0 ↔ CostOk rows miss ts) ∧ (e = 0 → m = costOf rows miss (tAt ts)) ∧ v = .tup [.int .i64 m, .int .i64 e]) ∧ ecall E 14 [V, .int .i64 miss, W] H = some (v, H, H.length, H.length) := by
    refine call_exP e14 rfl (Nat.le_of_ble_eq_true rfl) (by rintro v ⟨m, e, -, -, rfl⟩; rfl) ?_
    obtain ⟨e, he, hc⟩ := check_ex A miss
    have hck := pcall_some.2 hc
    have hlen := A.out.len
    rw [A.len] at hlen
    have hlt := hs.len
    by_cases hok : Ok rows miss
    rotate_left
    · have hne : e ≠ 0 := fun h => hok (he.1 h)
      have hb : (e != 0) = true := by rw [bne_iff_ne]; exact hne
      simp (config := {maxSteps := 8000000}) only [c14, hck, hb, SS, bne_self_eq_false, wr_def, obOf, List.all_cons, List.all_nil, List.map_cons, List.map_nil, List.length_cons, List.length_nil, List.take_zero, List.take_succ_cons, List.take_nil, List.drop_zero, List.drop_succ_cons, List.drop_nil, Nat.reduceAdd, Nat.reduceMul, Nat.reduceSub, if_true, Nat.reduceLT, Nat.reduceLeDiff, ite_true, ite_false, Nat.reduceEqDiff, if_false, reduceCtorEq, ne_eq, List.getD, List.getElem?_cons_zero, List.getElem?_cons_succ, Option.getD_some, Option.bind_some, Option.map_some, Option.isSome_some, reduceIte, List.length_append, List.append_assoc, List.cons_append, List.nil_append, Option.some.injEq, forall_const, implies_true, Int.reduceNeg, eq_self, Prod.mk.injEq, List.self_eq_append_right, List.append_nil, exists_eq_left, exists_eq_left', exists_and_left, exists_eq_right, exists_and_right]
      exact ⟨0, e, ⟨fun h => absurd h hne, fun h => absurd h.1 hok⟩, fun h => absurd h hne, rfl⟩
    have he0 := he.2 hok
    subst he0
    obtain ⟨hR, ⟨n, hC⟩, hm0, hm1⟩ := id hok
    by_cases hl : ts.length = rows.length
    rotate_left
    · have hb : ((ts.length : Int) != (rows.length : Int)) = true := by rw [bne_iff_ne]; omega
      simp (config := {maxSteps := 8000000}) only [c14, hck, hlen, hlt, hb, SS, bne_self_eq_false, wr_def, obOf, List.all_cons, List.all_nil, List.map_cons, List.map_nil, List.length_cons, List.length_nil, List.take_zero, List.take_succ_cons, List.take_nil, List.drop_zero, List.drop_succ_cons, List.drop_nil, Nat.reduceAdd, Nat.reduceMul, Nat.reduceSub, if_true, Nat.reduceLT, Nat.reduceLeDiff, ite_true, ite_false, Nat.reduceEqDiff, if_false, reduceCtorEq, ne_eq, List.getD, List.getElem?_cons_zero, List.getElem?_cons_succ, Option.getD_some, Option.bind_some, Option.map_some, Option.isSome_some, reduceIte, List.length_append, List.append_assoc, List.cons_append, List.nil_append, Option.some.injEq, forall_const, implies_true, Int.reduceNeg, eq_self, Prod.mk.injEq, List.self_eq_append_right, List.append_nil, exists_eq_left, exists_eq_left', exists_and_left, exists_eq_right, exists_and_right]
      exact ⟨0, 3, ⟨fun h => by omega, fun h => absurd h.2.1 hl⟩, fun h => by omega, rfl⟩
    have hb : ((ts.length : Int) != (rows.length : Int)) = false := by rw [hl]; simp
    simp (config := {maxSteps := 8000000}) only [c14, hck, hlen, hlt, hb, SS, bne_self_eq_false, wr_def, obOf, List.all_cons, List.all_nil, List.map_cons, List.map_nil, List.length_cons, List.length_nil, List.take_zero, List.take_succ_cons, List.take_nil, List.drop_zero, List.drop_succ_cons, List.drop_nil, Nat.reduceAdd, Nat.reduceMul, Nat.reduceSub, if_true, Nat.reduceLT, Nat.reduceLeDiff, ite_true, ite_false, Nat.reduceEqDiff, if_false, reduceCtorEq, ne_eq, List.getD, List.getElem?_cons_zero, List.getElem?_cons_succ, Option.getD_some, Option.bind_some, Option.map_some, Option.isSome_some, reduceIte, List.length_append, List.append_assoc, List.cons_append, List.nil_append, Option.some.injEq, forall_const, implies_true, Int.reduceNeg, eq_self, Prod.mk.injEq, List.self_eq_append_right, List.append_nil, exists_eq_left, exists_eq_left', exists_and_left, exists_eq_right, exists_and_right]
    refine W_loop (fun q f1 h1 => ∃ i : Nat, q = rows.length - i ∧ i ≤ rows.length ∧ f1 0 = V ∧ f1 1 = .int .i64 miss ∧ f1 2 = W ∧ f1 23 = W ∧ f1 24 = .int .i64 (ts.length : Int) ∧ f1 25 = .int .i64 (i : Int) ∧ (∀ a, a < i → vAt rows ts a) ∧ ∃ s : Int, f1 9 = .int .i64 s ∧ 0 ≤ s ∧ s ≤ (i : Int) * 1099511627776 ∧ s = sumN i (fun a => costAt rows miss a (tAt ts a))) (Nat.le_refl _) rows.length ⟨0, rfl, by omega, rfl, rfl, rfl, rfl, rfl, rfl, fun a h => by omega, 0, rfl, by omega, by omega, rfl⟩ ?_
    rintro q f1 h1 hn1 ht ⟨i, rfl, hi, e0, e1, e2, e23, e24, e25, hv, s, e9, s0, s1, hsum⟩
    rw [List.take_length] at ht
    have hH := take_eq ht
    generalize h1.drop H.length = x at hH
    subst hH
    by_cases hiR : i < rows.length
    · have hc1 : decide ((i : Int) < (ts.length : Int)) = true := decide_eq_true (by omega)
      have hw1 : IntKind.i64.wrap ((i : Int) + 1) = ((i + 1 : Nat) : Int) := by rw [wrap64 (by omega) (by omega)]; omega
      obtain ⟨u, r, hr, hu, S, d1, o1⟩ := A.row hiR
      have hgr : gRow rows i = r := gRow_eq hr
      have hlu := S.len
      have hrl : r.length ≤ 32 := (hC r (List.mem_of_getElem? hr)).1
      obtain ⟨t, htt⟩ : ∃ t, ts[i]? = some t := ⟨_, List.getElem?_eq_getElem (by omega)⟩
      have htA := tAt_eq htt
      have oW : idxOk 1 W (.int .i64 (i : Int)) := hs.ok (by omega) (by omega)
      have dW : ld1A (H ++ x) (idxV 1 W (.int .i64 (i : Int))) = some (.int .i64 t) := by rw [(hs.keep x).ld0 (x := t) (by omega) (by simpa using htt)]; rfl
      by_cases c1 : t < -1
      · have hb1 : decide (t < -1) = true := decide_eq_true c1
        simp (config := {maxSteps := 8000000}) only [e0, e1, e2, e23, e24, e25, e9, hc1, oW, isPtr_idx oW, dW, hb1, SS, bne_self_eq_false, wr_def, obOf, List.all_cons, List.all_nil, List.map_cons, List.map_nil, List.length_cons, List.length_nil, List.take_zero, List.take_succ_cons, List.take_nil, List.drop_zero, List.drop_succ_cons, List.drop_nil, Nat.reduceAdd, Nat.reduceMul, Nat.reduceSub, if_true, Nat.reduceLT, Nat.reduceLeDiff, ite_true, ite_false, Nat.reduceEqDiff, if_false, reduceCtorEq, ne_eq, List.getD, List.getElem?_cons_zero, List.getElem?_cons_succ, Option.getD_some, Option.bind_some, Option.map_some, Option.isSome_some, reduceIte, List.length_append, List.append_assoc, List.cons_append, List.nil_append, Option.some.injEq, forall_const, implies_true, Int.reduceNeg, eq_self, Prod.mk.injEq, List.self_eq_append_right, List.append_nil, exists_eq_left, exists_eq_left', exists_and_left, exists_eq_right, exists_and_right]
        exact ⟨0, 4, ⟨fun h => by omega, fun h => by have := h.2.2 i hiR; unfold vAt at this; rw [htA] at this; omega⟩, fun h => by omega, rfl⟩
      have hb1 : decide (t < -1) = false := decide_eq_false c1
      by_cases c2 : (r.length : Int) ≤ t
      · have hb2 : decide ((r.length : Int) ≤ t) = true := decide_eq_true c2
        simp (config := {maxSteps := 8000000}) only [e0, e1, e2, e23, e24, e25, e9, hc1, oW, isPtr_idx oW, dW, hb1, o1, isPtr_idx o1, d1, hlu, hb2, SS, bne_self_eq_false, wr_def, obOf, List.all_cons, List.all_nil, List.map_cons, List.map_nil, List.length_cons, List.length_nil, List.take_zero, List.take_succ_cons, List.take_nil, List.drop_zero, List.drop_succ_cons, List.drop_nil, Nat.reduceAdd, Nat.reduceMul, Nat.reduceSub, if_true, Nat.reduceLT, Nat.reduceLeDiff, ite_true, ite_false, Nat.reduceEqDiff, if_false, reduceCtorEq, ne_eq, List.getD, List.getElem?_cons_zero, List.getElem?_cons_succ, Option.getD_some, Option.bind_some, Option.map_some, Option.isSome_some, reduceIte, List.length_append, List.append_assoc, List.cons_append, List.nil_append, Option.some.injEq, forall_const, implies_true, Int.reduceNeg, eq_self, Prod.mk.injEq, List.self_eq_append_right, List.append_nil, exists_eq_left, exists_eq_left', exists_and_left, exists_eq_right, exists_and_right]
        exact ⟨0, 4, ⟨fun h => by omega, fun h => by have := h.2.2 i hiR; unfold vAt at this; rw [htA, hgr] at this; omega⟩, fun h => by omega, rfl⟩
      have hb2 : decide ((r.length : Int) ≤ t) = false := decide_eq_false c2
      by_cases c3 : t < 0
      · have hb3 : decide (t < 0) = true := decide_eq_true c3
        have ws : IntKind.i64.wrap (s + miss) = s + miss := wrap64 (by omega) (by omega)
        simp (config := {maxSteps := 8000000}) only [e0, e1, e2, e23, e24, e25, e9, hc1, oW, isPtr_idx oW, dW, hb1, o1, isPtr_idx o1, d1, hlu, hb2, hb3, ws, hw1, SS, bne_self_eq_false, wr_def, obOf, List.all_cons, List.all_nil, List.map_cons, List.map_nil, List.length_cons, List.length_nil, List.take_zero, List.take_succ_cons, List.take_nil, List.drop_zero, List.drop_succ_cons, List.drop_nil, Nat.reduceAdd, Nat.reduceMul, Nat.reduceSub, if_true, Nat.reduceLT, Nat.reduceLeDiff, ite_true, ite_false, Nat.reduceEqDiff, if_false, reduceCtorEq, ne_eq, List.getD, List.getElem?_cons_zero, List.getElem?_cons_succ, Option.getD_some, Option.bind_some, Option.map_some, Option.isSome_some, reduceIte, List.length_append, List.append_assoc, List.cons_append, List.nil_append, Option.some.injEq, forall_const, implies_true, Int.reduceNeg, eq_self, Prod.mk.injEq, List.self_eq_append_right, List.append_nil, exists_eq_left, exists_eq_left', exists_and_left, exists_eq_right, exists_and_right]
        refine ⟨_, by omega, i + 1, rfl, by omega, rfl, fun a ha => ?_, _, rfl, by omega, by omega, ?_⟩
        · by_cases h : a < i
          · exact hv a h
          · have : a = i := by omega
            subst this; exact Or.inl (by rw [htA]; omega)
        · simp only [sumN]; rw [← hsum, htA, costAt, if_pos c3]
      have hb3 : decide (t < 0) = false := decide_eq_false c3
      obtain ⟨V2, hV1, hV2, _⟩ := hs.slc (a := none) (b := some (i : Int)) (lo := 0) (hi := i) rfl rfl (by omega) (by omega)
      simp only [List.drop_zero, Nat.sub_zero] at hV2
      have hct := fun o => contains_i (hV2.keep o) (by rw [List.length_take]; omega) t
      have hany : ((ts.take i).any fun y => t == y) = true ↔ ∃ a, a < i ∧ tAt ts a = t := by
        rw [List.any_eq_true]
        constructor
        · rintro ⟨y, hy, hty⟩
          have hty' : t = y := by simpa using hty
          subst hty'
          obtain ⟨a, ha, hae⟩ := List.getElem_of_mem hy
          rw [List.length_take] at ha
          refine ⟨a, by omega, tAt_eq ?_⟩
          rw [List.getElem_take] at hae
          rw [List.getElem?_eq_getElem (by omega), hae]
        · rintro ⟨a, ha, hae⟩
          obtain ⟨y, hy⟩ : ∃ y, ts[a]? = some y := ⟨_, List.getElem?_eq_getElem (by omega)⟩
          rw [tAt_eq hy] at hae
          subst hae
          exact ⟨y, List.mem_of_getElem? (i := a) (by rw [List.getElem?_take, if_pos ha]; exact hy), by simp⟩
      by_cases c4 : ∃ a, a < i ∧ tAt ts a = t
      · have hb4 := hany.2 c4
        rw [hb4] at hct
        simp (config := {maxSteps := 8000000}) only [e0, e1, e2, e23, e24, e25, e9, hc1, oW, isPtr_idx oW, dW, hb1, o1, isPtr_idx o1, d1, hlu, hb2, hb3, kq_slc, vq_slc, hV1, hct, SS, bne_self_eq_false, wr_def, obOf, List.all_cons, List.all_nil, List.map_cons, List.map_nil, List.length_cons, List.length_nil, List.take_zero, List.take_succ_cons, List.take_nil, List.drop_zero, List.drop_succ_cons, List.drop_nil, Nat.reduceAdd, Nat.reduceMul, Nat.reduceSub, if_true, Nat.reduceLT, Nat.reduceLeDiff, ite_true, ite_false, Nat.reduceEqDiff, if_false, reduceCtorEq, ne_eq, List.getD, List.getElem?_cons_zero, List.getElem?_cons_succ, Option.getD_some, Option.bind_some, Option.map_some, Option.isSome_some, reduceIte, List.length_append, List.append_assoc, List.cons_append, List.nil_append, Option.some.injEq, forall_const, implies_true, Int.reduceNeg, eq_self, Prod.mk.injEq, List.self_eq_append_right, List.append_nil, exists_eq_left, exists_eq_left', exists_and_left, exists_eq_right, exists_and_right]
        exact ⟨0, 7, ⟨fun h => by omega, fun h => by
          have := h.2.2 i hiR
          obtain ⟨a, ha, hae⟩ := c4
          unfold vAt at this; rw [htA] at this
          rcases this with h9 | h9
          · omega
          · exact absurd hae (h9.2.2.1 a ha)⟩, fun h => by omega, rfl⟩
      have hb4 : ((ts.take i).any fun y => t == y) = false := by
        rw [← Bool.not_eq_true]; exact fun h => c4 (hany.1 h)
      rw [hb4] at hct
      obtain ⟨k, hk⟩ : ∃ k : Nat, t = (k : Int) := ⟨t.toNat, by omega⟩
      subst hk
      have hkr : k < r.length := by omega
      obtain ⟨c, hcc⟩ : ∃ c, r[k]? = some c := ⟨_, List.getElem?_eq_getElem hkr⟩
      have hmk : mF rows i k = c := by rw [mF, hgr, hcc]; rfl
      have hcb := (hC r (List.mem_of_getElem? hr)).2.2 c (List.mem_of_getElem? hcc)
      have ou : idxOk 1 u (.int .i64 (k : Int)) := S.ok (by omega) (by omega)
      have du : ∀ o, ld1A (H ++ o) (idxV 1 u (.int .i64 (k : Int))) = some (.int .i64 c) := fun o => by rw [(S.keep o).ld0 (x := c) (by omega) (by simpa using hcc)]; rfl
      by_cases c5 : c < 0
      · have hb5 : decide (c < 0) = true := decide_eq_true c5
        simp (config := {maxSteps := 8000000}) only [e0, e1, e2, e23, e24, e25, e9, hc1, oW, isPtr_idx oW, dW, hb1, o1, isPtr_idx o1, d1, hlu, hb2, hb3, kq_slc, vq_slc, hV1, hct, ou, isPtr_idx ou, du, hb5, SS, bne_self_eq_false, wr_def, obOf, List.all_cons, List.all_nil, List.map_cons, List.map_nil, List.length_cons, List.length_nil, List.take_zero, List.take_succ_cons, List.take_nil, List.drop_zero, List.drop_succ_cons, List.drop_nil, Nat.reduceAdd, Nat.reduceMul, Nat.reduceSub, if_true, Nat.reduceLT, Nat.reduceLeDiff, ite_true, ite_false, Nat.reduceEqDiff, if_false, reduceCtorEq, ne_eq, List.getD, List.getElem?_cons_zero, List.getElem?_cons_succ, Option.getD_some, Option.bind_some, Option.map_some, Option.isSome_some, reduceIte, List.length_append, List.append_assoc, List.cons_append, List.nil_append, Option.some.injEq, forall_const, implies_true, Int.reduceNeg, eq_self, Prod.mk.injEq, List.self_eq_append_right, List.append_nil, exists_eq_left, exists_eq_left', exists_and_left, exists_eq_right, exists_and_right]
        exact ⟨0, 8, ⟨fun h => by omega, fun h => by
          have := h.2.2 i hiR
          unfold vAt at this; rw [htA] at this
          rcases this with h9 | h9
          · omega
          · have := h9.2.2.2
            rw [Int.toNat_natCast, hmk] at this; omega⟩, fun h => by omega, rfl⟩
      have hb5 : decide (c < 0) = false := decide_eq_false c5
      have ws : IntKind.i64.wrap (s + c) = s + c := wrap64 (by omega) (by omega)
      simp (config := {maxSteps := 8000000}) only [e0, e1, e2, e23, e24, e25, e9, hc1, oW, isPtr_idx oW, dW, hb1, o1, isPtr_idx o1, d1, hlu, hb2, hb3, kq_slc, vq_slc, hV1, hct, ou, isPtr_idx ou, du, hb5, ws, hw1, SS, bne_self_eq_false, wr_def, obOf, List.all_cons, List.all_nil, List.map_cons, List.map_nil, List.length_cons, List.length_nil, List.take_zero, List.take_succ_cons, List.take_nil, List.drop_zero, List.drop_succ_cons, List.drop_nil, Nat.reduceAdd, Nat.reduceMul, Nat.reduceSub, if_true, Nat.reduceLT, Nat.reduceLeDiff, ite_true, ite_false, Nat.reduceEqDiff, if_false, reduceCtorEq, ne_eq, List.getD, List.getElem?_cons_zero, List.getElem?_cons_succ, Option.getD_some, Option.bind_some, Option.map_some, Option.isSome_some, reduceIte, List.length_append, List.append_assoc, List.cons_append, List.nil_append, Option.some.injEq, forall_const, implies_true, Int.reduceNeg, eq_self, Prod.mk.injEq, List.self_eq_append_right, List.append_nil, exists_eq_left, exists_eq_left', exists_and_left, exists_eq_right, exists_and_right]
      refine ⟨_, by omega, i + 1, rfl, by omega, rfl, fun a ha => ?_, _, rfl, by omega, by omega, ?_⟩
      · by_cases h : a < i
        · exact hv a h
        · have : a = i := by omega
          subst this
          refine Or.inr ⟨by rw [htA]; omega, by rw [htA, hgr]; omega, fun a' ha' he' => c4 ⟨a', ha', by rw [he', htA]⟩, by rw [htA, Int.toNat_natCast, hmk]; omega⟩
      · simp only [sumN]; rw [← hsum, htA, costAt, if_neg (by omega), Int.toNat_natCast, hmk]
    · have hc1 : decide ((i : Int) < (ts.length : Int)) = false := decide_eq_false (by omega)
      have hiE : i = rows.length := by omega
      subst hiE
      simp (config := {maxSteps := 8000000}) only [e0, e1, e2, e23, e24, e25, e9, hc1, SS, bne_self_eq_false, wr_def, obOf, List.all_cons, List.all_nil, List.map_cons, List.map_nil, List.length_cons, List.length_nil, List.take_zero, List.take_succ_cons, List.take_nil, List.drop_zero, List.drop_succ_cons, List.drop_nil, Nat.reduceAdd, Nat.reduceMul, Nat.reduceSub, if_true, Nat.reduceLT, Nat.reduceLeDiff, ite_true, ite_false, Nat.reduceEqDiff, if_false, reduceCtorEq, ne_eq, List.getD, List.getElem?_cons_zero, List.getElem?_cons_succ, Option.getD_some, Option.bind_some, Option.map_some, Option.isSome_some, reduceIte, List.length_append, List.append_assoc, List.cons_append, List.nil_append, Option.some.injEq, forall_const, implies_true, Int.reduceNeg, eq_self, Prod.mk.injEq, List.self_eq_append_right, List.append_nil, exists_eq_left, exists_eq_left', exists_and_left, exists_eq_right, exists_and_right]
      exact ⟨s, 0, ⟨fun _ => ⟨hok, hl, hv⟩, fun _ => rfl⟩, fun _ => hsum, rfl⟩
  obtain ⟨v, ⟨m, e, h1, h2, rfl⟩, hv⟩ := key
  exact ⟨m, e, h1, h2, hv⟩
theorem costOk_val {rows : List (List Int)} {n : Nat} {miss : Int} {ts : List Int} (hC : ∀ r ∈ rows, RowOk n r) (h : CostOk rows miss ts) : Val rows n (tAt ts) := by
  refine ⟨fun i hi => ?_, fun i j hi hj e h0 => ?_⟩
  · rcases h.2.2 i hi with h1 | ⟨h1, h2, h3, h4⟩
    · exact Or.inl h1
    · rw [gRow_len (rok_len hC) hi] at h2
      exact Or.inr ⟨h1, h2, h4⟩
  · rcases h.2.2 i hi with h1 | ⟨h1, h2, h3, h4⟩
    · omega
    rcases h.2.2 j hj with g1 | ⟨g1, g2, g3, g4⟩
    · omega
    rcases Nat.lt_trichotomy i j with hlt | rfl | hlt
    · exact absurd e (g3 i hlt)
    · rfl
    · exact absurd e.symm (h3 j hlt)
theorem val_costOk {rows : List (List Int)} {n : Nat} {miss : Int} {ts : List Int} (hC : ∀ r ∈ rows, RowOk n r) (hok : Ok rows miss) (hl : ts.length = rows.length) (V : Val rows n (tAt ts)) : CostOk rows miss ts := by
  refine ⟨hok, hl, fun i hi => ?_⟩
  rcases V.rng i hi with h1 | ⟨h1, h2, h3⟩
  · exact Or.inl h1
  · refine Or.inr ⟨h1, by rw [gRow_len (rok_len hC) hi]; exact h2, fun a ha e => ?_, h3⟩
    have := V.inj a i (by omega) hi e (by omega)
    omega
end Go.Proofs.Ytaekgifbehoipaa.Hg
