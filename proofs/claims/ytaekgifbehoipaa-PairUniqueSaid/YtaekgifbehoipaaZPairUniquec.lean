/- What Check of the package assign answers. Conditions stand in each lemma. -/
import Derived.Test.YtaekgifbehoipaaZPairUniqueb
import Derived.Test.YtaekgifbehoipaaZPairUniquea
import Derived.Test.YtaekgifbehoipaaEvaI2
namespace Go.Proofs.Ytaekgifbehoipaa.Hg
open Go Go.Proofs.Ytaekgifbehoipaa.Eva Go.Proofs.Ytaekgifbehoipaa.CodeAll Go.Proofs.Ytaekgifbehoipaa.Fl
set_option linter.unusedVariables false
set_option linter.unusedSimpArgs false
set_option maxRecDepth 10000
set_option maxHeartbeats 4000000

def avC (u : AV) : List AV := [u]
/-- A slice of slices of whole numbers. -/
structure NsL (h : List Ob) (v : AV) (vs : List AV) (rows : List (List Int)) : Prop where
  out : SlL h v avC 1 vs
  len : vs.length = rows.length
  inn : ∀ (i : Nat) u r, vs[i]? = some u → rows[i]? = some r → SlL h u intC 1 r
theorem NsL.keep {h : List Ob} {v : AV} {vs : List AV} {rows : List (List Int)} (A : NsL h v vs rows) (o : List Ob) : NsL (h ++ o) v vs rows :=
  ⟨A.out.keep o, A.len, fun i u r hu hr => (A.inn i u r hu hr).keep o⟩
theorem NsL.row {h : List Ob} {v : AV} {vs : List AV} {rows : List (List Int)} (A : NsL h v vs rows) {i : Nat} (hi : i < rows.length) : ∃ u r, rows[i]? = some r ∧ vs[i]? = some u ∧ SlL h u intC 1 r ∧ (∀ o, ld1A (h ++ o) (idxV 1 v (.int .i64 (i : Int))) = some u) ∧ idxOk 1 v (.int .i64 (i : Int)) := by
  obtain ⟨r, hr⟩ : ∃ r, rows[i]? = some r := ⟨_, List.getElem?_eq_getElem hi⟩
  obtain ⟨u, hu⟩ : ∃ u, vs[i]? = some u := ⟨_, List.getElem?_eq_getElem (by rw [A.len]; exact hi)⟩
  refine ⟨u, r, hr, hu, A.inn i u r hu hr, fun o => ?_, A.out.ok (by omega) (by rw [A.len]; omega)⟩
  rw [(A.out.keep o).ld0 (x := u) (by omega) (by simpa using hu)]; rfl

def RowOk (n : Nat) (r : List Int) : Prop := r.length ≤ 32 ∧ r.length = n ∧ ∀ c ∈ r, -1 ≤ c ∧ c ≤ 1099511627776
def Ok (rows : List (List Int)) (miss : Int) : Prop := rows.length ≤ 32 ∧ (∃ n, ∀ r ∈ rows, RowOk n r) ∧ 0 ≤ miss ∧ miss ≤ 1099511627776
theorem check_ex {H : List Ob} {V : AV} {vs : List AV} {rows : List (List Int)} (A : NsL H V vs rows) (miss : Int) :
    ∃ e, (e = 0 ↔ Ok rows miss) ∧ ecall E 46 [V, .int .i64 miss] H = some (.int .i64 e, H, H.length, H.length) := by
  have key : ∃ v, (∃ e, (e = 0 ↔ Ok rows miss) ∧ v = .int .i64 e) ∧ ecall E 46 [V, .int .i64 miss] H = some (v, H, H.length, H.length) := by
    refine call_exP e46 rfl (Nat.le_of_ble_eq_true rfl) (by rintro v ⟨T, -, rfl⟩; rfl) ?_
    have hlen := A.out.len
    rw [A.len] at hlen
    by_cases c0 : 32 < rows.length
    · have hc : decide ((32 : Int) < (rows.length : Int)) = true := decide_eq_true (by omega)
      simp (config := {maxSteps := 8000000}) only [c46, hlen, hc, SS, bne_self_eq_false, wr_def, obOf, List.all_cons, List.all_nil, List.map_cons, List.map_nil, List.length_cons, List.length_nil, List.take_zero, List.take_succ_cons, List.take_nil, List.drop_zero, List.drop_succ_cons, List.drop_nil, Nat.reduceAdd, Nat.reduceMul, Nat.reduceSub, if_true, Nat.reduceLT, Nat.reduceLeDiff, ite_true, ite_false, Nat.reduceEqDiff, if_false, reduceCtorEq, ne_eq, List.getD, List.getElem?_cons_zero, List.getElem?_cons_succ, Option.getD_some, Option.bind_some, Option.map_some, Option.isSome_some, reduceIte, List.length_append, List.append_assoc, List.cons_append, List.nil_append, Option.some.injEq, forall_const, implies_true, Int.reduceNeg, eq_self, Prod.mk.injEq, List.self_eq_append_right, List.append_nil, exists_eq_left, exists_eq_left', exists_and_left, exists_eq_right, exists_and_right]
      exact ⟨2, ⟨fun h => by omega, fun h => by have := h.1; omega⟩, rfl⟩
    have hc : decide ((32 : Int) < (rows.length : Int)) = false := decide_eq_false (by omega)
    simp (config := {maxSteps := 8000000}) only [c46, hlen, hc, SS, bne_self_eq_false, wr_def, obOf, List.all_cons, List.all_nil, List.map_cons, List.map_nil, List.length_cons, List.length_nil, List.take_zero, List.take_succ_cons, List.take_nil, List.drop_zero, List.drop_succ_cons, List.drop_nil, Nat.reduceAdd, Nat.reduceMul, Nat.reduceSub, if_true, Nat.reduceLT, Nat.reduceLeDiff, ite_true, ite_false, Nat.reduceEqDiff, if_false, reduceCtorEq, ne_eq, List.getD, List.getElem?_cons_zero, List.getElem?_cons_succ, Option.getD_some, Option.bind_some, Option.map_some, Option.isSome_some, reduceIte, List.length_append, List.append_assoc, List.cons_append, List.nil_append, Option.some.injEq, forall_const, implies_true, Int.reduceNeg, eq_self, Prod.mk.injEq, List.self_eq_append_right, List.append_nil, exists_eq_left, exists_eq_left', exists_and_left, exists_eq_right, exists_and_right]
    refine W_loop (fun q f1 h1 => ∃ i : Nat, q = rows.length - i ∧ i ≤ rows.length ∧ f1 0 = V ∧ f1 1 = .int .i64 miss ∧ f1 12 = V ∧ f1 13 = .int .i64 (rows.length : Int) ∧ f1 14 = .int .i64 (i : Int) ∧ ∀ (j : Nat) r r0, j < i → rows[j]? = some r → rows[0]? = some r0 → RowOk r0.length r) (Nat.le_refl _) rows.length ⟨0, rfl, by omega, rfl, rfl, rfl, rfl, rfl, fun j r r0 hj => by omega⟩ ?_
    rintro q f1 h1 hn1 ht ⟨i, rfl, hi, e0, e1, e12, e13, e14, hok⟩
    rw [List.take_length] at ht
    have hH := take_eq ht
    generalize h1.drop H.length = x at hH
    subst hH
    by_cases hiR : i < rows.length
    · have hc1 : decide ((i : Int) < (rows.length : Int)) = true := decide_eq_true (by omega)
      have hw1 : IntKind.i64.wrap ((i : Int) + 1) = ((i + 1 : Nat) : Int) := by rw [wrap64 (by omega) (by omega)]; omega
      obtain ⟨u, r, hr, hu, S, d1, o1⟩ := A.row hiR
      obtain ⟨u0, r0, hr0, hu0, S0, d0, o0⟩ := A.row (i := 0) (by omega)
      have o0' : idxOk 1 V (.int .i64 0) := o0
      have d0' : ∀ o, ld1A (H ++ o) (idxV 1 V (.int .i64 0)) = some u0 := d0
      have l1 := S.len
      have l0 := S0.len
      have hrm := List.mem_of_getElem? hr
      have hr0m := List.mem_of_getElem? hr0
      by_cases c1 : 32 < r.length
      · have hc2 : decide ((32 : Int) < (r.length : Int)) = true := decide_eq_true (by omega)
        simp (config := {maxSteps := 8000000}) only [e0, e1, e12, e13, e14, hc1, o1, isPtr_idx o1, d1, l1, hc2, SS, bne_self_eq_false, wr_def, obOf, List.all_cons, List.all_nil, List.map_cons, List.map_nil, List.length_cons, List.length_nil, List.take_zero, List.take_succ_cons, List.take_nil, List.drop_zero, List.drop_succ_cons, List.drop_nil, Nat.reduceAdd, Nat.reduceMul, Nat.reduceSub, if_true, Nat.reduceLT, Nat.reduceLeDiff, ite_true, ite_false, Nat.reduceEqDiff, if_false, reduceCtorEq, ne_eq, List.getD, List.getElem?_cons_zero, List.getElem?_cons_succ, Option.getD_some, Option.bind_some, Option.map_some, Option.isSome_some, reduceIte, List.length_append, List.append_assoc, List.cons_append, List.nil_append, Option.some.injEq, forall_const, implies_true, Int.reduceNeg, eq_self, Prod.mk.injEq, List.self_eq_append_right, List.append_nil, exists_eq_left, exists_eq_left', exists_and_left, exists_eq_right, exists_and_right]
        exact ⟨2, ⟨fun h => by omega, fun h => by obtain ⟨n, hn⟩ := h.2.1; have := (hn r hrm).1; omega⟩, rfl⟩
      have hc2 : decide ((32 : Int) < (r.length : Int)) = false := decide_eq_false (by omega)
      by_cases c2 : r.length = r0.length
      · have hc3 : ((r.length : Int) != (r0.length : Int)) = false := by rw [c2]; simp
        simp (config := {maxSteps := 8000000}) only [e0, e1, e12, e13, e14, hc1, o1, isPtr_idx o1, d1, l1, hc2, o0', isPtr_idx o0', d0', l0, hc3, SS, bne_self_eq_false, wr_def, obOf, List.all_cons, List.all_nil, List.map_cons, List.map_nil, List.length_cons, List.length_nil, List.take_zero, List.take_succ_cons, List.take_nil, List.drop_zero, List.drop_succ_cons, List.drop_nil, Nat.reduceAdd, Nat.reduceMul, Nat.reduceSub, if_true, Nat.reduceLT, Nat.reduceLeDiff, ite_true, ite_false, Nat.reduceEqDiff, if_false, reduceCtorEq, ne_eq, List.getD, List.getElem?_cons_zero, List.getElem?_cons_succ, Option.getD_some, Option.bind_some, Option.map_some, Option.isSome_some, reduceIte, List.length_append, List.append_assoc, List.cons_append, List.nil_append, Option.some.injEq, forall_const, implies_true, Int.reduceNeg, eq_self, Prod.mk.injEq, List.self_eq_append_right, List.append_nil, exists_eq_left, exists_eq_left', exists_and_left, exists_eq_right, exists_and_right]
        refine W_loop (fun q f2 h2 => ∃ k : Nat, q = r.length - k ∧ k ≤ r.length ∧ f2 0 = V ∧ f2 1 = .int .i64 miss ∧ f2 12 = V ∧ f2 13 = .int .i64 (rows.length : Int) ∧ f2 14 = .int .i64 (i : Int) ∧ f2 28 = u ∧ f2 29 = .int .i64 (r.length : Int) ∧ f2 30 = .int .i64 (k : Int) ∧ ∀ (j : Nat) c, j < k → r[j]? = some c → -1 ≤ c ∧ c ≤ 1099511627776) (by simp) r.length ⟨0, rfl, by omega, by simp only [e0, SS, bne_self_eq_false, wr_def, obOf, List.all_cons, List.all_nil, List.map_cons, List.map_nil, List.length_cons, List.length_nil, List.take_zero, List.take_succ_cons, List.take_nil, List.drop_zero, List.drop_succ_cons, List.drop_nil, Nat.reduceAdd, Nat.reduceMul, Nat.reduceSub, if_true, Nat.reduceLT, Nat.reduceLeDiff, ite_true, ite_false, Nat.reduceEqDiff, if_false, reduceCtorEq, ne_eq, List.getD, List.getElem?_cons_zero, List.getElem?_cons_succ, Option.getD_some, Option.bind_some, Option.map_some, Option.isSome_some, reduceIte, List.length_append, List.append_assoc, List.cons_append, List.nil_append, Option.some.injEq, forall_const, implies_true, Int.reduceNeg, eq_self, Prod.mk.injEq, List.self_eq_append_right, List.append_nil, exists_eq_left, exists_eq_left', exists_and_left, exists_eq_right, exists_and_right], by simp only [e1, SS, bne_self_eq_false, wr_def, obOf, List.all_cons, List.all_nil, List.map_cons, List.map_nil, List.length_cons, List.length_nil, List.take_zero, List.take_succ_cons, List.take_nil, List.drop_zero, List.drop_succ_cons, List.drop_nil, Nat.reduceAdd, Nat.reduceMul, Nat.reduceSub, if_true, Nat.reduceLT, Nat.reduceLeDiff, ite_true, ite_false, Nat.reduceEqDiff, if_false, reduceCtorEq, ne_eq, List.getD, List.getElem?_cons_zero, List.getElem?_cons_succ, Option.getD_some, Option.bind_some, Option.map_some, Option.isSome_some, reduceIte, List.length_append, List.append_assoc, List.cons_append, List.nil_append, Option.some.injEq, forall_const, implies_true, Int.reduceNeg, eq_self, Prod.mk.injEq, List.self_eq_append_right, List.append_nil, exists_eq_left, exists_eq_left', exists_and_left, exists_eq_right, exists_and_right], by simp only [e12, SS, bne_self_eq_false, wr_def, obOf, List.all_cons, List.all_nil, List.map_cons, List.map_nil, List.length_cons, List.length_nil, List.take_zero, List.take_succ_cons, List.take_nil, List.drop_zero, List.drop_succ_cons, List.drop_nil, Nat.reduceAdd, Nat.reduceMul, Nat.reduceSub, if_true, Nat.reduceLT, Nat.reduceLeDiff, ite_true, ite_false, Nat.reduceEqDiff, if_false, reduceCtorEq, ne_eq, List.getD, List.getElem?_cons_zero, List.getElem?_cons_succ, Option.getD_some, Option.bind_some, Option.map_some, Option.isSome_some, reduceIte, List.length_append, List.append_assoc, List.cons_append, List.nil_append, Option.some.injEq, forall_const, implies_true, Int.reduceNeg, eq_self, Prod.mk.injEq, List.self_eq_append_right, List.append_nil, exists_eq_left, exists_eq_left', exists_and_left, exists_eq_right, exists_and_right], by simp only [e13, SS, bne_self_eq_false, wr_def, obOf, List.all_cons, List.all_nil, List.map_cons, List.map_nil, List.length_cons, List.length_nil, List.take_zero, List.take_succ_cons, List.take_nil, List.drop_zero, List.drop_succ_cons, List.drop_nil, Nat.reduceAdd, Nat.reduceMul, Nat.reduceSub, if_true, Nat.reduceLT, Nat.reduceLeDiff, ite_true, ite_false, Nat.reduceEqDiff, if_false, reduceCtorEq, ne_eq, List.getD, List.getElem?_cons_zero, List.getElem?_cons_succ, Option.getD_some, Option.bind_some, Option.map_some, Option.isSome_some, reduceIte, List.length_append, List.append_assoc, List.cons_append, List.nil_append, Option.some.injEq, forall_const, implies_true, Int.reduceNeg, eq_self, Prod.mk.injEq, List.self_eq_append_right, List.append_nil, exists_eq_left, exists_eq_left', exists_and_left, exists_eq_right, exists_and_right], by simp only [e14, SS, bne_self_eq_false, wr_def, obOf, List.all_cons, List.all_nil, List.map_cons, List.map_nil, List.length_cons, List.length_nil, List.take_zero, List.take_succ_cons, List.take_nil, List.drop_zero, List.drop_succ_cons, List.drop_nil, Nat.reduceAdd, Nat.reduceMul, Nat.reduceSub, if_true, Nat.reduceLT, Nat.reduceLeDiff, ite_true, ite_false, Nat.reduceEqDiff, if_false, reduceCtorEq, ne_eq, List.getD, List.getElem?_cons_zero, List.getElem?_cons_succ, Option.getD_some, Option.bind_some, Option.map_some, Option.isSome_some, reduceIte, List.length_append, List.append_assoc, List.cons_append, List.nil_append, Option.some.injEq, forall_const, implies_true, Int.reduceNeg, eq_self, Prod.mk.injEq, List.self_eq_append_right, List.append_nil, exists_eq_left, exists_eq_left', exists_and_left, exists_eq_right, exists_and_right], rfl, rfl, rfl, fun j c hj => by omega⟩ ?_
        clear e0 e1 e12 e13 e14
        rintro q f2 h2 hn2 ht2 ⟨k, rfl, hk, e0, e1, e12, e13, e14, e28, e29, e30, hokc⟩
        rw [List.take_left] at ht2
        have hH := take_eq ht2
        generalize h2.drop H.length = y at hH
        subst hH
        by_cases hkr : k < r.length
        · have hc4 : decide ((k : Int) < (r.length : Int)) = true := decide_eq_true (by omega)
          have hw2 : IntKind.i64.wrap ((k : Int) + 1) = ((k + 1 : Nat) : Int) := by rw [wrap64 (by omega) (by omega)]; omega
          obtain ⟨c, hcc⟩ : ∃ c, r[k]? = some c := ⟨_, List.getElem?_eq_getElem hkr⟩
          have o2 : idxOk 1 u (.int .i64 (k : Int)) := S.ok (by omega) (by omega)
          have d2 : ∀ o, ld1A (H ++ o) (idxV 1 u (.int .i64 (k : Int))) = some (.int .i64 c) := fun o => by rw [(S.keep o).ld0 (x := c) (by omega) (by simpa using hcc)]; rfl
          by_cases c3 : -1 ≤ c ∧ c ≤ 1099511627776
          · have hb : decide (c < -1) = false := decide_eq_false (by omega)
            have hb2 : decide (1099511627776 < c) = false := decide_eq_false (by omega)
            simp (config := {maxSteps := 8000000}) only [e0, e1, e12, e13, e14, e28, e29, e30, hc4, hw2, o2, isPtr_idx o2, d2, hb, hb2, SS, bne_self_eq_false, wr_def, obOf, List.all_cons, List.all_nil, List.map_cons, List.map_nil, List.length_cons, List.length_nil, List.take_zero, List.take_succ_cons, List.take_nil, List.drop_zero, List.drop_succ_cons, List.drop_nil, Nat.reduceAdd, Nat.reduceMul, Nat.reduceSub, if_true, Nat.reduceLT, Nat.reduceLeDiff, ite_true, ite_false, Nat.reduceEqDiff, if_false, reduceCtorEq, ne_eq, List.getD, List.getElem?_cons_zero, List.getElem?_cons_succ, Option.getD_some, Option.bind_some, Option.map_some, Option.isSome_some, reduceIte, List.length_append, List.append_assoc, List.cons_append, List.nil_append, Option.some.injEq, forall_const, implies_true, Int.reduceNeg, eq_self, Prod.mk.injEq, List.self_eq_append_right, List.append_nil, exists_eq_left, exists_eq_left', exists_and_left, exists_eq_right, exists_and_right]
            refine ⟨_, by omega, k + 1, rfl, by omega, rfl, fun j c' hj hjc => ?_⟩
            by_cases hjk : j < k
            · exact hokc j c' hjk hjc
            · have : j = k := by omega
              subst this
              rw [hcc] at hjc; simp at hjc; subst hjc; exact c3
          · have hne : ¬ Ok rows miss := fun h => by
              obtain ⟨n, hn⟩ := h.2.1
              exact c3 ((hn r hrm).2.2 c (List.mem_of_getElem? hcc))
            by_cases c4 : c < -1
            · have hb : decide (c < -1) = true := decide_eq_true c4
              simp (config := {maxSteps := 8000000}) only [e0, e1, e12, e13, e14, e28, e29, e30, hc4, hw2, o2, isPtr_idx o2, d2, hb, SS, bne_self_eq_false, wr_def, obOf, List.all_cons, List.all_nil, List.map_cons, List.map_nil, List.length_cons, List.length_nil, List.take_zero, List.take_succ_cons, List.take_nil, List.drop_zero, List.drop_succ_cons, List.drop_nil, Nat.reduceAdd, Nat.reduceMul, Nat.reduceSub, if_true, Nat.reduceLT, Nat.reduceLeDiff, ite_true, ite_false, Nat.reduceEqDiff, if_false, reduceCtorEq, ne_eq, List.getD, List.getElem?_cons_zero, List.getElem?_cons_succ, Option.getD_some, Option.bind_some, Option.map_some, Option.isSome_some, reduceIte, List.length_append, List.append_assoc, List.cons_append, List.nil_append, Option.some.injEq, forall_const, implies_true, Int.reduceNeg, eq_self, Prod.mk.injEq, List.self_eq_append_right, List.append_nil, exists_eq_left, exists_eq_left', exists_and_left, exists_eq_right, exists_and_right]
              exact ⟨4, ⟨fun h => by omega, fun h => absurd h hne⟩, rfl⟩
            · have hb : decide (c < -1) = false := decide_eq_false c4
              have hb2 : decide (1099511627776 < c) = true := decide_eq_true (by omega)
              simp (config := {maxSteps := 8000000}) only [e0, e1, e12, e13, e14, e28, e29, e30, hc4, hw2, o2, isPtr_idx o2, d2, hb, hb2, SS, bne_self_eq_false, wr_def, obOf, List.all_cons, List.all_nil, List.map_cons, List.map_nil, List.length_cons, List.length_nil, List.take_zero, List.take_succ_cons, List.take_nil, List.drop_zero, List.drop_succ_cons, List.drop_nil, Nat.reduceAdd, Nat.reduceMul, Nat.reduceSub, if_true, Nat.reduceLT, Nat.reduceLeDiff, ite_true, ite_false, Nat.reduceEqDiff, if_false, reduceCtorEq, ne_eq, List.getD, List.getElem?_cons_zero, List.getElem?_cons_succ, Option.getD_some, Option.bind_some, Option.map_some, Option.isSome_some, reduceIte, List.length_append, List.append_assoc, List.cons_append, List.nil_append, Option.some.injEq, forall_const, implies_true, Int.reduceNeg, eq_self, Prod.mk.injEq, List.self_eq_append_right, List.append_nil, exists_eq_left, exists_eq_left', exists_and_left, exists_eq_right, exists_and_right]
              exact ⟨4, ⟨fun h => by omega, fun h => absurd h hne⟩, rfl⟩
        · have hc4 : decide ((k : Int) < (r.length : Int)) = false := decide_eq_false (by omega)
          simp (config := {maxSteps := 8000000}) only [e0, e1, e12, e13, e14, e28, e29, e30, hc4, hw1, SS, bne_self_eq_false, wr_def, obOf, List.all_cons, List.all_nil, List.map_cons, List.map_nil, List.length_cons, List.length_nil, List.take_zero, List.take_succ_cons, List.take_nil, List.drop_zero, List.drop_succ_cons, List.drop_nil, Nat.reduceAdd, Nat.reduceMul, Nat.reduceSub, if_true, Nat.reduceLT, Nat.reduceLeDiff, ite_true, ite_false, Nat.reduceEqDiff, if_false, reduceCtorEq, ne_eq, List.getD, List.getElem?_cons_zero, List.getElem?_cons_succ, Option.getD_some, Option.bind_some, Option.map_some, Option.isSome_some, reduceIte, List.length_append, List.append_assoc, List.cons_append, List.nil_append, Option.some.injEq, forall_const, implies_true, Int.reduceNeg, eq_self, Prod.mk.injEq, List.self_eq_append_right, List.append_nil, exists_eq_left, exists_eq_left', exists_and_left, exists_eq_right, exists_and_right]
          have : k = r.length := by omega
          subst this
          refine ⟨_, by omega, i + 1, rfl, by omega, rfl, fun j r' r0' hj hjr h0' => ?_⟩
          rw [hr0] at h0'; simp at h0'; subst h0'
          by_cases hji : j < i
          · exact hok j r' r0 hji hjr hr0
          · have : j = i := by omega
            subst this
            rw [hr] at hjr; simp at hjr; subst hjr
            refine ⟨by omega, c2, fun c hc => ?_⟩
            obtain ⟨j, hj, rfl⟩ := List.getElem_of_mem hc
            exact hokc j _ hj (List.getElem?_eq_getElem hj)
      · have hc3 : ((r.length : Int) != (r0.length : Int)) = true := by rw [bne_iff_ne]; omega
        simp (config := {maxSteps := 8000000}) only [e0, e1, e12, e13, e14, hc1, o1, isPtr_idx o1, d1, l1, hc2, o0', isPtr_idx o0', d0', l0, hc3, SS, bne_self_eq_false, wr_def, obOf, List.all_cons, List.all_nil, List.map_cons, List.map_nil, List.length_cons, List.length_nil, List.take_zero, List.take_succ_cons, List.take_nil, List.drop_zero, List.drop_succ_cons, List.drop_nil, Nat.reduceAdd, Nat.reduceMul, Nat.reduceSub, if_true, Nat.reduceLT, Nat.reduceLeDiff, ite_true, ite_false, Nat.reduceEqDiff, if_false, reduceCtorEq, ne_eq, List.getD, List.getElem?_cons_zero, List.getElem?_cons_succ, Option.getD_some, Option.bind_some, Option.map_some, Option.isSome_some, reduceIte, List.length_append, List.append_assoc, List.cons_append, List.nil_append, Option.some.injEq, forall_const, implies_true, Int.reduceNeg, eq_self, Prod.mk.injEq, List.self_eq_append_right, List.append_nil, exists_eq_left, exists_eq_left', exists_and_left, exists_eq_right, exists_and_right]
        exact ⟨3, ⟨fun h => by omega, fun h => by
          obtain ⟨n, hn⟩ := h.2.1
          have := (hn r hrm).2.1; have := (hn r0 hr0m).2.1; omega⟩, rfl⟩
    · have hc1 : decide ((i : Int) < (rows.length : Int)) = false := decide_eq_false (by omega)
      have hiE : i = rows.length := by omega
      subst hiE
      have hrows : ∃ n, ∀ r ∈ rows, RowOk n r := by
        by_cases h0 : rows.length = 0
        · exact ⟨0, fun r hr => by rw [List.length_eq_zero_iff.1 h0] at hr; cases hr⟩
        · obtain ⟨r0, hr0⟩ : ∃ r0, rows[0]? = some r0 := ⟨_, List.getElem?_eq_getElem (by omega)⟩
          refine ⟨r0.length, fun r hr => ?_⟩
          obtain ⟨j, hj, rfl⟩ := List.getElem_of_mem hr
          exact hok j _ r0 hj (List.getElem?_eq_getElem hj) hr0
      by_cases c5 : 0 ≤ miss ∧ miss ≤ 1099511627776
      · have hb : decide (miss < 0) = false := decide_eq_false (by omega)
        have hb2 : decide (1099511627776 < miss) = false := decide_eq_false (by omega)
        simp (config := {maxSteps := 8000000}) only [e0, e1, e12, e13, e14, hc1, hb, hb2, SS, bne_self_eq_false, wr_def, obOf, List.all_cons, List.all_nil, List.map_cons, List.map_nil, List.length_cons, List.length_nil, List.take_zero, List.take_succ_cons, List.take_nil, List.drop_zero, List.drop_succ_cons, List.drop_nil, Nat.reduceAdd, Nat.reduceMul, Nat.reduceSub, if_true, Nat.reduceLT, Nat.reduceLeDiff, ite_true, ite_false, Nat.reduceEqDiff, if_false, reduceCtorEq, ne_eq, List.getD, List.getElem?_cons_zero, List.getElem?_cons_succ, Option.getD_some, Option.bind_some, Option.map_some, Option.isSome_some, reduceIte, List.length_append, List.append_assoc, List.cons_append, List.nil_append, Option.some.injEq, forall_const, implies_true, Int.reduceNeg, eq_self, Prod.mk.injEq, List.self_eq_append_right, List.append_nil, exists_eq_left, exists_eq_left', exists_and_left, exists_eq_right, exists_and_right]
        exact ⟨0, ⟨fun _ => ⟨by omega, hrows, c5⟩, fun _ => rfl⟩, rfl⟩
      · by_cases c6 : miss < 0
        · have hb : decide (miss < 0) = true := decide_eq_true c6
          simp (config := {maxSteps := 8000000}) only [e0, e1, e12, e13, e14, hc1, hb, SS, bne_self_eq_false, wr_def, obOf, List.all_cons, List.all_nil, List.map_cons, List.map_nil, List.length_cons, List.length_nil, List.take_zero, List.take_succ_cons, List.take_nil, List.drop_zero, List.drop_succ_cons, List.drop_nil, Nat.reduceAdd, Nat.reduceMul, Nat.reduceSub, if_true, Nat.reduceLT, Nat.reduceLeDiff, ite_true, ite_false, Nat.reduceEqDiff, if_false, reduceCtorEq, ne_eq, List.getD, List.getElem?_cons_zero, List.getElem?_cons_succ, Option.getD_some, Option.bind_some, Option.map_some, Option.isSome_some, reduceIte, List.length_append, List.append_assoc, List.cons_append, List.nil_append, Option.some.injEq, forall_const, implies_true, Int.reduceNeg, eq_self, Prod.mk.injEq, List.self_eq_append_right, List.append_nil, exists_eq_left, exists_eq_left', exists_and_left, exists_eq_right, exists_and_right]
          exact ⟨4, ⟨fun h => by omega, fun h => absurd h.2.2 c5⟩, rfl⟩
        · have hb : decide (miss < 0) = false := decide_eq_false c6
          have hb2 : decide (1099511627776 < miss) = true := decide_eq_true (by omega)
          simp (config := {maxSteps := 8000000}) only [e0, e1, e12, e13, e14, hc1, hb, hb2, SS, bne_self_eq_false, wr_def, obOf, List.all_cons, List.all_nil, List.map_cons, List.map_nil, List.length_cons, List.length_nil, List.take_zero, List.take_succ_cons, List.take_nil, List.drop_zero, List.drop_succ_cons, List.drop_nil, Nat.reduceAdd, Nat.reduceMul, Nat.reduceSub, if_true, Nat.reduceLT, Nat.reduceLeDiff, ite_true, ite_false, Nat.reduceEqDiff, if_false, reduceCtorEq, ne_eq, List.getD, List.getElem?_cons_zero, List.getElem?_cons_succ, Option.getD_some, Option.bind_some, Option.map_some, Option.isSome_some, reduceIte, List.length_append, List.append_assoc, List.cons_append, List.nil_append, Option.some.injEq, forall_const, implies_true, Int.reduceNeg, eq_self, Prod.mk.injEq, List.self_eq_append_right, List.append_nil, exists_eq_left, exists_eq_left', exists_and_left, exists_eq_right, exists_and_right]
          exact ⟨4, ⟨fun h => by omega, fun h => absurd h.2.2 c5⟩, rfl⟩
  obtain ⟨v, ⟨e, he, rfl⟩, hv⟩ := key
  exact ⟨e, he, hv⟩
end Go.Proofs.Ytaekgifbehoipaa.Hg
/- slices.Clone of whole numbers; slices of slices that are built. Conditions stand in each lemma. -/
namespace Go.Proofs.Ytaekgifbehoipaa.Hg
open Go Go.Proofs.Ytaekgifbehoipaa.Eva Go.Proofs.Ytaekgifbehoipaa.CodeAll Go.Proofs.Ytaekgifbehoipaa.Fl
set_option linter.unusedVariables false
set_option linter.unusedSimpArgs false
set_option maxRecDepth 10000
set_option maxHeartbeats 4000000

theorem clone_i {h : List Ob} {V : AV} {xs : List Int} (hs : SlL h V intC 1 xs) (hf : FgL h V) (hb : xs.length ≤ 1000) :
    ∃ W o, ecall E 87 [V] h = some (W, h ++ o, h.length, h.length) ∧ ((W = .sl true 0 0 0 0 0 ∧ o = [] ∧ xs = []) ∨ (W = .sl false h.length 0 1 0 xs.length ∧ o = [⟨xs.map gI, 0, 1, true, true⟩])) := by
  have hmap : flat intC xs = xs.map gI := by
    clear hs hf hb
    induction xs with
    | nil => rfl
    | cons x xs ih => simp only [flat, List.map_cons, List.flatten_cons] at ih ⊢; rw [ih]; rfl
  obtain ⟨b, hb1, hb2⟩ := hs.eqn
  cases b
  · refine ⟨.sl false h.length 0 1 0 xs.length, [⟨xs.map gI, 0, 1, true, true⟩], ?_, Or.inr ⟨rfl, rfl⟩⟩
    have key : wc E h.length c87.nt c87.code (fun e f h' => exOk e = true ∧ ∃ ep, rvq c87.nt f h' c87.res = some [.sl false h.length ep 1 0 xs.length] ∧ rdObj h' h.length ep = some ⟨xs.map gI, ep, 1, true, true⟩) (ofL [V]) h := by
      simp (config := {maxSteps := 4000000}) only [c87, hb1, SS, bne_self_eq_false, wr_def, obOf, List.all_cons, List.all_nil, List.map_cons, List.map_nil, List.length_cons, List.length_nil, List.take_zero, List.take_succ_cons, List.take_nil, List.drop_zero, List.drop_succ_cons, List.drop_nil, Nat.reduceAdd, Nat.reduceMul, Nat.reduceSub, if_true, Nat.reduceLT, Nat.reduceLeDiff, ite_true, ite_false, Nat.reduceEqDiff, if_false, reduceCtorEq, ne_eq, List.getD, List.getElem?_cons_zero, List.getElem?_cons_succ, Option.getD_some, Option.bind_some, Option.map_some, Option.isSome_some, reduceIte, List.length_append, List.append_assoc, List.cons_append, List.nil_append, Option.some.injEq, forall_const, implies_true, Int.reduceNeg, eq_self, Prod.mk.injEq, List.self_eq_append_right, List.append_nil, exists_eq_left, exists_eq_left', exists_and_left, exists_eq_right, exists_and_right]
      have hcont := fun a b => cont_sl (a := a) (b := b) (SlL.keep hs [⟨[], 0, 1, true, true⟩]) (hf.keep hs _)
      unfold appK
      by_cases hz : xs.length = 0
      · have hx : xs = [] := List.length_eq_zero_iff.1 hz
        subst hx
        have ha : aapp 1 8 ⟨h ++ [⟨[], 0, 1, true, true⟩], h.length, h.length⟩ (.sl false h.length 0 1 0 0) V = some (.sl false h.length 0 1 0 0, ⟨h ++ [⟨[], 0, 1, true, true⟩], h.length, h.length⟩) := by
          simp only [aapp, hcont, Option.bind_some, List.length_nil, if_true]
        simp only [appOk, appV, appH, ha]
        refine ⟨⟨trivial, trivial, by simp, by simp⟩, 0, ?_, ?_⟩
        · simp (config := {maxSteps := 4000000}) only [c87, SS, bne_self_eq_false, wr_def, obOf, List.all_cons, List.all_nil, List.map_cons, List.map_nil, List.length_cons, List.length_nil, List.take_zero, List.take_succ_cons, List.take_nil, List.drop_zero, List.drop_succ_cons, List.drop_nil, Nat.reduceAdd, Nat.reduceMul, Nat.reduceSub, if_true, Nat.reduceLT, Nat.reduceLeDiff, ite_true, ite_false, Nat.reduceEqDiff, if_false, reduceCtorEq, ne_eq, List.getD, List.getElem?_cons_zero, List.getElem?_cons_succ, Option.getD_some, Option.bind_some, Option.map_some, Option.isSome_some, reduceIte, List.length_append, List.append_assoc, List.cons_append, List.nil_append, Option.some.injEq, forall_const, implies_true, Int.reduceNeg, eq_self, Prod.mk.injEq, List.self_eq_append_right, List.append_nil, exists_eq_left, exists_eq_left', exists_and_left, exists_eq_right, exists_and_right]
        · simp [rdObj]
      · have ha : aapp 1 8 ⟨h ++ [⟨[], 0, 1, true, true⟩], h.length, h.length⟩ (.sl false h.length 0 1 0 0) V = some (.sl false h.length 1 1 0 xs.length, ⟨h ++ [⟨xs.map gI, 1, 1, true, true⟩], h.length, h.length⟩) := by
          have hr : rdObj (h ++ [(⟨[], 0, 1, true, true⟩ : Ob)]) h.length 0 = some ⟨[], 0, 1, true, true⟩ := by simp [rdObj]
          simp only [aapp, hcont, Option.bind_some, if_neg hz, hr]
          rw [if_pos ⟨trivial, by unfold appLim; omega⟩, if_pos ⟨trivial, by simp⟩, hmap]
          simp
        simp only [appOk, appV, appH, ha]
        refine ⟨⟨trivial, trivial, by simp, by simp⟩, 1, ?_, ?_⟩
        · simp (config := {maxSteps := 4000000}) only [c87, SS, bne_self_eq_false, wr_def, obOf, List.all_cons, List.all_nil, List.map_cons, List.map_nil, List.length_cons, List.length_nil, List.take_zero, List.take_succ_cons, List.take_nil, List.drop_zero, List.drop_succ_cons, List.drop_nil, Nat.reduceAdd, Nat.reduceMul, Nat.reduceSub, if_true, Nat.reduceLT, Nat.reduceLeDiff, ite_true, ite_false, Nat.reduceEqDiff, if_false, reduceCtorEq, ne_eq, List.getD, List.getElem?_cons_zero, List.getElem?_cons_succ, Option.getD_some, Option.bind_some, Option.map_some, Option.isSome_some, reduceIte, List.length_append, List.append_assoc, List.cons_append, List.nil_append, Option.some.injEq, forall_const, implies_true, Int.reduceNeg, eq_self, Prod.mk.injEq, List.self_eq_append_right, List.append_nil, exists_eq_left, exists_eq_left', exists_and_left, exists_eq_right, exists_and_right]
        · simp [rdObj]
    obtain ⟨e, f', h', k1, k2, ⟨k3, ep, k4, k5⟩, k6⟩ := call_wc e87 rfl (Nat.le_of_ble_eq_true rfl) key
    rw [k6 _ k3 k4]
    have := fin_ob (n := c87.nt) (f := f') (k := xs.length) k5 (Nat.le_refl _)
    simp only [mkRes, this, k2]
  · refine ⟨.sl true 0 0 0 0 0, [], ?_, Or.inl ⟨rfl, rfl, hb2 rfl⟩⟩
    have key : wc E h.length c87.nt c87.code (fun e f h' => exOk e = true ∧ rvq c87.nt f h' c87.res = some [.sl true 0 0 0 0 0]) (ofL [V]) h := by
      simp (config := {maxSteps := 4000000}) only [c87, hb1, SS, bne_self_eq_false, wr_def, obOf, List.all_cons, List.all_nil, List.map_cons, List.map_nil, List.length_cons, List.length_nil, List.take_zero, List.take_succ_cons, List.take_nil, List.drop_zero, List.drop_succ_cons, List.drop_nil, Nat.reduceAdd, Nat.reduceMul, Nat.reduceSub, if_true, Nat.reduceLT, Nat.reduceLeDiff, ite_true, ite_false, Nat.reduceEqDiff, if_false, reduceCtorEq, ne_eq, List.getD, List.getElem?_cons_zero, List.getElem?_cons_succ, Option.getD_some, Option.bind_some, Option.map_some, Option.isSome_some, reduceIte, List.length_append, List.append_assoc, List.cons_append, List.nil_append, Option.some.injEq, forall_const, implies_true, Int.reduceNeg, eq_self, Prod.mk.injEq, List.self_eq_append_right, List.append_nil, exists_eq_left, exists_eq_left', exists_and_left, exists_eq_right, exists_and_right]
    obtain ⟨e, f', h', k1, k2, ⟨k3, k4⟩, k6⟩ := call_wc e87 rfl (Nat.le_of_ble_eq_true rfl) key
    rw [k6 _ k3 k4, mkRes1, fin_ni, k2, List.append_nil]

/-- A slice of slices of whole numbers, of objects from n0 on. -/
structure Wd (n0 : Nat) (h : List Ob) (v : AV) (vs : List AV) (rows : List (List Int)) : Prop where
  isl : IsL n0 h v 1 false vs vs.length
  len : vs.length = rows.length
  rd : ∀ (i : Nat) u r, vs[i]? = some u → rows[i]? = some r → IsL n0 h u 1 true (r.map gI) r.length
  sep : ∀ u, u ∈ vs → ∀ id, idOf u id → ¬ idOf v id
def InW (v : AV) (vs : List AV) (id : Nat) : Prop := idOf v id ∨ ∃ u, u ∈ vs ∧ idOf u id
theorem Wd.mono {n0 : Nat} {h h' : List Ob} {v : AV} {vs : List AV} {rows : List (List Int)} (W : Wd n0 h v vs rows) (hm : ∀ id ep o, InW v vs id → rdObj h id ep = some o → rdObj h' id ep = some o) : Wd n0 h' v vs rows :=
  ⟨W.isl.mono fun id ep o hid ho => hm id ep o (Or.inl hid) ho, W.len, fun i u r hu hr => (W.rd i u r hu hr).mono fun id ep o hid ho => hm id ep o (Or.inr ⟨u, List.mem_of_getElem? hu, hid⟩) ho, W.sep⟩
theorem Wd.keep {n0 : Nat} {h : List Ob} {v : AV} {vs : List AV} {rows : List (List Int)} (W : Wd n0 h v vs rows) (y : List Ob) : Wd n0 (h ++ y) v vs rows := W.mono fun _ _ _ _ ho => rd_keep ho
theorem Wd.lt {n0 : Nat} {h : List Ob} {v : AV} {vs : List AV} {rows : List (List Int)} (W : Wd n0 h v vs rows) {id : Nat} (hid : InW v vs id) : id < h.length := by
  rcases hid with hid | ⟨u, hu, hid⟩
  · exact W.isl.idlt hid
  · obtain ⟨i, hi, hiu⟩ := List.getElem_of_mem hu
    have h1 : vs[i]? = some u := by rw [List.getElem?_eq_getElem hi, hiu]
    have h2 : ∃ r, rows[i]? = some r := ⟨_, List.getElem?_eq_getElem (by rw [← W.len]; exact hi)⟩
    obtain ⟨r, h2⟩ := h2
    exact (W.rd i u r h1 h2).idlt hid
theorem Wd.nil {n0 : Nat} {h : List Ob} : Wd n0 h (.sl true 0 0 0 0 0) [] [] := ⟨IsL.nil, rfl, fun i u r h => by simp at h, fun u h => by simp at h⟩
theorem isl_shape {n0 : Nat} {h : List Ob} {v : AV} {sz k : Nat} {fl : Bool} {cs : List AV} (H : IsL n0 h v sz fl cs k) : cellsOf v = [v] ∧ v.isTup = false ∧ v.scalar = false := by
  rcases H with ⟨rfl, _, _⟩ | ⟨id, ep, rfl, _⟩ <;> exact ⟨rfl, rfl, rfl⟩
/-- One more row. -/
theorem wd_app {n0 j : Nat} {h : List Ob} {v u : AV} {vs : List AV} {rows : List (List Int)} {r : List Int} {P : AV → List Ob → Prop} {rw' : Bool} (W : Wd n0 h v vs rows) (hu : IsL n0 h u 1 true (r.map gI) r.length) (hsep : ∀ id, idOf u id → ¬ InW v vs id)
    (hr : rdObj h j 0 = some ⟨[u], 0, 1, rw', false⟩) (hb : vs.length + 1 ≤ 1000) (hn : n0 ≤ h.length)
    (hK : ∀ v' h', Wd n0 h' v' (vs ++ [u]) (rows ++ [r]) → (∀ id ep o, rdObj h id ep = some o → ¬ idOf v id → rdObj h' id ep = some o) → h.length ≤ h'.length → P v' h') : appK n0 1 24 h v (.sl false j 0 1 0 1) P := by
  refine appK_at (c := [u]) (rw' := rw') (fl' := false) W.isl hr (by simp) rfl (by unfold appLim; omega) hn (fun v' h' hv' hfr hlen' hidv => ?_)
  have hnew : ∀ x, (x ∈ vs ∨ x = u) → ∀ id, idOf x id → ¬ idOf v' id := by
    intro x hx id hid hx'
    have hlt : id < h.length := by
      rcases hx with hx | rfl
      · exact W.lt (Or.inr ⟨x, hx, hid⟩)
      · exact hu.idlt hid
    rcases hidv with h8 | h8
    · have := idOf_inj h8 hx'; omega
    · have h9 := h8 _ hx'
      rcases hx with hx | rfl
      · exact W.sep x hx id hid h9
      · exact hsep id hid (Or.inl h9)
  refine hK v' h' ⟨?_, ?_, ?_, ?_⟩ hfr hlen'
  · rw [List.length_append]; simpa using hv'
  · rw [List.length_append, List.length_append, W.len]; rfl
  · intro i' u' r' hu' hr'
    by_cases hii : i' < vs.length
    · rw [List.getElem?_append_left hii] at hu'
      rw [List.getElem?_append_left (by rw [← W.len]; exact hii)] at hr'
      exact (W.rd i' u' r' hu' hr').mono fun id ep o hid ho => hfr id ep o ho (W.sep u' (List.mem_of_getElem? hu') id hid)
    · have hil2 : i' = vs.length := by
        have := (List.getElem?_eq_some_iff.1 hu').1
        simp at this; omega
      subst hil2
      rw [List.getElem?_append_right (Nat.le_refl _), Nat.sub_self] at hu'
      rw [W.len, List.getElem?_append_right (Nat.le_refl _), Nat.sub_self] at hr'
      simp only [List.getElem?_cons_zero, Option.some.injEq] at hu' hr'
      subst hu'; subst hr'
      exact hu.mono fun id ep o hid ho => hfr id ep o ho (fun h8 => hsep id hid (Or.inl h8))
  · intro x hx id hid
    exact hnew x (by simpa using hx) id hid
end Go.Proofs.Ytaekgifbehoipaa.Hg
/- Costs of the package pair: a slice of slices. Conditions stand in each lemma. -/
namespace Go.Proofs.Ytaekgifbehoipaa.Hg
open Go Go.Proofs.Ytaekgifbehoipaa.Eva Go.Proofs.Ytaekgifbehoipaa.CodeAll Go.Proofs.Ytaekgifbehoipaa.Fl
set_option linter.unusedVariables false
set_option linter.unusedSimpArgs false
set_option maxRecDepth 10000
set_option maxHeartbeats 4000000

noncomputable def fitB (k : K) (l : List Nd) : Bool := (fits_ex k l).choose
noncomputable def fitE (k : K) (l : List Nd) : Int := (fits_ex k l).choose_spec.choose
theorem fit_ok (k : K) (l : List Nd) : k.chk = 0 → tchk l = 0 → fitE k l = 0 := (fits_ex k l).choose_spec.choose_spec.2.1
theorem fit_pc {k : K} {l : List Nd} {H : List Ob} {V : AV} (hs : SlL H V Nd.c 6 l) : pcall E 28 [.agg k.c, V] H = some (.tup [.bool (fitB k l), .int .i64 (fitE k l)]) := (fits_ex k l).choose_spec.choose_spec.2.2.1 hs
theorem fit_val {k : K} {l : List Nd} (h1 : k.chk = 0) (h2 : tchk l = 0) (h3 : (tAt l k.t).2 = 0) : fitB k l = (decide (csq (tAt l k.t).1.x (tAt l k.t).1.y k.x k.y ≤ IntKind.i64.wrap (IntKind.i64.wrap ((tAt l k.t).1.r + k.r) * IntKind.i64.wrap ((tAt l k.t).1.r + k.r))) && decide (max (IntKind.i64.wrap ((tAt l k.t).1.h - k.h)) (IntKind.i64.wrap (k.h - (tAt l k.t).1.h)) ≤ IntKind.i64.wrap ((tAt l k.t).1.b + 100))) := (fits_ex k l).choose_spec.choose_spec.2.2.2 h1 h2 h3
/-- May the track be that of the flight? -/
noncomputable def mayK (k : K) (l : List Nd) (c : Int) : Bool := fitB k l && (decide (k.code < 0) || k.code == c)
noncomputable def costK (k : K) (p : List Nd × Int) : Int :=
  if mayK k p.1 p.2 = true then (if k.code < 0 then w (w ((csq (tAt p.1 k.t).1.x (tAt p.1 k.t).1.y k.x k.y).tdiv 10000) + 1048576) else w ((csq (tAt p.1 k.t).1.x (tAt p.1 k.t).1.y k.x k.y).tdiv 10000)) else -1
noncomputable def rowK (zs : List (List Nd × Int)) (k : K) : List Int := zs.map (costK k)
theorem fin_nest {n0 : Nat} {h : List Ob} {id ep sz k n : Nat} {cs : List AV} {f : Fr} {e : Int} (h2 : rdObj h id ep = some ⟨cs, ep, sz, true, false⟩) (h3 : n0 ≤ id) :
    fin n0 (.tup [.sl false id ep sz 0 k, .int .i64 e]) (stt n f h n0 n0) = (.tup [.sl false id ep sz 0 k, .int .i64 e], h, n0, n0) := by
  have h6 : ¬ (False ∨ id < n0) := by simp; omega
  simp only [fin, Nat.lt_irrefl, if_false, refs, refsL, Bool.false_eq_true, if_neg h6, List.append_nil, dd, List.contains_nil, pickObjs, h2]
theorem fin_niln {n0 : Nat} {h : List Ob} {n : Nat} {f : Fr} {e : Int} :
    fin n0 (.tup [.sl true 0 0 0 0 0, .int .i64 e]) (stt n f h n0 n0) = (.tup [.sl true 0 0 0 0 0, .int .i64 e], h.take n0, n0, n0) := by
  simp only [fin, Nat.lt_irrefl, if_false, refs, refsL, true_or, if_true, List.append_nil, dd, pickObjs, ren, renL]
/-- What Costs returns. -/
def CoP (n0 : Nat) (h : List Ob) (ts : List K) (ls : List (List Nd)) (cs : List Int) (v : AV) (e : Int) : Prop :=
  (e ≠ 0 ∧ v = .sl true 0 0 0 0 0 ∧ (32 < ts.length ∨ prchk ls cs ≠ 0 ∨ ∃ k, k ∈ ts ∧ k.chk ≠ 0)) ∨ (e = 0 ∧ prchk ls cs = 0 ∧ ts.length ≤ 32 ∧ (∀ k ∈ ts, k.chk = 0) ∧ ∃ vs, Wd n0 h v vs (ts.map (rowK (ls.zip cs))))
theorem prchk_len {ls : List (List Nd)} {cs : List Int} (h : prchk ls cs = 0) : ls.length ≤ 24 ∧ cs.length = ls.length := by
  unfold prchk at h
  by_cases c1 : 24 < ls.length
  · rw [if_pos c1] at h; omega
  · rw [if_neg c1] at h
    by_cases c2 : cs.length = ls.length
    · exact ⟨by omega, c2⟩
    · rw [if_pos c2] at h; omega
theorem cgo_ok : ∀ (ls : List (List Nd)) (cs : List Int), cgo ls cs = 0 → cs.length = ls.length → ∀ l ∈ ls, tchk l = 0
  | [], _, _, _, l, hl => by simp at hl
  | l :: ls, [], _, h2, _, _ => by simp at h2
  | l :: ls, c :: cs, h, h2, m, hm => by
    rw [cgo] at h
    by_cases c1 : (tchk l != 0) = true
    · rw [if_pos c1] at h
      rw [bne_iff_ne] at c1
      exact absurd h c1
    · rw [if_neg c1] at h
      have c1' : tchk l = 0 := by simpa using c1
      by_cases c2 : (decide (c < 0) || decide (4095 < c)) = true
      · rw [if_pos c2] at h; omega
      · rw [if_neg c2] at h
        rcases List.mem_cons.1 hm with rfl | hm
        · exact c1'
        · exact cgo_ok ls cs h (by simpa using h2) m hm
theorem prchk_ok {ls : List (List Nd)} {cs : List Int} (h : prchk ls cs = 0) : ∀ l ∈ ls, tchk l = 0 := by
  obtain ⟨h1, h2⟩ := prchk_len h
  unfold prchk at h
  rw [if_neg (by omega), if_neg (fun h => h h2)] at h
  exact cgo_ok ls cs h h2
theorem kchk_pc' (k : K) (H : List Ob) : pcall E 63 [.agg k.c] H = some (.int .i64 k.chk) := kchk_pc k.id k.st k.t k.x k.y k.sx k.sy k.h k.ra k.r k.code k.hits k.mis H

theorem costs_ex {H : List Ob} {V W X : AV} {us : List AV} {ts : List K} {ls : List (List Nd)} {cs : List Int} (hs : SlL H V K.c 13 ts) (A : NsS Nd.c 6 H W us ls) (hx : SlL H X intC 1 cs)
    (hb0 : ts.length < 1125899906842624) (hb1 : ls.length < 1125899906842624) (hb2 : cs.length < 1125899906842624) :
    ∃ v e y, CoP H.length (H ++ y) ts ls cs v e ∧ ecall E 62 [V, W, X] H = some (.tup [v, .int .i64 e], H ++ y, H.length, H.length) := by
  have key : wc E H.length c62.nt c62.code (fun ex f h' => exOk ex = true ∧ ∃ v e, rvq c62.nt f h' c62.res = some [v, .int .i64 e] ∧ CoP H.length h' ts ls cs v e) (ofL [V, W, X]) H := by
    have hlen := hs.len
    have hlw := A.out.len
    rw [A.len] at hlw
    have hpc := prchk_pc A hx hb1 hb2
    by_cases c0 : 32 < ts.length
    · have b0 : decide ((32 : Int) < (ts.length : Int)) = true := decide_eq_true (by omega)
      have hp : ∀ h, CoP H.length h ts ls cs (.sl true 0 0 0 0 0) 2 := fun h => Or.inl ⟨by decide, rfl, Or.inl c0⟩
      simp (config := {maxSteps := 8000000}) only [c62, hlen, hlw, b0, SS, bne_self_eq_false, wr_def, obOf, List.all_cons, List.all_nil, List.map_cons, List.map_nil, List.length_cons, List.length_nil, List.take_zero, List.take_succ_cons, List.take_nil, List.drop_zero, List.drop_succ_cons, List.drop_nil, Nat.reduceAdd, Nat.reduceMul, Nat.reduceSub, if_true, Nat.reduceLT, Nat.reduceLeDiff, ite_true, ite_false, Nat.reduceEqDiff, if_false, reduceCtorEq, ne_eq, List.getD, List.getElem?_cons_zero, List.getElem?_cons_succ, Option.getD_some, Option.bind_some, Option.map_some, Option.isSome_some, reduceIte, List.length_append, List.append_assoc, List.cons_append, List.nil_append, Option.some.injEq, forall_const, implies_true, Int.reduceNeg, eq_self, Prod.mk.injEq, List.self_eq_append_right, List.append_nil, exists_eq_left, exists_eq_left', exists_and_left, exists_eq_right, exists_and_right]
      exact ⟨_, _, rfl, hp _⟩
    have b0 : decide ((32 : Int) < (ts.length : Int)) = false := decide_eq_false (by omega)
    by_cases c1 : prchk ls cs = 0
    rotate_left
    · have b1 : (prchk ls cs != 0) = true := bne_iff_ne.2 c1
      have hp : ∀ h, CoP H.length h ts ls cs (.sl true 0 0 0 0 0) (prchk ls cs) := fun h => Or.inl ⟨c1, rfl, Or.inr (Or.inl c1)⟩
      simp (config := {maxSteps := 8000000}) only [c62, hlen, hlw, hpc, b0, b1, SS, bne_self_eq_false, wr_def, obOf, List.all_cons, List.all_nil, List.map_cons, List.map_nil, List.length_cons, List.length_nil, List.take_zero, List.take_succ_cons, List.take_nil, List.drop_zero, List.drop_succ_cons, List.drop_nil, Nat.reduceAdd, Nat.reduceMul, Nat.reduceSub, if_true, Nat.reduceLT, Nat.reduceLeDiff, ite_true, ite_false, Nat.reduceEqDiff, if_false, reduceCtorEq, ne_eq, List.getD, List.getElem?_cons_zero, List.getElem?_cons_succ, Option.getD_some, Option.bind_some, Option.map_some, Option.isSome_some, reduceIte, List.length_append, List.append_assoc, List.cons_append, List.nil_append, Option.some.injEq, forall_const, implies_true, Int.reduceNeg, eq_self, Prod.mk.injEq, List.self_eq_append_right, List.append_nil, exists_eq_left, exists_eq_left', exists_and_left, exists_eq_right, exists_and_right]
      exact ⟨_, _, rfl, hp _⟩
    rw [c1] at hpc
    have n0 : ((0 : Int) != 0) = false := rfl
    obtain ⟨hl24, hcl⟩ := prchk_len c1
    have htk := prchk_ok c1
    simp (config := {maxSteps := 8000000}) only [c62, hlen, hlw, hpc, b0, n0, SS, bne_self_eq_false, wr_def, obOf, List.all_cons, List.all_nil, List.map_cons, List.map_nil, List.length_cons, List.length_nil, List.take_zero, List.take_succ_cons, List.take_nil, List.drop_zero, List.drop_succ_cons, List.drop_nil, Nat.reduceAdd, Nat.reduceMul, Nat.reduceSub, if_true, Nat.reduceLT, Nat.reduceLeDiff, ite_true, ite_false, Nat.reduceEqDiff, if_false, reduceCtorEq, ne_eq, List.getD, List.getElem?_cons_zero, List.getElem?_cons_succ, Option.getD_some, Option.bind_some, Option.map_some, Option.isSome_some, reduceIte, List.length_append, List.append_assoc, List.cons_append, List.nil_append, Option.some.injEq, forall_const, implies_true, Int.reduceNeg, eq_self, Prod.mk.injEq, List.self_eq_append_right, List.append_nil, exists_eq_left, exists_eq_left', exists_and_left, exists_eq_right, exists_and_right]
    refine W_loop (fun q f1 h1 => ∃ (i : Nat) (vs : List AV), q = ts.length - i ∧ i ≤ ts.length ∧ f1 1 = W ∧ f1 2 = X ∧ f1 30 = V ∧ f1 31 = .int .i64 ts.length ∧ f1 32 = .int .i64 i ∧ Wd H.length h1 (f1 9) vs ((ts.take i).map (rowK (ls.zip cs))) ∧ ∀ (i' : Nat) k, i' < i → ts[i']? = some k → k.chk = 0) (by simp) ts.length ⟨0, [], rfl, by omega, rfl, rfl, rfl, rfl, rfl, Wd.nil, fun i' k h => by omega⟩ ?_
    rintro q f1 h1 hn1 ht ⟨i, vs, rfl, hi, e1, e2, e30, e31, e32, hW, hok0⟩
    rw [List.take_length] at ht
    have hH := take_eq ht
    generalize h1.drop H.length = y at hH
    subst hH
    by_cases hil : i < ts.length
    · have hil' : decide ((i : Int) < (ts.length : Int)) = true := decide_eq_true (by omega)
      obtain ⟨k, hk⟩ : ∃ b, ts[i]? = some b := ⟨_, List.getElem?_eq_getElem hil⟩
      have hwi : IntKind.i64.wrap ((i : Int) + 1) = ((i + 1 : Nat) : Int) := by rw [wrap64 (by omega) (by omega)]; omega
      have hok : idxOk 13 V (.int .i64 (i : Int)) := hs.ok (by omega) (by omega)
      have hld := fun z => (hs.keep z).ldn (i := (i : Int)) (kk := .i64) (x := k) (by omega) (by simpa using hk)
      have hkc := fun H => kchk_pc' k H
      simp only [K.c] at hld hkc
      by_cases hkk : k.chk = 0
      rotate_left
      · have b2 : (k.chk != 0) = true := bne_iff_ne.2 hkk
        simp (config := {maxSteps := 8000000}) only [e1, e2, e30, e31, e32, hil', hwi, hok, isPtr_idx hok, hld, hlw, hn1, hkc, b2, SS, bne_self_eq_false, wr_def, obOf, List.all_cons, List.all_nil, List.map_cons, List.map_nil, List.length_cons, List.length_nil, List.take_zero, List.take_succ_cons, List.take_nil, List.drop_zero, List.drop_succ_cons, List.drop_nil, Nat.reduceAdd, Nat.reduceMul, Nat.reduceSub, if_true, Nat.reduceLT, Nat.reduceLeDiff, ite_true, ite_false, Nat.reduceEqDiff, if_false, reduceCtorEq, ne_eq, List.getD, List.getElem?_cons_zero, List.getElem?_cons_succ, Option.getD_some, Option.bind_some, Option.map_some, Option.isSome_some, reduceIte, List.length_append, List.append_assoc, List.cons_append, List.nil_append, Option.some.injEq, forall_const, implies_true, Int.reduceNeg, eq_self, Prod.mk.injEq, List.self_eq_append_right, List.append_nil, exists_eq_left, exists_eq_left', exists_and_left, exists_eq_right, exists_and_right]
        exact ⟨_, _, rfl, Or.inl ⟨hkk, rfl, Or.inr (Or.inr ⟨k, List.mem_of_getElem? hk, hkk⟩)⟩⟩
      rw [hkk] at hkc
      simp (config := {maxSteps := 8000000}) only [e1, e2, e30, e31, e32, hil', hwi, hok, isPtr_idx hok, hld, hlw, hn1, hkc, n0, SS, bne_self_eq_false, wr_def, obOf, List.all_cons, List.all_nil, List.map_cons, List.map_nil, List.length_cons, List.length_nil, List.take_zero, List.take_succ_cons, List.take_nil, List.drop_zero, List.drop_succ_cons, List.drop_nil, Nat.reduceAdd, Nat.reduceMul, Nat.reduceSub, if_true, Nat.reduceLT, Nat.reduceLeDiff, ite_true, ite_false, Nat.reduceEqDiff, if_false, reduceCtorEq, ne_eq, List.getD, List.getElem?_cons_zero, List.getElem?_cons_succ, Option.getD_some, Option.bind_some, Option.map_some, Option.isSome_some, reduceIte, List.length_append, List.append_assoc, List.cons_append, List.nil_append, Option.some.injEq, forall_const, implies_true, Int.reduceNeg, eq_self, Prod.mk.injEq, List.self_eq_append_right, List.append_nil, exists_eq_left, exists_eq_left', exists_and_left, exists_eq_right, exists_and_right]
      have hltY : ∀ id, InW (f1 9) vs id → id < H.length + y.length := fun id hid => by have := hW.lt hid; simpa using this
      obtain ⟨zs, hzs⟩ : ∃ zs, ls.zip cs = zs := ⟨_, rfl⟩
      have hzl : zs.length = ls.length := by rw [← hzs, List.length_zip, hcl, Nat.min_self]
      rw [hzs] at hW ⊢
      refine W_loop (fun q f2 h2 => ∃ (j : Nat), q = ls.length - j ∧ j ≤ ls.length ∧ f2 1 = W ∧ f2 2 = X ∧ f2 9 = f1 9 ∧ f2 11 = .ptr (H.length + y.length) 0 0 ∧ f2 30 = V ∧ f2 31 = .int .i64 ts.length ∧ f2 32 = .int .i64 i ∧ f2 41 = W ∧ f2 42 = .int .i64 ls.length ∧ f2 43 = .int .i64 j ∧ rdObj h2 (H.length + y.length) 0 = some ⟨k.c, 0, 0, true, true⟩ ∧ Wd H.length h2 (f1 9) vs ((ts.take i).map (rowK zs)) ∧
        IsL H.length h2 (f2 13) 1 true (((zs.take j).map (costK k)).map gI) j ∧ ¬ idOf (f2 13) (H.length + y.length) ∧ (∀ id, idOf (f2 13) id → ¬ InW (f1 9) vs id)) (by simp) ls.length ⟨0, rfl, by omega, e1, e2, rfl, rfl, e30, e31, e32, rfl, rfl, rfl, by simp [rdObj, K.c], ?_, IsL.nil, idOf_nil, fun id h => absurd h idOf_nil⟩ ?_
      · have := hW.keep [⟨[.int .i64 k.id, .int .i64 k.st, .int .i64 k.t, .int .i64 k.x, .int .i64 k.y, .int .i64 k.sx, .int .i64 k.sy, .int .i64 k.h, .int .i64 k.ra, .int .i64 k.r, .int .i64 k.code, .int .i64 k.hits, .int .i64 k.mis], 0, 0, true, true⟩]
        rwa [List.append_assoc] at this
      clear e1 e2 e30 e31 e32
      rintro q f2 h2 hn2 ht2 ⟨j, rfl, hj, e1, e2, e9, e11, e30, e31, e32, e41, e42, e43, r11, hW2, hv, hid1, hid2⟩
      rw [List.take_left] at ht2
      have hH2 := take_eq ht2
      generalize h2.drop H.length = z at hH2
      subst hH2
      by_cases hjl : j < ls.length
      · have hjl' : decide ((j : Int) < (ls.length : Int)) = true := decide_eq_true (by omega)
        obtain ⟨u, l, hl, hu, hsl, hldu, hok2⟩ := NsS.row A hjl
        obtain ⟨c, hc⟩ : ∃ c, cs[j]? = some c := ⟨_, List.getElem?_eq_getElem (by omega)⟩
        have hz : zs[j]? = some (l, c) := by rw [← hzs, List.getElem?_zip_eq_some]; exact ⟨hl, hc⟩
        have hwj : IntKind.i64.wrap ((j : Int) + 1) = ((j + 1 : Nat) : Int) := by rw [wrap64 (by omega) (by omega)]; omega
        have hok3 : idxOk 1 X (.int .i64 (j : Int)) := hx.ok (by omega) (by omega)
        have hld3 : ∀ z, ld1A (H ++ z) (idxV 1 X (.int .i64 (j : Int))) = some (.int .i64 c) := fun z => by rw [(hx.keep z).ld0 (x := c) (by omega) (by simpa using hc)]; rfl
        have r11' : ∀ u, rdObj (H ++ (z ++ u)) (H.length + y.length) 0 = some ⟨k.c, 0, 0, true, true⟩ := fun u => rd_keep2 r11
        have hft := fun z => fit_pc (k := k) (hsl.keep z)
        have hat := fun z => tAt_pc (hsl.keep z) k.t
        have hP := rd_lt r11
        simp only [List.length_append] at hP
        have app : ∀ (C : Int) (A : List Ob) (P : AV → List Ob → Prop), C = costK k (l, c) →
            (∀ v' h', rdObj h' (H.length + y.length) 0 = some ⟨k.c, 0, 0, true, true⟩ → Wd H.length h' (f1 9) vs ((ts.take i).map (rowK zs)) → IsL H.length h' v' 1 true (((zs.take (j + 1)).map (costK k)).map gI) (j + 1) → ¬ idOf v' (H.length + y.length) → (∀ id, idOf v' id → ¬ InW (f1 9) vs id) → P v' h') →
            ∀ m, m = H.length + (z.length + A.length) → appK H.length 1 8 (H ++ (z ++ (A ++ [⟨[.int .i64 C], 0, 1, true, true⟩]))) (f2 13) (.sl false m 0 1 0 1) P := by
          rintro C A P hC hP' m rfl
          have hlz : (H ++ (z ++ (A ++ [(⟨[.int .i64 C], 0, 1, true, true⟩ : Ob)]))).length = H.length + (z.length + (A.length + 1)) := by simp
          refine appK_at (c := [.int .i64 C]) (rw' := true) (fl' := true) (hv.keep2 _) (by simp [rdObj]) (by simp; omega) rfl (by unfold appLim; omega) (by simp) (fun v' h' hv' hfr hlen' hidv => ?_)
          have hnew : ∀ id, idOf v' id → id ≠ H.length + y.length ∧ ¬ InW (f1 9) vs id := by
            intro id hx
            rcases hidv with h | h
            · have := idOf_inj h hx
              rw [hlz] at this
              refine ⟨by omega, fun hin => ?_⟩
              have := hltY id hin
              omega
            · exact ⟨fun e => hid1 (by rw [← e]; exact h _ hx), hid2 id (h _ hx)⟩
          refine hP' v' h' (hfr _ _ _ (rd_keep2 r11) hid1) (hW2.mono fun id ep o hin ho => hfr id ep o (rd_keep2 ho) fun hx => hid2 id hx hin) ?_ (fun hx => (hnew _ hx).1 rfl) (fun id hx => (hnew id hx).2)
          have e : ((zs.take (j + 1)).map (costK k)).map gI = ((zs.take j).map (costK k)).map gI ++ [.int .i64 C] := by
            rw [List.take_add_one, hz, hC]; simp [gI]
          rw [e]
          simpa using hv'
        have hck : costK k (l, c) = if mayK k l c = true then (if k.code < 0 then w (w ((csq (tAt l k.t).1.x (tAt l k.t).1.y k.x k.y).tdiv 10000) + 1048576) else w ((csq (tAt l k.t).1.x (tAt l k.t).1.y k.x k.y).tdiv 10000)) else -1 := rfl
        have hmk : mayK k l c = (fitB k l && (decide (k.code < 0) || k.code == c)) := rfl
        obtain ⟨⟨nn, ne⟩, hnn⟩ : ∃ R, tAt l k.t = R := ⟨_, rfl⟩
        rw [hnn] at hck hat
        generalize fitB k l = fb at *
        generalize fitE k l = fe at *
        simp only [K.c] at r11 r11' hft
        simp only [nout, Nd.c] at hat
        have hq := abin_quo .i64 (csq nn.x nn.y k.x k.y) (10000 : Int) (by decide)
        cases fb
        · rw [Bool.false_and] at hmk
          rw [hmk, if_neg (by decide)] at hck
          simp (config := {maxSteps := 8000000}) only [e1, e2, e9, e11, e30, e31, e32, e41, e42, e43, r11, r11', hjl', hwj, hok2, isPtr_idx hok2, hldu, hft, hn2, SS, bne_self_eq_false, wr_def, obOf, List.all_cons, List.all_nil, List.map_cons, List.map_nil, List.length_cons, List.length_nil, List.take_zero, List.take_succ_cons, List.take_nil, List.drop_zero, List.drop_succ_cons, List.drop_nil, Nat.reduceAdd, Nat.reduceMul, Nat.reduceSub, if_true, Nat.reduceLT, Nat.reduceLeDiff, ite_true, ite_false, Nat.reduceEqDiff, if_false, reduceCtorEq, ne_eq, List.getD, List.getElem?_cons_zero, List.getElem?_cons_succ, Option.getD_some, Option.bind_some, Option.map_some, Option.isSome_some, reduceIte, List.length_append, List.append_assoc, List.cons_append, List.nil_append, Option.some.injEq, forall_const, implies_true, Int.reduceNeg, eq_self, Prod.mk.injEq, List.self_eq_append_right, List.append_nil, exists_eq_left, exists_eq_left', exists_and_left, exists_eq_right, exists_and_right]
          exact app (-1) [] _ hck.symm (fun v' h' a b c d e => ⟨_, by omega, j + 1, rfl, by omega, rfl, a, b, c, d, e⟩) _ rfl
        · rw [Bool.true_and] at hmk
          by_cases hc0 : k.code < 0
          · have b4 : decide (k.code < 0) = true := decide_eq_true hc0
            rw [b4, Bool.true_or] at hmk
            rw [hmk, if_pos rfl, if_pos hc0] at hck
            simp (config := {maxSteps := 8000000}) only [e1, e2, e9, e11, e30, e31, e32, e41, e42, e43, r11, r11', hjl', hwj, hok2, isPtr_idx hok2, hok3, isPtr_idx hok3, hldu, hld3, hft, hat, csq_pc, hq, b4, hn2, SS, bne_self_eq_false, wr_def, obOf, List.all_cons, List.all_nil, List.map_cons, List.map_nil, List.length_cons, List.length_nil, List.take_zero, List.take_succ_cons, List.take_nil, List.drop_zero, List.drop_succ_cons, List.drop_nil, Nat.reduceAdd, Nat.reduceMul, Nat.reduceSub, if_true, Nat.reduceLT, Nat.reduceLeDiff, ite_true, ite_false, Nat.reduceEqDiff, if_false, reduceCtorEq, ne_eq, List.getD, List.getElem?_cons_zero, List.getElem?_cons_succ, Option.getD_some, Option.bind_some, Option.map_some, Option.isSome_some, reduceIte, List.length_append, List.append_assoc, List.cons_append, List.nil_append, Option.some.injEq, forall_const, implies_true, Int.reduceNeg, eq_self, Prod.mk.injEq, List.self_eq_append_right, List.append_nil, exists_eq_left, exists_eq_left', exists_and_left, exists_eq_right, exists_and_right]
            exact app _ [⟨nn.c, 0, 0, true, true⟩] _ hck.symm (fun v' h' a b c d e => ⟨_, by omega, j + 1, rfl, by omega, rfl, a, b, c, d, e⟩) _ rfl
          · have b4 : decide (k.code < 0) = false := decide_eq_false hc0
            rw [b4, Bool.false_or] at hmk
            by_cases hcc : k.code = c
            · have b5 : (k.code == c) = true := by rw [beq_iff_eq]; exact hcc
              rw [hmk, b5, if_pos rfl, if_neg hc0] at hck
              simp (config := {maxSteps := 8000000}) only [e1, e2, e9, e11, e30, e31, e32, e41, e42, e43, r11, r11', hjl', hwj, hok2, isPtr_idx hok2, hok3, isPtr_idx hok3, hldu, hld3, hft, hat, csq_pc, hq, b4, b5, hn2, SS, bne_self_eq_false, wr_def, obOf, List.all_cons, List.all_nil, List.map_cons, List.map_nil, List.length_cons, List.length_nil, List.take_zero, List.take_succ_cons, List.take_nil, List.drop_zero, List.drop_succ_cons, List.drop_nil, Nat.reduceAdd, Nat.reduceMul, Nat.reduceSub, if_true, Nat.reduceLT, Nat.reduceLeDiff, ite_true, ite_false, Nat.reduceEqDiff, if_false, reduceCtorEq, ne_eq, List.getD, List.getElem?_cons_zero, List.getElem?_cons_succ, Option.getD_some, Option.bind_some, Option.map_some, Option.isSome_some, reduceIte, List.length_append, List.append_assoc, List.cons_append, List.nil_append, Option.some.injEq, forall_const, implies_true, Int.reduceNeg, eq_self, Prod.mk.injEq, List.self_eq_append_right, List.append_nil, exists_eq_left, exists_eq_left', exists_and_left, exists_eq_right, exists_and_right]
              exact app _ [⟨nn.c, 0, 0, true, true⟩] _ hck.symm (fun v' h' a b c d e => ⟨_, by omega, j + 1, rfl, by omega, rfl, a, b, c, d, e⟩) _ rfl
            · have b5 : (k.code == c) = false := by rw [beq_eq_false_iff_ne]; exact hcc
              rw [hmk, b5, if_neg (by decide)] at hck
              simp (config := {maxSteps := 8000000}) only [e1, e2, e9, e11, e30, e31, e32, e41, e42, e43, r11, r11', hjl', hwj, hok2, isPtr_idx hok2, hok3, isPtr_idx hok3, hldu, hld3, hft, hat, csq_pc, hq, b4, b5, hn2, SS, bne_self_eq_false, wr_def, obOf, List.all_cons, List.all_nil, List.map_cons, List.map_nil, List.length_cons, List.length_nil, List.take_zero, List.take_succ_cons, List.take_nil, List.drop_zero, List.drop_succ_cons, List.drop_nil, Nat.reduceAdd, Nat.reduceMul, Nat.reduceSub, if_true, Nat.reduceLT, Nat.reduceLeDiff, ite_true, ite_false, Nat.reduceEqDiff, if_false, reduceCtorEq, ne_eq, List.getD, List.getElem?_cons_zero, List.getElem?_cons_succ, Option.getD_some, Option.bind_some, Option.map_some, Option.isSome_some, reduceIte, List.length_append, List.append_assoc, List.cons_append, List.nil_append, Option.some.injEq, forall_const, implies_true, Int.reduceNeg, eq_self, Prod.mk.injEq, List.self_eq_append_right, List.append_nil, exists_eq_left, exists_eq_left', exists_and_left, exists_eq_right, exists_and_right]
              exact app (-1) [] _ hck.symm (fun v' h' a b c d e => ⟨_, by omega, j + 1, rfl, by omega, rfl, a, b, c, d, e⟩) _ rfl
      · have hjl' : decide ((j : Int) < (ls.length : Int)) = false := decide_eq_false (by omega)
        obtain ⟨sh1, sh2, sh3⟩ := isl_shape hv
        have hjE : j = zs.length := by omega
        subst hjE
        rw [List.take_length] at hv
        have hvl : vs.length = i := by rw [hW2.len, List.length_map, List.length_take]; omega
        simp (config := {maxSteps := 8000000}) only [e1, e2, e9, e11, e30, e31, e32, e41, e42, e43, hjl', hwi, hn2, sh1, sh2, sh3, SS, bne_self_eq_false, wr_def, obOf, List.all_cons, List.all_nil, List.map_cons, List.map_nil, List.length_cons, List.length_nil, List.take_zero, List.take_succ_cons, List.take_nil, List.drop_zero, List.drop_succ_cons, List.drop_nil, Nat.reduceAdd, Nat.reduceMul, Nat.reduceSub, if_true, Nat.reduceLT, Nat.reduceLeDiff, ite_true, ite_false, Nat.reduceEqDiff, if_false, reduceCtorEq, ne_eq, List.getD, List.getElem?_cons_zero, List.getElem?_cons_succ, Option.getD_some, Option.bind_some, Option.map_some, Option.isSome_some, reduceIte, List.length_append, List.append_assoc, List.cons_append, List.nil_append, Option.some.injEq, forall_const, implies_true, Int.reduceNeg, eq_self, Prod.mk.injEq, List.self_eq_append_right, List.append_nil, exists_eq_left, exists_eq_left', exists_and_left, exists_eq_right, exists_and_right]
        refine wd_app (u := f2 13) (r := rowK zs k) (rw' := true) (hW2.mono fun _ _ _ _ ho => rd_keep2 ho) ?_ hid2 (by simp [rdObj]) (by omega) (by simp) (fun v' h' a b c => ?_)
        · have e : (rowK zs k).length = zs.length := by rw [rowK, List.length_map]
          rw [e]
          exact hv.mono fun _ _ _ _ ho => rd_keep2 ho
        · have e : (ts.take i).map (rowK zs) ++ [rowK zs k] = (ts.take (i + 1)).map (rowK zs) := by
            rw [List.take_add_one, hk]; simp
          rw [e] at a
          refine ⟨_, by omega, i + 1, rfl, by omega, rfl, ⟨_, a⟩, fun i' k' hi' hk' => ?_⟩
          by_cases h : i' < i
          · exact hok0 i' k' h hk'
          · have : i' = i := by omega
            subst this
            rw [hk] at hk'
            simp only [Option.some.injEq] at hk'
            rw [← hk']; exact hkk
    · have hil' : decide ((i : Int) < (ts.length : Int)) = false := decide_eq_false (by omega)
      simp (config := {maxSteps := 8000000}) only [e1, e2, e30, e31, e32, hil', SS, bne_self_eq_false, wr_def, obOf, List.all_cons, List.all_nil, List.map_cons, List.map_nil, List.length_cons, List.length_nil, List.take_zero, List.take_succ_cons, List.take_nil, List.drop_zero, List.drop_succ_cons, List.drop_nil, Nat.reduceAdd, Nat.reduceMul, Nat.reduceSub, if_true, Nat.reduceLT, Nat.reduceLeDiff, ite_true, ite_false, Nat.reduceEqDiff, if_false, reduceCtorEq, ne_eq, List.getD, List.getElem?_cons_zero, List.getElem?_cons_succ, Option.getD_some, Option.bind_some, Option.map_some, Option.isSome_some, reduceIte, List.length_append, List.append_assoc, List.cons_append, List.nil_append, Option.some.injEq, forall_const, implies_true, Int.reduceNeg, eq_self, Prod.mk.injEq, List.self_eq_append_right, List.append_nil, exists_eq_left, exists_eq_left', exists_and_left, exists_eq_right, exists_and_right]
      have hiE : i = ts.length := by omega
      subst hiE
      rw [List.take_length] at hW
      refine ⟨_, _, rfl, Or.inr ⟨rfl, c1, by omega, fun k hk => ?_, vs, hW⟩⟩
      obtain ⟨i', hi'⟩ := List.mem_iff_getElem?.1 hk
      exact hok0 i' k (List.getElem?_eq_some_iff.1 hi').1 hi'
  obtain ⟨ex, f', h', k1, k2, ⟨k3, v, e, k4, k5⟩, k6⟩ := call_wc e62 rfl (Nat.le_of_ble_eq_true rfl) key
  have hh : h' = H ++ h'.drop H.length := take_eq k2
  have hE := k6 _ k3 k4
  simp only [mkRes] at hE
  rcases k5 with ⟨he, rfl, hx⟩ | ⟨rfl, hp, hl, hck, vs, hW⟩
  · refine ⟨_, e, [], Or.inl ⟨he, rfl, hx⟩, ?_⟩
    rw [hE, fin_niln, k2, List.append_nil]
  · rcases hW.isl with ⟨rfl, hvs, _⟩ | ⟨id, ep, rfl, h2, h3, h4⟩
    · subst hvs
      have hr : ts.map (rowK (ls.zip cs)) = [] := List.length_eq_zero_iff.1 (by rw [← hW.len]; rfl)
      refine ⟨_, 0, [], Or.inr ⟨rfl, hp, hl, hck, [], by rw [hr]; exact Wd.nil⟩, ?_⟩
      rw [hE, fin_niln, k2, List.append_nil]
    · refine ⟨_, 0, h'.drop H.length, Or.inr ⟨rfl, hp, hl, hck, vs, by rw [← hh]; exact hW⟩, ?_⟩
      rw [hE, fin_nest h2 h3, ← hh]
end Go.Proofs.Ytaekgifbehoipaa.Hg
/- What square of the package assign answers. Conditions stand in each lemma. -/
namespace Go.Proofs.Ytaekgifbehoipaa.Hg
open Go Go.Proofs.Ytaekgifbehoipaa.Eva Go.Proofs.Ytaekgifbehoipaa.CodeAll Go.Proofs.Ytaekgifbehoipaa.Fl
set_option linter.unusedVariables false
set_option linter.unusedSimpArgs false
set_option maxRecDepth 10000
set_option maxHeartbeats 4000000

def fixC (c : Int) : Int := if c < 0 then 1125899906842624 else c
def priv (miss : Int) (i k : Nat) : Int := if k = i then miss else 1125899906842624
def sqRow (R : Nat) (miss : Int) (i : Nat) (r : List Int) : List Int := r.map fixC ++ (List.range R).map (priv miss i)
def gRow (rows : List (List Int)) (j : Nat) : List Int := (rows[j]?).getD []
theorem gRow_eq {rows : List (List Int)} {j : Nat} {r : List Int} (h : rows[j]? = some r) : gRow rows j = r := by simp [gRow, h]
def sqTo (rows : List (List Int)) (miss : Int) (i : Nat) : List (List Int) := (List.range i).map fun j => sqRow rows.length miss j (gRow rows j)
theorem sqTo_succ {rows : List (List Int)} {miss : Int} {i : Nat} {r : List Int} (h : rows[i]? = some r) : sqTo rows miss (i + 1) = sqTo rows miss i ++ [sqRow rows.length miss i r] := by
  simp [sqTo, List.range_succ, gRow_eq h]
def fixTo (r : List Int) (k : Nat) : List Int := (r.take k).map fixC ++ r.drop k
theorem fixTo_len {r : List Int} {k : Nat} : (fixTo r k).length = r.length := by simp [fixTo]; omega
theorem fixTo_get {r : List Int} {k : Nat} {c : Int} (h : r[k]? = some c) : (fixTo r k)[k]? = some c := by
  have hk := (List.getElem?_eq_some_iff.1 h).1
  have hl : ((r.take k).map fixC).length = k := by simp; omega
  rw [fixTo, List.getElem?_append_right (by omega), hl, Nat.sub_self, List.getElem?_drop, Nat.add_zero, h]
theorem fixTo_set {r : List Int} {k : Nat} {c : Int} (h : r[k]? = some c) : (fixTo r k).set k (fixC c) = fixTo r (k + 1) := by
  have hk := (List.getElem?_eq_some_iff.1 h).1
  have hl : ((r.take k).map fixC).length = k := by simp; omega
  have hd : r.drop k = c :: r.drop (k + 1) := by
    rw [List.drop_eq_getElem_cons hk]; congr 1
    rw [List.getElem?_eq_getElem hk] at h; simpa using h
  rw [fixTo, List.set_append_right _ _ (by omega), hl, Nat.sub_self, hd, List.set_cons_zero, fixTo, List.take_add_one, h]
  simp
theorem fixTo_same {r : List Int} {k : Nat} {c : Int} (h : r[k]? = some c) (h0 : ¬ c < 0) : fixTo r k = fixTo r (k + 1) := by
  rw [← fixTo_set h]
  have : fixC c = c := by simp [fixC, h0]
  rw [this]
  apply List.ext_getElem?
  intro j
  rw [List.getElem?_set]
  split
  · rename_i e; subst e
    rw [fixTo_get h]; split <;> simp_all
    rw [fixTo_len] at *; have := (List.getElem?_eq_some_iff.1 h).1; omega
  · rfl
theorem _root_.Go.Proofs.Ytaekgifbehoipaa.Eva.Arr.bu {α : Type} {n0 : Nat} {h : List Ob} {v : AV} {g : α → AV} {xs : List α} (A : Arr n0 h v g xs) : Bu n0 h v 1 (xs.map g) xs.length := by
  obtain ⟨id, ep, rfl, h2, h3⟩ := A
  exact ⟨by simp, Or.inr ⟨id, ep, _, rfl, h2, h3, Or.inr rfl⟩⟩
theorem _root_.Go.Proofs.Ytaekgifbehoipaa.Eva.Bu.len {n0 : Nat} {h : List Ob} {v : AV} {sz : Nat} {cs : List AV} {k : Nat} (B : Bu n0 h v sz cs k) : lenvA false v = some (.int .i64 k) := by
  obtain ⟨_, ⟨rfl, rfl⟩ | ⟨id, ep, cs', rfl, _⟩⟩ := B <;> rfl
theorem _root_.Go.Proofs.Ytaekgifbehoipaa.Eva.Bu.mono {n0 : Nat} {h h' : List Ob} {v : AV} {sz : Nat} {cs : List AV} {k : Nat} (B : Bu n0 h v sz cs k) (hm : ∀ id ep o, idOf v id → rdObj h id ep = some o → rdObj h' id ep = some o) : Bu n0 h' v sz cs k := by
  obtain ⟨hl, ⟨rfl, rfl⟩ | ⟨id, ep, cs', rfl, h2, h3, h4⟩⟩ := B
  · exact ⟨hl, Or.inl ⟨rfl, rfl⟩⟩
  · exact ⟨hl, Or.inr ⟨id, ep, cs', rfl, hm _ _ _ ⟨rfl, rfl⟩ h2, h3, h4⟩⟩
theorem _root_.Go.Proofs.Ytaekgifbehoipaa.Eva.Bu.idlt {n0 : Nat} {h : List Ob} {v : AV} {sz : Nat} {cs : List AV} {k : Nat} (B : Bu n0 h v sz cs k) {id : Nat} (hid : idOf v id) : id < h.length := by
  obtain ⟨hl, ⟨rfl, rfl⟩ | ⟨id', ep, cs', rfl, h2, h3, h4⟩⟩ := B
  · exact absurd hid idOf_nil
  · obtain ⟨_, rfl⟩ := hid; exact rd_lt h2
theorem _root_.Go.Proofs.Ytaekgifbehoipaa.Eva.Bu.shape {n0 : Nat} {h : List Ob} {v : AV} {sz : Nat} {cs : List AV} {k : Nat} (B : Bu n0 h v sz cs k) : cellsOf v = [v] ∧ v.isTup = false ∧ v.scalar = false := by
  obtain ⟨hl, ⟨rfl, rfl⟩ | ⟨id', ep, cs', rfl, h2, h3, h4⟩⟩ := B <;> exact ⟨rfl, rfl, rfl⟩
theorem fin_nest1 {n0 : Nat} {h : List Ob} {id ep sz k n : Nat} {cs : List AV} {f : Fr} (h2 : rdObj h id ep = some ⟨cs, ep, sz, true, false⟩) (h3 : n0 ≤ id) :
    fin n0 (.sl false id ep sz 0 k) (stt n f h n0 n0) = (.sl false id ep sz 0 k, h, n0, n0) := by
  have h6 : ¬ (False ∨ id < n0) := by simp; omega
  simp only [fin, Nat.lt_irrefl, if_false, refs, refsL, Bool.false_eq_true, if_neg h6, List.append_nil, dd, List.contains_nil, pickObjs, h2]
theorem range_take {α : Type} {R k : Nat} {g : Nat → α} (h : k < R) : (List.range (k + 1)).map g = (List.range k).map g ++ [g k] := by simp [List.range_succ]

theorem square_ex {H : List Ob} {V : AV} {vs : List AV} {rows : List (List Int)} (A : NsL H V vs rows) (hf : ∀ u ∈ vs, FgL H u) {miss : Int} (hok : Ok rows miss) :
    ∃ v vs' y, Wd H.length (H ++ y) v vs' (sqTo rows miss rows.length) ∧ ecall E 47 [V, .int .i64 miss] H = some (v, H ++ y, H.length, H.length) := by
  obtain ⟨hR, ⟨nC, hC⟩, hm0, hm1⟩ := hok
  have key : wc E H.length c47.nt c47.code (fun e f h' => exOk e = true ∧ ∃ v, rvq c47.nt f h' c47.res = some [v] ∧ ∃ vs', Wd H.length h' v vs' (sqTo rows miss rows.length)) (ofL [V, .int .i64 miss]) H := by
    have hlen := A.out.len
    rw [A.len] at hlen
    simp (config := {maxSteps := 8000000}) only [c47, hlen, SS, bne_self_eq_false, wr_def, obOf, List.all_cons, List.all_nil, List.map_cons, List.map_nil, List.length_cons, List.length_nil, List.take_zero, List.take_succ_cons, List.take_nil, List.drop_zero, List.drop_succ_cons, List.drop_nil, Nat.reduceAdd, Nat.reduceMul, Nat.reduceSub, if_true, Nat.reduceLT, Nat.reduceLeDiff, ite_true, ite_false, Nat.reduceEqDiff, if_false, reduceCtorEq, ne_eq, List.getD, List.getElem?_cons_zero, List.getElem?_cons_succ, Option.getD_some, Option.bind_some, Option.map_some, Option.isSome_some, reduceIte, List.length_append, List.append_assoc, List.cons_append, List.nil_append, Option.some.injEq, forall_const, implies_true, Int.reduceNeg, eq_self, Prod.mk.injEq, List.self_eq_append_right, List.append_nil, exists_eq_left, exists_eq_left', exists_and_left, exists_eq_right, exists_and_right]
    refine W_loop (fun q f1 h1 => ∃ i : Nat, q = rows.length - i ∧ i ≤ rows.length ∧ f1 0 = V ∧ f1 1 = .int .i64 miss ∧ f1 13 = V ∧ f1 14 = .int .i64 (rows.length : Int) ∧ f1 15 = .int .i64 (i : Int) ∧ ∃ vs', Wd H.length h1 (f1 5) vs' (sqTo rows miss i)) (Nat.le_refl _) rows.length ⟨0, rfl, by omega, rfl, rfl, rfl, rfl, rfl, [], Wd.nil⟩ ?_
    rintro q f1 h1 hn1 ht ⟨i, rfl, hi, e0, e1, e13, e14, e15, vs', hW⟩
    rw [List.take_length] at ht
    have hH := take_eq ht
    generalize h1.drop H.length = x at hH
    subst hH
    by_cases hiR : i < rows.length
    · have hc1 : decide ((i : Int) < (rows.length : Int)) = true := decide_eq_true (by omega)
      have hw1 : IntKind.i64.wrap ((i : Int) + 1) = ((i + 1 : Nat) : Int) := by rw [wrap64 (by omega) (by omega)]; omega
      obtain ⟨u, r, hr, hu, S, d1, o1⟩ := A.row hiR
      have hrm := List.mem_of_getElem? hr
      obtain ⟨r1, r2, r3⟩ := hC r hrm
      have hfu := hf u (List.mem_of_getElem? hu)
      obtain ⟨W, o, hcl, hW0⟩ := clone_i (S.keep x) (hfu.keep S x) (by omega)
      have hcn := ncall_some.2 hcl
      have hB0 : Bu H.length (H ++ (x ++ o)) W 1 (r.map gI) r.length := by
        rcases hW0 with ⟨rfl, rfl, rfl⟩ | ⟨rfl, rfl⟩
        · exact ⟨rfl, Or.inl ⟨rfl, rfl⟩⟩
        · refine ⟨by simp, Or.inr ⟨_, 0, r.map gI, rfl, ?_, by simp, Or.inr rfl⟩⟩
          rw [← List.append_assoc]; exact rd_last (o := ⟨r.map gI, 0, 1, true, true⟩)
      have hid0 : ∀ id, idOf W id → ¬ InW (f1 5) vs' id := by
        intro id hid hin
        have := hW.lt hin
        rcases hW0 with ⟨rfl, rfl, rfl⟩ | ⟨rfl, rfl⟩
        · exact absurd hid idOf_nil
        · obtain ⟨_, rfl⟩ := hid; omega
      have hlW := hB0.len
      have hW1 := hW.keep o
      rw [List.append_assoc] at hW1
      clear hW0 hcl hW
      simp (config := {maxSteps := 8000000}) only [e0, e1, e13, e14, e15, hc1, o1, isPtr_idx o1, d1, rg_calln, ncallV_fn, hcn, hlW, SS, bne_self_eq_false, wr_def, obOf, List.all_cons, List.all_nil, List.map_cons, List.map_nil, List.length_cons, List.length_nil, List.take_zero, List.take_succ_cons, List.take_nil, List.drop_zero, List.drop_succ_cons, List.drop_nil, Nat.reduceAdd, Nat.reduceMul, Nat.reduceSub, if_true, Nat.reduceLT, Nat.reduceLeDiff, ite_true, ite_false, Nat.reduceEqDiff, if_false, reduceCtorEq, ne_eq, List.getD, List.getElem?_cons_zero, List.getElem?_cons_succ, Option.getD_some, Option.bind_some, Option.map_some, Option.isSome_some, reduceIte, List.length_append, List.append_assoc, List.cons_append, List.nil_append, Option.some.injEq, forall_const, implies_true, Int.reduceNeg, eq_self, Prod.mk.injEq, List.self_eq_append_right, List.append_nil, exists_eq_left, exists_eq_left', exists_and_left, exists_eq_right, exists_and_right]
      clear hcn
      generalize hvo : f1 5 = vo at *
      -- what may not be
      refine Go.Proofs.Ytaekgifbehoipaa.Eva.W.mono (Q := fun e f2 h2 => e = .ex 2 ∧ f2 0 = V ∧ f2 1 = .int .i64 miss ∧ f2 5 = vo ∧ f2 6 = .int .i64 (i : Int) ∧ f2 8 = W ∧ f2 13 = V ∧ f2 14 = .int .i64 (rows.length : Int) ∧ f2 15 = .int .i64 (i : Int) ∧ Wd H.length h2 vo vs' (sqTo rows miss i) ∧ Bu H.length h2 W 1 ((fixTo r r.length).map gI) r.length)
        (W_loop (fun q f2 h2 => ∃ k : Nat, q = r.length - k ∧ k ≤ r.length ∧ f2 0 = V ∧ f2 1 = .int .i64 miss ∧ f2 5 = vo ∧ f2 6 = .int .i64 (i : Int) ∧ f2 8 = W ∧ f2 13 = V ∧ f2 14 = .int .i64 (rows.length : Int) ∧ f2 15 = .int .i64 (i : Int) ∧ f2 22 = W ∧ f2 23 = .int .i64 (r.length : Int) ∧ f2 24 = .int .i64 (k : Int) ∧ Wd H.length h2 vo vs' (sqTo rows miss i) ∧ Bu H.length h2 W 1 ((fixTo r k).map gI) r.length) (by simp) r.length
          ⟨0, rfl, by omega, by simp only [e0, SS, bne_self_eq_false, wr_def, obOf, List.all_cons, List.all_nil, List.map_cons, List.map_nil, List.length_cons, List.length_nil, List.take_zero, List.take_succ_cons, List.take_nil, List.drop_zero, List.drop_succ_cons, List.drop_nil, Nat.reduceAdd, Nat.reduceMul, Nat.reduceSub, if_true, Nat.reduceLT, Nat.reduceLeDiff, ite_true, ite_false, Nat.reduceEqDiff, if_false, reduceCtorEq, ne_eq, List.getD, List.getElem?_cons_zero, List.getElem?_cons_succ, Option.getD_some, Option.bind_some, Option.map_some, Option.isSome_some, reduceIte, List.length_append, List.append_assoc, List.cons_append, List.nil_append, Option.some.injEq, forall_const, implies_true, Int.reduceNeg, eq_self, Prod.mk.injEq, List.self_eq_append_right, List.append_nil, exists_eq_left, exists_eq_left', exists_and_left, exists_eq_right, exists_and_right], by simp only [e1, SS, bne_self_eq_false, wr_def, obOf, List.all_cons, List.all_nil, List.map_cons, List.map_nil, List.length_cons, List.length_nil, List.take_zero, List.take_succ_cons, List.take_nil, List.drop_zero, List.drop_succ_cons, List.drop_nil, Nat.reduceAdd, Nat.reduceMul, Nat.reduceSub, if_true, Nat.reduceLT, Nat.reduceLeDiff, ite_true, ite_false, Nat.reduceEqDiff, if_false, reduceCtorEq, ne_eq, List.getD, List.getElem?_cons_zero, List.getElem?_cons_succ, Option.getD_some, Option.bind_some, Option.map_some, Option.isSome_some, reduceIte, List.length_append, List.append_assoc, List.cons_append, List.nil_append, Option.some.injEq, forall_const, implies_true, Int.reduceNeg, eq_self, Prod.mk.injEq, List.self_eq_append_right, List.append_nil, exists_eq_left, exists_eq_left', exists_and_left, exists_eq_right, exists_and_right], by simp only [hvo, SS, bne_self_eq_false, wr_def, obOf, List.all_cons, List.all_nil, List.map_cons, List.map_nil, List.length_cons, List.length_nil, List.take_zero, List.take_succ_cons, List.take_nil, List.drop_zero, List.drop_succ_cons, List.drop_nil, Nat.reduceAdd, Nat.reduceMul, Nat.reduceSub, if_true, Nat.reduceLT, Nat.reduceLeDiff, ite_true, ite_false, Nat.reduceEqDiff, if_false, reduceCtorEq, ne_eq, List.getD, List.getElem?_cons_zero, List.getElem?_cons_succ, Option.getD_some, Option.bind_some, Option.map_some, Option.isSome_some, reduceIte, List.length_append, List.append_assoc, List.cons_append, List.nil_append, Option.some.injEq, forall_const, implies_true, Int.reduceNeg, eq_self, Prod.mk.injEq, List.self_eq_append_right, List.append_nil, exists_eq_left, exists_eq_left', exists_and_left, exists_eq_right, exists_and_right], rfl, rfl, by simp only [e13, SS, bne_self_eq_false, wr_def, obOf, List.all_cons, List.all_nil, List.map_cons, List.map_nil, List.length_cons, List.length_nil, List.take_zero, List.take_succ_cons, List.take_nil, List.drop_zero, List.drop_succ_cons, List.drop_nil, Nat.reduceAdd, Nat.reduceMul, Nat.reduceSub, if_true, Nat.reduceLT, Nat.reduceLeDiff, ite_true, ite_false, Nat.reduceEqDiff, if_false, reduceCtorEq, ne_eq, List.getD, List.getElem?_cons_zero, List.getElem?_cons_succ, Option.getD_some, Option.bind_some, Option.map_some, Option.isSome_some, reduceIte, List.length_append, List.append_assoc, List.cons_append, List.nil_append, Option.some.injEq, forall_const, implies_true, Int.reduceNeg, eq_self, Prod.mk.injEq, List.self_eq_append_right, List.append_nil, exists_eq_left, exists_eq_left', exists_and_left, exists_eq_right, exists_and_right], by simp only [e14, SS, bne_self_eq_false, wr_def, obOf, List.all_cons, List.all_nil, List.map_cons, List.map_nil, List.length_cons, List.length_nil, List.take_zero, List.take_succ_cons, List.take_nil, List.drop_zero, List.drop_succ_cons, List.drop_nil, Nat.reduceAdd, Nat.reduceMul, Nat.reduceSub, if_true, Nat.reduceLT, Nat.reduceLeDiff, ite_true, ite_false, Nat.reduceEqDiff, if_false, reduceCtorEq, ne_eq, List.getD, List.getElem?_cons_zero, List.getElem?_cons_succ, Option.getD_some, Option.bind_some, Option.map_some, Option.isSome_some, reduceIte, List.length_append, List.append_assoc, List.cons_append, List.nil_append, Option.some.injEq, forall_const, implies_true, Int.reduceNeg, eq_self, Prod.mk.injEq, List.self_eq_append_right, List.append_nil, exists_eq_left, exists_eq_left', exists_and_left, exists_eq_right, exists_and_right], by simp only [e15, SS, bne_self_eq_false, wr_def, obOf, List.all_cons, List.all_nil, List.map_cons, List.map_nil, List.length_cons, List.length_nil, List.take_zero, List.take_succ_cons, List.take_nil, List.drop_zero, List.drop_succ_cons, List.drop_nil, Nat.reduceAdd, Nat.reduceMul, Nat.reduceSub, if_true, Nat.reduceLT, Nat.reduceLeDiff, ite_true, ite_false, Nat.reduceEqDiff, if_false, reduceCtorEq, ne_eq, List.getD, List.getElem?_cons_zero, List.getElem?_cons_succ, Option.getD_some, Option.bind_some, Option.map_some, Option.isSome_some, reduceIte, List.length_append, List.append_assoc, List.cons_append, List.nil_append, Option.some.injEq, forall_const, implies_true, Int.reduceNeg, eq_self, Prod.mk.injEq, List.self_eq_append_right, List.append_nil, exists_eq_left, exists_eq_left', exists_and_left, exists_eq_right, exists_and_right], rfl, rfl, rfl, hW1, by simpa [fixTo] using hB0⟩ ?_) ?_
      · clear hW1 hB0 hvo e0 e1 e13 e14 e15
        rintro q f2 h2 hn2 ht2 ⟨k, rfl, hk, e0, e1, e5, e6, e8, e13, e14, e15, e22, e23, e24, hW, hB⟩
        by_cases hkr : k < r.length
        · have hc2 : decide ((k : Int) < (r.length : Int)) = true := decide_eq_true (by omega)
          have hw2 : IntKind.i64.wrap ((k : Int) + 1) = ((k + 1 : Nat) : Int) := by rw [wrap64 (by omega) (by omega)]; omega
          obtain ⟨c, hcc⟩ : ∃ c, r[k]? = some c := ⟨_, List.getElem?_eq_getElem hkr⟩
          have hA : Arr H.length h2 W gI (fixTo r k) := Arr.of_isl (hB.isl (by omega)) fixTo_len.symm (by omega)
          have o2 := hA.ok (kk := .i64) (i := (k : Int)) (by omega) (by rw [fixTo_len]; omega)
          have d2 := hA.ld (kk := .i64) (i := (k : Int)) (by omega) (by rw [Int.toNat_natCast]; exact fixTo_get hcc)
          simp only [gI] at d2
          by_cases hc0 : c < 0
          · have hc3 : decide (c < 0) = true := decide_eq_true hc0
            have s1 := hA.stOk (kk := .i64) (i := (k : Int)) (1125899906842624 : Int) (by omega) (by rw [fixTo_len]; omega)
            obtain ⟨p1, p2, p3⟩ := hA.stH (kk := .i64) (i := (k : Int)) (1125899906842624 : Int) (by omega) (by rw [fixTo_len]; omega)
            have hfx : (1125899906842624 : Int) = fixC c := by simp [fixC, hc0]
            rw [Int.toNat_natCast] at p1
            have p4 := p1.bu
            conv at p4 => arg 5; rw [hfx, fixTo_set hcc]
            rw [List.length_set, fixTo_len] at p4
            simp only [gI] at s1
            simp (config := {maxSteps := 8000000}) only [e0, e1, e5, e6, e8, e13, e14, e15, e22, e23, e24, hc2, hw2, o2, isPtr_idx o2, d2, hc3, s1, SS, bne_self_eq_false, wr_def, obOf, List.all_cons, List.all_nil, List.map_cons, List.map_nil, List.length_cons, List.length_nil, List.take_zero, List.take_succ_cons, List.take_nil, List.drop_zero, List.drop_succ_cons, List.drop_nil, Nat.reduceAdd, Nat.reduceMul, Nat.reduceSub, if_true, Nat.reduceLT, Nat.reduceLeDiff, ite_true, ite_false, Nat.reduceEqDiff, if_false, reduceCtorEq, ne_eq, List.getD, List.getElem?_cons_zero, List.getElem?_cons_succ, Option.getD_some, Option.bind_some, Option.map_some, Option.isSome_some, reduceIte, List.length_append, List.append_assoc, List.cons_append, List.nil_append, Option.some.injEq, forall_const, implies_true, Int.reduceNeg, eq_self, Prod.mk.injEq, List.self_eq_append_right, List.append_nil, exists_eq_left, exists_eq_left', exists_and_left, exists_eq_right, exists_and_right]
            exact ⟨_, by omega, k + 1, rfl, by omega, rfl, hW.mono fun id ep o hid ho => p2 id ep o (fun hx => hid0 id hx hid) ho, p4⟩
          · have hc3 : decide (c < 0) = false := decide_eq_false hc0
            simp (config := {maxSteps := 8000000}) only [e0, e1, e5, e6, e8, e13, e14, e15, e22, e23, e24, hc2, hw2, o2, isPtr_idx o2, d2, hc3, SS, bne_self_eq_false, wr_def, obOf, List.all_cons, List.all_nil, List.map_cons, List.map_nil, List.length_cons, List.length_nil, List.take_zero, List.take_succ_cons, List.take_nil, List.drop_zero, List.drop_succ_cons, List.drop_nil, Nat.reduceAdd, Nat.reduceMul, Nat.reduceSub, if_true, Nat.reduceLT, Nat.reduceLeDiff, ite_true, ite_false, Nat.reduceEqDiff, if_false, reduceCtorEq, ne_eq, List.getD, List.getElem?_cons_zero, List.getElem?_cons_succ, Option.getD_some, Option.bind_some, Option.map_some, Option.isSome_some, reduceIte, List.length_append, List.append_assoc, List.cons_append, List.nil_append, Option.some.injEq, forall_const, implies_true, Int.reduceNeg, eq_self, Prod.mk.injEq, List.self_eq_append_right, List.append_nil, exists_eq_left, exists_eq_left', exists_and_left, exists_eq_right, exists_and_right]
            exact ⟨_, by omega, k + 1, rfl, by omega, rfl, hW, by rw [← fixTo_same hcc hc0]; exact hB⟩
        · have hc2 : decide ((k : Int) < (r.length : Int)) = false := decide_eq_false (by omega)
          have : k = r.length := by omega
          subst this
          simp (config := {maxSteps := 8000000}) only [e0, e1, e5, e6, e8, e13, e14, e15, e22, e23, e24, hc2, SS, bne_self_eq_false, wr_def, obOf, List.all_cons, List.all_nil, List.map_cons, List.map_nil, List.length_cons, List.length_nil, List.take_zero, List.take_succ_cons, List.take_nil, List.drop_zero, List.drop_succ_cons, List.drop_nil, Nat.reduceAdd, Nat.reduceMul, Nat.reduceSub, if_true, Nat.reduceLT, Nat.reduceLeDiff, ite_true, ite_false, Nat.reduceEqDiff, if_false, reduceCtorEq, ne_eq, List.getD, List.getElem?_cons_zero, List.getElem?_cons_succ, Option.getD_some, Option.bind_some, Option.map_some, Option.isSome_some, reduceIte, List.length_append, List.append_assoc, List.cons_append, List.nil_append, Option.some.injEq, forall_const, implies_true, Int.reduceNeg, eq_self, Prod.mk.injEq, List.self_eq_append_right, List.append_nil, exists_eq_left, exists_eq_left', exists_and_left, exists_eq_right, exists_and_right]
          exact ⟨hW, hB⟩
      clear hW1 hB0 hvo e0 e1 e13 e14 e15 hlW
      rintro e f2 h2 hn2 ht2 ⟨rfl, e0, e1, e5, e6, e8, e13, e14, e15, hW, hB⟩
      have hfr : fixTo r r.length = r.map fixC := by simp [fixTo]
      rw [hfr] at hB
      simp (config := {maxSteps := 8000000}) only [e0, e1, e5, e6, e8, e13, e14, e15, hlen, SS, bne_self_eq_false, wr_def, obOf, List.all_cons, List.all_nil, List.map_cons, List.map_nil, List.length_cons, List.length_nil, List.take_zero, List.take_succ_cons, List.take_nil, List.drop_zero, List.drop_succ_cons, List.drop_nil, Nat.reduceAdd, Nat.reduceMul, Nat.reduceSub, if_true, Nat.reduceLT, Nat.reduceLeDiff, ite_true, ite_false, Nat.reduceEqDiff, if_false, reduceCtorEq, ne_eq, List.getD, List.getElem?_cons_zero, List.getElem?_cons_succ, Option.getD_some, Option.bind_some, Option.map_some, Option.isSome_some, reduceIte, List.length_append, List.append_assoc, List.cons_append, List.nil_append, Option.some.injEq, forall_const, implies_true, Int.reduceNeg, eq_self, Prod.mk.injEq, List.self_eq_append_right, List.append_nil, exists_eq_left, exists_eq_left', exists_and_left, exists_eq_right, exists_and_right]
      have ht2' : h2.take H.length = H := by rw [ht2, List.take_left]
      clear ht2
      refine W_loop (fun q f3 h3 => ∃ k : Nat, q = rows.length - k ∧ k ≤ rows.length ∧ f3 0 = V ∧ f3 1 = .int .i64 miss ∧ f3 5 = vo ∧ f3 6 = .int .i64 (i : Int) ∧ f3 13 = V ∧ f3 14 = .int .i64 (rows.length : Int) ∧ f3 15 = .int .i64 (i : Int) ∧ f3 36 = .int .i64 (rows.length : Int) ∧ f3 37 = .int .i64 (k : Int) ∧ Wd H.length h3 vo vs' (sqTo rows miss i) ∧ Bu H.length h3 (f3 8) 1 ((r.map fixC ++ (List.range k).map (priv miss i)).map gI) (r.length + k) ∧ ∀ id, idOf (f3 8) id → ¬ InW vo vs' id) hn2 rows.length
        ⟨0, rfl, by omega, by simp only [e0, SS, bne_self_eq_false, wr_def, obOf, List.all_cons, List.all_nil, List.map_cons, List.map_nil, List.length_cons, List.length_nil, List.take_zero, List.take_succ_cons, List.take_nil, List.drop_zero, List.drop_succ_cons, List.drop_nil, Nat.reduceAdd, Nat.reduceMul, Nat.reduceSub, if_true, Nat.reduceLT, Nat.reduceLeDiff, ite_true, ite_false, Nat.reduceEqDiff, if_false, reduceCtorEq, ne_eq, List.getD, List.getElem?_cons_zero, List.getElem?_cons_succ, Option.getD_some, Option.bind_some, Option.map_some, Option.isSome_some, reduceIte, List.length_append, List.append_assoc, List.cons_append, List.nil_append, Option.some.injEq, forall_const, implies_true, Int.reduceNeg, eq_self, Prod.mk.injEq, List.self_eq_append_right, List.append_nil, exists_eq_left, exists_eq_left', exists_and_left, exists_eq_right, exists_and_right], by simp only [e1, SS, bne_self_eq_false, wr_def, obOf, List.all_cons, List.all_nil, List.map_cons, List.map_nil, List.length_cons, List.length_nil, List.take_zero, List.take_succ_cons, List.take_nil, List.drop_zero, List.drop_succ_cons, List.drop_nil, Nat.reduceAdd, Nat.reduceMul, Nat.reduceSub, if_true, Nat.reduceLT, Nat.reduceLeDiff, ite_true, ite_false, Nat.reduceEqDiff, if_false, reduceCtorEq, ne_eq, List.getD, List.getElem?_cons_zero, List.getElem?_cons_succ, Option.getD_some, Option.bind_some, Option.map_some, Option.isSome_some, reduceIte, List.length_append, List.append_assoc, List.cons_append, List.nil_append, Option.some.injEq, forall_const, implies_true, Int.reduceNeg, eq_self, Prod.mk.injEq, List.self_eq_append_right, List.append_nil, exists_eq_left, exists_eq_left', exists_and_left, exists_eq_right, exists_and_right], by simp only [e5, SS, bne_self_eq_false, wr_def, obOf, List.all_cons, List.all_nil, List.map_cons, List.map_nil, List.length_cons, List.length_nil, List.take_zero, List.take_succ_cons, List.take_nil, List.drop_zero, List.drop_succ_cons, List.drop_nil, Nat.reduceAdd, Nat.reduceMul, Nat.reduceSub, if_true, Nat.reduceLT, Nat.reduceLeDiff, ite_true, ite_false, Nat.reduceEqDiff, if_false, reduceCtorEq, ne_eq, List.getD, List.getElem?_cons_zero, List.getElem?_cons_succ, Option.getD_some, Option.bind_some, Option.map_some, Option.isSome_some, reduceIte, List.length_append, List.append_assoc, List.cons_append, List.nil_append, Option.some.injEq, forall_const, implies_true, Int.reduceNeg, eq_self, Prod.mk.injEq, List.self_eq_append_right, List.append_nil, exists_eq_left, exists_eq_left', exists_and_left, exists_eq_right, exists_and_right], by simp only [e6, SS, bne_self_eq_false, wr_def, obOf, List.all_cons, List.all_nil, List.map_cons, List.map_nil, List.length_cons, List.length_nil, List.take_zero, List.take_succ_cons, List.take_nil, List.drop_zero, List.drop_succ_cons, List.drop_nil, Nat.reduceAdd, Nat.reduceMul, Nat.reduceSub, if_true, Nat.reduceLT, Nat.reduceLeDiff, ite_true, ite_false, Nat.reduceEqDiff, if_false, reduceCtorEq, ne_eq, List.getD, List.getElem?_cons_zero, List.getElem?_cons_succ, Option.getD_some, Option.bind_some, Option.map_some, Option.isSome_some, reduceIte, List.length_append, List.append_assoc, List.cons_append, List.nil_append, Option.some.injEq, forall_const, implies_true, Int.reduceNeg, eq_self, Prod.mk.injEq, List.self_eq_append_right, List.append_nil, exists_eq_left, exists_eq_left', exists_and_left, exists_eq_right, exists_and_right], by simp only [e13, SS, bne_self_eq_false, wr_def, obOf, List.all_cons, List.all_nil, List.map_cons, List.map_nil, List.length_cons, List.length_nil, List.take_zero, List.take_succ_cons, List.take_nil, List.drop_zero, List.drop_succ_cons, List.drop_nil, Nat.reduceAdd, Nat.reduceMul, Nat.reduceSub, if_true, Nat.reduceLT, Nat.reduceLeDiff, ite_true, ite_false, Nat.reduceEqDiff, if_false, reduceCtorEq, ne_eq, List.getD, List.getElem?_cons_zero, List.getElem?_cons_succ, Option.getD_some, Option.bind_some, Option.map_some, Option.isSome_some, reduceIte, List.length_append, List.append_assoc, List.cons_append, List.nil_append, Option.some.injEq, forall_const, implies_true, Int.reduceNeg, eq_self, Prod.mk.injEq, List.self_eq_append_right, List.append_nil, exists_eq_left, exists_eq_left', exists_and_left, exists_eq_right, exists_and_right], by simp only [e14, SS, bne_self_eq_false, wr_def, obOf, List.all_cons, List.all_nil, List.map_cons, List.map_nil, List.length_cons, List.length_nil, List.take_zero, List.take_succ_cons, List.take_nil, List.drop_zero, List.drop_succ_cons, List.drop_nil, Nat.reduceAdd, Nat.reduceMul, Nat.reduceSub, if_true, Nat.reduceLT, Nat.reduceLeDiff, ite_true, ite_false, Nat.reduceEqDiff, if_false, reduceCtorEq, ne_eq, List.getD, List.getElem?_cons_zero, List.getElem?_cons_succ, Option.getD_some, Option.bind_some, Option.map_some, Option.isSome_some, reduceIte, List.length_append, List.append_assoc, List.cons_append, List.nil_append, Option.some.injEq, forall_const, implies_true, Int.reduceNeg, eq_self, Prod.mk.injEq, List.self_eq_append_right, List.append_nil, exists_eq_left, exists_eq_left', exists_and_left, exists_eq_right, exists_and_right], by simp only [e15, SS, bne_self_eq_false, wr_def, obOf, List.all_cons, List.all_nil, List.map_cons, List.map_nil, List.length_cons, List.length_nil, List.take_zero, List.take_succ_cons, List.take_nil, List.drop_zero, List.drop_succ_cons, List.drop_nil, Nat.reduceAdd, Nat.reduceMul, Nat.reduceSub, if_true, Nat.reduceLT, Nat.reduceLeDiff, ite_true, ite_false, Nat.reduceEqDiff, if_false, reduceCtorEq, ne_eq, List.getD, List.getElem?_cons_zero, List.getElem?_cons_succ, Option.getD_some, Option.bind_some, Option.map_some, Option.isSome_some, reduceIte, List.length_append, List.append_assoc, List.cons_append, List.nil_append, Option.some.injEq, forall_const, implies_true, Int.reduceNeg, eq_self, Prod.mk.injEq, List.self_eq_append_right, List.append_nil, exists_eq_left, exists_eq_left', exists_and_left, exists_eq_right, exists_and_right], rfl, rfl, hW, by simpa only [e8, List.range_zero, List.map_nil, List.append_nil, Nat.add_zero, SS, bne_self_eq_false, wr_def, obOf, List.all_cons, List.all_nil, List.map_cons, List.map_nil, List.length_cons, List.length_nil, List.take_zero, List.take_succ_cons, List.take_nil, List.drop_zero, List.drop_succ_cons, List.drop_nil, Nat.reduceAdd, Nat.reduceMul, Nat.reduceSub, if_true, Nat.reduceLT, Nat.reduceLeDiff, ite_true, ite_false, Nat.reduceEqDiff, if_false, reduceCtorEq, ne_eq, List.getD, List.getElem?_cons_zero, List.getElem?_cons_succ, Option.getD_some, Option.bind_some, Option.map_some, Option.isSome_some, reduceIte, List.length_append, List.append_assoc, List.cons_append, List.nil_append, Option.some.injEq, forall_const, implies_true, Int.reduceNeg, eq_self, Prod.mk.injEq, List.self_eq_append_right, List.append_nil, exists_eq_left, exists_eq_left', exists_and_left, exists_eq_right, exists_and_right] using hB, by simpa only [e8, SS, bne_self_eq_false, wr_def, obOf, List.all_cons, List.all_nil, List.map_cons, List.map_nil, List.length_cons, List.length_nil, List.take_zero, List.take_succ_cons, List.take_nil, List.drop_zero, List.drop_succ_cons, List.drop_nil, Nat.reduceAdd, Nat.reduceMul, Nat.reduceSub, if_true, Nat.reduceLT, Nat.reduceLeDiff, ite_true, ite_false, Nat.reduceEqDiff, if_false, reduceCtorEq, ne_eq, List.getD, List.getElem?_cons_zero, List.getElem?_cons_succ, Option.getD_some, Option.bind_some, Option.map_some, Option.isSome_some, reduceIte, List.length_append, List.append_assoc, List.cons_append, List.nil_append, Option.some.injEq, forall_const, implies_true, Int.reduceNeg, eq_self, Prod.mk.injEq, List.self_eq_append_right, List.append_nil, exists_eq_left, exists_eq_left', exists_and_left, exists_eq_right, exists_and_right] using hid0⟩ ?_
      clear e0 e1 e5 e6 e8 e13 e14 e15 hW hB hid0
      rintro q f3 h3 hn3 ht3 ⟨k, rfl, hk, e0, e1, e5, e6, e13, e14, e15, e36, e37, hW, hB, hid⟩
      have hH := take_eq (ht3.trans ht2')
      generalize h3.drop H.length = z at hH
      subst hH
      by_cases hkR : k < rows.length
      · have hc2 : decide ((k : Int) < (rows.length : Int)) = true := decide_eq_true (by omega)
        have hw2 : IntKind.i64.wrap ((k : Int) + 1) = ((k + 1 : Nat) : Int) := by rw [wrap64 (by omega) (by omega)]; omega
        have app : ∀ (P : AV → List Ob → Prop), (∀ v' h', Wd H.length h' vo vs' (sqTo rows miss i) → Bu H.length h' v' 1 ((r.map fixC ++ (List.range (k + 1)).map (priv miss i)).map gI) (r.length + (k + 1)) → (∀ id, idOf v' id → ¬ InW vo vs' id) → P v' h') →
            ∀ m, m = H.length + z.length → appK H.length 1 8 (H ++ (z ++ [⟨[.int .i64 (priv miss i k)], 0, 1, true, true⟩])) (f3 8) (.sl false m 0 1 0 1) P := by
          rintro P hP m rfl
          have hrm' : rdObj (H ++ (z ++ [(⟨[.int .i64 (priv miss i k)], 0, 1, true, true⟩ : Ob)])) (H.length + z.length) 0 = some ⟨[.int .i64 (priv miss i k)], 0, 1, true, true⟩ := by simp [rdObj]
          have hs1 : SlL (H ++ (z ++ [(⟨[.int .i64 (priv miss i k)], 0, 1, true, true⟩ : Ob)])) (.sl false (H.length + z.length) 0 1 0 1) intC 1 [priv miss i k] := ⟨fun _ => rfl, by decide, rfl, Or.inr ⟨_, 0, 0, _, rfl, hrm', by simp, rfl⟩⟩
          have hf1 : FgL (H ++ (z ++ [(⟨[.int .i64 (priv miss i k)], 0, 1, true, true⟩ : Ob)])) (.sl false (H.length + z.length) 0 1 0 1) := by
            rintro id ep ob ⟨_, rfl⟩ ho
            have h8 := rd_lt ho
            unfold rdObj at ho
            simp at ho
            obtain ⟨_, rfl⟩ := ho; rfl
          have hB' : Bu H.length (H ++ (z ++ [(⟨[.int .i64 (priv miss i k)], 0, 1, true, true⟩ : Ob)])) (f3 8) 1 ((r.map fixC ++ (List.range k).map (priv miss i)).map gI) (r.length + k) := hB.mono fun id ep o _ ho => rd_keep2 ho
          refine bu_app hB' hs1 hf1 (by unfold appLim; simp; omega) (by simp) (fun v' h' q1 q2 q3 q4 q5 => ?_)
          have hlz : (H ++ (z ++ [(⟨[.int .i64 (priv miss i k)], 0, 1, true, true⟩ : Ob)])).length = H.length + (z.length + 1) := by simp
          refine hP v' h' (hW.mono fun id ep o hx ho => q2 id ep o (rd_keep2 ho) fun hy => hid id hy hx) ?_ (fun id hx hin => ?_)
          · rw [range_take (Nat.lt_succ_self k)] 
            simpa [flat, intC, gI, Nat.add_assoc] using q1
          · have hlt := hW.lt hin
            rcases q4 with h9 | h9
            · have := idOf_inj h9 hx; rw [hlz] at this; simp at hlt; omega
            · exact hid id (h9 _ hx) hin
        by_cases hki : k = i
        · have hc3 : ((k : Int) == (i : Int)) = true := by rw [hki]; simp
          have hp : priv miss i k = miss := by simp [priv, hki]
          rw [hp] at app
          simp (config := {maxSteps := 8000000}) only [e0, e1, e5, e6, e13, e14, e15, e36, e37, hc2, hw2, hc3, hn3, SS, bne_self_eq_false, wr_def, obOf, List.all_cons, List.all_nil, List.map_cons, List.map_nil, List.length_cons, List.length_nil, List.take_zero, List.take_succ_cons, List.take_nil, List.drop_zero, List.drop_succ_cons, List.drop_nil, Nat.reduceAdd, Nat.reduceMul, Nat.reduceSub, if_true, Nat.reduceLT, Nat.reduceLeDiff, ite_true, ite_false, Nat.reduceEqDiff, if_false, reduceCtorEq, ne_eq, List.getD, List.getElem?_cons_zero, List.getElem?_cons_succ, Option.getD_some, Option.bind_some, Option.map_some, Option.isSome_some, reduceIte, List.length_append, List.append_assoc, List.cons_append, List.nil_append, Option.some.injEq, forall_const, implies_true, Int.reduceNeg, eq_self, Prod.mk.injEq, List.self_eq_append_right, List.append_nil, exists_eq_left, exists_eq_left', exists_and_left, exists_eq_right, exists_and_right]
          exact app _ (fun v' h' a b c => ⟨_, by omega, k + 1, rfl, by omega, rfl, a, b, c⟩) _ rfl
        · have hc3 : ((k : Int) == (i : Int)) = false := by rw [beq_eq_false_iff_ne]; omega
          have hp : priv miss i k = 1125899906842624 := by simp [priv, hki]
          rw [hp] at app
          simp (config := {maxSteps := 8000000}) only [e0, e1, e5, e6, e13, e14, e15, e36, e37, hc2, hw2, hc3, hn3, SS, bne_self_eq_false, wr_def, obOf, List.all_cons, List.all_nil, List.map_cons, List.map_nil, List.length_cons, List.length_nil, List.take_zero, List.take_succ_cons, List.take_nil, List.drop_zero, List.drop_succ_cons, List.drop_nil, Nat.reduceAdd, Nat.reduceMul, Nat.reduceSub, if_true, Nat.reduceLT, Nat.reduceLeDiff, ite_true, ite_false, Nat.reduceEqDiff, if_false, reduceCtorEq, ne_eq, List.getD, List.getElem?_cons_zero, List.getElem?_cons_succ, Option.getD_some, Option.bind_some, Option.map_some, Option.isSome_some, reduceIte, List.length_append, List.append_assoc, List.cons_append, List.nil_append, Option.some.injEq, forall_const, implies_true, Int.reduceNeg, eq_self, Prod.mk.injEq, List.self_eq_append_right, List.append_nil, exists_eq_left, exists_eq_left', exists_and_left, exists_eq_right, exists_and_right]
          exact app _ (fun v' h' a b c => ⟨_, by omega, k + 1, rfl, by omega, rfl, a, b, c⟩) _ rfl
      · have hc2 : decide ((k : Int) < (rows.length : Int)) = false := decide_eq_false (by omega)
        have hkE : k = rows.length := by omega
        subst hkE
        have hI := hB.isl (by omega)
        obtain ⟨sh1, sh2, sh3⟩ := hB.shape
        have hrl : (sqRow rows.length miss i r).length = r.length + rows.length := by simp [sqRow]
        simp (config := {maxSteps := 8000000}) only [e0, e1, e5, e6, e13, e14, e15, e36, e37, hc2, hw1, hn3, sh1, sh2, sh3, SS, bne_self_eq_false, wr_def, obOf, List.all_cons, List.all_nil, List.map_cons, List.map_nil, List.length_cons, List.length_nil, List.take_zero, List.take_succ_cons, List.take_nil, List.drop_zero, List.drop_succ_cons, List.drop_nil, Nat.reduceAdd, Nat.reduceMul, Nat.reduceSub, if_true, Nat.reduceLT, Nat.reduceLeDiff, ite_true, ite_false, Nat.reduceEqDiff, if_false, reduceCtorEq, ne_eq, List.getD, List.getElem?_cons_zero, List.getElem?_cons_succ, Option.getD_some, Option.bind_some, Option.map_some, Option.isSome_some, reduceIte, List.length_append, List.append_assoc, List.cons_append, List.nil_append, Option.some.injEq, forall_const, implies_true, Int.reduceNeg, eq_self, Prod.mk.injEq, List.self_eq_append_right, List.append_nil, exists_eq_left, exists_eq_left', exists_and_left, exists_eq_right, exists_and_right]
        refine wd_app (u := f3 8) (r := sqRow rows.length miss i r) (rw' := true) (hW.mono fun _ _ _ _ ho => rd_keep2 ho) ?_ hid (by simp [rdObj]) ?_ (by simp) (fun v' h' a b c => ?_)
        · rw [hrl]
          exact hI.mono fun _ _ _ _ ho => rd_keep2 ho
        · have := hW.len; rw [this]; simp [sqTo]; omega
        · rw [← sqTo_succ hr] at a
          exact ⟨_, by omega, i + 1, rfl, by omega, rfl, _, a⟩
    · have hc1 : decide ((i : Int) < (rows.length : Int)) = false := decide_eq_false (by omega)
      have hiE : i = rows.length := by omega
      subst hiE
      simp (config := {maxSteps := 8000000}) only [e0, e1, e13, e14, e15, hc1, SS, bne_self_eq_false, wr_def, obOf, List.all_cons, List.all_nil, List.map_cons, List.map_nil, List.length_cons, List.length_nil, List.take_zero, List.take_succ_cons, List.take_nil, List.drop_zero, List.drop_succ_cons, List.drop_nil, Nat.reduceAdd, Nat.reduceMul, Nat.reduceSub, if_true, Nat.reduceLT, Nat.reduceLeDiff, ite_true, ite_false, Nat.reduceEqDiff, if_false, reduceCtorEq, ne_eq, List.getD, List.getElem?_cons_zero, List.getElem?_cons_succ, Option.getD_some, Option.bind_some, Option.map_some, Option.isSome_some, reduceIte, List.length_append, List.append_assoc, List.cons_append, List.nil_append, Option.some.injEq, forall_const, implies_true, Int.reduceNeg, eq_self, Prod.mk.injEq, List.self_eq_append_right, List.append_nil, exists_eq_left, exists_eq_left', exists_and_left, exists_eq_right, exists_and_right]
      exact ⟨_, rfl, vs', hW⟩
  obtain ⟨ex, f', h', k1, k2, ⟨k3, v, k4, vs', k5⟩, k6⟩ := call_wc e47 rfl (Nat.le_of_ble_eq_true rfl) key
  have hh : h' = H ++ h'.drop H.length := take_eq k2
  have hE := k6 _ k3 k4
  simp only [mkRes] at hE
  rcases k5.isl with ⟨rfl, hvs, _⟩ | ⟨id, ep, rfl, h2, h3, h4⟩
  · refine ⟨.sl true 0 0 0 0 0, vs', [], ?_, ?_⟩
    · have hl := k5.len
      rw [hvs] at hl
      simp only [List.length_nil] at hl
      rw [hvs, List.length_eq_zero_iff.1 hl.symm]; exact Wd.nil
    · rw [hE, fin_ni, k2, List.append_nil]
  · refine ⟨_, vs', h'.drop H.length, by rw [← hh]; exact k5, ?_⟩
    rw [hE, fin_nest1 h2 h3, ← hh]
end Go.Proofs.Ytaekgifbehoipaa.Hg
/- count of the package assign; a matrix that is built is one that is read. Conditions stand in each lemma. -/
namespace Go.Proofs.Ytaekgifbehoipaa.Hg
open Go Go.Proofs.Ytaekgifbehoipaa.Eva Go.Proofs.Ytaekgifbehoipaa.CodeAll Go.Proofs.Ytaekgifbehoipaa.Fl
set_option linter.unusedVariables false
set_option linter.unusedSimpArgs false
set_option maxRecDepth 10000
set_option maxHeartbeats 4000000

def ints (n : Nat) : List Int := (List.range n).map Int.ofNat
theorem ints_succ (n : Nat) : ints (n + 1) = ints n ++ [(n : Int)] := by simp [ints, List.range_succ]
theorem ints_len (n : Nat) : (ints n).length = n := by simp [ints]
theorem count_run (H : List Ob) {n : Nat} (hn : n ≤ 1000) :
    ecall E 89 [.int .i64 (n : Int)] H = some (outV H.length 1 n, H ++ outO 1 n (flat intC (ints n)), H.length, H.length) := by
  have key : ∃ cs, cs = flat intC (ints n) ∧ ecall E 89 [.int .i64 (n : Int)] H = some (outV H.length 1 n, H ++ outO 1 n cs, H.length, H.length) := by
    refine call_list1_ex e89 rfl (Nat.le_of_ble_eq_true rfl) ?_
    simp (config := {maxSteps := 4000000}) only [c89, SS, bne_self_eq_false, wr_def, obOf, List.all_cons, List.all_nil, List.map_cons, List.map_nil, List.length_cons, List.length_nil, List.take_zero, List.take_succ_cons, List.take_nil, List.drop_zero, List.drop_succ_cons, List.drop_nil, Nat.reduceAdd, Nat.reduceMul, Nat.reduceSub, if_true, Nat.reduceLT, Nat.reduceLeDiff, ite_true, ite_false, Nat.reduceEqDiff, if_false, reduceCtorEq, ne_eq, List.getD, List.getElem?_cons_zero, List.getElem?_cons_succ, Option.getD_some, Option.bind_some, Option.map_some, Option.isSome_some, reduceIte, List.length_append, List.append_assoc, List.cons_append, List.nil_append, Option.some.injEq, forall_const, implies_true, Int.reduceNeg, eq_self, Prod.mk.injEq, List.self_eq_append_right, List.append_nil, exists_eq_left, exists_eq_left', exists_and_left, exists_eq_right, exists_and_right]
    refine W_loop (fun q f1 h1 => ∃ i : Nat, q = n - i ∧ i ≤ n ∧ f1 5 = .int .i64 (n : Int) ∧ f1 6 = .int .i64 (i : Int) ∧ IsL H.length h1 (f1 3) 1 true (flat intC (ints i)) i) (Nat.le_refl _) n ⟨0, rfl, by omega, rfl, rfl, IsL.nil (sz := 1) (fl := true)⟩ ?_
    rintro q f1 h1 hn1 ht ⟨i, rfl, hi, e5, e6, hI⟩
    rw [List.take_length] at ht
    have hH := take_eq ht
    generalize h1.drop H.length = x at hH
    subst hH
    by_cases hin : i < n
    · have hc : decide ((i : Int) < (n : Int)) = true := decide_eq_true (by omega)
      have hw1 : IntKind.i64.wrap ((i : Int) + 1) = ((i + 1 : Nat) : Int) := by rw [wrap64 (by omega) (by omega)]; omega
      simp (config := {maxSteps := 4000000}) only [e5, e6, hc, hw1, hn1, SS, bne_self_eq_false, wr_def, obOf, List.all_cons, List.all_nil, List.map_cons, List.map_nil, List.length_cons, List.length_nil, List.take_zero, List.take_succ_cons, List.take_nil, List.drop_zero, List.drop_succ_cons, List.drop_nil, Nat.reduceAdd, Nat.reduceMul, Nat.reduceSub, if_true, Nat.reduceLT, Nat.reduceLeDiff, ite_true, ite_false, Nat.reduceEqDiff, if_false, reduceCtorEq, ne_eq, List.getD, List.getElem?_cons_zero, List.getElem?_cons_succ, Option.getD_some, Option.bind_some, Option.map_some, Option.isSome_some, reduceIte, List.length_append, List.append_assoc, List.cons_append, List.nil_append, Option.some.injEq, forall_const, implies_true, Int.reduceNeg, eq_self, Prod.mk.injEq, List.self_eq_append_right, List.append_nil, exists_eq_left, exists_eq_left', exists_and_left, exists_eq_right, exists_and_right]
      refine appK_at (c := [.int .i64 (i : Int)]) (rw' := true) (fl' := true) (hI.keep2 _) (by simp [rdObj]) (by rw [flat_len (k := 1) (fun x => rfl), ints_len]) rfl (by unfold appLim; omega) (by simp) (fun v' h' hv' hfr hlen' hidv => ?_)
      refine ⟨_, by omega, i + 1, rfl, by omega, rfl, ?_⟩
      rw [ints_succ]
      simpa [flat, intC] using hv'
    · have hc : decide ((i : Int) < (n : Int)) = false := decide_eq_false (by omega)
      have hiE : i = n := by omega
      subst hiE
      simp (config := {maxSteps := 4000000}) only [e5, e6, hc, SS, bne_self_eq_false, wr_def, obOf, List.all_cons, List.all_nil, List.map_cons, List.map_nil, List.length_cons, List.length_nil, List.take_zero, List.take_succ_cons, List.take_nil, List.drop_zero, List.drop_succ_cons, List.drop_nil, Nat.reduceAdd, Nat.reduceMul, Nat.reduceSub, if_true, Nat.reduceLT, Nat.reduceLeDiff, ite_true, ite_false, Nat.reduceEqDiff, if_false, reduceCtorEq, ne_eq, List.getD, List.getElem?_cons_zero, List.getElem?_cons_succ, Option.getD_some, Option.bind_some, Option.map_some, Option.isSome_some, reduceIte, List.length_append, List.append_assoc, List.cons_append, List.nil_append, Option.some.injEq, forall_const, implies_true, Int.reduceNeg, eq_self, Prod.mk.injEq, List.self_eq_append_right, List.append_nil, exists_eq_left, exists_eq_left', exists_and_left, exists_eq_right, exists_and_right]
      exact ⟨_, rfl, hI⟩
  obtain ⟨cs, rfl, h⟩ := key
  exact h
def mF (rows : List (List Int)) (i k : Nat) : Int := ((gRow rows i)[k]?).getD 0
theorem flat_avC (vs : List AV) : flat avC vs = vs := by
  induction vs with
  | nil => rfl
  | cons x xs ih => simp only [flat, List.map_cons, List.flatten_cons] at ih ⊢; rw [ih]; rfl
theorem flat_intC (xs : List Int) : flat intC xs = xs.map gI := by
  induction xs with
  | nil => rfl
  | cons x xs ih => simp only [flat, List.map_cons, List.flatten_cons] at ih ⊢; rw [ih]; rfl
theorem Wd.ns {n0 : Nat} {H : List Ob} {v : AV} {vs : List AV} {rows : List (List Int)} (W : Wd n0 H v vs rows) : NsL H v vs rows :=
  ⟨⟨fun _ => rfl, by decide, by rw [flat_avC]; exact W.isl.rd (by simp)⟩, W.len, fun i u r hu hr => ⟨fun _ => rfl, by decide, by rw [flat_intC]; exact (W.rd i u r hu hr).rd (by simp)⟩⟩
theorem NsL.mx {H : List Ob} {v : AV} {vs : List AV} {rows : List (List Int)} {C : Nat} (A : NsL H v vs rows) (hC : ∀ r ∈ rows, r.length = C) : Mx H v (fun i => (vs[i]?).getD und) rows.length C (mF rows) := by
  refine ⟨by rw [A.out.len, A.len], A.out.cells, A.out.isTup, fun i hi => A.out.ok (by omega) (by rw [A.len]; omega), fun y i hi => ?_, fun i hi => ?_, fun i k hi hk => ?_, fun y i k hi hk => ?_⟩
  all_goals
    obtain ⟨u, r, hr, hu, S, d, o⟩ := A.row hi
    have hrl := hC r (List.mem_of_getElem? hr)
    simp only [hu, Option.getD_some]
  · exact d y
  · rw [S.len, hrl]
  · exact S.ok (by omega) (by omega)
  · obtain ⟨c, hc⟩ : ∃ c, r[k]? = some c := ⟨_, List.getElem?_eq_getElem (by omega)⟩
    rw [(S.keep y).ld0 (x := c) (by omega) (by simpa using hc), mF, gRow_eq hr, hc]; rfl
end Go.Proofs.Ytaekgifbehoipaa.Hg
/- The least sum of the square matrix is the least cost of an assignment in which rows may miss. Conditions stand in each lemma. -/
namespace Go.Proofs.Ytaekgifbehoipaa.Hg
open Go Go.Proofs.Ytaekgifbehoipaa.Eva Go.Proofs.Ytaekgifbehoipaa.Fl
set_option linter.unusedVariables false
set_option linter.unusedSimpArgs false

def costAt (rows : List (List Int)) (miss : Int) (i : Nat) (t : Int) : Int := if t < 0 then miss else mF rows i t.toNat
/-- A column for each row, or -1. -/
structure Val (rows : List (List Int)) (n : Nat) (τ : Nat → Int) : Prop where
  rng : ∀ i, i < rows.length → τ i = -1 ∨ (0 ≤ τ i ∧ τ i < n ∧ 0 ≤ mF rows i (τ i).toNat)
  inj : ∀ i j, i < rows.length → j < rows.length → τ i = τ j → 0 ≤ τ i → i = j
def costOf (rows : List (List Int)) (miss : Int) (τ : Nat → Int) : Int := sumN rows.length fun i => costAt rows miss i (τ i)
def LeastP (rows : List (List Int)) (n : Nat) (miss T : Int) : Prop := (∃ τ, Val rows n τ ∧ T = costOf rows miss τ) ∧ ∀ τ, Val rows n τ → T ≤ costOf rows miss τ

theorem sqTo_len {rows : List (List Int)} {miss : Int} {i : Nat} : (sqTo rows miss i).length = i := by simp [sqTo]
theorem sqTo_get {rows : List (List Int)} {miss : Int} {i j : Nat} (h : i < j) : (sqTo rows miss j)[i]? = some (sqRow rows.length miss i (gRow rows i)) := by simp [sqTo, h]
theorem gRow_len {rows : List (List Int)} {n i : Nat} (hC : ∀ r ∈ rows, r.length = n) (hi : i < rows.length) : (gRow rows i).length = n := by
  rw [gRow_eq (List.getElem?_eq_getElem hi)]; exact hC _ (List.getElem_mem hi)
theorem sq_pub {rows : List (List Int)} {n i k : Nat} {miss : Int} (hC : ∀ r ∈ rows, r.length = n) (hi : i < rows.length) (hk : k < n) : mF (sqTo rows miss rows.length) i k = fixC (mF rows i k) := by
  have hl := gRow_len hC hi
  rw [mF, gRow_eq (sqTo_get hi), mF, sqRow, List.getElem?_append_left (by simp; omega), List.getElem?_map]
  have : (gRow rows i)[k]? = some (gRow rows i)[k] := List.getElem?_eq_getElem (by omega)
  rw [this]; rfl
theorem sq_priv {rows : List (List Int)} {n i j : Nat} {miss : Int} (hC : ∀ r ∈ rows, r.length = n) (hi : i < rows.length) (hj : j < rows.length) : mF (sqTo rows miss rows.length) i (n + j) = priv miss i j := by
  have hl := gRow_len hC hi
  rw [mF, gRow_eq (sqTo_get hi), sqRow, List.getElem?_append_right (by simp; omega)]
  have : n + j - ((gRow rows i).map fixC).length = j := by simp; omega
  rw [this]
  simp [hj]
theorem sumN_ge {f : Nat → Int} : ∀ {n : Nat}, (∀ i, i < n → 0 ≤ f i) → ∀ i, i < n → f i ≤ sumN n f ∧ 0 ≤ sumN n f
  | 0, _, i, hi => by omega
  | n + 1, h, i, hi => by
    simp only [sumN]
    have hn := h n (by omega)
    by_cases hin : i < n
    · have := sumN_ge (n := n) (fun j hj => h j (by omega)) i hin; omega
    · have : i = n := by omega
      subst this
      by_cases h0 : i = 0
      · subst h0; simp [sumN]; omega
      · have := sumN_ge (n := i) (fun j hj => h j (by omega)) 0 (by omega); omega
theorem fix_nn (c : Int) : 0 ≤ fixC c := by unfold fixC; split <;> omega
section
variable {rows : List (List Int)} {n : Nat} {miss : Int} (hC : ∀ r ∈ rows, r.length = n) (hm0 : 0 ≤ miss) (hm1 : miss ≤ 1099511627776) (hR : rows.length ≤ 32)
/-- The columns that an assignment takes in the square matrix. -/
def colOf (n : Nat) (τ : Nat → Int) (i : Nat) : Nat := if τ i < 0 then n + i else (τ i).toNat
include hC in
theorem col_cost {τ : Nat → Int} (V : Val rows n τ) : Inj rows.length (n + rows.length) (colOf n τ) ∧ sumN rows.length (fun i => mF (sqTo rows miss rows.length) i (colOf n τ i)) = costOf rows miss τ := by
  refine ⟨⟨fun i hi => ?_, fun i j hi hj e => ?_⟩, sumN_congr fun i hi => ?_⟩
  · unfold colOf
    rcases V.rng i hi with h | h <;> split <;> omega
  · unfold colOf at e
    rcases V.rng i hi with h1 | h1 <;> rcases V.rng j hj with h2 | h2
    · rw [if_pos (by omega), if_pos (by omega)] at e; omega
    · rw [if_pos (by omega), if_neg (by omega)] at e; omega
    · rw [if_neg (by omega), if_pos (by omega)] at e; omega
    · rw [if_neg (by omega), if_neg (by omega)] at e
      exact V.inj i j hi hj (by omega) h1.1
  · unfold colOf costAt
    rcases V.rng i hi with h1 | ⟨h1, h2, h3⟩
    · rw [if_pos (by omega), if_pos (by omega), sq_priv hC hi hi]; simp [priv]
    · rw [if_neg (by omega), if_neg (by omega), sq_pub hC hi (by omega)]
      unfold fixC; rw [if_neg (by omega)]
include hm1 hR in
theorem cost_miss : costOf rows miss (fun _ => -1) ≤ 35184372088832 := by
  have h1 : costOf rows miss (fun _ => -1) = rows.length * miss := by
    unfold costOf costAt
    rw [sumN_congr (g := fun _ => miss) (fun i _ => if_pos (show (-1 : Int) < 0 by decide)), sumN_const]
  rw [h1]
  have h2 : (rows.length : Int) * miss ≤ rows.length * 1099511627776 := Int.mul_le_mul_of_nonneg_left hm1 (by omega)
  omega
theorem val_miss : Val rows n (fun _ => -1) := ⟨fun i _ => Or.inl rfl, fun i j _ _ _ h => by omega⟩
include hC hm0 in
theorem sq_nn (i k : Nat) (hi : i < rows.length) (hk : k < n + rows.length) : 0 ≤ mF (sqTo rows miss rows.length) i k := by
  by_cases h : k < n
  · rw [sq_pub hC hi h]; exact fix_nn _
  · have : k = n + (k - n) := by omega
    rw [this, sq_priv hC hi (by omega)]; unfold priv; split <;> omega
include hC in
/-- Columns that cost less than what is not permitted make an assignment. -/
theorem val_of {σ : Nat → Nat} (hI : Inj rows.length (n + rows.length) σ) (hs : ∀ i, i < rows.length → mF (sqTo rows miss rows.length) i (σ i) < 1125899906842624) :
    Val rows n (fun i => if σ i < n then (σ i : Int) else -1) ∧ costOf rows miss (fun i => if σ i < n then (σ i : Int) else -1) = sumN rows.length (fun i => mF (sqTo rows miss rows.length) i (σ i)) := by
  have hp : ∀ i, i < rows.length → σ i < n → 0 ≤ mF rows i (σ i) ∧ mF (sqTo rows miss rows.length) i (σ i) = mF rows i (σ i) := by
    intro i hi h
    have h1 := hs i hi
    rw [sq_pub hC hi h] at h1 ⊢
    unfold fixC at h1 ⊢
    split at h1
    · omega
    · rename_i h2; rw [if_neg h2]; omega
  have hq : ∀ i, i < rows.length → ¬ σ i < n → mF (sqTo rows miss rows.length) i (σ i) = miss := by
    intro i hi h
    have h1 := hs i hi
    have h2 := hI.lt i hi
    have h3 : σ i = n + (σ i - n) := by omega
    rw [h3, sq_priv hC hi (by omega)] at h1 ⊢
    unfold priv at h1 ⊢
    split at h1
    · rename_i h4; rw [if_pos h4]
    · omega
  refine ⟨⟨fun i hi => ?_, fun i j hi hj e h0 => ?_⟩, sumN_congr fun i hi => ?_⟩
  · by_cases h : σ i < n
    · rw [if_pos h]; exact Or.inr ⟨by omega, by omega, by simpa using (hp i hi h).1⟩
    · rw [if_neg h]; exact Or.inl rfl
  · by_cases h : σ i < n
    · rw [if_pos h] at e
      by_cases h2 : σ j < n
      · rw [if_pos h2] at e; exact hI.inj i j hi hj (by omega)
      · rw [if_neg h2] at e; omega
    · rw [if_neg h] at h0; omega
  · show (if (if σ i < n then (σ i : Int) else -1) < 0 then miss else mF rows i (if σ i < n then (σ i : Int) else -1).toNat) = _
    by_cases h : σ i < n
    · rw [if_pos h, if_neg (by omega), (hp i hi h).2]; simp
    · rw [if_neg h, if_pos (by decide), hq i hi h]
include hC hm0 hm1 hR in
theorem least_sq {T : Int} (L : Least (mF (sqTo rows miss rows.length)) rows.length (n + rows.length) T) : LeastP rows n miss T ∧ T ≤ 35184372088832 := by
  obtain ⟨⟨σ, hI, hT⟩, hmin⟩ := L
  have hle : ∀ τ, Val rows n τ → T ≤ costOf rows miss τ := fun τ V => by
    obtain ⟨h1, h2⟩ := col_cost (miss := miss) hC V
    rw [← h2]; exact hmin _ h1
  have hb : T ≤ 35184372088832 := Int.le_trans (hle _ val_miss) (cost_miss hm1 hR)
  have hs : ∀ i, i < rows.length → mF (sqTo rows miss rows.length) i (σ i) < 1125899906842624 := fun i hi => by
    have := (sumN_ge (f := fun i => mF (sqTo rows miss rows.length) i (σ i)) (fun j hj => sq_nn hC hm0 j _ hj (hI.lt j hj)) i hi).1
    rw [← hT] at this
    omega
  obtain ⟨h1, h2⟩ := val_of hC hI hs
  exact ⟨⟨⟨_, h1, by rw [h2]; exact hT⟩, hle⟩, hb⟩
end
end Go.Proofs.Ytaekgifbehoipaa.Hg
