/- What Check of the package assign answers. Conditions stand in each lemma. -/
import Derived.Test.YtpehhlfbnkakpaaHgC
import Derived.Test.YtpehhlfbnkakpaaNmI
namespace Go.Proofs.Ytpehhlfbnkakpaa.Hg
open Go Go.Proofs.Ytpehhlfbnkakpaa.Eva Go.Proofs.Ytpehhlfbnkakpaa.CodeAll Go.Proofs.Ytpehhlfbnkakpaa.Fl
set_option linter.unusedVariables false
set_option linter.unusedSimpArgs false
set_option maxRecDepth 10000
set_option maxHeartbeats 4000000

def avC (u : AV) : List AV := [u]
/-- A slice of slices of whole numbers. -/
structure NsL (h : List Ob) (v : AV) (vs : List AV) (rows : List (List Int)) : Prop where
  out : SlL h v avC 1 vs
  len : vs.length = rows.length
  inn : ∀ (i : Nat) u r, vs[i]? = some u → rows[i]? = some r → SlL h u intC 1 r
theorem NsL.keep {h : List Ob} {v : AV} {vs : List AV} {rows : List (List Int)} (A : NsL h v vs rows) (o : List Ob) : NsL (h ++ o) v vs rows :=
  ⟨A.out.keep o, A.len, fun i u r hu hr => (A.inn i u r hu hr).keep o⟩
theorem NsL.row {h : List Ob} {v : AV} {vs : List AV} {rows : List (List Int)} (A : NsL h v vs rows) {i : Nat} (hi : i < rows.length) : ∃ u r, rows[i]? = some r ∧ vs[i]? = some u ∧ SlL h u intC 1 r ∧ (∀ o, ld1A (h ++ o) (idxV 1 v (.int .i64 (i : Int))) = some u) ∧ idxOk 1 v (.int .i64 (i : Int)) := by
  obtain ⟨r, hr⟩ : ∃ r, rows[i]? = some r := ⟨_, List.getElem?_eq_getElem hi⟩
  obtain ⟨u, hu⟩ : ∃ u, vs[i]? = some u := ⟨_, List.getElem?_eq_getElem (by rw [A.len]; exact hi)⟩
  refine ⟨u, r, hr, hu, A.inn i u r hu hr, fun o => ?_, A.out.ok (by omega) (by rw [A.len]; omega)⟩
  rw [(A.out.keep o).ld0 (x := u) (by omega) (by simpa using hu)]; rfl

def RowOk (n : Nat) (r : List Int) : Prop := r.length ≤ 32 ∧ r.length = n ∧ ∀ c ∈ r, -1 ≤ c ∧ c ≤ 1099511627776
def Ok (rows : List (List Int)) (miss : Int) : Prop := rows.length ≤ 32 ∧ (∃ n, ∀ r ∈ rows, RowOk n r) ∧ 0 ≤ miss ∧ miss ≤ 1099511627776
theorem check_ex {H : List Ob} {V : AV} {vs : List AV} {rows : List (List Int)} (A : NsL H V vs rows) (miss : Int) :
    ∃ e, (e = 0 ↔ Ok rows miss) ∧ ecall E 87 [V, .int .i64 miss] H = some (.int .i64 e, H, H.length, H.length) := by
  have key : ∃ v, (∃ e, (e = 0 ↔ Ok rows miss) ∧ v = .int .i64 e) ∧ ecall E 87 [V, .int .i64 miss] H = some (v, H, H.length, H.length) := by
    refine call_exP e87 rfl (Nat.le_of_ble_eq_true rfl) (by rintro v ⟨T, -, rfl⟩; rfl) ?_
    have hlen := A.out.len
    rw [A.len] at hlen
    by_cases c0 : 32 < rows.length
    · have hc : decide ((32 : Int) < (rows.length : Int)) = true := decide_eq_true (by omega)
      simp (config := {maxSteps := 8000000}) only [c87, hlen, hc, SS, bne_self_eq_false, wr_def, obOf, List.all_cons, List.all_nil, List.map_cons, List.map_nil, List.length_cons, List.length_nil, List.take_zero, List.take_succ_cons, List.take_nil, List.drop_zero, List.drop_succ_cons, List.drop_nil, Nat.reduceAdd, Nat.reduceMul, Nat.reduceSub, if_true, Nat.reduceLT, Nat.reduceLeDiff, ite_true, ite_false, Nat.reduceEqDiff, if_false, reduceCtorEq, ne_eq, List.getD, List.getElem?_cons_zero, List.getElem?_cons_succ, Option.getD_some, Option.bind_some, Option.map_some, Option.isSome_some, reduceIte, List.length_append, List.append_assoc, List.cons_append, List.nil_append, Option.some.injEq, forall_const, implies_true, Int.reduceNeg, eq_self, Prod.mk.injEq, List.self_eq_append_right, List.append_nil, exists_eq_left, exists_eq_left', exists_and_left, exists_eq_right, exists_and_right]
      exact ⟨2, ⟨fun h => by omega, fun h => by have := h.1; omega⟩, rfl⟩
    have hc : decide ((32 : Int) < (rows.length : Int)) = false := decide_eq_false (by omega)
    simp (config := {maxSteps := 8000000}) only [c87, hlen, hc, SS, bne_self_eq_false, wr_def, obOf, List.all_cons, List.all_nil, List.map_cons, List.map_nil, List.length_cons, List.length_nil, List.take_zero, List.take_succ_cons, List.take_nil, List.drop_zero, List.drop_succ_cons, List.drop_nil, Nat.reduceAdd, Nat.reduceMul, Nat.reduceSub, if_true, Nat.reduceLT, Nat.reduceLeDiff, ite_true, ite_false, Nat.reduceEqDiff, if_false, reduceCtorEq, ne_eq, List.getD, List.getElem?_cons_zero, List.getElem?_cons_succ, Option.getD_some, Option.bind_some, Option.map_some, Option.isSome_some, reduceIte, List.length_append, List.append_assoc, List.cons_append, List.nil_append, Option.some.injEq, forall_const, implies_true, Int.reduceNeg, eq_self, Prod.mk.injEq, List.self_eq_append_right, List.append_nil, exists_eq_left, exists_eq_left', exists_and_left, exists_eq_right, exists_and_right]
    refine W_loop (fun q f1 h1 => ∃ i : Nat, q = rows.length - i ∧ i ≤ rows.length ∧ f1 0 = V ∧ f1 1 = .int .i64 miss ∧ f1 12 = V ∧ f1 13 = .int .i64 (rows.length : Int) ∧ f1 14 = .int .i64 (i : Int) ∧ ∀ (j : Nat) r r0, j < i → rows[j]? = some r → rows[0]? = some r0 → RowOk r0.length r) (Nat.le_refl _) rows.length ⟨0, rfl, by omega, rfl, rfl, rfl, rfl, rfl, fun j r r0 hj => by omega⟩ ?_
    rintro q f1 h1 hn1 ht ⟨i, rfl, hi, e0, e1, e12, e13, e14, hok⟩
    rw [List.take_length] at ht
    have hH := take_eq ht
    generalize h1.drop H.length = x at hH
    subst hH
    by_cases hiR : i < rows.length
    · have hc1 : decide ((i : Int) < (rows.length : Int)) = true := decide_eq_true (by omega)
      have hw1 : IntKind.i64.wrap ((i : Int) + 1) = ((i + 1 : Nat) : Int) := by rw [wrap64 (by omega) (by omega)]; omega
      obtain ⟨u, r, hr, hu, S, d1, o1⟩ := A.row hiR
      obtain ⟨u0, r0, hr0, hu0, S0, d0, o0⟩ := A.row (i := 0) (by omega)
      have o0' : idxOk 1 V (.int .i64 0) := o0
      have d0' : ∀ o, ld1A (H ++ o) (idxV 1 V (.int .i64 0)) = some u0 := d0
      have l1 := S.len
      have l0 := S0.len
      have hrm := List.mem_of_getElem? hr
      have hr0m := List.mem_of_getElem? hr0
      by_cases c1 : 32 < r.length
      · have hc2 : decide ((32 : Int) < (r.length : Int)) = true := decide_eq_true (by omega)
        simp (config := {maxSteps := 8000000}) only [e0, e1, e12, e13, e14, hc1, o1, isPtr_idx o1, d1, l1, hc2, SS, bne_self_eq_false, wr_def, obOf, List.all_cons, List.all_nil, List.map_cons, List.map_nil, List.length_cons, List.length_nil, List.take_zero, List.take_succ_cons, List.take_nil, List.drop_zero, List.drop_succ_cons, List.drop_nil, Nat.reduceAdd, Nat.reduceMul, Nat.reduceSub, if_true, Nat.reduceLT, Nat.reduceLeDiff, ite_true, ite_false, Nat.reduceEqDiff, if_false, reduceCtorEq, ne_eq, List.getD, List.getElem?_cons_zero, List.getElem?_cons_succ, Option.getD_some, Option.bind_some, Option.map_some, Option.isSome_some, reduceIte, List.length_append, List.append_assoc, List.cons_append, List.nil_append, Option.some.injEq, forall_const, implies_true, Int.reduceNeg, eq_self, Prod.mk.injEq, List.self_eq_append_right, List.append_nil, exists_eq_left, exists_eq_left', exists_and_left, exists_eq_right, exists_and_right]
        exact ⟨2, ⟨fun h => by omega, fun h => by obtain ⟨n, hn⟩ := h.2.1; have := (hn r hrm).1; omega⟩, rfl⟩
      have hc2 : decide ((32 : Int) < (r.length : Int)) = false := decide_eq_false (by omega)
      by_cases c2 : r.length = r0.length
      · have hc3 : ((r.length : Int) != (r0.length : Int)) = false := by rw [c2]; simp
        simp (config := {maxSteps := 8000000}) only [e0, e1, e12, e13, e14, hc1, o1, isPtr_idx o1, d1, l1, hc2, o0', isPtr_idx o0', d0', l0, hc3, SS, bne_self_eq_false, wr_def, obOf, List.all_cons, List.all_nil, List.map_cons, List.map_nil, List.length_cons, List.length_nil, List.take_zero, List.take_succ_cons, List.take_nil, List.drop_zero, List.drop_succ_cons, List.drop_nil, Nat.reduceAdd, Nat.reduceMul, Nat.reduceSub, if_true, Nat.reduceLT, Nat.reduceLeDiff, ite_true, ite_false, Nat.reduceEqDiff, if_false, reduceCtorEq, ne_eq, List.getD, List.getElem?_cons_zero, List.getElem?_cons_succ, Option.getD_some, Option.bind_some, Option.map_some, Option.isSome_some, reduceIte, List.length_append, List.append_assoc, List.cons_append, List.nil_append, Option.some.injEq, forall_const, implies_true, Int.reduceNeg, eq_self, Prod.mk.injEq, List.self_eq_append_right, List.append_nil, exists_eq_left, exists_eq_left', exists_and_left, exists_eq_right, exists_and_right]
        refine W_loop (fun q f2 h2 => ∃ k : Nat, q = r.length - k ∧ k ≤ r.length ∧ f2 0 = V ∧ f2 1 = .int .i64 miss ∧ f2 12 = V ∧ f2 13 = .int .i64 (rows.length : Int) ∧ f2 14 = .int .i64 (i : Int) ∧ f2 28 = u ∧ f2 29 = .int .i64 (r.length : Int) ∧ f2 30 = .int .i64 (k : Int) ∧ ∀ (j : Nat) c, j < k → r[j]? = some c → -1 ≤ c ∧ c ≤ 1099511627776) (by simp) r.length ⟨0, rfl, by omega, by simp only [e0, SS, bne_self_eq_false, wr_def, obOf, List.all_cons, List.all_nil, List.map_cons, List.map_nil, List.length_cons, List.length_nil, List.take_zero, List.take_succ_cons, List.take_nil, List.drop_zero, List.drop_succ_cons, List.drop_nil, Nat.reduceAdd, Nat.reduceMul, Nat.reduceSub, if_true, Nat.reduceLT, Nat.reduceLeDiff, ite_true, ite_false, Nat.reduceEqDiff, if_false, reduceCtorEq, ne_eq, List.getD, List.getElem?_cons_zero, List.getElem?_cons_succ, Option.getD_some, Option.bind_some, Option.map_some, Option.isSome_some, reduceIte, List.length_append, List.append_assoc, List.cons_append, List.nil_append, Option.some.injEq, forall_const, implies_true, Int.reduceNeg, eq_self, Prod.mk.injEq, List.self_eq_append_right, List.append_nil, exists_eq_left, exists_eq_left', exists_and_left, exists_eq_right, exists_and_right], by simp only [e1, SS, bne_self_eq_false, wr_def, obOf, List.all_cons, List.all_nil, List.map_cons, List.map_nil, List.length_cons, List.length_nil, List.take_zero, List.take_succ_cons, List.take_nil, List.drop_zero, List.drop_succ_cons, List.drop_nil, Nat.reduceAdd, Nat.reduceMul, Nat.reduceSub, if_true, Nat.reduceLT, Nat.reduceLeDiff, ite_true, ite_false, Nat.reduceEqDiff, if_false, reduceCtorEq, ne_eq, List.getD, List.getElem?_cons_zero, List.getElem?_cons_succ, Option.getD_some, Option.bind_some, Option.map_some, Option.isSome_some, reduceIte, List.length_append, List.append_assoc, List.cons_append, List.nil_append, Option.some.injEq, forall_const, implies_true, Int.reduceNeg, eq_self, Prod.mk.injEq, List.self_eq_append_right, List.append_nil, exists_eq_left, exists_eq_left', exists_and_left, exists_eq_right, exists_and_right], by simp only [e12, SS, bne_self_eq_false, wr_def, obOf, List.all_cons, List.all_nil, List.map_cons, List.map_nil, List.length_cons, List.length_nil, List.take_zero, List.take_succ_cons, List.take_nil, List.drop_zero, List.drop_succ_cons, List.drop_nil, Nat.reduceAdd, Nat.reduceMul, Nat.reduceSub, if_true, Nat.reduceLT, Nat.reduceLeDiff, ite_true, ite_false, Nat.reduceEqDiff, if_false, reduceCtorEq, ne_eq, List.getD, List.getElem?_cons_zero, List.getElem?_cons_succ, Option.getD_some, Option.bind_some, Option.map_some, Option.isSome_some, reduceIte, List.length_append, List.append_assoc, List.cons_append, List.nil_append, Option.some.injEq, forall_const, implies_true, Int.reduceNeg, eq_self, Prod.mk.injEq, List.self_eq_append_right, List.append_nil, exists_eq_left, exists_eq_left', exists_and_left, exists_eq_right, exists_and_right], by simp only [e13, SS, bne_self_eq_false, wr_def, obOf, List.all_cons, List.all_nil, List.map_cons, List.map_nil, List.length_cons, List.length_nil, List.take_zero, List.take_succ_cons, List.take_nil, List.drop_zero, List.drop_succ_cons, List.drop_nil, Nat.reduceAdd, Nat.reduceMul, Nat.reduceSub, if_true, Nat.reduceLT, Nat.reduceLeDiff, ite_true, ite_false, Nat.reduceEqDiff, if_false, reduceCtorEq, ne_eq, List.getD, List.getElem?_cons_zero, List.getElem?_cons_succ, Option.getD_some, Option.bind_some, Option.map_some, Option.isSome_some, reduceIte, List.length_append, List.append_assoc, List.cons_append, List.nil_append, Option.some.injEq, forall_const, implies_true, Int.reduceNeg, eq_self, Prod.mk.injEq, List.self_eq_append_right, List.append_nil, exists_eq_left, exists_eq_left', exists_and_left, exists_eq_right, exists_and_right], by simp only [e14, SS, bne_self_eq_false, wr_def, obOf, List.all_cons, List.all_nil, List.map_cons, List.map_nil, List.length_cons, List.length_nil, List.take_zero, List.take_succ_cons, List.take_nil, List.drop_zero, List.drop_succ_cons, List.drop_nil, Nat.reduceAdd, Nat.reduceMul, Nat.reduceSub, if_true, Nat.reduceLT, Nat.reduceLeDiff, ite_true, ite_false, Nat.reduceEqDiff, if_false, reduceCtorEq, ne_eq, List.getD, List.getElem?_cons_zero, List.getElem?_cons_succ, Option.getD_some, Option.bind_some, Option.map_some, Option.isSome_some, reduceIte, List.length_append, List.append_assoc, List.cons_append, List.nil_append, Option.some.injEq, forall_const, implies_true, Int.reduceNeg, eq_self, Prod.mk.injEq, List.self_eq_append_right, List.append_nil, exists_eq_left, exists_eq_left', exists_and_left, exists_eq_right, exists_and_right], rfl, rfl, rfl, fun j c hj => by omega⟩ ?_
        clear e0 e1 e12 e13 e14
        rintro q f2 h2 hn2 ht2 ⟨k, rfl, hk, e0, e1, e12, e13, e14, e28, e29, e30, hokc⟩
        rw [List.take_left] at ht2
        have hH := take_eq ht2
        generalize h2.drop H.length = y at hH
        subst hH
        by_cases hkr : k < r.length
        · have hc4 : decide ((k : Int) < (r.length : Int)) = true := decide_eq_true (by omega)
          have hw2 : IntKind.i64.wrap ((k : Int) + 1) = ((k + 1 : Nat) : Int) := by rw [wrap64 (by omega) (by omega)]; omega
          obtain ⟨c, hcc⟩ : ∃ c, r[k]? = some c := ⟨_, List.getElem?_eq_getElem hkr⟩
          have o2 : idxOk 1 u (.int .i64 (k : Int)) := S.ok (by omega) (by omega)
          have d2 : ∀ o, ld1A (H ++ o) (idxV 1 u (.int .i64 (k : Int))) = some (.int .i64 c) := fun o => by rw [(S.keep o).ld0 (x := c) (by omega) (by simpa using hcc)]; rfl
          by_cases c3 : -1 ≤ c ∧ c ≤ 1099511627776
          · have hb : decide (c < -1) = false := decide_eq_false (by omega)
            have hb2 : decide (1099511627776 < c) = false := decide_eq_false (by omega)
            simp (config := {maxSteps := 8000000}) only [e0, e1, e12, e13, e14, e28, e29, e30, hc4, hw2, o2, isPtr_idx o2, d2, hb, hb2, SS, bne_self_eq_false, wr_def, obOf, List.all_cons, List.all_nil, List.map_cons, List.map_nil, List.length_cons, List.length_nil, List.take_zero, List.take_succ_cons, List.take_nil, List.drop_zero, List.drop_succ_cons, List.drop_nil, Nat.reduceAdd, Nat.reduceMul, Nat.reduceSub, if_true, Nat.reduceLT, Nat.reduceLeDiff, ite_true, ite_false, Nat.reduceEqDiff, if_false, reduceCtorEq, ne_eq, List.getD, List.getElem?_cons_zero, List.getElem?_cons_succ, Option.getD_some, Option.bind_some, Option.map_some, Option.isSome_some, reduceIte, List.length_append, List.append_assoc, List.cons_append, List.nil_append, Option.some.injEq, forall_const, implies_true, Int.reduceNeg, eq_self, Prod.mk.injEq, List.self_eq_append_right, List.append_nil, exists_eq_left, exists_eq_left', exists_and_left, exists_eq_right, exists_and_right]
            refine ⟨_, by omega, k + 1, rfl, by omega, rfl, fun j c' hj hjc => ?_⟩
            by_cases hjk : j < k
            · exact hokc j c' hjk hjc
            · have : j = k := by omega
              subst this
              rw [hcc] at hjc; simp at hjc; subst hjc; exact c3
          · have hne : ¬ Ok rows miss := fun h => by
              obtain ⟨n, hn⟩ := h.2.1
              exact c3 ((hn r hrm).2.2 c (List.mem_of_getElem? hcc))
            by_cases c4 : c < -1
            · have hb : decide (c < -1) = true := decide_eq_true c4
              simp (config := {maxSteps := 8000000}) only [e0, e1, e12, e13, e14, e28, e29, e30, hc4, hw2, o2, isPtr_idx o2, d2, hb, SS, bne_self_eq_false, wr_def, obOf, List.all_cons, List.all_nil, List.map_cons, List.map_nil, List.length_cons, List.length_nil, List.take_zero, List.take_succ_cons, List.take_nil, List.drop_zero, List.drop_succ_cons, List.drop_nil, Nat.reduceAdd, Nat.reduceMul, Nat.reduceSub, if_true, Nat.reduceLT, Nat.reduceLeDiff, ite_true, ite_false, Nat.reduceEqDiff, if_false, reduceCtorEq, ne_eq, List.getD, List.getElem?_cons_zero, List.getElem?_cons_succ, Option.getD_some, Option.bind_some, Option.map_some, Option.isSome_some, reduceIte, List.length_append, List.append_assoc, List.cons_append, List.nil_append, Option.some.injEq, forall_const, implies_true, Int.reduceNeg, eq_self, Prod.mk.injEq, List.self_eq_append_right, List.append_nil, exists_eq_left, exists_eq_left', exists_and_left, exists_eq_right, exists_and_right]
              exact ⟨4, ⟨fun h => by omega, fun h => absurd h hne⟩, rfl⟩
            · have hb : decide (c < -1) = false := decide_eq_false c4
              have hb2 : decide (1099511627776 < c) = true := decide_eq_true (by omega)
              simp (config := {maxSteps := 8000000}) only [e0, e1, e12, e13, e14, e28, e29, e30, hc4, hw2, o2, isPtr_idx o2, d2, hb, hb2, SS, bne_self_eq_false, wr_def, obOf, List.all_cons, List.all_nil, List.map_cons, List.map_nil, List.length_cons, List.length_nil, List.take_zero, List.take_succ_cons, List.take_nil, List.drop_zero, List.drop_succ_cons, List.drop_nil, Nat.reduceAdd, Nat.reduceMul, Nat.reduceSub, if_true, Nat.reduceLT, Nat.reduceLeDiff, ite_true, ite_false, Nat.reduceEqDiff, if_false, reduceCtorEq, ne_eq, List.getD, List.getElem?_cons_zero, List.getElem?_cons_succ, Option.getD_some, Option.bind_some, Option.map_some, Option.isSome_some, reduceIte, List.length_append, List.append_assoc, List.cons_append, List.nil_append, Option.some.injEq, forall_const, implies_true, Int.reduceNeg, eq_self, Prod.mk.injEq, List.self_eq_append_right, List.append_nil, exists_eq_left, exists_eq_left', exists_and_left, exists_eq_right, exists_and_right]
              exact ⟨4, ⟨fun h => by omega, fun h => absurd h hne⟩, rfl⟩
        · have hc4 : decide ((k : Int) < (r.length : Int)) = false := decide_eq_false (by omega)
          simp (config := {maxSteps := 8000000}) only [e0, e1, e12, e13, e14, e28, e29, e30, hc4, hw1, SS, bne_self_eq_false, wr_def, obOf, List.all_cons, List.all_nil, List.map_cons, List.map_nil, List.length_cons, List.length_nil, List.take_zero, List.take_succ_cons, List.take_nil, List.drop_zero, List.drop_succ_cons, List.drop_nil, Nat.reduceAdd, Nat.reduceMul, Nat.reduceSub, if_true, Nat.reduceLT, Nat.reduceLeDiff, ite_true, ite_false, Nat.reduceEqDiff, if_false, reduceCtorEq, ne_eq, List.getD, List.getElem?_cons_zero, List.getElem?_cons_succ, Option.getD_some, Option.bind_some, Option.map_some, Option.isSome_some, reduceIte, List.length_append, List.append_assoc, List.cons_append, List.nil_append, Option.some.injEq, forall_const, implies_true, Int.reduceNeg, eq_self, Prod.mk.injEq, List.self_eq_append_right, List.append_nil, exists_eq_left, exists_eq_left', exists_and_left, exists_eq_right, exists_and_right]
          have : k = r.length := by omega
          subst this
          refine ⟨_, by omega, i + 1, rfl, by omega, rfl, fun j r' r0' hj hjr h0' => ?_⟩
          rw [hr0] at h0'; simp at h0'; subst h0'
          by_cases hji : j < i
          · exact hok j r' r0 hji hjr hr0
          · have : j = i := by omega
            subst this
            rw [hr] at hjr; simp at hjr; subst hjr
            refine ⟨by omega, c2, fun c hc => ?_⟩
            obtain ⟨j, hj, rfl⟩ := List.getElem_of_mem hc
            exact hokc j _ hj (List.getElem?_eq_getElem hj)
      · have hc3 : ((r.length : Int) != (r0.length : Int)) = true := by rw [bne_iff_ne]; omega
        simp (config := {maxSteps := 8000000}) only [e0, e1, e12, e13, e14, hc1, o1, isPtr_idx o1, d1, l1, hc2, o0', isPtr_idx o0', d0', l0, hc3, SS, bne_self_eq_false, wr_def, obOf, List.all_cons, List.all_nil, List.map_cons, List.map_nil, List.length_cons, List.length_nil, List.take_zero, List.take_succ_cons, List.take_nil, List.drop_zero, List.drop_succ_cons, List.drop_nil, Nat.reduceAdd, Nat.reduceMul, Nat.reduceSub, if_true, Nat.reduceLT, Nat.reduceLeDiff, ite_true, ite_false, Nat.reduceEqDiff, if_false, reduceCtorEq, ne_eq, List.getD, List.getElem?_cons_zero, List.getElem?_cons_succ, Option.getD_some, Option.bind_some, Option.map_some, Option.isSome_some, reduceIte, List.length_append, List.append_assoc, List.cons_append, List.nil_append, Option.some.injEq, forall_const, implies_true, Int.reduceNeg, eq_self, Prod.mk.injEq, List.self_eq_append_right, List.append_nil, exists_eq_left, exists_eq_left', exists_and_left, exists_eq_right, exists_and_right]
        exact ⟨3, ⟨fun h => by omega, fun h => by
          obtain ⟨n, hn⟩ := h.2.1
          have := (hn r hrm).2.1; have := (hn r0 hr0m).2.1; omega⟩, rfl⟩
    · have hc1 : decide ((i : Int) < (rows.length : Int)) = false := decide_eq_false (by omega)
      have hiE : i = rows.length := by omega
      subst hiE
      have hrows : ∃ n, ∀ r ∈ rows, RowOk n r := by
        by_cases h0 : rows.length = 0
        · exact ⟨0, fun r hr => by rw [List.length_eq_zero_iff.1 h0] at hr; cases hr⟩
        · obtain ⟨r0, hr0⟩ : ∃ r0, rows[0]? = some r0 := ⟨_, List.getElem?_eq_getElem (by omega)⟩
          refine ⟨r0.length, fun r hr => ?_⟩
          obtain ⟨j, hj, rfl⟩ := List.getElem_of_mem hr
          exact hok j _ r0 hj (List.getElem?_eq_getElem hj) hr0
      by_cases c5 : 0 ≤ miss ∧ miss ≤ 1099511627776
      · have hb : decide (miss < 0) = false := decide_eq_false (by omega)
        have hb2 : decide (1099511627776 < miss) = false := decide_eq_false (by omega)
        simp (config := {maxSteps := 8000000}) only [e0, e1, e12, e13, e14, hc1, hb, hb2, SS, bne_self_eq_false, wr_def, obOf, List.all_cons, List.all_nil, List.map_cons, List.map_nil, List.length_cons, List.length_nil, List.take_zero, List.take_succ_cons, List.take_nil, List.drop_zero, List.drop_succ_cons, List.drop_nil, Nat.reduceAdd, Nat.reduceMul, Nat.reduceSub, if_true, Nat.reduceLT, Nat.reduceLeDiff, ite_true, ite_false, Nat.reduceEqDiff, if_false, reduceCtorEq, ne_eq, List.getD, List.getElem?_cons_zero, List.getElem?_cons_succ, Option.getD_some, Option.bind_some, Option.map_some, Option.isSome_some, reduceIte, List.length_append, List.append_assoc, List.cons_append, List.nil_append, Option.some.injEq, forall_const, implies_true, Int.reduceNeg, eq_self, Prod.mk.injEq, List.self_eq_append_right, List.append_nil, exists_eq_left, exists_eq_left', exists_and_left, exists_eq_right, exists_and_right]
        exact ⟨0, ⟨fun _ => ⟨by omega, hrows, c5⟩, fun _ => rfl⟩, rfl⟩
      · by_cases c6 : miss < 0
        · have hb : decide (miss < 0) = true := decide_eq_true c6
          simp (config := {maxSteps := 8000000}) only [e0, e1, e12, e13, e14, hc1, hb, SS, bne_self_eq_false, wr_def, obOf, List.all_cons, List.all_nil, List.map_cons, List.map_nil, List.length_cons, List.length_nil, List.take_zero, List.take_succ_cons, List.take_nil, List.drop_zero, List.drop_succ_cons, List.drop_nil, Nat.reduceAdd, Nat.reduceMul, Nat.reduceSub, if_true, Nat.reduceLT, Nat.reduceLeDiff, ite_true, ite_false, Nat.reduceEqDiff, if_false, reduceCtorEq, ne_eq, List.getD, List.getElem?_cons_zero, List.getElem?_cons_succ, Option.getD_some, Option.bind_some, Option.map_some, Option.isSome_some, reduceIte, List.length_append, List.append_assoc, List.cons_append, List.nil_append, Option.some.injEq, forall_const, implies_true, Int.reduceNeg, eq_self, Prod.mk.injEq, List.self_eq_append_right, List.append_nil, exists_eq_left, exists_eq_left', exists_and_left, exists_eq_right, exists_and_right]
          exact ⟨4, ⟨fun h => by omega, fun h => absurd h.2.2 c5⟩, rfl⟩
        · have hb : decide (miss < 0) = false := decide_eq_false c6
          have hb2 : decide (1099511627776 < miss) = true := decide_eq_true (by omega)
          simp (config := {maxSteps := 8000000}) only [e0, e1, e12, e13, e14, hc1, hb, hb2, SS, bne_self_eq_false, wr_def, obOf, List.all_cons, List.all_nil, List.map_cons, List.map_nil, List.length_cons, List.length_nil, List.take_zero, List.take_succ_cons, List.take_nil, List.drop_zero, List.drop_succ_cons, List.drop_nil, Nat.reduceAdd, Nat.reduceMul, Nat.reduceSub, if_true, Nat.reduceLT, Nat.reduceLeDiff, ite_true, ite_false, Nat.reduceEqDiff, if_false, reduceCtorEq, ne_eq, List.getD, List.getElem?_cons_zero, List.getElem?_cons_succ, Option.getD_some, Option.bind_some, Option.map_some, Option.isSome_some, reduceIte, List.length_append, List.append_assoc, List.cons_append, List.nil_append, Option.some.injEq, forall_const, implies_true, Int.reduceNeg, eq_self, Prod.mk.injEq, List.self_eq_append_right, List.append_nil, exists_eq_left, exists_eq_left', exists_and_left, exists_eq_right, exists_and_right]
          exact ⟨4, ⟨fun h => by omega, fun h => absurd h.2.2 c5⟩, rfl⟩
  obtain ⟨v, ⟨e, he, rfl⟩, hv⟩ := key
  exact ⟨e, he, hv⟩
end Go.Proofs.Ytpehhlfbnkakpaa.Hg
