/- What Total of the package assign answers. Conditions stand in each lemma. -/
import Derived.Test.YtpehhlfbnkakpaaHgK
namespace Go.Proofs.Ytpehhlfbnkakpaa.Hg
open Go Go.Proofs.Ytpehhlfbnkakpaa.Eva Go.Proofs.Ytpehhlfbnkakpaa.CodeAll Go.Proofs.Ytpehhlfbnkakpaa.Fl
set_option linter.unusedVariables false
set_option linter.unusedSimpArgs false
set_option maxRecDepth 10000
set_option maxHeartbeats 4000000

theorem total_err {H : List Ob} {V : AV} {vs : List AV} {rows : List (List Int)} (A : NsL H V vs rows) {miss : Int} (hno : ¬ Ok rows miss) :
    ∃ e, e ≠ 0 ∧ ecall E 47 [V, .int .i64 miss] H = some (.tup [.int .i64 0, .int .i64 e], H, H.length, H.length) := by
  obtain ⟨e, he, hc⟩ := check_ex A miss
  have hne : e ≠ 0 := fun h => hno (he.1 h)
  have hck := pcall_some.2 hc
  have hb : (e != 0) = true := by rw [bne_iff_ne]; exact hne
  refine ⟨e, hne, call_plain e47 rfl (Nat.le_of_ble_eq_true rfl) rfl ?_⟩
  simp (config := {maxSteps := 8000000}) only [c47, hck, hb, SS, bne_self_eq_false, wr_def, obOf, List.all_cons, List.all_nil, List.map_cons, List.map_nil, List.length_cons, List.length_nil, List.take_zero, List.take_succ_cons, List.take_nil, List.drop_zero, List.drop_succ_cons, List.drop_nil, Nat.reduceAdd, Nat.reduceMul, Nat.reduceSub, if_true, Nat.reduceLT, Nat.reduceLeDiff, ite_true, ite_false, Nat.reduceEqDiff, if_false, reduceCtorEq, ne_eq, List.getD, List.getElem?_cons_zero, List.getElem?_cons_succ, Option.getD_some, Option.bind_some, Option.map_some, Option.isSome_some, reduceIte, List.length_append, List.append_assoc, List.cons_append, List.nil_append, Option.some.injEq, forall_const, implies_true, Int.reduceNeg, eq_self, Prod.mk.injEq, List.self_eq_append_right, List.append_nil, exists_eq_left, exists_eq_left', exists_and_left, exists_eq_right, exists_and_right]
theorem total_ok {H : List Ob} {V : AV} {vs : List AV} {rows : List (List Int)} (A : NsL H V vs rows) (hf : ∀ u ∈ vs, FgL H u) {miss : Int} (hok : Ok rows miss) :
    ∃ n T, n ≤ 32 ∧ (∀ r ∈ rows, RowOk n r) ∧ LeastP rows n miss T ∧ T ≤ 35184372088832 ∧ ecall E 47 [V, .int .i64 miss] H = some (.tup [.int .i64 T, .int .i64 0], H, H.length, H.length) := by
  obtain ⟨n, hn, hC⟩ := ok_n hok
  obtain ⟨v, vs', y, hW, hsq⟩ := square_ex A hf hok
  obtain ⟨T, L, htp⟩ := sq_mx hC hok.2.2.1 hok.2.2.2 hok.1 hn hW
  obtain ⟨hLP, hT⟩ := least_sq (rok_len hC) hok.2.2.1 hok.2.2.2 hok.1 L
  obtain ⟨e, he, hc⟩ := check_ex A miss
  have he0 := he.2 hok
  subst he0
  have hck := pcall_some.2 hc
  have hsn := ncall_some.2 hsq
  refine ⟨n, T, hn, hC, hLP, hT, call_plain e47 rfl (Nat.le_of_ble_eq_true rfl) rfl ?_⟩
  simp (config := {maxSteps := 8000000}) only [c47, hck, rg_calln, ncallV_fn, hsn, htp, SS, bne_self_eq_false, wr_def, obOf, List.all_cons, List.all_nil, List.map_cons, List.map_nil, List.length_cons, List.length_nil, List.take_zero, List.take_succ_cons, List.take_nil, List.drop_zero, List.drop_succ_cons, List.drop_nil, Nat.reduceAdd, Nat.reduceMul, Nat.reduceSub, if_true, Nat.reduceLT, Nat.reduceLeDiff, ite_true, ite_false, Nat.reduceEqDiff, if_false, reduceCtorEq, ne_eq, List.getD, List.getElem?_cons_zero, List.getElem?_cons_succ, Option.getD_some, Option.bind_some, Option.map_some, Option.isSome_some, reduceIte, List.length_append, List.append_assoc, List.cons_append, List.nil_append, Option.some.injEq, forall_const, implies_true, Int.reduceNeg, eq_self, Prod.mk.injEq, List.self_eq_append_right, List.append_nil, exists_eq_left, exists_eq_left', exists_and_left, exists_eq_right, exists_and_right]

end Go.Proofs.Ytpehhlfbnkakpaa.Hg
