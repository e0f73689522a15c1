/- count of the package assign; a matrix that is built is one that is read. Conditions stand in each lemma. -/
import Derived.Test.YtpehhlfbnkakpaaHgF
import Derived.Test.YtpehhlfbnkakpaaEvaI2
namespace Go.Proofs.Ytpehhlfbnkakpaa.Hg
open Go Go.Proofs.Ytpehhlfbnkakpaa.Eva Go.Proofs.Ytpehhlfbnkakpaa.CodeAll Go.Proofs.Ytpehhlfbnkakpaa.Fl
set_option linter.unusedVariables false
set_option linter.unusedSimpArgs false
set_option maxRecDepth 10000
set_option maxHeartbeats 4000000

def ints (n : Nat) : List Int := (List.range n).map Int.ofNat
theorem ints_succ (n : Nat) : ints (n + 1) = ints n ++ [(n : Int)] := by simp [ints, List.range_succ]
theorem ints_len (n : Nat) : (ints n).length = n := by simp [ints]
theorem count_run (H : List Ob) {n : Nat} (hn : n ≤ 1000) :
    ecall E 117 [.int .i64 (n : Int)] H = some (outV H.length 1 n, H ++ outO 1 n (flat intC (ints n)), H.length, H.length) := by
  have key : ∃ cs, cs = flat intC (ints n) ∧ ecall E 117 [.int .i64 (n : Int)] H = some (outV H.length 1 n, H ++ outO 1 n cs, H.length, H.length) := by
    refine call_list1_ex e117 rfl (Nat.le_of_ble_eq_true rfl) ?_
    simp (config := {maxSteps := 4000000}) only [c117, SS, bne_self_eq_false, wr_def, obOf, List.all_cons, List.all_nil, List.map_cons, List.map_nil, List.length_cons, List.length_nil, List.take_zero, List.take_succ_cons, List.take_nil, List.drop_zero, List.drop_succ_cons, List.drop_nil, Nat.reduceAdd, Nat.reduceMul, Nat.reduceSub, if_true, Nat.reduceLT, Nat.reduceLeDiff, ite_true, ite_false, Nat.reduceEqDiff, if_false, reduceCtorEq, ne_eq, List.getD, List.getElem?_cons_zero, List.getElem?_cons_succ, Option.getD_some, Option.bind_some, Option.map_some, Option.isSome_some, reduceIte, List.length_append, List.append_assoc, List.cons_append, List.nil_append, Option.some.injEq, forall_const, implies_true, Int.reduceNeg, eq_self, Prod.mk.injEq, List.self_eq_append_right, List.append_nil, exists_eq_left, exists_eq_left', exists_and_left, exists_eq_right, exists_and_right]
    refine W_loop (fun q f1 h1 => ∃ i : Nat, q = n - i ∧ i ≤ n ∧ f1 5 = .int .i64 (n : Int) ∧ f1 6 = .int .i64 (i : Int) ∧ IsL H.length h1 (f1 3) 1 true (flat intC (ints i)) i) (Nat.le_refl _) n ⟨0, rfl, by omega, rfl, rfl, IsL.nil (sz := 1) (fl := true)⟩ ?_
    rintro q f1 h1 hn1 ht ⟨i, rfl, hi, e5, e6, hI⟩
    rw [List.take_length] at ht
    have hH := take_eq ht
    generalize h1.drop H.length = x at hH
    subst hH
    by_cases hin : i < n
    · have hc : decide ((i : Int) < (n : Int)) = true := decide_eq_true (by omega)
      have hw1 : IntKind.i64.wrap ((i : Int) + 1) = ((i + 1 : Nat) : Int) := by rw [wrap64 (by omega) (by omega)]; omega
      simp (config := {maxSteps := 4000000}) only [e5, e6, hc, hw1, hn1, SS, bne_self_eq_false, wr_def, obOf, List.all_cons, List.all_nil, List.map_cons, List.map_nil, List.length_cons, List.length_nil, List.take_zero, List.take_succ_cons, List.take_nil, List.drop_zero, List.drop_succ_cons, List.drop_nil, Nat.reduceAdd, Nat.reduceMul, Nat.reduceSub, if_true, Nat.reduceLT, Nat.reduceLeDiff, ite_true, ite_false, Nat.reduceEqDiff, if_false, reduceCtorEq, ne_eq, List.getD, List.getElem?_cons_zero, List.getElem?_cons_succ, Option.getD_some, Option.bind_some, Option.map_some, Option.isSome_some, reduceIte, List.length_append, List.append_assoc, List.cons_append, List.nil_append, Option.some.injEq, forall_const, implies_true, Int.reduceNeg, eq_self, Prod.mk.injEq, List.self_eq_append_right, List.append_nil, exists_eq_left, exists_eq_left', exists_and_left, exists_eq_right, exists_and_right]
      refine appK_at (c := [.int .i64 (i : Int)]) (rw' := true) (fl' := true) (hI.keep2 _) (by simp [rdObj]) (by rw [flat_len (k := 1) (fun x => rfl), ints_len]) rfl (by unfold appLim; omega) (by simp) (fun v' h' hv' hfr hlen' hidv => ?_)
      refine ⟨_, by omega, i + 1, rfl, by omega, rfl, ?_⟩
      rw [ints_succ]
      simpa [flat, intC] using hv'
    · have hc : decide ((i : Int) < (n : Int)) = false := decide_eq_false (by omega)
      have hiE : i = n := by omega
      subst hiE
      simp (config := {maxSteps := 4000000}) only [e5, e6, hc, SS, bne_self_eq_false, wr_def, obOf, List.all_cons, List.all_nil, List.map_cons, List.map_nil, List.length_cons, List.length_nil, List.take_zero, List.take_succ_cons, List.take_nil, List.drop_zero, List.drop_succ_cons, List.drop_nil, Nat.reduceAdd, Nat.reduceMul, Nat.reduceSub, if_true, Nat.reduceLT, Nat.reduceLeDiff, ite_true, ite_false, Nat.reduceEqDiff, if_false, reduceCtorEq, ne_eq, List.getD, List.getElem?_cons_zero, List.getElem?_cons_succ, Option.getD_some, Option.bind_some, Option.map_some, Option.isSome_some, reduceIte, List.length_append, List.append_assoc, List.cons_append, List.nil_append, Option.some.injEq, forall_const, implies_true, Int.reduceNeg, eq_self, Prod.mk.injEq, List.self_eq_append_right, List.append_nil, exists_eq_left, exists_eq_left', exists_and_left, exists_eq_right, exists_and_right]
      exact ⟨_, rfl, hI⟩
  obtain ⟨cs, rfl, h⟩ := key
  exact h
def mF (rows : List (List Int)) (i k : Nat) : Int := ((gRow rows i)[k]?).getD 0
theorem flat_avC (vs : List AV) : flat avC vs = vs := by
  induction vs with
  | nil => rfl
  | cons x xs ih => simp only [flat, List.map_cons, List.flatten_cons] at ih ⊢; rw [ih]; rfl
theorem flat_intC (xs : List Int) : flat intC xs = xs.map gI := by
  induction xs with
  | nil => rfl
  | cons x xs ih => simp only [flat, List.map_cons, List.flatten_cons] at ih ⊢; rw [ih]; rfl
theorem Wd.ns {n0 : Nat} {H : List Ob} {v : AV} {vs : List AV} {rows : List (List Int)} (W : Wd n0 H v vs rows) : NsL H v vs rows :=
  ⟨⟨fun _ => rfl, by decide, by rw [flat_avC]; exact W.isl.rd (by simp)⟩, W.len, fun i u r hu hr => ⟨fun _ => rfl, by decide, by rw [flat_intC]; exact (W.rd i u r hu hr).rd (by simp)⟩⟩
theorem NsL.mx {H : List Ob} {v : AV} {vs : List AV} {rows : List (List Int)} {C : Nat} (A : NsL H v vs rows) (hC : ∀ r ∈ rows, r.length = C) : Mx H v (fun i => (vs[i]?).getD und) rows.length C (mF rows) := by
  refine ⟨by rw [A.out.len, A.len], A.out.cells, A.out.isTup, fun i hi => A.out.ok (by omega) (by rw [A.len]; omega), fun y i hi => ?_, fun i hi => ?_, fun i k hi hk => ?_, fun y i k hi hk => ?_⟩
  all_goals
    obtain ⟨u, r, hr, hu, S, d, o⟩ := A.row hi
    have hrl := hC r (List.mem_of_getElem? hr)
    simp only [hu, Option.getD_some]
  · exact d y
  · rw [S.len, hrl]
  · exact S.ok (by omega) (by omega)
  · obtain ⟨c, hc⟩ : ∃ c, r[k]? = some c := ⟨_, List.getElem?_eq_getElem (by omega)⟩
    rw [(S.keep y).ld0 (x := c) (by omega) (by simpa using hc), mF, gRow_eq hr, hc]; rfl
end Go.Proofs.Ytpehhlfbnkakpaa.Hg
