/- What the reference's Root answers. Conditions stand in each lemma. -/
import Derived.Test.YtpehhlfbnkakpaaRtA
namespace Go.Proofs.Ytpehhlfbnkakpaa.Fl
open Go Go.Proofs.Ytpehhlfbnkakpaa.Eva Go.Proofs.Ytpehhlfbnkakpaa.CodeAll
set_option linter.unusedVariables false
set_option linter.unusedSimpArgs false
set_option maxRecDepth 10000
set_option maxHeartbeats 4000000

theorem rroot_pc {n : Int} (hn : n < 9223372036854775808) (H : List Ob) : pcall E 43 [.int .i64 n] H = some (.int .i64 (rt n)) := by
  refine pcall_some.2 (call_plain e43 rfl (Nat.le_of_ble_eq_true rfl) rfl ?_)
  simp (config := {maxSteps := 4000000}) only [c43, SS, bne_self_eq_false, wr_def, obOf, List.all_cons, List.all_nil, List.map_cons, List.map_nil, List.length_cons, List.length_nil, List.take_zero, List.take_succ_cons, List.take_nil, List.drop_zero, List.drop_succ_cons, List.drop_nil, Nat.reduceAdd, Nat.reduceMul, Nat.reduceSub, if_true, Nat.reduceLT, Nat.reduceLeDiff, ite_true, ite_false, Nat.reduceEqDiff, if_false, reduceCtorEq, ne_eq, List.getD, List.getElem?_cons_zero, List.getElem?_cons_succ, Option.getD_some, Option.bind_some, Option.map_some, Option.isSome_some, reduceIte, List.length_append, List.append_assoc, List.cons_append, List.nil_append, Option.some.injEq, forall_const, implies_true, Int.reduceNeg, eq_self, Prod.mk.injEq, List.self_eq_append_right, List.append_nil, exists_eq_left, exists_eq_left', exists_and_left, exists_eq_right, exists_and_right]
  refine W_loop (fun s f1 h1 => ∃ r : Int, s ≤ 32 ∧ 0 ≤ r ∧ r ≤ 3037000499 ∧ (n ≤ 0 → r = 0) ∧ (0 < n → r * r ≤ n) ∧ (0 < n → n < (r + 2 ^ s) * (r + 2 ^ s) ∨ 3037000499 < r + 2 ^ s) ∧ f1 0 = .int .i64 n ∧ f1 3 = .int .i64 r ∧ f1 4 = .int .i64 ((s : Int) - 1) ∧ h1 = H) (by simp) 32 ⟨0, by omega, by omega, by omega, fun _ => rfl, fun _ => by omega, fun _ => .inr (by decide), rfl, rfl, rfl, rfl⟩ ?_
  rintro s f1 h1 hn1 ht ⟨r, hs, r0, r1, rz, rs, ru, e0, e3, e4, rfl⟩
  by_cases hs0 : s = 0
  · subst hs0
    have hc : decide ((0 : Int) ≤ ((0 : Nat) : Int) - 1) = false := rfl
    have hre : rt n = r := by
      refine rt_eq ?_
      by_cases h : n ≤ 0
      · exact .inl ⟨h, rz h⟩
      · refine .inr ⟨by omega, r0, rs (by omega), ?_⟩
        have e1 : (2 : Int) ^ 0 = 1 := rfl
        rcases ru (by omega) with h9 | h9
        · rw [e1] at h9; exact h9
        · rw [e1] at h9
          have : r = 3037000499 := by omega
          subst this
          omega
    simp (config := {maxSteps := 4000000}) only [e0, e3, e4, hc, hre, SS, bne_self_eq_false, wr_def, obOf, List.all_cons, List.all_nil, List.map_cons, List.map_nil, List.length_cons, List.length_nil, List.take_zero, List.take_succ_cons, List.take_nil, List.drop_zero, List.drop_succ_cons, List.drop_nil, Nat.reduceAdd, Nat.reduceMul, Nat.reduceSub, if_true, Nat.reduceLT, Nat.reduceLeDiff, ite_true, ite_false, Nat.reduceEqDiff, if_false, reduceCtorEq, ne_eq, List.getD, List.getElem?_cons_zero, List.getElem?_cons_succ, Option.getD_some, Option.bind_some, Option.map_some, Option.isSome_some, reduceIte, List.length_append, List.append_assoc, List.cons_append, List.nil_append, Option.some.injEq, forall_const, implies_true, Int.reduceNeg, eq_self, Prod.mk.injEq, List.self_eq_append_right, List.append_nil, exists_eq_left, exists_eq_left', exists_and_left, exists_eq_right, exists_and_right]
  obtain ⟨b, rfl⟩ : ∃ b, s = b + 1 := ⟨s - 1, by omega⟩
  have hb : ((b + 1 : Nat) : Int) - 1 = (b : Int) := by omega
  rw [hb] at e4
  have hc : decide ((0 : Int) ≤ (b : Int)) = true := decide_eq_true (by omega)
  have hp1 : (2 : Nat) ^ b ≤ 2 ^ 31 := Nat.pow_le_pow_right (by decide) (by omega)
  have hp0 : 0 < (2 : Nat) ^ b := Nat.two_pow_pos _
  have hsh : abin .shl (.int .i64 1) (.int .i64 (b : Int)) = some (.int .i64 ((2 ^ b : Nat) : Int)) := by
    have := shl_i (kk := .i64) 1 b (by omega) (by omega)
    simpa using this
  have hpow : (2 : Int) ^ (b + 1) = 2 * ((2 ^ b : Nat) : Int) := by rw [Int.pow_succ]; simp; omega
  have hpb : (2 : Int) ^ b = ((2 ^ b : Nat) : Int) := by simp
  rw [hpow] at ru
  generalize (2 : Nat) ^ b = p at *
  have hx : IntKind.i64.wrap (r + (p : Int)) = r + p := wrap64 (by omega) (by omega)
  have hb1 : IntKind.i64.wrap ((b : Int) - 1) = (b : Int) - 1 := wrap64 (by omega) (by omega)
  by_cases c1 : 0 < n
  · have c1' : decide (0 < n) = true := decide_eq_true c1
    by_cases c2 : r + (p : Int) ≤ 3037000499
    · have c2' : decide (r + (p : Int) ≤ 3037000499) = true := decide_eq_true c2
      have hxx := sq_mono (a := r + (p : Int)) (b := 3037000499) (by omega) c2
      have hx0 := sq_mono (a := 0) (b := r + (p : Int)) (by omega) (by omega)
      have hw : IntKind.i64.wrap ((r + (p : Int)) * (r + p)) = (r + (p : Int)) * (r + p) := wrap64 (by omega) (by omega)
      by_cases c3 : (r + (p : Int)) * (r + p) ≤ n
      · have c3' : decide ((r + (p : Int)) * (r + p) ≤ n) = true := decide_eq_true c3
        simp (config := {maxSteps := 4000000}) only [e0, e3, e4, hc, hsh, hx, hb1, c1', c2', hw, c3', SS, bne_self_eq_false, wr_def, obOf, List.all_cons, List.all_nil, List.map_cons, List.map_nil, List.length_cons, List.length_nil, List.take_zero, List.take_succ_cons, List.take_nil, List.drop_zero, List.drop_succ_cons, List.drop_nil, Nat.reduceAdd, Nat.reduceMul, Nat.reduceSub, if_true, Nat.reduceLT, Nat.reduceLeDiff, ite_true, ite_false, Nat.reduceEqDiff, if_false, reduceCtorEq, ne_eq, List.getD, List.getElem?_cons_zero, List.getElem?_cons_succ, Option.getD_some, Option.bind_some, Option.map_some, Option.isSome_some, reduceIte, List.length_append, List.append_assoc, List.cons_append, List.nil_append, Option.some.injEq, forall_const, implies_true, Int.reduceNeg, eq_self, Prod.mk.injEq, List.self_eq_append_right, List.append_nil, exists_eq_left, exists_eq_left', exists_and_left, exists_eq_right, exists_and_right]
        refine ⟨b, by omega, by omega, r + p, by omega, c2, fun h => by omega, fun _ => c3, fun _ => ?_, rfl, rfl⟩
        rw [hpb]
        have e9 : r + (p : Int) + p = r + 2 * p := by omega
        rw [e9]; exact ru c1
      · have c3' : decide ((r + (p : Int)) * (r + p) ≤ n) = false := decide_eq_false c3
        simp (config := {maxSteps := 4000000}) only [e0, e3, e4, hc, hsh, hx, hb1, c1', c2', hw, c3', SS, bne_self_eq_false, wr_def, obOf, List.all_cons, List.all_nil, List.map_cons, List.map_nil, List.length_cons, List.length_nil, List.take_zero, List.take_succ_cons, List.take_nil, List.drop_zero, List.drop_succ_cons, List.drop_nil, Nat.reduceAdd, Nat.reduceMul, Nat.reduceSub, if_true, Nat.reduceLT, Nat.reduceLeDiff, ite_true, ite_false, Nat.reduceEqDiff, if_false, reduceCtorEq, ne_eq, List.getD, List.getElem?_cons_zero, List.getElem?_cons_succ, Option.getD_some, Option.bind_some, Option.map_some, Option.isSome_some, reduceIte, List.length_append, List.append_assoc, List.cons_append, List.nil_append, Option.some.injEq, forall_const, implies_true, Int.reduceNeg, eq_self, Prod.mk.injEq, List.self_eq_append_right, List.append_nil, exists_eq_left, exists_eq_left', exists_and_left, exists_eq_right, exists_and_right]
        refine ⟨b, by omega, by omega, r, by omega, r1, rz, rs, fun _ => ?_, rfl, rfl⟩
        rw [hpb]
        exact .inl (by omega)
    · have c2' : decide (r + (p : Int) ≤ 3037000499) = false := decide_eq_false c2
      simp (config := {maxSteps := 4000000}) only [e0, e3, e4, hc, hsh, hx, hb1, c1', c2', SS, bne_self_eq_false, wr_def, obOf, List.all_cons, List.all_nil, List.map_cons, List.map_nil, List.length_cons, List.length_nil, List.take_zero, List.take_succ_cons, List.take_nil, List.drop_zero, List.drop_succ_cons, List.drop_nil, Nat.reduceAdd, Nat.reduceMul, Nat.reduceSub, if_true, Nat.reduceLT, Nat.reduceLeDiff, ite_true, ite_false, Nat.reduceEqDiff, if_false, reduceCtorEq, ne_eq, List.getD, List.getElem?_cons_zero, List.getElem?_cons_succ, Option.getD_some, Option.bind_some, Option.map_some, Option.isSome_some, reduceIte, List.length_append, List.append_assoc, List.cons_append, List.nil_append, Option.some.injEq, forall_const, implies_true, Int.reduceNeg, eq_self, Prod.mk.injEq, List.self_eq_append_right, List.append_nil, exists_eq_left, exists_eq_left', exists_and_left, exists_eq_right, exists_and_right]
      refine ⟨b, by omega, by omega, r, by omega, r1, rz, rs, fun _ => ?_, rfl, rfl⟩
      rw [hpb]
      exact .inr (by omega)
  · have c1' : decide (0 < n) = false := decide_eq_false c1
    simp (config := {maxSteps := 4000000}) only [e0, e3, e4, hc, hsh, hx, hb1, c1', SS, bne_self_eq_false, wr_def, obOf, List.all_cons, List.all_nil, List.map_cons, List.map_nil, List.length_cons, List.length_nil, List.take_zero, List.take_succ_cons, List.take_nil, List.drop_zero, List.drop_succ_cons, List.drop_nil, Nat.reduceAdd, Nat.reduceMul, Nat.reduceSub, if_true, Nat.reduceLT, Nat.reduceLeDiff, ite_true, ite_false, Nat.reduceEqDiff, if_false, reduceCtorEq, ne_eq, List.getD, List.getElem?_cons_zero, List.getElem?_cons_succ, Option.getD_some, Option.bind_some, Option.map_some, Option.isSome_some, reduceIte, List.length_append, List.append_assoc, List.cons_append, List.nil_append, Option.some.injEq, forall_const, implies_true, Int.reduceNeg, eq_self, Prod.mk.injEq, List.self_eq_append_right, List.append_nil, exists_eq_left, exists_eq_left', exists_and_left, exists_eq_right, exists_and_right]
    exact ⟨b, by omega, by omega, r, by omega, r1, rz, rs, fun h => absurd h c1, rfl, rfl⟩
end Go.Proofs.Ytpehhlfbnkakpaa.Fl
