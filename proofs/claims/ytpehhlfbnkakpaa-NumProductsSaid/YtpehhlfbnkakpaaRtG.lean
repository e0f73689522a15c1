/- The digits of a number, as the reference takes them. Conditions stand in each lemma. -/
import Derived.Test.YtpehhlfbnkakpaaRtF
import Derived.Test.YtpehhlfbnkakpaaDgP
namespace Go.Proofs.Ytpehhlfbnkakpaa.Fl
open Go Go.Proofs.Ytpehhlfbnkakpaa.Eva Go.Proofs.Ytpehhlfbnkakpaa.CodeAll Go.Proofs.Ytpehhlfbnkakpaa.Dg
set_option linter.unusedVariables false
set_option linter.unusedSimpArgs false
set_option maxRecDepth 10000
set_option maxHeartbeats 4000000

theorem limbs_run {n : Int} (hn : I64 n) (H : List Ob) : ecall E 115 [.int .i64 n] H = some (outV H.length 1 4, H ++ outO 1 4 ((lmb n).map gI), H.length, H.length) := by
  refine call_list1 e115 rfl (Nat.le_of_ble_eq_true rfl) ?_
  simp (config := {maxSteps := 4000000}) only [c115, SS, bne_self_eq_false, wr_def, obOf, List.all_cons, List.all_nil, List.map_cons, List.map_nil, List.length_cons, List.length_nil, List.take_zero, List.take_succ_cons, List.take_nil, List.drop_zero, List.drop_succ_cons, List.drop_nil, Nat.reduceAdd, Nat.reduceMul, Nat.reduceSub, if_true, Nat.reduceLT, Nat.reduceLeDiff, ite_true, ite_false, Nat.reduceEqDiff, if_false, reduceCtorEq, ne_eq, List.getD, List.getElem?_cons_zero, List.getElem?_cons_succ, Option.getD_some, Option.bind_some, Option.map_some, Option.isSome_some, reduceIte, List.length_append, List.append_assoc, List.cons_append, List.nil_append, Option.some.injEq, forall_const, implies_true, Int.reduceNeg, eq_self, Prod.mk.injEq, List.self_eq_append_right, List.append_nil, exists_eq_left, exists_eq_left', exists_and_left, exists_eq_right, exists_and_right]
  refine W.mono (Q := fun e f1 h1 => e = .ex 0 ∧ f1 0 = .int .i64 n ∧ Arr H.length h1 (f1 3) gI (dg n)) (W_loop (fun q f1 h1 => ∃ k : Nat, q = 4 - k ∧ k ≤ 4 ∧ f1 0 = .int .i64 n ∧ f1 8 = .int .i64 (k : Int) ∧ IsL H.length h1 (f1 3) 1 true (((dg n).take k).map gI) k) (by simp) 4 ⟨0, rfl, by omega, rfl, rfl, IsL.nil⟩ ?_) ?_
  · rintro q f1 h1 hn1 ht ⟨k, rfl, hk, e0, e8, hL⟩
    rw [List.take_length] at ht
    have hH := take_eq ht
    generalize h1.drop H.length = y at hH
    subst hH
    by_cases hk4 : k < 4
    · have hc : decide ((k : Int) < 4) = true := decide_eq_true (by omega)
      have w1 : IntKind.i64.wrap (16 * (k : Int)) = ((16 * k : Nat) : Int) := by rw [wrap64 (by omega) (by omega)]; omega
      have w2 : IntKind.i64.wrap ((k : Int) + 1) = ((k + 1 : Nat) : Int) := by rw [wrap64 (by omega) (by omega)]; omega
      have s1 := shr_i (kk := .i64) n (16 * k) (by omega)
      have hg := dg_get n hk4
      have s2 := and_ffff (n / 2 ^ (16 * k))
      generalize n / 2 ^ (16 * k) % 65536 = x at *
      simp (config := {maxSteps := 4000000}) only [e0, e8, hc, w1, w2, s1, s2, SS, bne_self_eq_false, wr_def, obOf, List.all_cons, List.all_nil, List.map_cons, List.map_nil, List.length_cons, List.length_nil, List.take_zero, List.take_succ_cons, List.take_nil, List.drop_zero, List.drop_succ_cons, List.drop_nil, Nat.reduceAdd, Nat.reduceMul, Nat.reduceSub, if_true, Nat.reduceLT, Nat.reduceLeDiff, ite_true, ite_false, Nat.reduceEqDiff, if_false, reduceCtorEq, ne_eq, List.getD, List.getElem?_cons_zero, List.getElem?_cons_succ, Option.getD_some, Option.bind_some, Option.map_some, Option.isSome_some, reduceIte, List.length_append, List.append_assoc, List.cons_append, List.nil_append, Option.some.injEq, forall_const, implies_true, Int.reduceNeg, eq_self, Prod.mk.injEq, List.self_eq_append_right, List.append_nil, exists_eq_left, exists_eq_left', exists_and_left, exists_eq_right, exists_and_right]
      refine appK_at (c := [.int .i64 x]) (rw' := true) (fl' := true) (hL.keep2 _) (by simp [rdObj]) (by simp [dg]; omega) rfl (by unfold appLim; omega) (by simp) (fun v' h' hv' hfr hlen' hidv => ?_)
      have e9 : ((dg n).take (k + 1)).map gI = ((dg n).take k).map gI ++ [.int .i64 x] := by
        rw [List.take_add_one, hg]; simp [gI]
      have hv2 : IsL H.length h' v' 1 true (((dg n).take (k + 1)).map gI) (k + 1) := by
        rw [e9]; simpa using hv'
      exact ⟨_, by omega, k + 1, rfl, by omega, rfl, hv2⟩
    · have hc : decide ((k : Int) < 4) = false := decide_eq_false (by omega)
      have hk' : k = 4 := by omega
      subst hk'
      have hA := Arr.of_isl hL rfl (by omega)
      simp (config := {maxSteps := 4000000}) only [e0, e8, hc, SS, bne_self_eq_false, wr_def, obOf, List.all_cons, List.all_nil, List.map_cons, List.map_nil, List.length_cons, List.length_nil, List.take_zero, List.take_succ_cons, List.take_nil, List.drop_zero, List.drop_succ_cons, List.drop_nil, Nat.reduceAdd, Nat.reduceMul, Nat.reduceSub, if_true, Nat.reduceLT, Nat.reduceLeDiff, ite_true, ite_false, Nat.reduceEqDiff, if_false, reduceCtorEq, ne_eq, List.getD, List.getElem?_cons_zero, List.getElem?_cons_succ, Option.getD_some, Option.bind_some, Option.map_some, Option.isSome_some, reduceIte, List.length_append, List.append_assoc, List.cons_append, List.nil_append, Option.some.injEq, forall_const, implies_true, Int.reduceNeg, eq_self, Prod.mk.injEq, List.self_eq_append_right, List.append_nil, exists_eq_left, exists_eq_left', exists_and_left, exists_eq_right, exists_and_right]
      exact hA
  rintro e f1 h1 hn1 ht ⟨rfl, e0, hA⟩
  have hlen := hA.len
  by_cases h0 : 0 ≤ n
  · have h0' : decide (0 ≤ n) = true := decide_eq_true h0
    have hI := hA.isl (by simp [dg])
    rw [dg_pos h0] at hI
    simp (config := {maxSteps := 4000000}) only [e0, h0', SS, bne_self_eq_false, wr_def, obOf, List.all_cons, List.all_nil, List.map_cons, List.map_nil, List.length_cons, List.length_nil, List.take_zero, List.take_succ_cons, List.take_nil, List.drop_zero, List.drop_succ_cons, List.drop_nil, Nat.reduceAdd, Nat.reduceMul, Nat.reduceSub, if_true, Nat.reduceLT, Nat.reduceLeDiff, ite_true, ite_false, Nat.reduceEqDiff, if_false, reduceCtorEq, ne_eq, List.getD, List.getElem?_cons_zero, List.getElem?_cons_succ, Option.getD_some, Option.bind_some, Option.map_some, Option.isSome_some, reduceIte, List.length_append, List.append_assoc, List.cons_append, List.nil_append, Option.some.injEq, forall_const, implies_true, Int.reduceNeg, eq_self, Prod.mk.injEq, List.self_eq_append_right, List.append_nil, exists_eq_left, exists_eq_left', exists_and_left, exists_eq_right, exists_and_right]
    exact ⟨_, rfl, hI⟩
  have h0' : decide (0 ≤ n) = false := decide_eq_false h0
  simp (config := {maxSteps := 4000000}) only [e0, h0', hlen, SS, bne_self_eq_false, wr_def, obOf, List.all_cons, List.all_nil, List.map_cons, List.map_nil, List.length_cons, List.length_nil, List.take_zero, List.take_succ_cons, List.take_nil, List.drop_zero, List.drop_succ_cons, List.drop_nil, Nat.reduceAdd, Nat.reduceMul, Nat.reduceSub, if_true, Nat.reduceLT, Nat.reduceLeDiff, ite_true, ite_false, Nat.reduceEqDiff, if_false, reduceCtorEq, ne_eq, List.getD, List.getElem?_cons_zero, List.getElem?_cons_succ, Option.getD_some, Option.bind_some, Option.map_some, Option.isSome_some, reduceIte, List.length_append, List.append_assoc, List.cons_append, List.nil_append, Option.some.injEq, forall_const, implies_true, Int.reduceNeg, eq_self, Prod.mk.injEq, List.self_eq_append_right, List.append_nil, exists_eq_left, exists_eq_left', exists_and_left, exists_eq_right, exists_and_right]
  refine W_loop (fun q f2 h2 => ∃ k : Nat, q = 4 - k ∧ k ≤ 4 ∧ f2 0 = .int .i64 n ∧ f2 3 = f1 3 ∧ f2 25 = .int .i64 4 ∧ f2 26 = .int .i64 (k : Int) ∧ f2 6 = .int .i64 (ngl (dg n) k).2 ∧ Arr H.length h2 (f1 3) gI (ngl (dg n) k).1) (by simpa using hn1) 4 ⟨0, rfl, by omega, by simp only [e0, SS, bne_self_eq_false, wr_def, obOf, List.all_cons, List.all_nil, List.map_cons, List.map_nil, List.length_cons, List.length_nil, List.take_zero, List.take_succ_cons, List.take_nil, List.drop_zero, List.drop_succ_cons, List.drop_nil, Nat.reduceAdd, Nat.reduceMul, Nat.reduceSub, if_true, Nat.reduceLT, Nat.reduceLeDiff, ite_true, ite_false, Nat.reduceEqDiff, if_false, reduceCtorEq, ne_eq, List.getD, List.getElem?_cons_zero, List.getElem?_cons_succ, Option.getD_some, Option.bind_some, Option.map_some, Option.isSome_some, reduceIte, List.length_append, List.append_assoc, List.cons_append, List.nil_append, Option.some.injEq, forall_const, implies_true, Int.reduceNeg, eq_self, Prod.mk.injEq, List.self_eq_append_right, List.append_nil, exists_eq_left, exists_eq_left', exists_and_left, exists_eq_right, exists_and_right], by simp only [SS, bne_self_eq_false, wr_def, obOf, List.all_cons, List.all_nil, List.map_cons, List.map_nil, List.length_cons, List.length_nil, List.take_zero, List.take_succ_cons, List.take_nil, List.drop_zero, List.drop_succ_cons, List.drop_nil, Nat.reduceAdd, Nat.reduceMul, Nat.reduceSub, if_true, Nat.reduceLT, Nat.reduceLeDiff, ite_true, ite_false, Nat.reduceEqDiff, if_false, reduceCtorEq, ne_eq, List.getD, List.getElem?_cons_zero, List.getElem?_cons_succ, Option.getD_some, Option.bind_some, Option.map_some, Option.isSome_some, reduceIte, List.length_append, List.append_assoc, List.cons_append, List.nil_append, Option.some.injEq, forall_const, implies_true, Int.reduceNeg, eq_self, Prod.mk.injEq, List.self_eq_append_right, List.append_nil, exists_eq_left, exists_eq_left', exists_and_left, exists_eq_right, exists_and_right], rfl, rfl, rfl, hA⟩ ?_
  clear hlen hA
  rintro q f2 h2 hn2 ht2 ⟨k, rfl, hk, e0, e3, e25, e26, e6, hA⟩
  by_cases hk4 : k < 4
  · have hc : decide ((k : Int) < 4) = true := decide_eq_true (by omega)
    have hlen : (ngl (dg n) k).1.length = 4 := ngl_len _ _
    obtain ⟨b1, b2, b3⟩ := ngl_bd (dg_bd n) k (by simp [dg]; omega)
    obtain ⟨g1, g2⟩ := at0_mem (l := (ngl (dg n) k).1) (k := k) (by omega)
    obtain ⟨b4, b5⟩ := b1 _ g2
    have w2 : IntKind.i64.wrap ((k : Int) + 1) = ((k + 1 : Nat) : Int) := by rw [wrap64 (by omega) (by omega)]; omega
    have hok := hA.ok (kk := .i64) (i := (k : Int)) (by omega) (by omega)
    have hld := hA.ld (kk := .i64) (i := (k : Int)) (by omega) g1
    simp only [gI] at hld
    have hnx : (ngl (dg n) (k + 1)) = ((ngl (dg n) k).1.set k (((ngl (dg n) k).2 + (65535 - at0 (ngl (dg n) k).1 k)) % 65536), ((ngl (dg n) k).2 + (65535 - at0 (ngl (dg n) k).1 k)) / 65536) := rfl
    have hst := fun x => hA.stH (kk := .i64) (i := (k : Int)) x (by omega) (by omega)
    have hso := fun x => hA.stOk (kk := .i64) (i := (k : Int)) x (by omega) (by omega)
    rw [Int.toNat_natCast] at hst
    generalize at0 (ngl (dg n) k).1 k = d at *
    generalize (ngl (dg n) k).1 = l at *
    generalize (ngl (dg n) k).2 = c at *
    have w3 : IntKind.i64.wrap (65535 - d) = 65535 - d := wrap64 (by omega) (by omega)
    have w4 : IntKind.i64.wrap (c + (65535 - d)) = c + (65535 - d) := wrap64 (by omega) (by omega)
    generalize hs : c + (65535 - d) = s at *
    have t1 : s.tmod 65536 = s % 65536 := Int.tmod_eq_emod_of_nonneg (by omega)
    have t2 : IntKind.i64.wrap (s.tdiv 65536) = s / 65536 := by rw [Int.tdiv_eq_ediv_of_nonneg (by omega), wrap64 (by omega) (by omega)]
    have hso' := hso (s % 65536)
    simp only [gI] at hso'
    simp (config := {maxSteps := 4000000}) only [e0, e3, e25, e26, e6, hc, w2, w3, w4, hs, abin_rem _ _ _ (show (65536 : Int) ≠ 0 by decide), abin_quo _ _ _ (show (65536 : Int) ≠ 0 by decide), t1, t2, hok, hld, isPtr_idx hok, hso', SS, bne_self_eq_false, wr_def, obOf, List.all_cons, List.all_nil, List.map_cons, List.map_nil, List.length_cons, List.length_nil, List.take_zero, List.take_succ_cons, List.take_nil, List.drop_zero, List.drop_succ_cons, List.drop_nil, Nat.reduceAdd, Nat.reduceMul, Nat.reduceSub, if_true, Nat.reduceLT, Nat.reduceLeDiff, ite_true, ite_false, Nat.reduceEqDiff, if_false, reduceCtorEq, ne_eq, List.getD, List.getElem?_cons_zero, List.getElem?_cons_succ, Option.getD_some, Option.bind_some, Option.map_some, Option.isSome_some, reduceIte, List.length_append, List.append_assoc, List.cons_append, List.nil_append, Option.some.injEq, forall_const, implies_true, Int.reduceNeg, eq_self, Prod.mk.injEq, List.self_eq_append_right, List.append_nil, exists_eq_left, exists_eq_left', exists_and_left, exists_eq_right, exists_and_right]
    refine ⟨_, by omega, k + 1, rfl, by omega, rfl, ?_, ?_⟩
    · rw [hnx]
    · rw [hnx]; exact (hst (s % 65536)).1
  · have hc : decide ((k : Int) < 4) = false := decide_eq_false (by omega)
    have hk' : k = 4 := by omega
    subst hk'
    have hI := hA.isl (by rw [ngl_len]; simp [dg])
    rw [ngl_len, ngl_four hn.1 (by omega)] at hI
    simp (config := {maxSteps := 4000000}) only [e0, e3, e25, e26, e6, hc, SS, bne_self_eq_false, wr_def, obOf, List.all_cons, List.all_nil, List.map_cons, List.map_nil, List.length_cons, List.length_nil, List.take_zero, List.take_succ_cons, List.take_nil, List.drop_zero, List.drop_succ_cons, List.drop_nil, Nat.reduceAdd, Nat.reduceMul, Nat.reduceSub, if_true, Nat.reduceLT, Nat.reduceLeDiff, ite_true, ite_false, Nat.reduceEqDiff, if_false, reduceCtorEq, ne_eq, List.getD, List.getElem?_cons_zero, List.getElem?_cons_succ, Option.getD_some, Option.bind_some, Option.map_some, Option.isSome_some, reduceIte, List.length_append, List.append_assoc, List.cons_append, List.nil_append, Option.some.injEq, forall_const, implies_true, Int.reduceNeg, eq_self, Prod.mk.injEq, List.self_eq_append_right, List.append_nil, exists_eq_left, exists_eq_left', exists_and_left, exists_eq_right, exists_and_right]
    exact ⟨_, rfl, hI⟩

def sgn (n : Int) : Int := if 0 < n then 1 else if n < 0 then -1 else 0
theorem sign_pc (n : Int) (H : List Ob) : pcall E 84 [.int .i64 n] H = some (.int .i64 (sgn n)) := by
  refine pcall_some.2 (call_plain e84 rfl (Nat.le_of_ble_eq_true rfl) rfl ?_)
  by_cases h1 : 0 < n
  · have h1' : decide (0 < n) = true := decide_eq_true h1
    simp (config := {maxSteps := 4000000}) only [c84, h1', sgn, h1, SS, bne_self_eq_false, wr_def, obOf, List.all_cons, List.all_nil, List.map_cons, List.map_nil, List.length_cons, List.length_nil, List.take_zero, List.take_succ_cons, List.take_nil, List.drop_zero, List.drop_succ_cons, List.drop_nil, Nat.reduceAdd, Nat.reduceMul, Nat.reduceSub, if_true, Nat.reduceLT, Nat.reduceLeDiff, ite_true, ite_false, Nat.reduceEqDiff, if_false, reduceCtorEq, ne_eq, List.getD, List.getElem?_cons_zero, List.getElem?_cons_succ, Option.getD_some, Option.bind_some, Option.map_some, Option.isSome_some, reduceIte, List.length_append, List.append_assoc, List.cons_append, List.nil_append, Option.some.injEq, forall_const, implies_true, Int.reduceNeg, eq_self, Prod.mk.injEq, List.self_eq_append_right, List.append_nil, exists_eq_left, exists_eq_left', exists_and_left, exists_eq_right, exists_and_right]
  have h1' : decide (0 < n) = false := decide_eq_false h1
  by_cases h2 : n < 0
  · have h2' : decide (n < 0) = true := decide_eq_true h2
    simp (config := {maxSteps := 4000000}) only [c84, h1', h2', sgn, h1, h2, SS, bne_self_eq_false, wr_def, obOf, List.all_cons, List.all_nil, List.map_cons, List.map_nil, List.length_cons, List.length_nil, List.take_zero, List.take_succ_cons, List.take_nil, List.drop_zero, List.drop_succ_cons, List.drop_nil, Nat.reduceAdd, Nat.reduceMul, Nat.reduceSub, if_true, Nat.reduceLT, Nat.reduceLeDiff, ite_true, ite_false, Nat.reduceEqDiff, if_false, reduceCtorEq, ne_eq, List.getD, List.getElem?_cons_zero, List.getElem?_cons_succ, Option.getD_some, Option.bind_some, Option.map_some, Option.isSome_some, reduceIte, List.length_append, List.append_assoc, List.cons_append, List.nil_append, Option.some.injEq, forall_const, implies_true, Int.reduceNeg, eq_self, Prod.mk.injEq, List.self_eq_append_right, List.append_nil, exists_eq_left, exists_eq_left', exists_and_left, exists_eq_right, exists_and_right]
  have h2' : decide (n < 0) = false := decide_eq_false h2
  simp (config := {maxSteps := 4000000}) only [c84, h1', h2', sgn, h1, h2, SS, bne_self_eq_false, wr_def, obOf, List.all_cons, List.all_nil, List.map_cons, List.map_nil, List.length_cons, List.length_nil, List.take_zero, List.take_succ_cons, List.take_nil, List.drop_zero, List.drop_succ_cons, List.drop_nil, Nat.reduceAdd, Nat.reduceMul, Nat.reduceSub, if_true, Nat.reduceLT, Nat.reduceLeDiff, ite_true, ite_false, Nat.reduceEqDiff, if_false, reduceCtorEq, ne_eq, List.getD, List.getElem?_cons_zero, List.getElem?_cons_succ, Option.getD_some, Option.bind_some, Option.map_some, Option.isSome_some, reduceIte, List.length_append, List.append_assoc, List.cons_append, List.nil_append, Option.some.injEq, forall_const, implies_true, Int.reduceNeg, eq_self, Prod.mk.injEq, List.self_eq_append_right, List.append_nil, exists_eq_left, exists_eq_left', exists_and_left, exists_eq_right, exists_and_right]
end Go.Proofs.Ytpehhlfbnkakpaa.Fl
