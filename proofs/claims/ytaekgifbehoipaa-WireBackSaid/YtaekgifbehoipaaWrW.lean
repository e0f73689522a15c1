/- ToFixed gives back what FromFixed has made of a small number. Conditions stand in each lemma. -/
import Derived.Test.YtaekgifbehoipaaWrE
namespace Go.Proofs.Ytaekgifbehoipaa.Wr
open Go Go.Proofs.Ytaekgifbehoipaa.Eva Go.Proofs.Ytaekgifbehoipaa.CodeAll
set_option linter.unusedVariables false
set_option linter.unusedSimpArgs false
set_option maxRecDepth 10000
set_option maxHeartbeats 4000000

theorem dbl_parts {n : Nat} (h0 : n ≠ 0) (hn : n ≤ 2000000) : ∃ s : Nat, s ≤ 52 ∧ 32 ≤ s ∧ n * 2 ^ s < 9007199254740992 ∧ 4503599627370496 ≤ n * 2 ^ s ∧ Fl.dblW (n : Int) 0 = (1074 - s) * 4503599627370496 + n * 2 ^ s := by
  have hL : n.log2 < 21 := (Nat.log2_lt h0).2 (by omega)
  have hk := Bt.kept_bd h0
  have hlt : n < 2 ^ (n.log2 + 1) := (Nat.log2_lt h0).1 (Nat.lt_succ_self _)
  refine ⟨52 - n.log2, by omega, by omega, ?_, ?_, ?_⟩
  · have e : (9007199254740992 : Nat) = 2 ^ (n.log2 + 1) * 2 ^ (52 - n.log2) := by
      rw [← Nat.pow_add, show n.log2 + 1 + (52 - n.log2) = 53 by omega]
    rw [e]
    exact Nat.mul_lt_mul_of_pos_right hlt (Nat.two_pow_pos _)
  · have := hk.1
    unfold Bt.kept at this
    rw [if_pos (by omega)] at this
    exact this
  · unfold Fl.dblW
    have h1 : ¬ ((n : Int) = 0) := by omega
    have h2 : ¬ ((n : Int) < 0) := by omega
    have h3 : (n : Int).natAbs = n := Int.natAbs_natCast n
    rw [if_neg h1, if_neg h2, h3, Bt.kept, if_pos (by omega)]
    have h4 : n.log2 + 1022 - 0 = 1074 - (52 - n.log2) := by omega
    rw [h4]
    omega
theorem tofix_back {n : Nat} (hn : n ≤ 2000000) (H : List Ob) : pcall E 97 [.int .u64 (Fl.dblW (n : Int) 0 : Int), .int .i64 0] H = some (.tup [.int .i64 n, .bool true, .int .i64 0]) := by
  have d0 : decide ((0 : Int) < 0) = false := rfl
  have d1 : decide ((60 : Int) < 0) = false := rfl
  by_cases h0 : n = 0
  · subst h0
    have hz : Fl.dblW ((0 : Nat) : Int) 0 = 0 := rfl
    rw [hz]
    have hfi := fin_pc (b := 0) (by decide)
    have c1 : (((0 / 4503599627370496 % 2048 : Nat) : Int) != 2047) = true := rfl
    rw [c1] at hfi
    obtain ⟨m, hm, -, hz, hpa⟩ := parts_pc (b := 0) (by decide)
    obtain rfl := hz rfl
    have hE : ((if 0 < 0 / 4503599627370496 % 2048 then ((0 / 4503599627370496 % 2048 : Nat) : Int) else 1) - 1075 : Int) = -1074 := rfl
    rw [hE] at hpa
    have we : IntKind.i64.wrap (-1074 + 0) = -1074 := by rw [wrap64 (by omega) (by omega)]; rfl
    have bA : (((0 : Nat) : Int) == 0) = true := rfl
    refine pcall_some.2 (call_plain e97 rfl (Nat.le_of_ble_eq_true rfl) rfl ?_)
    simp (config := {maxSteps := 4000000}) only [c97, d0, d1, hfi, hpa, we, bA, SS, bne_self_eq_false, wr_def, obOf, List.all_cons, List.all_nil, List.map_cons, List.map_nil, List.length_cons, List.length_nil, List.take_zero, List.take_succ_cons, List.take_nil, List.drop_zero, List.drop_succ_cons, List.drop_nil, Nat.reduceAdd, Nat.reduceMul, Nat.reduceSub, if_true, Nat.reduceLT, Nat.reduceLeDiff, ite_true, ite_false, Nat.reduceEqDiff, if_false, reduceCtorEq, ne_eq, List.getD, List.getElem?_cons_zero, List.getElem?_cons_succ, Option.getD_some, Option.bind_some, Option.map_some, Option.isSome_some, reduceIte, List.length_append, List.append_assoc, List.cons_append, List.nil_append, Option.some.injEq, forall_const, implies_true, Int.reduceNeg, eq_self, Prod.mk.injEq, List.self_eq_append_right, List.append_nil, exists_eq_left, exists_eq_left', exists_and_left, exists_eq_right, exists_and_right]
    rfl
  obtain ⟨s, s1, s2, s3, s4, s5⟩ := dbl_parts h0 hn
  rw [s5]
  have hp1 := Nat.two_pow_pos s
  have hdiv : n * 2 ^ s / 2 ^ s = n := Nat.mul_div_cancel _ hp1
  have hmod : n * 2 ^ s % 2 ^ s = 0 := Nat.mul_mod_left _ _
  have hmask : (n * 2 ^ s) &&& (2 ^ s - 1) = 0 := by rw [mask_nat, hmod]
  have h3 := abin_and_u (n * 2 ^ s) (2 ^ s - 1) (by unfold M64; omega) (by have : (2 : Nat) ^ s ≤ 2 ^ 52 := Nat.pow_le_pow_right (by decide) s1; unfold M64; omega)
  have h4 : abin .shr (.int .u64 ((n * 2 ^ s : Nat) : Int)) (.int .i64 (s : Int)) = some (.int .u64 ((n : Nat) : Int)) := by
    have := shrU (n * 2 ^ s) s (by omega) (kk := .i64)
    rwa [hdiv] at this
  rw [hmask] at h3
  have h2p : (2 : Nat) ^ s ≤ 2 ^ 52 := Nat.pow_le_pow_right (by decide) s1
  have h1 : abin .shl (.int .u64 1) (.int .i64 (s : Int)) = some (.int .u64 ((2 ^ s : Nat) : Int)) := by
    have := abin_shl_u (kk := .i64) 1 s
    rw [Nat.min_eq_left (by omega), Nat.one_mul, Nat.mod_eq_of_lt (by unfold M64; omega)] at this
    exact this
  have h2 : IntKind.u64.wrap (((2 ^ s : Nat) : Int) - 1) = ((2 ^ s - 1 : Nat) : Int) := by rw [wu64 (by omega) (by omega)]; omega
  generalize hK : n * 2 ^ s = K at *
  generalize 2 ^ s = P at *
  obtain ⟨b, hb⟩ : ∃ b, (1074 - s) * 4503599627370496 + K = b := ⟨_, rfl⟩
  rw [hb]
  have q1 : b / 4503599627370496 % 2048 = 1075 - s := by omega
  have q2 : b % 4503599627370496 + 4503599627370496 = K := by omega
  have q3 : b < 9223372036854775808 := by omega
  have q4 : ((b / 9223372036854775808 : Nat) : Int) = 0 := by omega
  have hbM : b < M64 := by unfold M64; omega
  have hfi := fin_pc hbM
  have c1 : (((b / 4503599627370496 % 2048 : Nat) : Int) != 2047) = true := by rw [bne_iff_ne]; omega
  rw [c1] at hfi
  obtain ⟨m, hm, hmm, -, hpa⟩ := parts_pc hbM
  obtain rfl : m = K := by rw [hmm q3 (by omega), q2]
  have hE : ((if 0 < b / 4503599627370496 % 2048 then ((b / 4503599627370496 % 2048 : Nat) : Int) else 1) - 1075 : Int) = -(s : Int) := by rw [if_pos (by omega)]; omega
  rw [hE, q4] at hpa
  have hs0 : ((0 : Int) == 1) = false := rfl
  rw [hs0] at hpa
  have we : IntKind.i64.wrap (-(s : Int) + 0) = -(s : Int) := by rw [wrap64 (by omega) (by omega)]; omega
  have bA : ((m : Int) == 0) = false := by rw [beq_eq_false_iff_ne]; omega
  have b1 : decide (0 < -(s : Int)) = false := decide_eq_false (by omega)
  have b2 : decide (-(s : Int) < -63) = false := decide_eq_false (by omega)
  have wn : IntKind.i64.wrap (0 - -(s : Int)) = (s : Int) := by rw [wrap64 (by omega) (by omega)]; omega
  have b3 : (((0 : Nat) : Int) != 0) = false := rfl
  have b5 : decide ((9223372036854775808 : Int) ≤ (n : Int)) = false := decide_eq_false (by omega)
  have w9 : IntKind.i64.wrap (n : Int) = (n : Int) := wrap64 (by omega) (by omega)
  refine pcall_some.2 (call_plainW e97 rfl (Nat.le_of_ble_eq_true rfl) rfl ?_)
  have hn : H.length ≤ H.length := Nat.le_refl _
  refine W_seqI (wc_sound _ _ _ _ hn ?_)
  simp (config := {maxSteps := 4000000}) only [c97, SS, bne_self_eq_false, wr_def, obOf, List.all_cons, List.all_nil, List.map_cons, List.map_nil, List.length_cons, List.length_nil, List.take_zero, List.take_succ_cons, List.take_nil, List.drop_zero, List.drop_succ_cons, List.drop_nil, Nat.reduceAdd, Nat.reduceMul, Nat.reduceSub, if_true, Nat.reduceLT, Nat.reduceLeDiff, ite_true, ite_false, Nat.reduceEqDiff, if_false, reduceCtorEq, ne_eq, List.getD, List.getElem?_cons_zero, List.getElem?_cons_succ, Option.getD_some, Option.bind_some, Option.map_some, Option.isSome_some, reduceIte, List.length_append, List.append_assoc, List.cons_append, List.nil_append, Option.some.injEq, forall_const, implies_true, Int.reduceNeg, eq_self, Prod.mk.injEq, List.self_eq_append_right, List.append_nil, exists_eq_left, exists_eq_left', exists_and_left, exists_eq_right, exists_and_right]
  refine W_seqI (wc_sound _ _ _ _ hn ?_)
  simp (config := {maxSteps := 4000000}) only [c97, d0, d1, hfi, SS, bne_self_eq_false, wr_def, obOf, List.all_cons, List.all_nil, List.map_cons, List.map_nil, List.length_cons, List.length_nil, List.take_zero, List.take_succ_cons, List.take_nil, List.drop_zero, List.drop_succ_cons, List.drop_nil, Nat.reduceAdd, Nat.reduceMul, Nat.reduceSub, if_true, Nat.reduceLT, Nat.reduceLeDiff, ite_true, ite_false, Nat.reduceEqDiff, if_false, reduceCtorEq, ne_eq, List.getD, List.getElem?_cons_zero, List.getElem?_cons_succ, Option.getD_some, Option.bind_some, Option.map_some, Option.isSome_some, reduceIte, List.length_append, List.append_assoc, List.cons_append, List.nil_append, Option.some.injEq, forall_const, implies_true, Int.reduceNeg, eq_self, Prod.mk.injEq, List.self_eq_append_right, List.append_nil, exists_eq_left, exists_eq_left', exists_and_left, exists_eq_right, exists_and_right]
  refine W_seqI (wc_sound _ _ _ _ hn ?_)
  simp (config := {maxSteps := 4000000}) only [c97, hpa, SS, bne_self_eq_false, wr_def, obOf, List.all_cons, List.all_nil, List.map_cons, List.map_nil, List.length_cons, List.length_nil, List.take_zero, List.take_succ_cons, List.take_nil, List.drop_zero, List.drop_succ_cons, List.drop_nil, Nat.reduceAdd, Nat.reduceMul, Nat.reduceSub, if_true, Nat.reduceLT, Nat.reduceLeDiff, ite_true, ite_false, Nat.reduceEqDiff, if_false, reduceCtorEq, ne_eq, List.getD, List.getElem?_cons_zero, List.getElem?_cons_succ, Option.getD_some, Option.bind_some, Option.map_some, Option.isSome_some, reduceIte, List.length_append, List.append_assoc, List.cons_append, List.nil_append, Option.some.injEq, forall_const, implies_true, Int.reduceNeg, eq_self, Prod.mk.injEq, List.self_eq_append_right, List.append_nil, exists_eq_left, exists_eq_left', exists_and_left, exists_eq_right, exists_and_right]
  refine W_seqI (wc_sound _ _ _ _ hn ?_)
  simp (config := {maxSteps := 4000000}) only [c97, we, SS, bne_self_eq_false, wr_def, obOf, List.all_cons, List.all_nil, List.map_cons, List.map_nil, List.length_cons, List.length_nil, List.take_zero, List.take_succ_cons, List.take_nil, List.drop_zero, List.drop_succ_cons, List.drop_nil, Nat.reduceAdd, Nat.reduceMul, Nat.reduceSub, if_true, Nat.reduceLT, Nat.reduceLeDiff, ite_true, ite_false, Nat.reduceEqDiff, if_false, reduceCtorEq, ne_eq, List.getD, List.getElem?_cons_zero, List.getElem?_cons_succ, Option.getD_some, Option.bind_some, Option.map_some, Option.isSome_some, reduceIte, List.length_append, List.append_assoc, List.cons_append, List.nil_append, Option.some.injEq, forall_const, implies_true, Int.reduceNeg, eq_self, Prod.mk.injEq, List.self_eq_append_right, List.append_nil, exists_eq_left, exists_eq_left', exists_and_left, exists_eq_right, exists_and_right]
  refine W_seqI (wc_sound _ _ _ _ hn ?_)
  simp (config := {maxSteps := 4000000}) only [c97, SS, bne_self_eq_false, wr_def, obOf, List.all_cons, List.all_nil, List.map_cons, List.map_nil, List.length_cons, List.length_nil, List.take_zero, List.take_succ_cons, List.take_nil, List.drop_zero, List.drop_succ_cons, List.drop_nil, Nat.reduceAdd, Nat.reduceMul, Nat.reduceSub, if_true, Nat.reduceLT, Nat.reduceLeDiff, ite_true, ite_false, Nat.reduceEqDiff, if_false, reduceCtorEq, ne_eq, List.getD, List.getElem?_cons_zero, List.getElem?_cons_succ, Option.getD_some, Option.bind_some, Option.map_some, Option.isSome_some, reduceIte, List.length_append, List.append_assoc, List.cons_append, List.nil_append, Option.some.injEq, forall_const, implies_true, Int.reduceNeg, eq_self, Prod.mk.injEq, List.self_eq_append_right, List.append_nil, exists_eq_left, exists_eq_left', exists_and_left, exists_eq_right, exists_and_right]
  refine W_seqI (W.mono (Q := fun e f1 h1 => e = .nrm ∧ h1 = H ∧ f1 7 = .bool false ∧ f1 9 = .int .u64 (n : Int) ∧ f1 10 = .bool false) ?_ ?_)
  · refine wc_sound _ _ _ _ hn ?_
    simp (config := {maxSteps := 4000000}) only [c97, bA, b1, b2, wn, h1, h2, h3, h4, b3, SS, bne_self_eq_false, wr_def, obOf, List.all_cons, List.all_nil, List.map_cons, List.map_nil, List.length_cons, List.length_nil, List.take_zero, List.take_succ_cons, List.take_nil, List.drop_zero, List.drop_succ_cons, List.drop_nil, Nat.reduceAdd, Nat.reduceMul, Nat.reduceSub, if_true, Nat.reduceLT, Nat.reduceLeDiff, ite_true, ite_false, Nat.reduceEqDiff, if_false, reduceCtorEq, ne_eq, List.getD, List.getElem?_cons_zero, List.getElem?_cons_succ, Option.getD_some, Option.bind_some, Option.map_some, Option.isSome_some, reduceIte, List.length_append, List.append_assoc, List.cons_append, List.nil_append, Option.some.injEq, forall_const, implies_true, Int.reduceNeg, eq_self, Prod.mk.injEq, List.self_eq_append_right, List.append_nil, exists_eq_left, exists_eq_left', exists_and_left, exists_eq_right, exists_and_right]
  rintro e f1 h1 hn1 ht ⟨rfl, rfl, e7, e9, e10⟩
  refine wc_sound _ _ _ _ hn1 ?_
  simp (config := {maxSteps := 4000000}) only [c97, e7, e9, e10, b5, w9, SS, bne_self_eq_false, wr_def, obOf, List.all_cons, List.all_nil, List.map_cons, List.map_nil, List.length_cons, List.length_nil, List.take_zero, List.take_succ_cons, List.take_nil, List.drop_zero, List.drop_succ_cons, List.drop_nil, Nat.reduceAdd, Nat.reduceMul, Nat.reduceSub, if_true, Nat.reduceLT, Nat.reduceLeDiff, ite_true, ite_false, Nat.reduceEqDiff, if_false, reduceCtorEq, ne_eq, List.getD, List.getElem?_cons_zero, List.getElem?_cons_succ, Option.getD_some, Option.bind_some, Option.map_some, Option.isSome_some, reduceIte, List.length_append, List.append_assoc, List.cons_append, List.nil_append, Option.some.injEq, forall_const, implies_true, Int.reduceNeg, eq_self, Prod.mk.injEq, List.self_eq_append_right, List.append_nil, exists_eq_left, exists_eq_left', exists_and_left, exists_eq_right, exists_and_right]
end Go.Proofs.Ytaekgifbehoipaa.Wr
