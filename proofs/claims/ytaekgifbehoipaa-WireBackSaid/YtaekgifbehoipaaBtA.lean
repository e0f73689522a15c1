/- What FromFixed of the package bits, and the functions of the package math under it, answer. Conditions stand in each lemma. -/
import Derived.Test.YtaekgifbehoipaaEvaW
import Derived.Test.YtaekgifbehoipaaCodeAll
import Derived.Test.YtaekgifbehoipaaBtP
namespace Go.Proofs.Ytaekgifbehoipaa.Fl
open Go Go.Proofs.Ytaekgifbehoipaa.Eva Go.Proofs.Ytaekgifbehoipaa.CodeAll
set_option linter.unusedVariables false
set_option linter.unusedSimpArgs false
set_option maxRecDepth 10000
set_option maxHeartbeats 4000000

/-- A word with a sign, an exponent field and a fraction field. -/
def wd (s : Bool) (e F : Nat) : Nat := (if s then 9223372036854775808 else 0) + (e * 4503599627370496 + F)
theorem wd_word (s : Bool) (e F : Nat) : Ieee.double.word s (e * 2 ^ 52 + F) = wd s e F := Bt.word_eq s _
theorem fk : FloatKind.f64.format = Ieee.double := rfl
section
variable {e F : Nat}
theorem wd_lt (s : Bool) (h2 : e ≤ 2046) (hF : F < 4503599627370496) : wd s e F < M64 := by unfold wd M64; cases s <;> simp <;> omega
theorem and_no (a b : Nat) (ha : a < M64) (hb : b < M64) : abin .andNot (.int .u64 (a : Int)) (.int .u64 (b : Int)) = some (.int .u64 ((a &&& (18446744073709551615 - b) : Nat) : Int)) := by
  have e : (BitVec.ofInt IntKind.u64.bits (a : Int) &&& ~~~ BitVec.ofInt IntKind.u64.bits (b : Int)).toNat = a &&& (18446744073709551615 - b) := by
    rw [BitVec.toNat_and, BitVec.toNat_not, BitVec.toNat_ofInt, BitVec.toNat_ofInt]
    show ((a : Int) % ((2 ^ 64 : Nat) : Int)).toNat &&& (2 ^ 64 - 1 - ((b : Int) % ((2 ^ 64 : Nat) : Int)).toNat) = _
    have h1 : (((a : Int) % ((2 ^ 64 : Nat) : Int))).toNat = a := by unfold M64 at ha; omega
    have h2 : (((b : Int) % ((2 ^ 64 : Nat) : Int))).toNat = b := by unfold M64 at hb; omega
    rw [h1, h2]
  simp only [abin, if_true, e]
  rw [wu64 (by omega) (by have := Nat.and_le_left (n := a) (m := 18446744073709551615 - b); unfold M64 at ha; omega)]
/-- The sign is struck out. -/
theorem abs_and (s : Bool) (h2 : e ≤ 2046) (hF : F < 4503599627370496) : wd s e F &&& (18446744073709551615 - 9223372036854775808) = wd false e F := by
  have h : (18446744073709551615 - 9223372036854775808 : Nat) = 2 ^ 63 - 1 := by decide
  rw [h, Nat.and_two_pow_sub_one_eq_mod]
  unfold wd
  cases s <;> simp <;> omega
/-- The exponent is struck out. -/
theorem exp_and (s : Bool) (h2 : e ≤ 2046) (hF : F < 4503599627370496) : wd s e F &&& (18446744073709551615 - 9218868437227405312) = (if s then 9223372036854775808 else 0) + F := by
  have h : (18446744073709551615 - 9218868437227405312 : Nat) = 2 ^ 63 ||| (2 ^ 52 - 1) := by decide
  rw [h, Nat.and_or_distrib_left, Nat.and_two_pow_sub_one_eq_mod]
  have e1 : wd s e F % 2 ^ 52 = F := by unfold wd; cases s <;> simp <;> omega
  have hb : (wd s e F).testBit 63 = s := by
    rw [Nat.testBit_eq_decide_div_mod_eq]
    unfold wd
    cases s <;> simp <;> omega
  have e2 : wd s e F &&& 2 ^ 63 = if s then 2 ^ 63 else 0 := by
    refine Nat.eq_of_testBit_eq fun i => ?_
    rw [Nat.testBit_and, Nat.testBit_two_pow]
    by_cases hi : 63 = i
    · subst hi
      rw [hb]
      cases s
      · simp
      · simp only [decide_true, Bool.and_true, if_true, Nat.testBit_two_pow]
    · cases s
      · simp [hi]
      · simp only [if_true, Nat.testBit_two_pow, hi, decide_false, Bool.and_false]
  rw [e1, e2]
  cases s
  · simp
  · simp only [if_true]
    have := Nat.two_pow_add_eq_or_of_lt (i := 63) (b := F) (by omega) 1
    simpa using this.symm
theorem exp_or (s : Bool) (h2 : e ≤ 2046) (hF : F < 4503599627370496) : ((if s then 9223372036854775808 else 0) + F) ||| (e * 4503599627370496) = wd s e F := by
  have h1 : F ||| e * 4503599627370496 = e * 4503599627370496 + F := by
    have := Nat.shiftLeft_add_eq_or_of_lt (i := 52) (b := F) (by omega) e
    rw [Nat.shiftLeft_eq] at this
    rw [Nat.or_comm]
    exact this.symm
  cases s
  · simp only [Bool.false_eq_true, if_false, Nat.zero_add, wd]; exact h1
  · simp only [if_true, wd]
    have a1 := Nat.two_pow_add_eq_or_of_lt (i := 63) (b := F) (by omega) 1
    have a2 := Nat.two_pow_add_eq_or_of_lt (i := 63) (b := e * 4503599627370496 + F) (by omega) 1
    simp only [Nat.mul_one] at a1 a2
    have a1' : 9223372036854775808 + F = 2 ^ 63 ||| F := a1
    have a2' : 9223372036854775808 + (e * 4503599627370496 + F) = 2 ^ 63 ||| (e * 4503599627370496 + F) := a2
    rw [a1', a2', Nat.or_assoc, h1]
theorem fields (s : Bool) (h2 : e ≤ 2046) (hF : F < 4503599627370496) : wd s e F / 2 ^ 52 = (if s then 2048 else 0) + e := by
  unfold wd; cases s <;> simp <;> omega
variable (h1 : 1 ≤ e) (h2 : e ≤ 2045) (hF : F < 4503599627370496) (s : Bool)
include h1 h2 hF
theorem abs_pc (H : List Ob) : pcall E 166 [.flt .f64 (wd s e F)] H = some (.flt .f64 (wd false e F)) := by
  refine pcall_some.2 (call_plain e166 rfl (Nat.le_of_ble_eq_true rfl) rfl ?_)
  have k1 := and_no (wd s e F) 9223372036854775808 (wd_lt s (by omega) hF) (by decide)
  rw [abs_and s (by omega) hF] at k1
  have k2 : abin .andNot (.int .u64 (wd s e F : Int)) (.int .u64 9223372036854775808) = some (.int .u64 (wd false e F : Int)) := k1
  simp (config := {maxSteps := 4000000}) only [c166, k2, Int.toNat_natCast, SS, bne_self_eq_false, wr_def, obOf, List.all_cons, List.all_nil, List.map_cons, List.map_nil, List.length_cons, List.length_nil, List.take_zero, List.take_succ_cons, List.take_nil, List.drop_zero, List.drop_succ_cons, List.drop_nil, Nat.reduceAdd, Nat.reduceMul, Nat.reduceSub, if_true, Nat.reduceLT, Nat.reduceLeDiff, ite_true, ite_false, Nat.reduceEqDiff, if_false, reduceCtorEq, ne_eq, List.getD, List.getElem?_cons_zero, List.getElem?_cons_succ, Option.getD_some, Option.bind_some, Option.map_some, Option.isSome_some, reduceIte, List.length_append, List.append_assoc, List.cons_append, List.nil_append, Option.some.injEq, forall_const, implies_true, Int.reduceNeg, eq_self, Prod.mk.injEq, List.self_eq_append_right, List.append_nil, exists_eq_left, exists_eq_left', exists_and_left, exists_eq_right, exists_and_right]
theorem isinf_pc (H : List Ob) : pcall E 142 [.flt .f64 (wd s e F), .int .i64 0] H = some (.bool false) := by
  refine pcall_some.2 (call_plain e142 rfl (Nat.le_of_ble_eq_true rfl) rfl ?_)
  have k1 := fun H => abs_pc h1 h2 hF s H
  have k2 := Bt.ord_max h1 h2 hF
  rw [wd_word, ← fk] at k2
  simp (config := {maxSteps := 4000000}) only [c142, k1, k2, beq_self_eq_true, SS, bne_self_eq_false, wr_def, obOf, List.all_cons, List.all_nil, List.map_cons, List.map_nil, List.length_cons, List.length_nil, List.take_zero, List.take_succ_cons, List.take_nil, List.drop_zero, List.drop_succ_cons, List.drop_nil, Nat.reduceAdd, Nat.reduceMul, Nat.reduceSub, if_true, Nat.reduceLT, Nat.reduceLeDiff, ite_true, ite_false, Nat.reduceEqDiff, if_false, reduceCtorEq, ne_eq, List.getD, List.getElem?_cons_zero, List.getElem?_cons_succ, Option.getD_some, Option.bind_some, Option.map_some, Option.isSome_some, reduceIte, List.length_append, List.append_assoc, List.cons_append, List.nil_append, Option.some.injEq, forall_const, implies_true, Int.reduceNeg, eq_self, Prod.mk.injEq, List.self_eq_append_right, List.append_nil, exists_eq_left, exists_eq_left', exists_and_left, exists_eq_right, exists_and_right]
theorem isnan_pc (H : List Ob) : pcall E 143 [.flt .f64 (wd s e F)] H = some (.bool false) := by
  refine pcall_some.2 (call_plain e143 rfl (Nat.le_of_ble_eq_true rfl) rfl ?_)
  have k2 := Bt.ord_self (neg := s) h1 h2 hF
  rw [wd_word, ← fk] at k2
  simp (config := {maxSteps := 4000000}) only [c143, k2, SS, bne_self_eq_false, wr_def, obOf, List.all_cons, List.all_nil, List.map_cons, List.map_nil, List.length_cons, List.length_nil, List.take_zero, List.take_succ_cons, List.take_nil, List.drop_zero, List.drop_succ_cons, List.drop_nil, Nat.reduceAdd, Nat.reduceMul, Nat.reduceSub, if_true, Nat.reduceLT, Nat.reduceLeDiff, ite_true, ite_false, Nat.reduceEqDiff, if_false, reduceCtorEq, ne_eq, List.getD, List.getElem?_cons_zero, List.getElem?_cons_succ, Option.getD_some, Option.bind_some, Option.map_some, Option.isSome_some, reduceIte, List.length_append, List.append_assoc, List.cons_append, List.nil_append, Option.some.injEq, forall_const, implies_true, Int.reduceNeg, eq_self, Prod.mk.injEq, List.self_eq_append_right, List.append_nil, exists_eq_left, exists_eq_left', exists_and_left, exists_eq_right, exists_and_right]
theorem normalize_pc (H : List Ob) : pcall E 144 [.flt .f64 (wd s e F)] H = some (.tup [.flt .f64 (wd s e F), .int .i64 0]) := by
  refine pcall_some.2 (call_plain e144 rfl (Nat.le_of_ble_eq_true rfl) rfl ?_)
  have k1 := fun H => abs_pc h1 h2 hF s H
  have k2 := Bt.ord_min h1 h2 hF
  rw [wd_word, ← fk] at k2
  simp (config := {maxSteps := 4000000}) only [c144, k1, k2, SS, bne_self_eq_false, wr_def, obOf, List.all_cons, List.all_nil, List.map_cons, List.map_nil, List.length_cons, List.length_nil, List.take_zero, List.take_succ_cons, List.take_nil, List.drop_zero, List.drop_succ_cons, List.drop_nil, Nat.reduceAdd, Nat.reduceMul, Nat.reduceSub, if_true, Nat.reduceLT, Nat.reduceLeDiff, ite_true, ite_false, Nat.reduceEqDiff, if_false, reduceCtorEq, ne_eq, List.getD, List.getElem?_cons_zero, List.getElem?_cons_succ, Option.getD_some, Option.bind_some, Option.map_some, Option.isSome_some, reduceIte, List.length_append, List.append_assoc, List.cons_append, List.nil_append, Option.some.injEq, forall_const, implies_true, Int.reduceNeg, eq_self, Prod.mk.injEq, List.self_eq_append_right, List.append_nil, exists_eq_left, exists_eq_left', exists_and_left, exists_eq_right, exists_and_right]
theorem ldexp_pc {d : Nat} (hd : d ≤ 60) (hed : 61 ≤ e - d) (he2 : e ≤ 1200) (H : List Ob) : pcall E 120 [.flt .f64 (wd s e F), .int .i64 (-(d : Int))] H = some (.flt .f64 (wd s (e - d) F)) := by
  refine pcall_some.2 (call_plain e120 rfl (Nat.le_of_ble_eq_true rfl) rfl ?_)
  have k1 := fun H => isinf_pc h1 h2 hF s H
  have k2 := fun H => isnan_pc h1 h2 hF s H
  have k3 := fun H => normalize_pc h1 h2 hF s H
  have k4 := Bt.ord_zero (neg := s) h1 h2 hF
  have k5 := Bt.mul_one' (neg := s) (e := e - d) (by omega) (by omega) hF
  rw [wd_word, ← fk] at k4 k5
  have k6 := abin_fmul k5
  have k7 := shrk (kk := .u64) (wd s e F) 52 52 rfl (by decide)
  rw [fields s (by omega) hF] at k7
  have k8 : IntKind.i64.wrap (((if s then 2048 else 0) + e : Nat) : Int) = (((if s then 2048 else 0) + e : Nat) : Int) := by
    have hx : (if s then 2048 else 0) + e ≤ 5000 := by cases s <;> simp <;> omega
    exact wrap64 (by omega) (by omega)
  have k9 : abin .and (.int .i64 (((if s then 2048 else 0) + e : Nat) : Int)) (.int .i64 2047) = some (.int .i64 (e : Int)) := by
    have e9 : (BitVec.ofInt IntKind.i64.bits (((if s then 2048 else 0) + e : Nat) : Int) &&& BitVec.ofInt IntKind.i64.bits 2047).toNat = e := by
      rw [BitVec.toNat_and, BitVec.toNat_ofInt, BitVec.toNat_ofInt]
      show ((((if s then 2048 else 0) + e : Nat) : Int) % ((2 ^ 64 : Nat) : Int)).toNat &&& ((2047 : Int) % ((2 ^ 64 : Nat) : Int)).toNat = e
      have a2 : ((2047 : Int) % ((2 ^ 64 : Nat) : Int)).toNat = 2 ^ 11 - 1 := by decide
      rw [a2, Nat.and_two_pow_sub_one_eq_mod]
      cases s <;> simp <;> omega
    simp only [abin, if_true, e9]
    rw [wrap64 (by omega) (by omega)]
  have w1 : IntKind.i64.wrap (-(d : Int) + 0) = -(d : Int) := by rw [wrap64 (by omega) (by omega)]; omega
  have w2 : IntKind.i64.wrap ((e : Int) - 1023) = (e : Int) - 1023 := wrap64 (by omega) (by omega)
  have w3 : IntKind.i64.wrap (-(d : Int) + ((e : Int) - 1023)) = ((e - d : Nat) : Int) - 1023 := by rw [wrap64 (by omega) (by omega)]; omega
  have w4 : IntKind.i64.wrap (((e - d : Nat) : Int) - 1023 + 1023) = ((e - d : Nat) : Int) := by rw [wrap64 (by omega) (by omega)]; omega
  have d1 : decide (((e - d : Nat) : Int) - 1023 < -1075) = false := decide_eq_false (by omega)
  have d2 : decide ((1023 : Int) < ((e - d : Nat) : Int) - 1023) = false := decide_eq_false (by omega)
  have d3 : decide (((e - d : Nat) : Int) - 1023 < -1022) = false := decide_eq_false (by omega)
  have a1 : abin .andNot (.int .u64 (wd s e F : Int)) (.int .u64 9218868437227405312) = some (.int .u64 (((if s then 9223372036854775808 else 0) + F : Nat) : Int)) := by
    have := and_no (wd s e F) 9218868437227405312 (wd_lt s (by omega) hF) (by decide)
    rw [exp_and s (by omega) hF] at this
    exact this
  have a2 : IntKind.u64.wrap ((e - d : Nat) : Int) = ((e - d : Nat) : Int) := wu64 (by omega) (by omega)
  have a3 : abin .shl (.int .u64 ((e - d : Nat) : Int)) (.int .u64 52) = some (.int .u64 (((e - d) * 4503599627370496 : Nat) : Int)) := by
    have := abin_shl_u (kk := .u64) (e - d) 52
    have e5 : (e - d) * 2 ^ (min 52 64) % M64 = (e - d) * 4503599627370496 := by
      rw [Nat.mod_eq_of_lt]
      · rfl
      · show (e - d) * 4503599627370496 < 18446744073709551616
        omega
    rw [e5] at this
    exact this
  have a4 : abin .or (.int .u64 (((if s then 9223372036854775808 else 0) + F : Nat) : Int)) (.int .u64 (((e - d) * 4503599627370496 : Nat) : Int)) = some (.int .u64 (wd s (e - d) F : Int)) := by
    have := abin_or_u ((if s then 9223372036854775808 else 0) + F) ((e - d) * 4503599627370496) (by cases s <;> simp [M64] <;> omega) (by show _ < 18446744073709551616; omega)
    rw [exp_or s (by omega) hF] at this
    exact this
  generalize (((if s then 2048 else 0) + e : Nat) : Int) = X1 at *
  generalize (((if s then 9223372036854775808 else 0) + F : Nat) : Int) = X2 at *
  generalize (((e - d) * 4503599627370496 : Nat) : Int) = X3 at *
  generalize ((e - d : Nat) : Int) = X4 at *
  simp (config := {maxSteps := 4000000}) only [c120, k1, k2, k3, k4, k6, k7, k8, k9, w1, w2, w3, w4, d1, d2, d3, a1, a2, a3, a4, Int.toNat_natCast, SS, bne_self_eq_false, wr_def, obOf, List.all_cons, List.all_nil, List.map_cons, List.map_nil, List.length_cons, List.length_nil, List.take_zero, List.take_succ_cons, List.take_nil, List.drop_zero, List.drop_succ_cons, List.drop_nil, Nat.reduceAdd, Nat.reduceMul, Nat.reduceSub, if_true, Nat.reduceLT, Nat.reduceLeDiff, ite_true, ite_false, Nat.reduceEqDiff, if_false, reduceCtorEq, ne_eq, List.getD, List.getElem?_cons_zero, List.getElem?_cons_succ, Option.getD_some, Option.bind_some, Option.map_some, Option.isSome_some, reduceIte, List.length_append, List.append_assoc, List.cons_append, List.nil_append, Option.some.injEq, forall_const, implies_true, Int.reduceNeg, eq_self, Prod.mk.injEq, List.self_eq_append_right, List.append_nil, exists_eq_left, exists_eq_left', exists_and_left, exists_eq_right, exists_and_right]
theorem ldexp2_pc {d : Nat} (hd : d ≤ 60) (hed : 61 ≤ e - d) (he2 : e ≤ 1200) (H : List Ob) : pcall E 100 [.flt .f64 (wd s e F), .int .i64 (-(d : Int))] H = some (.flt .f64 (wd s (e - d) F)) := by
  refine pcall_some.2 (call_plain e100 rfl (Nat.le_of_ble_eq_true rfl) rfl ?_)
  have k1 := fun H => ldexp_pc h1 h2 hF s hd hed he2 H
  simp (config := {maxSteps := 4000000}) only [c100, k1, SS, bne_self_eq_false, wr_def, obOf, List.all_cons, List.all_nil, List.map_cons, List.map_nil, List.length_cons, List.length_nil, List.take_zero, List.take_succ_cons, List.take_nil, List.drop_zero, List.drop_succ_cons, List.drop_nil, Nat.reduceAdd, Nat.reduceMul, Nat.reduceSub, if_true, Nat.reduceLT, Nat.reduceLeDiff, ite_true, ite_false, Nat.reduceEqDiff, if_false, reduceCtorEq, ne_eq, List.getD, List.getElem?_cons_zero, List.getElem?_cons_succ, Option.getD_some, Option.bind_some, Option.map_some, Option.isSome_some, reduceIte, List.length_append, List.append_assoc, List.cons_append, List.nil_append, Option.some.injEq, forall_const, implies_true, Int.reduceNeg, eq_self, Prod.mk.injEq, List.self_eq_append_right, List.append_nil, exists_eq_left, exists_eq_left', exists_and_left, exists_eq_right, exists_and_right]
end
end Go.Proofs.Ytaekgifbehoipaa.Fl
