/- Length of a number in binary. Conditions stand in each lemma. -/
import Derived.Test.YtaekgifbehoipaaEvaW
import Derived.Test.YtaekgifbehoipaaCodeAll
namespace Go.Proofs.Ytaekgifbehoipaa.Fl
open Go Go.Proofs.Ytaekgifbehoipaa.Eva Go.Proofs.Ytaekgifbehoipaa.CodeAll
set_option linter.unusedVariables false
set_option linter.unusedSimpArgs false
set_option maxRecDepth 10000
set_option maxHeartbeats 4000000

/-- The number of binary digits. -/
def len2 (x : Nat) : Nat := if x = 0 then 0 else x.log2 + 1
theorem len2_div {x k : Nat} (h : 2 ^ k ≤ x) : len2 x = len2 (x / 2 ^ k) + k := by
  have hx : x ≠ 0 := by have := Nat.two_pow_pos k; omega
  have hq : x / 2 ^ k ≠ 0 := by
    have : 1 ≤ x / 2 ^ k := (Nat.le_div_iff_mul_le (Nat.two_pow_pos k)).2 (by omega)
    omega
  simp only [len2, if_neg hx, if_neg hq]
  have e1 := Nat.log2_self_le hx
  have e2 := Nat.lt_log2_self (n := x)
  have hk : k ≤ x.log2 := by rw [Nat.le_log2 hx]; exact h
  have : (x / 2 ^ k).log2 = x.log2 - k := by
    rw [Nat.log2_eq_iff hq]
    constructor
    · rw [Nat.le_div_iff_mul_le (Nat.two_pow_pos k), ← Nat.pow_add]
      have : x.log2 - k + k = x.log2 := by omega
      rw [this]; exact e1
    · rw [Nat.div_lt_iff_lt_mul (Nat.two_pow_pos k), ← Nat.pow_add]
      have : x.log2 - k + 1 + k = x.log2 + 1 := by omega
      rw [this]; exact e2
  omega
theorem len2_le {x k : Nat} (h : x < 2 ^ k) : len2 x ≤ k := by
  unfold len2
  split
  · omega
  · rename_i hx
    have := (Nat.log2_lt hx).2 h
    omega
theorem len2_spec {x : Nat} (hx : x ≠ 0) : 2 ^ (len2 x - 1) ≤ x ∧ x < 2 ^ len2 x ∧ 1 ≤ len2 x := by
  simp only [len2, if_neg hx]
  exact ⟨Nat.log2_self_le hx, Nat.lt_log2_self, by omega⟩
theorem idx_getElem? {b : ByteArray} {i : Nat} {x : UInt8} (h : b.data.toList[i]? = some x) : b[i]? = some x := by
  have hi : i < b.data.toList.length := (List.getElem?_eq_some_iff.1 h).1
  have hi' : i < b.size := by simpa using hi
  rw [getElem?_pos b i hi']
  rw [List.getElem?_eq_getElem hi] at h
  simp only [Option.some.injEq] at h
  rw [← h]; simp [ByteArray.getElem_eq_getElem_data]
theorem tab_all : ∀ v : Fin 256, (#[0, 1, 2, 2, 3, 3, 3, 3, 4, 4, 4, 4, 4, 4, 4, 4, 5, 5, 5, 5, 5, 5, 5, 5, 5, 5, 5, 5, 5, 5, 5, 5, 6, 6, 6, 6, 6, 6, 6, 6, 6, 6, 6, 6, 6, 6, 6, 6, 6, 6, 6, 6, 6, 6, 6, 6, 6, 6, 6, 6, 6, 6, 6, 6, 7, 7, 7, 7, 7, 7, 7, 7, 7, 7, 7, 7, 7, 7, 7, 7, 7, 7, 7, 7, 7, 7, 7, 7, 7, 7, 7, 7, 7, 7, 7, 7, 7, 7, 7, 7, 7, 7, 7, 7, 7, 7, 7, 7, 7, 7, 7, 7, 7, 7, 7, 7, 7, 7, 7, 7, 7, 7, 7, 7, 7, 7, 7, 7, 8, 8, 8, 8, 8, 8, 8, 8, 8, 8, 8, 8, 8, 8, 8, 8, 8, 8, 8, 8, 8, 8, 8, 8, 8, 8, 8, 8, 8, 8, 8, 8, 8, 8, 8, 8, 8, 8, 8, 8, 8, 8, 8, 8, 8, 8, 8, 8, 8, 8, 8, 8, 8, 8, 8, 8, 8, 8, 8, 8, 8, 8, 8, 8, 8, 8, 8, 8, 8, 8, 8, 8, 8, 8, 8, 8, 8, 8, 8, 8, 8, 8, 8, 8, 8, 8, 8, 8, 8, 8, 8, 8, 8, 8, 8, 8, 8, 8, 8, 8, 8, 8, 8, 8, 8, 8, 8, 8, 8, 8, 8, 8, 8, 8, 8, 8, 8, 8, 8, 8, 8, 8, 8, 8, 8, 8, 8, 8] : Array UInt8).toList[v.val]? = some (UInt8.ofNat (len2 v.val)) := by decide +kernel
theorem tab_at (v : Nat) (h : v < 256) : ixsA (.str ⟨#[0, 1, 2, 2, 3, 3, 3, 3, 4, 4, 4, 4, 4, 4, 4, 4, 5, 5, 5, 5, 5, 5, 5, 5, 5, 5, 5, 5, 5, 5, 5, 5, 6, 6, 6, 6, 6, 6, 6, 6, 6, 6, 6, 6, 6, 6, 6, 6, 6, 6, 6, 6, 6, 6, 6, 6, 6, 6, 6, 6, 6, 6, 6, 6, 7, 7, 7, 7, 7, 7, 7, 7, 7, 7, 7, 7, 7, 7, 7, 7, 7, 7, 7, 7, 7, 7, 7, 7, 7, 7, 7, 7, 7, 7, 7, 7, 7, 7, 7, 7, 7, 7, 7, 7, 7, 7, 7, 7, 7, 7, 7, 7, 7, 7, 7, 7, 7, 7, 7, 7, 7, 7, 7, 7, 7, 7, 7, 7, 8, 8, 8, 8, 8, 8, 8, 8, 8, 8, 8, 8, 8, 8, 8, 8, 8, 8, 8, 8, 8, 8, 8, 8, 8, 8, 8, 8, 8, 8, 8, 8, 8, 8, 8, 8, 8, 8, 8, 8, 8, 8, 8, 8, 8, 8, 8, 8, 8, 8, 8, 8, 8, 8, 8, 8, 8, 8, 8, 8, 8, 8, 8, 8, 8, 8, 8, 8, 8, 8, 8, 8, 8, 8, 8, 8, 8, 8, 8, 8, 8, 8, 8, 8, 8, 8, 8, 8, 8, 8, 8, 8, 8, 8, 8, 8, 8, 8, 8, 8, 8, 8, 8, 8, 8, 8, 8, 8, 8, 8, 8, 8, 8, 8, 8, 8, 8, 8, 8, 8, 8, 8, 8, 8, 8, 8, 8, 8]⟩) (.int .u8 (v : Int)) = some (.int .u8 (len2 v : Int)) := by
  have e := idx_getElem? (b := ⟨#[0, 1, 2, 2, 3, 3, 3, 3, 4, 4, 4, 4, 4, 4, 4, 4, 5, 5, 5, 5, 5, 5, 5, 5, 5, 5, 5, 5, 5, 5, 5, 5, 6, 6, 6, 6, 6, 6, 6, 6, 6, 6, 6, 6, 6, 6, 6, 6, 6, 6, 6, 6, 6, 6, 6, 6, 6, 6, 6, 6, 6, 6, 6, 6, 7, 7, 7, 7, 7, 7, 7, 7, 7, 7, 7, 7, 7, 7, 7, 7, 7, 7, 7, 7, 7, 7, 7, 7, 7, 7, 7, 7, 7, 7, 7, 7, 7, 7, 7, 7, 7, 7, 7, 7, 7, 7, 7, 7, 7, 7, 7, 7, 7, 7, 7, 7, 7, 7, 7, 7, 7, 7, 7, 7, 7, 7, 7, 7, 8, 8, 8, 8, 8, 8, 8, 8, 8, 8, 8, 8, 8, 8, 8, 8, 8, 8, 8, 8, 8, 8, 8, 8, 8, 8, 8, 8, 8, 8, 8, 8, 8, 8, 8, 8, 8, 8, 8, 8, 8, 8, 8, 8, 8, 8, 8, 8, 8, 8, 8, 8, 8, 8, 8, 8, 8, 8, 8, 8, 8, 8, 8, 8, 8, 8, 8, 8, 8, 8, 8, 8, 8, 8, 8, 8, 8, 8, 8, 8, 8, 8, 8, 8, 8, 8, 8, 8, 8, 8, 8, 8, 8, 8, 8, 8, 8, 8, 8, 8, 8, 8, 8, 8, 8, 8, 8, 8, 8, 8, 8, 8, 8, 8, 8, 8, 8, 8, 8, 8, 8, 8, 8, 8, 8, 8, 8, 8]⟩) (tab_all ⟨v, h⟩)
  have e2 := ixsA_i (k := .u8) e
  have hl : len2 v ≤ 8 := len2_le (k := 8) (by omega)
  rw [e2]
  simp only [Option.some.injEq, AV.int.injEq, true_and]
  rw [UInt8.toNat_ofNat_of_lt' (show len2 v < 256 by omega)]

theorem len64_pc {x : Nat} (hx : x < M64) (H : List Ob) : pcall E 118 [.int .u64 (x : Int)] H = some (.int .i64 (len2 x : Int)) := by
  refine pcall_some.2 (call_plain e118 rfl (Nat.le_of_ble_eq_true rfl) rfl ?_)
  have fin : ∀ (y k : Nat), y < 256 → k ≤ 56 → IntKind.u8.wrap (y : Int) = (y : Int) ∧ ixsA (.str ⟨#[0, 1, 2, 2, 3, 3, 3, 3, 4, 4, 4, 4, 4, 4, 4, 4, 5, 5, 5, 5, 5, 5, 5, 5, 5, 5, 5, 5, 5, 5, 5, 5, 6, 6, 6, 6, 6, 6, 6, 6, 6, 6, 6, 6, 6, 6, 6, 6, 6, 6, 6, 6, 6, 6, 6, 6, 6, 6, 6, 6, 6, 6, 6, 6, 7, 7, 7, 7, 7, 7, 7, 7, 7, 7, 7, 7, 7, 7, 7, 7, 7, 7, 7, 7, 7, 7, 7, 7, 7, 7, 7, 7, 7, 7, 7, 7, 7, 7, 7, 7, 7, 7, 7, 7, 7, 7, 7, 7, 7, 7, 7, 7, 7, 7, 7, 7, 7, 7, 7, 7, 7, 7, 7, 7, 7, 7, 7, 7, 8, 8, 8, 8, 8, 8, 8, 8, 8, 8, 8, 8, 8, 8, 8, 8, 8, 8, 8, 8, 8, 8, 8, 8, 8, 8, 8, 8, 8, 8, 8, 8, 8, 8, 8, 8, 8, 8, 8, 8, 8, 8, 8, 8, 8, 8, 8, 8, 8, 8, 8, 8, 8, 8, 8, 8, 8, 8, 8, 8, 8, 8, 8, 8, 8, 8, 8, 8, 8, 8, 8, 8, 8, 8, 8, 8, 8, 8, 8, 8, 8, 8, 8, 8, 8, 8, 8, 8, 8, 8, 8, 8, 8, 8, 8, 8, 8, 8, 8, 8, 8, 8, 8, 8, 8, 8, 8, 8, 8, 8, 8, 8, 8, 8, 8, 8, 8, 8, 8, 8, 8, 8, 8, 8, 8, 8, 8, 8]⟩) (.int .u8 (y : Int)) = some (.int .u8 (len2 y : Int)) ∧ IntKind.i64.wrap (len2 y : Int) = (len2 y : Int) ∧ IntKind.i64.wrap ((k : Int) + (len2 y : Int)) = ((len2 y + k : Nat) : Int) := by
    intro y k hy hk
    have hl : len2 y ≤ 8 := len2_le (k := 8) (by omega)
    refine ⟨?_, tab_at y hy, wrap64 (by omega) (by omega), ?_⟩
    · simp only [IntKind.wrap, IntKind.bits, IntKind.signed]; simp; omega
    · rw [wrap64 (by omega) (by omega)]; omega
  have wa : IntKind.i64.wrap (32 + 16) = 48 := by decide
  have wb : IntKind.i64.wrap (0 + 16) = 16 := by decide
  have wc1 : IntKind.i64.wrap (48 + 8) = 56 := by decide
  have wd : IntKind.i64.wrap (32 + 8) = 40 := by decide
  have we : IntKind.i64.wrap (16 + 8) = 24 := by decide
  have wf : IntKind.i64.wrap (0 + 8) = 8 := by decide
  have s32 := fun x : Nat => shrk (kk := .u64) x 32 32 rfl (by decide)
  have s16 := fun x : Nat => shrk (kk := .u64) x 16 16 rfl (by decide)
  have s8 := fun x : Nat => shrk (kk := .u64) x 8 8 rfl (by decide)
  unfold M64 at hx
  by_cases h1 : 4294967296 ≤ x
  · have c1 : decide ((4294967296 : Int) ≤ (x : Int)) = true := decide_eq_true (by omega)
    have hl1 := len2_div (k := 32) (x := x) (by omega)
    by_cases h2 : 65536 ≤ x / 2 ^ 32
    · have c2 : decide ((65536 : Int) ≤ ((x / 2 ^ 32 : Nat) : Int)) = true := decide_eq_true (by omega)
      have hl2 := len2_div (k := 16) (x := x / 2 ^ 32) (by omega)
      by_cases h3 : 256 ≤ x / 2 ^ 32 / 2 ^ 16
      · have c3 : decide ((256 : Int) ≤ ((x / 2 ^ 32 / 2 ^ 16 : Nat) : Int)) = true := decide_eq_true (by omega)
        have hl3 := len2_div (k := 8) (x := x / 2 ^ 32 / 2 ^ 16) (by omega)
        obtain ⟨f1, f2, f3, f4⟩ := fin (x / 2 ^ 32 / 2 ^ 16 / 2 ^ 8) 56 (by omega) (by omega)
        have hR : len2 (x / 2 ^ 32 / 2 ^ 16 / 2 ^ 8) + 56 = len2 x := by omega
        rw [hR] at f4
        have f5 : IntKind.i64.wrap ((56 : Int) + (len2 (x / 2 ^ 32 / 2 ^ 16 / 2 ^ 8) : Int)) = (len2 x : Int) := f4
        simp (config := {maxSteps := 4000000}) only [c118, c1, c2, c3, s32, s16, s8, cviA_i, wa, wb, wc1, wd, we, wf, f1, f2, f3, f5, SS, bne_self_eq_false, wr_def, obOf, List.all_cons, List.all_nil, List.map_cons, List.map_nil, List.length_cons, List.length_nil, List.take_zero, List.take_succ_cons, List.take_nil, List.drop_zero, List.drop_succ_cons, List.drop_nil, Nat.reduceAdd, Nat.reduceMul, Nat.reduceSub, if_true, Nat.reduceLT, Nat.reduceLeDiff, ite_true, ite_false, Nat.reduceEqDiff, if_false, reduceCtorEq, ne_eq, List.getD, List.getElem?_cons_zero, List.getElem?_cons_succ, Option.getD_some, Option.bind_some, Option.map_some, Option.isSome_some, reduceIte, List.length_append, List.append_assoc, List.cons_append, List.nil_append, Option.some.injEq, forall_const, implies_true, Int.reduceNeg, eq_self, Prod.mk.injEq, List.self_eq_append_right, List.append_nil, exists_eq_left, exists_eq_left', exists_and_left, exists_eq_right, exists_and_right]
      · have c3 : decide ((256 : Int) ≤ ((x / 2 ^ 32 / 2 ^ 16 : Nat) : Int)) = false := decide_eq_false (by omega)
        obtain ⟨f1, f2, f3, f4⟩ := fin (x / 2 ^ 32 / 2 ^ 16) 48 (by omega) (by omega)
        have hR : len2 (x / 2 ^ 32 / 2 ^ 16) + 48 = len2 x := by omega
        rw [hR] at f4
        have f5 : IntKind.i64.wrap ((48 : Int) + (len2 (x / 2 ^ 32 / 2 ^ 16) : Int)) = (len2 x : Int) := f4
        simp (config := {maxSteps := 4000000}) only [c118, c1, c2, c3, s32, s16, s8, cviA_i, wa, wb, wc1, wd, we, wf, f1, f2, f3, f5, SS, bne_self_eq_false, wr_def, obOf, List.all_cons, List.all_nil, List.map_cons, List.map_nil, List.length_cons, List.length_nil, List.take_zero, List.take_succ_cons, List.take_nil, List.drop_zero, List.drop_succ_cons, List.drop_nil, Nat.reduceAdd, Nat.reduceMul, Nat.reduceSub, if_true, Nat.reduceLT, Nat.reduceLeDiff, ite_true, ite_false, Nat.reduceEqDiff, if_false, reduceCtorEq, ne_eq, List.getD, List.getElem?_cons_zero, List.getElem?_cons_succ, Option.getD_some, Option.bind_some, Option.map_some, Option.isSome_some, reduceIte, List.length_append, List.append_assoc, List.cons_append, List.nil_append, Option.some.injEq, forall_const, implies_true, Int.reduceNeg, eq_self, Prod.mk.injEq, List.self_eq_append_right, List.append_nil, exists_eq_left, exists_eq_left', exists_and_left, exists_eq_right, exists_and_right]
    · have c2 : decide ((65536 : Int) ≤ ((x / 2 ^ 32 : Nat) : Int)) = false := decide_eq_false (by omega)
      by_cases h3 : 256 ≤ x / 2 ^ 32
      · have c3 : decide ((256 : Int) ≤ ((x / 2 ^ 32 : Nat) : Int)) = true := decide_eq_true (by omega)
        have hl3 := len2_div (k := 8) (x := x / 2 ^ 32) (by omega)
        obtain ⟨f1, f2, f3, f4⟩ := fin (x / 2 ^ 32 / 2 ^ 8) 40 (by omega) (by omega)
        have hR : len2 (x / 2 ^ 32 / 2 ^ 8) + 40 = len2 x := by omega
        rw [hR] at f4
        have f5 : IntKind.i64.wrap ((40 : Int) + (len2 (x / 2 ^ 32 / 2 ^ 8) : Int)) = (len2 x : Int) := f4
        simp (config := {maxSteps := 4000000}) only [c118, c1, c2, c3, s32, s16, s8, cviA_i, wa, wb, wc1, wd, we, wf, f1, f2, f3, f5, SS, bne_self_eq_false, wr_def, obOf, List.all_cons, List.all_nil, List.map_cons, List.map_nil, List.length_cons, List.length_nil, List.take_zero, List.take_succ_cons, List.take_nil, List.drop_zero, List.drop_succ_cons, List.drop_nil, Nat.reduceAdd, Nat.reduceMul, Nat.reduceSub, if_true, Nat.reduceLT, Nat.reduceLeDiff, ite_true, ite_false, Nat.reduceEqDiff, if_false, reduceCtorEq, ne_eq, List.getD, List.getElem?_cons_zero, List.getElem?_cons_succ, Option.getD_some, Option.bind_some, Option.map_some, Option.isSome_some, reduceIte, List.length_append, List.append_assoc, List.cons_append, List.nil_append, Option.some.injEq, forall_const, implies_true, Int.reduceNeg, eq_self, Prod.mk.injEq, List.self_eq_append_right, List.append_nil, exists_eq_left, exists_eq_left', exists_and_left, exists_eq_right, exists_and_right]
      · have c3 : decide ((256 : Int) ≤ ((x / 2 ^ 32 : Nat) : Int)) = false := decide_eq_false (by omega)
        obtain ⟨f1, f2, f3, f4⟩ := fin (x / 2 ^ 32) 32 (by omega) (by omega)
        have hR : len2 (x / 2 ^ 32) + 32 = len2 x := by omega
        rw [hR] at f4
        have f5 : IntKind.i64.wrap ((32 : Int) + (len2 (x / 2 ^ 32) : Int)) = (len2 x : Int) := f4
        simp (config := {maxSteps := 4000000}) only [c118, c1, c2, c3, s32, s16, s8, cviA_i, wa, wb, wc1, wd, we, wf, f1, f2, f3, f5, SS, bne_self_eq_false, wr_def, obOf, List.all_cons, List.all_nil, List.map_cons, List.map_nil, List.length_cons, List.length_nil, List.take_zero, List.take_succ_cons, List.take_nil, List.drop_zero, List.drop_succ_cons, List.drop_nil, Nat.reduceAdd, Nat.reduceMul, Nat.reduceSub, if_true, Nat.reduceLT, Nat.reduceLeDiff, ite_true, ite_false, Nat.reduceEqDiff, if_false, reduceCtorEq, ne_eq, List.getD, List.getElem?_cons_zero, List.getElem?_cons_succ, Option.getD_some, Option.bind_some, Option.map_some, Option.isSome_some, reduceIte, List.length_append, List.append_assoc, List.cons_append, List.nil_append, Option.some.injEq, forall_const, implies_true, Int.reduceNeg, eq_self, Prod.mk.injEq, List.self_eq_append_right, List.append_nil, exists_eq_left, exists_eq_left', exists_and_left, exists_eq_right, exists_and_right]
  · have c1 : decide ((4294967296 : Int) ≤ (x : Int)) = false := decide_eq_false (by omega)
    by_cases h2 : 65536 ≤ x
    · have c2 : decide ((65536 : Int) ≤ ((x : Nat) : Int)) = true := decide_eq_true (by omega)
      have hl2 := len2_div (k := 16) (x := x) (by omega)
      by_cases h3 : 256 ≤ x / 2 ^ 16
      · have c3 : decide ((256 : Int) ≤ ((x / 2 ^ 16 : Nat) : Int)) = true := decide_eq_true (by omega)
        have hl3 := len2_div (k := 8) (x := x / 2 ^ 16) (by omega)
        obtain ⟨f1, f2, f3, f4⟩ := fin (x / 2 ^ 16 / 2 ^ 8) 24 (by omega) (by omega)
        have hR : len2 (x / 2 ^ 16 / 2 ^ 8) + 24 = len2 x := by omega
        rw [hR] at f4
        have f5 : IntKind.i64.wrap ((24 : Int) + (len2 (x / 2 ^ 16 / 2 ^ 8) : Int)) = (len2 x : Int) := f4
        simp (config := {maxSteps := 4000000}) only [c118, c1, c2, c3, s32, s16, s8, cviA_i, wa, wb, wc1, wd, we, wf, f1, f2, f3, f5, SS, bne_self_eq_false, wr_def, obOf, List.all_cons, List.all_nil, List.map_cons, List.map_nil, List.length_cons, List.length_nil, List.take_zero, List.take_succ_cons, List.take_nil, List.drop_zero, List.drop_succ_cons, List.drop_nil, Nat.reduceAdd, Nat.reduceMul, Nat.reduceSub, if_true, Nat.reduceLT, Nat.reduceLeDiff, ite_true, ite_false, Nat.reduceEqDiff, if_false, reduceCtorEq, ne_eq, List.getD, List.getElem?_cons_zero, List.getElem?_cons_succ, Option.getD_some, Option.bind_some, Option.map_some, Option.isSome_some, reduceIte, List.length_append, List.append_assoc, List.cons_append, List.nil_append, Option.some.injEq, forall_const, implies_true, Int.reduceNeg, eq_self, Prod.mk.injEq, List.self_eq_append_right, List.append_nil, exists_eq_left, exists_eq_left', exists_and_left, exists_eq_right, exists_and_right]
      · have c3 : decide ((256 : Int) ≤ ((x / 2 ^ 16 : Nat) : Int)) = false := decide_eq_false (by omega)
        obtain ⟨f1, f2, f3, f4⟩ := fin (x / 2 ^ 16) 16 (by omega) (by omega)
        have hR : len2 (x / 2 ^ 16) + 16 = len2 x := by omega
        rw [hR] at f4
        have f5 : IntKind.i64.wrap ((16 : Int) + (len2 (x / 2 ^ 16) : Int)) = (len2 x : Int) := f4
        simp (config := {maxSteps := 4000000}) only [c118, c1, c2, c3, s32, s16, s8, cviA_i, wa, wb, wc1, wd, we, wf, f1, f2, f3, f5, SS, bne_self_eq_false, wr_def, obOf, List.all_cons, List.all_nil, List.map_cons, List.map_nil, List.length_cons, List.length_nil, List.take_zero, List.take_succ_cons, List.take_nil, List.drop_zero, List.drop_succ_cons, List.drop_nil, Nat.reduceAdd, Nat.reduceMul, Nat.reduceSub, if_true, Nat.reduceLT, Nat.reduceLeDiff, ite_true, ite_false, Nat.reduceEqDiff, if_false, reduceCtorEq, ne_eq, List.getD, List.getElem?_cons_zero, List.getElem?_cons_succ, Option.getD_some, Option.bind_some, Option.map_some, Option.isSome_some, reduceIte, List.length_append, List.append_assoc, List.cons_append, List.nil_append, Option.some.injEq, forall_const, implies_true, Int.reduceNeg, eq_self, Prod.mk.injEq, List.self_eq_append_right, List.append_nil, exists_eq_left, exists_eq_left', exists_and_left, exists_eq_right, exists_and_right]
    · have c2 : decide ((65536 : Int) ≤ ((x : Nat) : Int)) = false := decide_eq_false (by omega)
      by_cases h3 : 256 ≤ x
      · have c3 : decide ((256 : Int) ≤ ((x : Nat) : Int)) = true := decide_eq_true (by omega)
        have hl3 := len2_div (k := 8) (x := x) (by omega)
        obtain ⟨f1, f2, f3, f4⟩ := fin (x / 2 ^ 8) 8 (by omega) (by omega)
        have hR : len2 (x / 2 ^ 8) + 8 = len2 x := by omega
        rw [hR] at f4
        have f5 : IntKind.i64.wrap ((8 : Int) + (len2 (x / 2 ^ 8) : Int)) = (len2 x : Int) := f4
        simp (config := {maxSteps := 4000000}) only [c118, c1, c2, c3, s32, s16, s8, cviA_i, wa, wb, wc1, wd, we, wf, f1, f2, f3, f5, SS, bne_self_eq_false, wr_def, obOf, List.all_cons, List.all_nil, List.map_cons, List.map_nil, List.length_cons, List.length_nil, List.take_zero, List.take_succ_cons, List.take_nil, List.drop_zero, List.drop_succ_cons, List.drop_nil, Nat.reduceAdd, Nat.reduceMul, Nat.reduceSub, if_true, Nat.reduceLT, Nat.reduceLeDiff, ite_true, ite_false, Nat.reduceEqDiff, if_false, reduceCtorEq, ne_eq, List.getD, List.getElem?_cons_zero, List.getElem?_cons_succ, Option.getD_some, Option.bind_some, Option.map_some, Option.isSome_some, reduceIte, List.length_append, List.append_assoc, List.cons_append, List.nil_append, Option.some.injEq, forall_const, implies_true, Int.reduceNeg, eq_self, Prod.mk.injEq, List.self_eq_append_right, List.append_nil, exists_eq_left, exists_eq_left', exists_and_left, exists_eq_right, exists_and_right]
      · have c3 : decide ((256 : Int) ≤ ((x : Nat) : Int)) = false := decide_eq_false (by omega)
        obtain ⟨f1, f2, f3, f4⟩ := fin (x) 0 (by omega) (by omega)
        have hR : len2 (x) + 0 = len2 x := by omega
        rw [hR] at f4
        have f5 : IntKind.i64.wrap ((0 : Int) + (len2 (x) : Int)) = (len2 x : Int) := f4
        simp (config := {maxSteps := 4000000}) only [c118, c1, c2, c3, s32, s16, s8, cviA_i, wa, wb, wc1, wd, we, wf, f1, f2, f3, f5, SS, bne_self_eq_false, wr_def, obOf, List.all_cons, List.all_nil, List.map_cons, List.map_nil, List.length_cons, List.length_nil, List.take_zero, List.take_succ_cons, List.take_nil, List.drop_zero, List.drop_succ_cons, List.drop_nil, Nat.reduceAdd, Nat.reduceMul, Nat.reduceSub, if_true, Nat.reduceLT, Nat.reduceLeDiff, ite_true, ite_false, Nat.reduceEqDiff, if_false, reduceCtorEq, ne_eq, List.getD, List.getElem?_cons_zero, List.getElem?_cons_succ, Option.getD_some, Option.bind_some, Option.map_some, Option.isSome_some, reduceIte, List.length_append, List.append_assoc, List.cons_append, List.nil_append, Option.some.injEq, forall_const, implies_true, Int.reduceNeg, eq_self, Prod.mk.injEq, List.self_eq_append_right, List.append_nil, exists_eq_left, exists_eq_left', exists_and_left, exists_eq_right, exists_and_right]
end Go.Proofs.Ytaekgifbehoipaa.Fl
