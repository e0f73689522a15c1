/- Length of a number in binary, products and quotients of 128 bits. Conditions stand in each lemma. -/
import Derived.Test.YtpehhlfbnkakpaaRtB
import Derived.Test.YtpehhlfbnkakpaaDvP
namespace Go.Proofs.Ytpehhlfbnkakpaa.Fl
open Go Go.Proofs.Ytpehhlfbnkakpaa.Eva Go.Proofs.Ytpehhlfbnkakpaa.CodeAll
set_option linter.unusedVariables false
set_option linter.unusedSimpArgs false
set_option maxRecDepth 10000
set_option maxHeartbeats 4000000

theorem mag_pc {n : Int} (h1 : -9223372036854775808 ≤ n) (h2 : n < 9223372036854775808) (H : List Ob) : pcall E 82 [.int .i64 n] H = some (.int .u64 (n.natAbs : Int)) := by
  refine pcall_some.2 (call_plain e82 rfl (Nat.le_of_ble_eq_true rfl) rfl ?_)
  by_cases h : n < 0
  · have h' : decide (n < 0) = true := decide_eq_true h
    have e1 : IntKind.u64.wrap (0 - IntKind.u64.wrap n) = (n.natAbs : Int) := by rw [wu64_mod, wu64_mod]; omega
    simp (config := {maxSteps := 4000000}) only [c82, h', SS, bne_self_eq_false, wr_def, obOf, List.all_cons, List.all_nil, List.map_cons, List.map_nil, List.length_cons, List.length_nil, List.take_zero, List.take_succ_cons, List.take_nil, List.drop_zero, List.drop_succ_cons, List.drop_nil, Nat.reduceAdd, Nat.reduceMul, Nat.reduceSub, if_true, Nat.reduceLT, Nat.reduceLeDiff, ite_true, ite_false, Nat.reduceEqDiff, if_false, reduceCtorEq, ne_eq, List.getD, List.getElem?_cons_zero, List.getElem?_cons_succ, Option.getD_some, Option.bind_some, Option.map_some, Option.isSome_some, reduceIte, List.length_append, List.append_assoc, List.cons_append, List.nil_append, Option.some.injEq, forall_const, implies_true, Int.reduceNeg, eq_self, Prod.mk.injEq, List.self_eq_append_right, List.append_nil, exists_eq_left, exists_eq_left', exists_and_left, exists_eq_right, exists_and_right]
    simp only [e1]
  · have h' : decide (n < 0) = false := decide_eq_false h
    have e1 : IntKind.u64.wrap n = (n.natAbs : Int) := by rw [wu64_mod]; omega
    simp (config := {maxSteps := 4000000}) only [c82, h', e1, SS, bne_self_eq_false, wr_def, obOf, List.all_cons, List.all_nil, List.map_cons, List.map_nil, List.length_cons, List.length_nil, List.take_zero, List.take_succ_cons, List.take_nil, List.drop_zero, List.drop_succ_cons, List.drop_nil, Nat.reduceAdd, Nat.reduceMul, Nat.reduceSub, if_true, Nat.reduceLT, Nat.reduceLeDiff, ite_true, ite_false, Nat.reduceEqDiff, if_false, reduceCtorEq, ne_eq, List.getD, List.getElem?_cons_zero, List.getElem?_cons_succ, Option.getD_some, Option.bind_some, Option.map_some, Option.isSome_some, reduceIte, List.length_append, List.append_assoc, List.cons_append, List.nil_append, Option.some.injEq, forall_const, implies_true, Int.reduceNeg, eq_self, Prod.mk.injEq, List.self_eq_append_right, List.append_nil, exists_eq_left, exists_eq_left', exists_and_left, exists_eq_right, exists_and_right]

theorem mul64_pc {x y : Nat} (hx : x < M64) (hy : y < M64) (H : List Ob) : pcall E 81 [.int .u64 (x : Int), .int .u64 (y : Int)] H = some (.tup [.int .u64 ((x * y / M64 : Nat) : Int), .int .u64 ((x * y % M64 : Nat) : Int)]) := by
  refine pcall_some.2 (call_plain e81 rfl (Nat.le_of_ble_eq_true rfl) rfl ?_)
  have hP := Dv.mul_hi (x := x) (y := y) hx hy
  have a1 := and32 x hx
  have a2 := shr32 (kk := .u64) x
  have a3 := and32 y hy
  have a4 := shr32 (kk := .u64) y
  have b1 : x / 4294967296 ≤ 4294967295 := by unfold M64 at hx; omega
  have b2 : y / 4294967296 ≤ 4294967295 := by unfold M64 at hy; omega
  have b3 : x % 4294967296 ≤ 4294967295 := by omega
  have b4 : y % 4294967296 ≤ 4294967295 := by omega
  have hlo := u_mul x y
  generalize x / 4294967296 = x1 at *
  generalize x % 4294967296 = x0 at *
  generalize y / 4294967296 = y1 at *
  generalize y % 4294967296 = y0 at *
  have c1 := Nat.mul_le_mul b1 b2
  have c2 := Nat.mul_le_mul b1 b4
  have c3 := Nat.mul_le_mul b3 b2
  have c4 := Nat.mul_le_mul b3 b4
  have m1 := u_mul_lt (a := x0) (b := y0) (by unfold M64; omega)
  have m2 := u_mul_lt (a := x1) (b := y0) (by unfold M64; omega)
  have m3 := u_mul_lt (a := x0) (b := y1) (by unfold M64; omega)
  have m4 := u_mul_lt (a := x1) (b := y1) (by unfold M64; omega)
  have a5 := shr32 (kk := .u64) (x0 * y0)
  generalize x1 * y1 = A at *
  generalize x1 * y0 = B at *
  generalize x0 * y1 = C at *
  generalize x0 * y0 = D at *
  have m5 := u_add_lt (a := B) (b := D / 4294967296) (by unfold M64; omega)
  have a6 := and32 (B + D / 4294967296) (by unfold M64; omega)
  have a7 := shr32 (kk := .u64) (B + D / 4294967296)
  have m6 := u_add_lt (a := (B + D / 4294967296) % 4294967296) (b := C) (by unfold M64; omega)
  have a8 := shr32 (kk := .u64) ((B + D / 4294967296) % 4294967296 + C)
  have m7 := u_add_lt (a := A) (b := (B + D / 4294967296) / 4294967296) (by unfold M64; omega)
  have m8 := u_add_lt (a := A + (B + D / 4294967296) / 4294967296) (b := ((B + D / 4294967296) % 4294967296 + C) / 4294967296) (by unfold M64; omega)
  rw [hP] at m8
  simp (config := {maxSteps := 4000000}) only [c81, a1, a2, a3, a4, a5, a6, a7, a8, m1, m2, m3, m4, m5, m6, m7, m8, hlo, SS, bne_self_eq_false, wr_def, obOf, List.all_cons, List.all_nil, List.map_cons, List.map_nil, List.length_cons, List.length_nil, List.take_zero, List.take_succ_cons, List.take_nil, List.drop_zero, List.drop_succ_cons, List.drop_nil, Nat.reduceAdd, Nat.reduceMul, Nat.reduceSub, if_true, Nat.reduceLT, Nat.reduceLeDiff, ite_true, ite_false, Nat.reduceEqDiff, if_false, reduceCtorEq, ne_eq, List.getD, List.getElem?_cons_zero, List.getElem?_cons_succ, Option.getD_some, Option.bind_some, Option.map_some, Option.isSome_some, reduceIte, List.length_append, List.append_assoc, List.cons_append, List.nil_append, Option.some.injEq, forall_const, implies_true, Int.reduceNeg, eq_self, Prod.mk.injEq, List.self_eq_append_right, List.append_nil, exists_eq_left, exists_eq_left', exists_and_left, exists_eq_right, exists_and_right]

/-- The number of binary digits. -/
def len2 (x : Nat) : Nat := if x = 0 then 0 else x.log2 + 1
theorem len2_div {x k : Nat} (h : 2 ^ k ≤ x) : len2 x = len2 (x / 2 ^ k) + k := by
  have hx : x ≠ 0 := by have := Nat.two_pow_pos k; omega
  have hq : x / 2 ^ k ≠ 0 := by
    have : 1 ≤ x / 2 ^ k := (Nat.le_div_iff_mul_le (Nat.two_pow_pos k)).2 (by omega)
    omega
  simp only [len2, if_neg hx, if_neg hq]
  have e1 := Nat.log2_self_le hx
  have e2 := Nat.lt_log2_self (n := x)
  have hk : k ≤ x.log2 := by rw [Nat.le_log2 hx]; exact h
  have : (x / 2 ^ k).log2 = x.log2 - k := by
    rw [Nat.log2_eq_iff hq]
    constructor
    · rw [Nat.le_div_iff_mul_le (Nat.two_pow_pos k), ← Nat.pow_add]
      have : x.log2 - k + k = x.log2 := by omega
      rw [this]; exact e1
    · rw [Nat.div_lt_iff_lt_mul (Nat.two_pow_pos k), ← Nat.pow_add]
      have : x.log2 - k + 1 + k = x.log2 + 1 := by omega
      rw [this]; exact e2
  omega
theorem len2_le {x k : Nat} (h : x < 2 ^ k) : len2 x ≤ k := by
  unfold len2
  split
  · omega
  · rename_i hx
    have := (Nat.log2_lt hx).2 h
    omega
theorem len2_spec {x : Nat} (hx : x ≠ 0) : 2 ^ (len2 x - 1) ≤ x ∧ x < 2 ^ len2 x ∧ 1 ≤ len2 x := by
  simp only [len2, if_neg hx]
  exact ⟨Nat.log2_self_le hx, Nat.lt_log2_self, by omega⟩
theorem idx_getElem? {b : ByteArray} {i : Nat} {x : UInt8} (h : b.data.toList[i]? = some x) : b[i]? = some x := by
  have hi : i < b.data.toList.length := (List.getElem?_eq_some_iff.1 h).1
  have hi' : i < b.size := by simpa using hi
  rw [getElem?_pos b i hi']
  rw [List.getElem?_eq_getElem hi] at h
  simp only [Option.some.injEq] at h
  rw [← h]; simp [ByteArray.getElem_eq_getElem_data]
end Go.Proofs.Ytpehhlfbnkakpaa.Fl
