/- Bytes as numbers: get and Sum of the package wire. Conditions stand in each lemma. -/
import Derived.Test.YtaekgifbehoipaaEvaI2
import Derived.Test.YtaekgifbehoipaaCodeAll
namespace Go.Proofs.Ytaekgifbehoipaa.Wr
open Go Go.Proofs.Ytaekgifbehoipaa.Eva Go.Proofs.Ytaekgifbehoipaa.CodeAll
set_option linter.unusedVariables false
set_option linter.unusedSimpArgs false
set_option maxRecDepth 10000
set_option maxHeartbeats 4000000

abbrev bs (s : ByteArray) : List UInt8 := s.data.toList
theorem bs_len (s : ByteArray) : (bs s).length = s.size := Array.length_toList
theorem bs_get {s : ByteArray} {i : Nat} (h : i < s.size) : s[i]? = (bs s)[i]? := by
  rw [getElem?_pos s i h]
  have h2 : i < s.data.toList.length := by rw [Array.length_toList]; exact h
  rw [List.getElem?_eq_getElem h2]
  rfl
/-- The number that so many bytes tell, the greatest first. -/
def gB (l : List UInt8) (a : Nat) : Nat → Nat
  | 0 => 0
  | k + 1 => gB l a k * 256 + ((l[a + k]?).getD 0).toNat
theorem gB_lt (l : List UInt8) (a : Nat) : ∀ k, gB l a k < 256 ^ k
  | 0 => by simp [gB]
  | k + 1 => by
    have h1 := gB_lt l a k
    have h2 : ((l[a + k]?).getD 0).toNat < 256 := UInt8.toNat_lt _
    simp only [gB, Nat.pow_succ]
    omega
theorem or_byte (a : Nat) {b : Nat} (hb : b < 256) : a * 256 ||| b = a * 256 + b := by
  have := Nat.shiftLeft_add_eq_or_of_lt (i := 8) (b := b) (by omega) a
  rw [Nat.shiftLeft_eq, show (2 : Nat) ^ 8 = 256 from rfl] at this
  omega
theorem abin_or_i (a b : Nat) (ha : a < 4611686018427387904) (hb : b < 4611686018427387904) : abin .or (.int .i64 (a : Int)) (.int .i64 (b : Int)) = some (.int .i64 ((a ||| b : Nat) : Int)) := by
  have e : (BitVec.ofInt IntKind.i64.bits (a : Int) ||| BitVec.ofInt IntKind.i64.bits (b : Int)).toNat = a ||| b := by
    rw [BitVec.toNat_or, BitVec.toNat_ofInt, BitVec.toNat_ofInt]
    show ((a : Int) % ((2 ^ 64 : Nat) : Int)).toNat ||| ((b : Int) % ((2 ^ 64 : Nat) : Int)).toNat = a ||| b
    have h1 : (((a : Int) % ((2 ^ 64 : Nat) : Int))).toNat = a := by omega
    have h2 : (((b : Int) % ((2 ^ 64 : Nat) : Int))).toNat = b := by omega
    rw [h1, h2]
  simp only [abin, if_true, e]
  have := Nat.or_lt_two_pow (n := 62) (show a < 2 ^ 62 from ha) (show b < 2 ^ 62 from hb)
  rw [wrap64 (by omega) (by omega)]

theorem get_pc {s : ByteArray} {a k : Nat} (hs : s.size < 1125899906842624) (h : a + k ≤ s.size) (hk : k ≤ 8) (H : List Ob) : pcall E 56 [.str s, .int .i64 (a : Int), .int .i64 (k : Int)] H = some (.int .u64 (gB (bs s) a k : Int)) := by
  refine pcall_some.2 (call_plain e56 rfl (Nat.le_of_ble_eq_true rfl) rfl ?_)
  simp (config := {maxSteps := 4000000}) only [c56, SS, bne_self_eq_false, wr_def, obOf, List.all_cons, List.all_nil, List.map_cons, List.map_nil, List.length_cons, List.length_nil, List.take_zero, List.take_succ_cons, List.take_nil, List.drop_zero, List.drop_succ_cons, List.drop_nil, Nat.reduceAdd, Nat.reduceMul, Nat.reduceSub, if_true, Nat.reduceLT, Nat.reduceLeDiff, ite_true, ite_false, Nat.reduceEqDiff, if_false, reduceCtorEq, ne_eq, List.getD, List.getElem?_cons_zero, List.getElem?_cons_succ, Option.getD_some, Option.bind_some, Option.map_some, Option.isSome_some, reduceIte, List.length_append, List.append_assoc, List.cons_append, List.nil_append, Option.some.injEq, forall_const, implies_true, Int.reduceNeg, eq_self, Prod.mk.injEq, List.self_eq_append_right, List.append_nil, exists_eq_left, exists_eq_left', exists_and_left, exists_eq_right, exists_and_right]
  refine W_loop (fun q f1 h1 => ∃ j : Nat, q = k - j ∧ j ≤ k ∧ f1 0 = .str s ∧ f1 1 = .int .i64 (a : Int) ∧ f1 9 = .int .i64 (k : Int) ∧ f1 10 = .int .i64 (j : Int) ∧ f1 7 = .int .u64 (gB (bs s) a j : Int)) (Nat.le_refl _) k ⟨0, rfl, by omega, rfl, rfl, rfl, rfl, rfl⟩ ?_
  rintro q f1 h1 hn1 ht ⟨j, rfl, hj, e0, e1, e9, e10, e7⟩
  rw [List.take_length] at ht
  have hH := take_eq ht
  generalize h1.drop H.length = z at hH
  subst hH
  by_cases hjk : j < k
  · have hc : decide ((j : Int) < (k : Int)) = true := decide_eq_true (by omega)
    have w1 : IntKind.i64.wrap ((j : Int) + 1) = ((j + 1 : Nat) : Int) := by rw [wrap64 (by omega) (by omega)]; omega
    have w2 : IntKind.i64.wrap ((a : Int) + (j : Int)) = ((a + j : Nat) : Int) := by rw [wrap64 (by omega) (by omega)]; omega
    obtain ⟨x, hx⟩ : ∃ x, (bs s)[a + j]? = some x := ⟨_, List.getElem?_eq_getElem (by rw [bs_len]; omega)⟩
    have hix : ixsA (.str s) (.int .i64 ((a + j : Nat) : Int)) = some (.int .u8 x.toNat) := ixsA_i (by rw [bs_get (by omega)]; exact hx)
    have hxl : x.toNat < 256 := UInt8.toNat_lt x
    have hg := gB_lt (bs s) a j
    have hp : (256 : Nat) ^ j ≤ 256 ^ 7 := Nat.pow_le_pow_right (by decide) (by omega)
    have hM : gB (bs s) a j * 256 < M64 := by unfold M64; omega
    have hsh : abin .shl (.int .u64 (gB (bs s) a j : Int)) (.int .u64 8) = some (.int .u64 ((gB (bs s) a j * 256 : Nat) : Int)) := by
      have := abin_shl_u (kk := .u64) (gB (bs s) a j) 8
      rw [show min 8 64 = 8 from rfl, show (2 : Nat) ^ 8 = 256 from rfl, Nat.mod_eq_of_lt hM] at this
      exact this
    have hcv : cviA .u64 (.int .u8 (x.toNat : Int)) = some (.int .u64 (x.toNat : Int)) := cvi_u .u8 x.toNat (by unfold M64; omega)
    have hor := abin_or_u (gB (bs s) a j * 256) x.toNat hM (by unfold M64; omega)
    rw [or_byte _ hxl] at hor
    simp (config := {maxSteps := 4000000}) only [e0, e1, e7, e9, e10, hc, w1, w2, kq_ixs, vq_ixs, hix, hsh, hcv, hor, SS, bne_self_eq_false, wr_def, obOf, List.all_cons, List.all_nil, List.map_cons, List.map_nil, List.length_cons, List.length_nil, List.take_zero, List.take_succ_cons, List.take_nil, List.drop_zero, List.drop_succ_cons, List.drop_nil, Nat.reduceAdd, Nat.reduceMul, Nat.reduceSub, if_true, Nat.reduceLT, Nat.reduceLeDiff, ite_true, ite_false, Nat.reduceEqDiff, if_false, reduceCtorEq, ne_eq, List.getD, List.getElem?_cons_zero, List.getElem?_cons_succ, Option.getD_some, Option.bind_some, Option.map_some, Option.isSome_some, reduceIte, List.length_append, List.append_assoc, List.cons_append, List.nil_append, Option.some.injEq, forall_const, implies_true, Int.reduceNeg, eq_self, Prod.mk.injEq, List.self_eq_append_right, List.append_nil, exists_eq_left, exists_eq_left', exists_and_left, exists_eq_right, exists_and_right]
    refine ⟨_, by omega, j + 1, rfl, by omega, rfl, ?_⟩
    simp only [gB, hx, Option.getD_some]
  · have hc : decide ((j : Int) < (k : Int)) = false := decide_eq_false (by omega)
    have : j = k := by omega
    subst this
    simp (config := {maxSteps := 4000000}) only [e0, e1, e7, e9, e10, hc, SS, bne_self_eq_false, wr_def, obOf, List.all_cons, List.all_nil, List.map_cons, List.map_nil, List.length_cons, List.length_nil, List.take_zero, List.take_succ_cons, List.take_nil, List.drop_zero, List.drop_succ_cons, List.drop_nil, Nat.reduceAdd, Nat.reduceMul, Nat.reduceSub, if_true, Nat.reduceLT, Nat.reduceLeDiff, ite_true, ite_false, Nat.reduceEqDiff, if_false, reduceCtorEq, ne_eq, List.getD, List.getElem?_cons_zero, List.getElem?_cons_succ, Option.getD_some, Option.bind_some, Option.map_some, Option.isSome_some, reduceIte, List.length_append, List.append_assoc, List.cons_append, List.nil_append, Option.some.injEq, forall_const, implies_true, Int.reduceNeg, eq_self, Prod.mk.injEq, List.self_eq_append_right, List.append_nil, exists_eq_left, exists_eq_left', exists_and_left, exists_eq_right, exists_and_right]

/-- Fletcher's sums. -/
def stp (p : Nat × Nat) (x : UInt8) : Nat × Nat := ((p.1 + x.toNat) % 255, (p.2 + (p.1 + x.toNat) % 255) % 255)
def sm (l : List UInt8) : Nat × Nat := l.foldl stp (0, 0)
def sumL (l : List UInt8) : Nat := (sm l).2 * 256 + (sm l).1
theorem sm_lt (l : List UInt8) : (sm l).1 < 255 ∧ (sm l).2 < 255 := by
  unfold sm
  suffices ∀ (l : List UInt8) (p : Nat × Nat), p.1 < 255 ∧ p.2 < 255 → (l.foldl stp p).1 < 255 ∧ (l.foldl stp p).2 < 255 from this l _ ⟨by decide, by decide⟩
  intro l
  induction l with
  | nil => intro p hp; exact hp
  | cons x l ih => intro p hp; exact ih _ ⟨Nat.mod_lt _ (by decide), Nat.mod_lt _ (by decide)⟩
theorem sm_succ {l : List UInt8} {i : Nat} {x : UInt8} (hx : l[i]? = some x) : sm (l.take (i + 1)) = stp (sm (l.take i)) x := by
  unfold sm
  have : l.take (i + 1) = l.take i ++ [x] := by
    rw [List.take_add_one, hx]; rfl
  rw [this, List.foldl_append]; rfl
theorem sum_pc {s : ByteArray} (hs : s.size < 1125899906842624) (H : List Ob) : pcall E 57 [.str s] H = some (.int .i64 (sumL (bs s) : Int)) := by
  refine pcall_some.2 (call_plain e57 rfl (Nat.le_of_ble_eq_true rfl) rfl ?_)
  simp (config := {maxSteps := 4000000}) only [c57, SS, bne_self_eq_false, wr_def, obOf, List.all_cons, List.all_nil, List.map_cons, List.map_nil, List.length_cons, List.length_nil, List.take_zero, List.take_succ_cons, List.take_nil, List.drop_zero, List.drop_succ_cons, List.drop_nil, Nat.reduceAdd, Nat.reduceMul, Nat.reduceSub, if_true, Nat.reduceLT, Nat.reduceLeDiff, ite_true, ite_false, Nat.reduceEqDiff, if_false, reduceCtorEq, ne_eq, List.getD, List.getElem?_cons_zero, List.getElem?_cons_succ, Option.getD_some, Option.bind_some, Option.map_some, Option.isSome_some, reduceIte, List.length_append, List.append_assoc, List.cons_append, List.nil_append, Option.some.injEq, forall_const, implies_true, Int.reduceNeg, eq_self, Prod.mk.injEq, List.self_eq_append_right, List.append_nil, exists_eq_left, exists_eq_left', exists_and_left, exists_eq_right, exists_and_right]
  refine W_loop (fun q f1 h1 => ∃ j : Nat, q = s.size - j ∧ j ≤ s.size ∧ f1 0 = .str s ∧ f1 7 = .int .i64 (s.size : Int) ∧ f1 8 = .int .i64 (j : Int) ∧ f1 3 = .int .i64 ((sm ((bs s).take j)).1 : Int) ∧ f1 4 = .int .i64 ((sm ((bs s).take j)).2 : Int)) (Nat.le_refl _) s.size ⟨0, rfl, by omega, rfl, rfl, rfl, rfl, rfl⟩ ?_
  rintro q f1 h1 hn1 ht ⟨j, rfl, hj, e0, e7, e8, e3, e4⟩
  rw [List.take_length] at ht
  have hH := take_eq ht
  generalize h1.drop H.length = z at hH
  subst hH
  have hl := sm_lt ((bs s).take j)
  by_cases hjk : j < s.size
  · have hc : decide ((j : Int) < (s.size : Int)) = true := decide_eq_true (by omega)
    have w1 : IntKind.i64.wrap ((j : Int) + 1) = ((j + 1 : Nat) : Int) := by rw [wrap64 (by omega) (by omega)]; omega
    obtain ⟨x, hx⟩ : ∃ x, (bs s)[j]? = some x := ⟨_, List.getElem?_eq_getElem (by rw [bs_len]; omega)⟩
    have hix : ixsA (.str s) (.int .i64 (j : Int)) = some (.int .u8 x.toNat) := ixsA_i (by rw [bs_get hjk]; exact hx)
    have hxl : x.toNat < 256 := UInt8.toNat_lt x
    have hsu := sm_succ hx
    generalize hA : (sm ((bs s).take j)).1 = A at *
    generalize hB : (sm ((bs s).take j)).2 = B at *
    have hcv : cviA .i64 (.int .u8 (x.toNat : Int)) = some (.int .i64 (x.toNat : Int)) := by rw [cviA_i, wrap64 (by omega) (by omega)]
    have w2 : IntKind.i64.wrap ((A : Int) + (x.toNat : Int)) = ((A + x.toNat : Nat) : Int) := by rw [wrap64 (by omega) (by omega)]; omega
    have t1 : (((A + x.toNat : Nat) : Int)).tmod 255 = (((A + x.toNat) % 255 : Nat) : Int) := by rw [show (255 : Int) = ((255 : Nat) : Int) from rfl, Int.ofNat_tmod]
    have hm : (A + x.toNat) % 255 < 255 := Nat.mod_lt _ (by decide)
    have w3 : IntKind.i64.wrap ((B : Int) + (((A + x.toNat) % 255 : Nat) : Int)) = ((B + (A + x.toNat) % 255 : Nat) : Int) := by rw [wrap64 (by omega) (by omega)]; omega
    have t2 : (((B + (A + x.toNat) % 255 : Nat) : Int)).tmod 255 = (((B + (A + x.toNat) % 255) % 255 : Nat) : Int) := by rw [show (255 : Int) = ((255 : Nat) : Int) from rfl, Int.ofNat_tmod]
    have hz : (255 : Int) ≠ 0 := by decide
    simp (config := {maxSteps := 4000000}) only [e0, e3, e4, e7, e8, hc, w1, kq_ixs, vq_ixs, hix, hcv, w2, abin_rem _ _ _ hz, t1, w3, t2, SS, bne_self_eq_false, wr_def, obOf, List.all_cons, List.all_nil, List.map_cons, List.map_nil, List.length_cons, List.length_nil, List.take_zero, List.take_succ_cons, List.take_nil, List.drop_zero, List.drop_succ_cons, List.drop_nil, Nat.reduceAdd, Nat.reduceMul, Nat.reduceSub, if_true, Nat.reduceLT, Nat.reduceLeDiff, ite_true, ite_false, Nat.reduceEqDiff, if_false, reduceCtorEq, ne_eq, List.getD, List.getElem?_cons_zero, List.getElem?_cons_succ, Option.getD_some, Option.bind_some, Option.map_some, Option.isSome_some, reduceIte, List.length_append, List.append_assoc, List.cons_append, List.nil_append, Option.some.injEq, forall_const, implies_true, Int.reduceNeg, eq_self, Prod.mk.injEq, List.self_eq_append_right, List.append_nil, exists_eq_left, exists_eq_left', exists_and_left, exists_eq_right, exists_and_right]
    refine ⟨_, by omega, j + 1, rfl, by omega, rfl, ?_, ?_⟩
    · rw [hsu, stp, hA]
    · rw [hsu, stp, hA, hB]
  · have hc : decide ((j : Int) < (s.size : Int)) = false := decide_eq_false (by omega)
    have hjE : j = s.size := by omega
    subst hjE
    have htk : (bs s).take s.size = bs s := List.take_of_length_le (by rw [bs_len]; exact Nat.le_refl _)
    rw [htk] at e3 e4 hl
    have hsh : abin .shl (.int .i64 ((sm (bs s)).2 : Int)) (.int .u64 8) = some (.int .i64 (((sm (bs s)).2 * 256 : Nat) : Int)) := shl_i (kk := .u64) _ 8 (by omega) (by decide)
    have hor := abin_or_i ((sm (bs s)).2 * 256) (sm (bs s)).1 (by omega) (by omega)
    rw [or_byte _ (by omega)] at hor
    simp (config := {maxSteps := 4000000}) only [e0, e3, e4, e7, e8, hc, hsh, hor, SS, bne_self_eq_false, wr_def, obOf, List.all_cons, List.all_nil, List.map_cons, List.map_nil, List.length_cons, List.length_nil, List.take_zero, List.take_succ_cons, List.take_nil, List.drop_zero, List.drop_succ_cons, List.drop_nil, Nat.reduceAdd, Nat.reduceMul, Nat.reduceSub, if_true, Nat.reduceLT, Nat.reduceLeDiff, ite_true, ite_false, Nat.reduceEqDiff, if_false, reduceCtorEq, ne_eq, List.getD, List.getElem?_cons_zero, List.getElem?_cons_succ, Option.getD_some, Option.bind_some, Option.map_some, Option.isSome_some, reduceIte, List.length_append, List.append_assoc, List.cons_append, List.nil_append, Option.some.injEq, forall_const, implies_true, Int.reduceNeg, eq_self, Prod.mk.injEq, List.self_eq_append_right, List.append_nil, exists_eq_left, exists_eq_left', exists_and_left, exists_eq_right, exists_and_right]
    rfl
end Go.Proofs.Ytaekgifbehoipaa.Wr
