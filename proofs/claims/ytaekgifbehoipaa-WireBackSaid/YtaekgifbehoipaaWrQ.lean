/- A frame with one byte changed, plain; within. No condition. -/
import Derived.Test.YtaekgifbehoipaaWrI
namespace Go.Proofs.Ytaekgifbehoipaa.Wr
open Go Go.Proofs.Ytaekgifbehoipaa.Eva Go.Proofs.Ytaekgifbehoipaa.CodeAll
set_option linter.unusedVariables false
set_option linter.unusedSimpArgs false
set_option maxRecDepth 10000
set_option maxHeartbeats 4000000

theorem gB_congr {l m : List UInt8} {a : Nat} : ∀ k, (∀ j, j < k → l[a + j]? = m[a + j]?) → gB l a k = gB m a k
  | 0, _ => rfl
  | k + 1, h => by rw [gB, gB, gB_congr k (fun j hj => h j (by omega)), h k (by omega)]
def su (l : List UInt8) : Nat := l.foldl (fun a x => a + x.toNat) 0
theorem sm_su : ∀ (l : List UInt8) (p : Nat × Nat) (a : Nat), p.1 = a % 255 → (l.foldl stp p).1 = l.foldl (fun a x => a + x.toNat) a % 255
  | [], p, a, h => h
  | x :: l, p, a, h => sm_su l _ _ (by show (p.1 + x.toNat) % 255 = (a + x.toNat) % 255; rw [h]; omega)
theorem su_add : ∀ (l : List UInt8) (a : Nat), l.foldl (fun a x => a + x.toNat) a = a + su l
  | [], a => rfl
  | x :: l, a => by
    unfold su
    rw [List.foldl_cons, List.foldl_cons, su_add l, su_add l (0 + x.toNat)]
    omega
theorem su_set : ∀ (l : List UInt8) (k : Nat) (x y : UInt8), l[k]? = some y → su (l.set k x) + y.toNat = su l + x.toNat
  | [], k, x, y, h => by simp at h
  | z :: l, 0, x, y, h => by
    obtain rfl : z = y := by simpa using h
    unfold su
    rw [List.set_cons_zero, List.foldl_cons, List.foldl_cons, su_add, su_add]
    omega
  | z :: l, k + 1, x, y, h => by
    have := su_set l k x y (by simpa using h)
    unfold su
    rw [List.set_cons_succ, List.foldl_cons, List.foldl_cons, su_add, su_add]
    omega
/-- One byte of the sum's reach changed. -/
theorem sum_set {l : List UInt8} {k : Nat} {x y : UInt8} (hy : l[k]? = some y) (hxy : y.toNat % 255 ≠ x.toNat % 255) : sumL (l.set k x) ≠ sumL l := by
  intro h
  have h1 := sm_lt l
  have h2 := sm_lt (l.set k x)
  have e1 : (sm l).1 = su l % 255 := sm_su l (0, 0) 0 rfl
  have e2 : (sm (l.set k x)).1 = su (l.set k x) % 255 := sm_su _ (0, 0) 0 rfl
  have e3 := su_set l k x y hy
  unfold sumL at h
  omega
theorem dok_damage {s : ByteArray} {R T R' T' : Int} {ps ps' : List Pl} {k : Nat} {x y : UInt8} (hv : VF R T ps) (hy : (enc R T ps)[k]? = some y) (hs : bs s = (enc R T ps).set k x) (hk : 2 ≤ k) (hk2 : k ≠ 7) (hk3 : k ≠ 8) (hxy : y.toNat % 255 ≠ x.toNat % 255) : ¬ DOk s R' T' ps' := by
  rintro ⟨-, -, -, -, h5, -, -, h8, -⟩
  obtain ⟨-, -, -, q4, q5, q6, q7, -⟩ := enc_parts (m := []) (l := enc R T ps) (by rw [List.append_nil]) hv
  rw [hs] at h5 h8
  have hlen := enc_len R T ps
  have hkl : k < 11 + 16 * ps.length := by rw [← hlen]; exact (List.getElem?_eq_some_iff.1 hy).1
  generalize enc R T ps = l at *
  have hne : ∀ j, k ≠ j → (l.set k x)[j]? = l[j]? := fun j h => List.getElem?_set_ne h
  have e5 : gB (l.set k x) 7 2 = gB l 7 2 := gB_congr 2 (fun j hj => hne _ (by omega))
  rw [e5, q4] at h5
  rw [h5, ← q6] at *
  by_cases c : k < 9 + 16 * ps.length
  · have e6 : gB (l.set k x) (9 + 16 * ps.length) 2 = gB l (9 + 16 * ps.length) 2 := gB_congr 2 (fun j hj => hne _ (by omega))
    rw [e6, q7, List.take_set] at h8
    exact sum_set (l := l.take (9 + 16 * ps.length)) (by rw [List.getElem?_take, if_pos c]; exact hy) hxy h8.symm
  · have e6 : (l.set k x).take (9 + 16 * ps.length) = l.take (9 + 16 * ps.length) := by
      rw [List.take_set, List.set_eq_of_length_le]
      rw [List.length_take]; omega
    rw [e6, ← q7] at h8
    have hse : (l.set k x)[k]? = some x := by rw [List.getElem?_set_self (by omega)]
    have hxl := x.toNat_lt
    have hyl := y.toNat_lt
    have hu : ∀ (z : Option UInt8), (z.getD 0).toNat < 256 := fun z => (z.getD 0).toNat_lt
    rcases Nat.lt_or_ge (9 + 16 * ps.length) k with h | h
    · obtain rfl : k = 9 + 16 * ps.length + 1 := by omega
      rw [gB, gB, gB, gB, gB, gB, hne _ (by omega), hse, hy] at h8
      simp only [Option.getD_some] at h8
      omega
    · obtain rfl : k = 9 + 16 * ps.length := by omega
      rw [gB, gB, gB, gB, gB, gB, hne (9 + 16 * ps.length + 1) (by omega), Nat.add_zero, hse, hy] at h8
      simp only [Option.getD_some] at h8
      omega
theorem dec_bad {s : ByteArray} (hs : s.size < 1125899906842624) (h : ∀ R T ps, ¬ DOk s R T ps) (H : List Ob) : ∃ e, (e ≠ 0 ∧ DErr s e) ∧ pcall E 21 [.str s] H = some (.tup [.agg [.int .i64 0, .int .i64 0, .sl true 0 0 0 0 0], .int .i64 0, .int .i64 e]) := by
  obtain ⟨R, T, ps, n, e, hc, hd⟩ := dec_ex hs H
  rcases hc with ⟨-, hok, -⟩ | ⟨he, rfl, rfl, rfl, rfl, hde⟩
  · exact absurd hok (h _ _ _)
  · refine ⟨e, ⟨he, hde⟩, pcall_some.2 ?_⟩
    rw [hd]
    simp [outV, outO]
theorem within_ex (n : Int) {R : Nat} (h0 : 0 < R) (hR : R ≤ 1000) (H : List Ob) : ∃ k : Nat, k < R ∧ ∀ o, pcall E 23 [.int .i64 n, .int .i64 0, .int .i64 ((R : Int) - 1)] (H ++ o) = some (.int .i64 (k : Int)) := by
  have t1 : -(R : Int) < n.tmod R ∧ n.tmod R < R := by
    have h1 := Int.tmod_lt_of_pos n (show (0 : Int) < R by omega)
    have h2 : -(R : Int) < n.tmod R := by
      rcases Int.le_total 0 n with h | h
      · have := Int.tmod_nonneg R h; omega
      · have := Int.tmod_lt_of_pos (-n) (show (0 : Int) < R by omega)
        rw [Int.neg_tmod] at this; omega
    exact ⟨h2, h1⟩
  have t2 : 0 ≤ (n.tmod R + R).tmod R ∧ (n.tmod R + R).tmod R < R := ⟨Int.tmod_nonneg _ (by omega), Int.tmod_lt_of_pos _ (by omega)⟩
  refine ⟨((n.tmod R + R).tmod R).toNat, by omega, fun o => pcall_some.2 (call_plain e23 rfl (Nat.le_of_ble_eq_true rfl) rfl ?_)⟩
  have w1 : IntKind.i64.wrap ((R : Int) - 1 - 0) = (R : Int) - 1 := by rw [wrap64 (by omega) (by omega)]; omega
  have w2 : IntKind.i64.wrap ((R : Int) - 1 + 1) = (R : Int) := by rw [wrap64 (by omega) (by omega)]; omega
  have hz : (R : Int) ≠ 0 := by omega
  have w3 : IntKind.i64.wrap (n.tmod R + R) = n.tmod R + R := wrap64 (by omega) (by omega)
  have w4 : IntKind.i64.wrap (0 + (n.tmod R + R).tmod R) = ((((n.tmod R + R).tmod R).toNat : Nat) : Int) := by rw [wrap64 (by omega) (by omega)]; omega
  simp (config := {maxSteps := 4000000}) only [c23, w1, w2, abin_rem _ _ _ hz, w3, w4, SS, bne_self_eq_false, wr_def, obOf, List.all_cons, List.all_nil, List.map_cons, List.map_nil, List.length_cons, List.length_nil, List.take_zero, List.take_succ_cons, List.take_nil, List.drop_zero, List.drop_succ_cons, List.drop_nil, Nat.reduceAdd, Nat.reduceMul, Nat.reduceSub, if_true, Nat.reduceLT, Nat.reduceLeDiff, ite_true, ite_false, Nat.reduceEqDiff, if_false, reduceCtorEq, ne_eq, List.getD, List.getElem?_cons_zero, List.getElem?_cons_succ, Option.getD_some, Option.bind_some, Option.map_some, Option.isSome_some, reduceIte, List.length_append, List.append_assoc, List.cons_append, List.nil_append, Option.some.injEq, forall_const, implies_true, Int.reduceNeg, eq_self, Prod.mk.injEq, List.self_eq_append_right, List.append_nil, exists_eq_left, exists_eq_left', exists_and_left, exists_eq_right, exists_and_right]
end Go.Proofs.Ytaekgifbehoipaa.Wr
