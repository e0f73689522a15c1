/- Sorting as the library does it (kind I): choosing a pivot, breaking patterns. Conditions stand in each lemma. -/
import Derived.Test.YtaekgifbehoipaaZBiasExactb
import Derived.Test.YtaekgifbehoipaaZBiasExacta
import Derived.Test.YtaekgifbehoipaaEvaI2
import Derived.Test.YtaekgifbehoipaaCodeAll
namespace Go.Proofs.Ytaekgifbehoipaa.So.KI
open Go Go.Proofs.Ytaekgifbehoipaa.Eva Go.Proofs.Ytaekgifbehoipaa.CodeAll Go.Proofs.Ytaekgifbehoipaa.So Go.Proofs.Ytaekgifbehoipaa.Fl
set_option linter.unusedVariables false
set_option linter.unusedSimpArgs false
set_option maxRecDepth 10000
set_option maxHeartbeats 4000000

section
variable {α : Type} {c : α → List AV} {e : α → AV} {lt : α → α → Bool} (X : Ctx c e lt)
include X

theorem ord_m {n0 n i j id : Nat} {s : Int} {H : List Ob} {v : AV} {f : Nat → α} (A : Fs 0 H v c 1 n f) (C : Bx H id (.int .i64 s)) (hid : n0 ≤ id) (h0 : n0 ≤ H.length) (hi : i < n) (hj : j < n) :
    ∃ r h2 w, mcall E n0 175 [v, .int .i64 (i : Int), .int .i64 (j : Int), .ptr id 0 0] H = some (r, h2) ∧ n0 ≤ h2.length ∧ Kb id H h2 ∧ Bx h2 id w ∧ (∃ t, w = .int .i64 t) ∧ (r = .tup [.int .i64 (i : Int), .int .i64 (j : Int)] ∨ r = .tup [.int .i64 (j : Int), .int .i64 (i : Int)]) := by
  obtain ⟨L, O, he, hcmp⟩ := X
  refine box_call (P := fun r w => (∃ t, w = .int .i64 t) ∧ (r = .tup [.int .i64 (i : Int), .int .i64 (j : Int)] ∨ r = .tup [.int .i64 (j : Int), .int .i64 (i : Int)])) e175 rfl (Nat.le_of_ble_eq_true rfl) h0 C ?_
  have oi := A.ok (kk := .i64) hi
  have oj := A.ok (kk := .i64) hj
  have di := Fs.ldI L he A (kk := .i64) hi
  have dj := Fs.ldI L he A (kk := .i64) hj
  obtain ⟨C', K'⟩ := bx_put C (w := .int .i64 (IntKind.i64.wrap (s + 1))) rfl
  have r0 : rdObj H id 0 = _ := C
  have r1 : rdObj _ id 0 = _ := C'
  cases hl : lt (f j) (f i)
  · simp (config := {maxSteps := 4000000}) only [c175, oi, oj, isPtr_idx oi, isPtr_idx oj, di, dj, hcmp, hl, h0, SS, bne_self_eq_false, wr_def, obOf, List.all_cons, List.all_nil, List.map_cons, List.map_nil, List.length_cons, List.length_nil, List.take_zero, List.take_succ_cons, List.take_nil, List.drop_zero, List.drop_succ_cons, List.drop_nil, Nat.reduceAdd, Nat.reduceMul, Nat.reduceSub, if_true, Nat.reduceLT, Nat.reduceLeDiff, ite_true, ite_false, Nat.reduceEqDiff, if_false, reduceCtorEq, ne_eq, List.getD, List.getElem?_cons_zero, List.getElem?_cons_succ, Option.getD_some, Option.bind_some, Option.map_some, Option.isSome_some, reduceIte, List.length_append, List.append_assoc, List.cons_append, List.nil_append, Option.some.injEq, forall_const, implies_true, Int.reduceNeg, eq_self, Prod.mk.injEq, List.self_eq_append_right, List.append_nil, exists_eq_left, exists_eq_left', exists_and_left, exists_eq_right, exists_and_right]
    exact ⟨rfl, Kb.refl, _, C, ⟨s, rfl⟩, Or.inl (by trivial)⟩
  · simp (config := {maxSteps := 4000000}) only [c175, oi, oj, isPtr_idx oi, isPtr_idx oj, di, dj, hcmp, hl, h0, r0, r1, hid, SS, bne_self_eq_false, wr_def, obOf, List.all_cons, List.all_nil, List.map_cons, List.map_nil, List.length_cons, List.length_nil, List.take_zero, List.take_succ_cons, List.take_nil, List.drop_zero, List.drop_succ_cons, List.drop_nil, Nat.reduceAdd, Nat.reduceMul, Nat.reduceSub, if_true, Nat.reduceLT, Nat.reduceLeDiff, ite_true, ite_false, Nat.reduceEqDiff, if_false, reduceCtorEq, ne_eq, List.getD, List.getElem?_cons_zero, List.getElem?_cons_succ, Option.getD_some, Option.bind_some, Option.map_some, Option.isSome_some, reduceIte, List.length_append, List.append_assoc, List.cons_append, List.nil_append, Option.some.injEq, forall_const, implies_true, Int.reduceNeg, eq_self, Prod.mk.injEq, List.self_eq_append_right, List.append_nil, exists_eq_left, exists_eq_left', exists_and_left, exists_eq_right, exists_and_right]
    exact ⟨rfl, K', _, C', ⟨_, rfl⟩, Or.inr (by trivial)⟩

theorem med_m {n0 n i j k id : Nat} {s : Int} {H : List Ob} {v : AV} {f : Nat → α} (A : Fs 0 H v c 1 n f) (C : Bx H id (.int .i64 s)) (hid : n0 ≤ id) (hne : ¬ idOf v id) (h0 : n0 ≤ H.length) (hi : i < n) (hj : j < n) (hk : k < n) :
    ∃ r h2 w, mcall E n0 169 [v, .int .i64 (i : Int), .int .i64 (j : Int), .int .i64 (k : Int), .ptr id 0 0] H = some (r, h2) ∧ n0 ≤ h2.length ∧ Kb id H h2 ∧ Bx h2 id w ∧ (∃ t, w = .int .i64 t) ∧ ∃ m : Nat, r = .int .i64 (m : Int) ∧ (m = i ∨ m = j ∨ m = k) := by
  have ord := @ord_m _ c e lt X n0 n
  refine box_call (P := fun r w => (∃ t, w = .int .i64 t) ∧ ∃ m : Nat, r = .int .i64 (m : Int) ∧ (m = i ∨ m = j ∨ m = k)) e169 rfl (Nat.le_of_ble_eq_true rfl) h0 C ?_
  have mono : ∀ {h h' : List Ob}, Fs 0 h v c 1 n f → Kb id h h' → Fs 0 h' v c 1 n f := fun A K => A.mono fun id' ep o hid ho => K.2 id' ep o (fun e => hne (e ▸ hid)) ho
  obtain ⟨r1, h1, w1, m1, l1, K1, C1, ⟨t1, rfl⟩, q1⟩ := ord A C hid h0 hi hj
  have A1 := mono A K1
  obtain ⟨x1, y1, e1, z1⟩ : ∃ x y : Nat, r1 = .tup [.int .i64 (x : Int), .int .i64 (y : Int)] ∧ ((x = i ∧ y = j) ∨ (x = j ∧ y = i)) := by
    rcases q1 with h | h
    · exact ⟨i, j, h, Or.inl ⟨rfl, rfl⟩⟩
    · exact ⟨j, i, h, Or.inr ⟨rfl, rfl⟩⟩
  subst e1
  obtain ⟨r2, h2, w2, m2, l2, K2, C2, ⟨t2, rfl⟩, q2⟩ := ord (i := y1) (j := k) A1 C1 hid l1 (by omega) hk
  have A2 := mono A1 K2
  obtain ⟨x2, y2, e2, z2⟩ : ∃ x y : Nat, r2 = .tup [.int .i64 (x : Int), .int .i64 (y : Int)] ∧ ((x = y1 ∧ y = k) ∨ (x = k ∧ y = y1)) := by
    rcases q2 with h | h
    · exact ⟨_, _, h, Or.inl ⟨rfl, rfl⟩⟩
    · exact ⟨_, _, h, Or.inr ⟨rfl, rfl⟩⟩
  subst e2
  obtain ⟨r3, h3, w3, m3, l3, K3, C3, ⟨t3, rfl⟩, q3⟩ := ord (i := x1) (j := x2) A2 C2 hid l2 (by omega) (by omega)
  obtain ⟨x3, y3, e3, z3⟩ : ∃ x y : Nat, r3 = .tup [.int .i64 (x : Int), .int .i64 (y : Int)] ∧ ((x = x1 ∧ y = x2) ∨ (x = x2 ∧ y = x1)) := by
    rcases q3 with h | h
    · exact ⟨_, _, h, Or.inl ⟨rfl, rfl⟩⟩
    · exact ⟨_, _, h, Or.inr ⟨rfl, rfl⟩⟩
  subst e3
  simp (config := {maxSteps := 4000000}) only [c169, rg_callm, mcallV_fn, m1, m2, m3, SS, bne_self_eq_false, wr_def, obOf, List.all_cons, List.all_nil, List.map_cons, List.map_nil, List.length_cons, List.length_nil, List.take_zero, List.take_succ_cons, List.take_nil, List.drop_zero, List.drop_succ_cons, List.drop_nil, Nat.reduceAdd, Nat.reduceMul, Nat.reduceSub, if_true, Nat.reduceLT, Nat.reduceLeDiff, ite_true, ite_false, Nat.reduceEqDiff, if_false, reduceCtorEq, ne_eq, List.getD, List.getElem?_cons_zero, List.getElem?_cons_succ, Option.getD_some, Option.bind_some, Option.map_some, Option.isSome_some, reduceIte, List.length_append, List.append_assoc, List.cons_append, List.nil_append, Option.some.injEq, forall_const, implies_true, Int.reduceNeg, eq_self, Prod.mk.injEq, List.self_eq_append_right, List.append_nil, exists_eq_left, exists_eq_left', exists_and_left, exists_eq_right, exists_and_right]
  exact ⟨rfl, (K1.trans K2).trans K3, _, C3, ⟨_, rfl⟩, y3, rfl, by omega⟩

theorem meda_m {n0 n i id : Nat} {s : Int} {H : List Ob} {v : AV} {f : Nat → α} (A : Fs 0 H v c 1 n f) (C : Bx H id (.int .i64 s)) (hid : n0 ≤ id) (hne : ¬ idOf v id) (h0 : n0 ≤ H.length) (hi : i + 1 < n) (hi0 : 1 ≤ i) (hn : n ≤ 1125899906842624) :
    ∃ r h2 w, mcall E n0 168 [v, .int .i64 (i : Int), .ptr id 0 0] H = some (r, h2) ∧ n0 ≤ h2.length ∧ Kb id H h2 ∧ Bx h2 id w ∧ (∃ t, w = .int .i64 t) ∧ ∃ m : Nat, r = .int .i64 (m : Int) ∧ i - 1 ≤ m ∧ m ≤ i + 1 := by
  refine box_call (P := fun r w => (∃ t, w = .int .i64 t) ∧ ∃ m : Nat, r = .int .i64 (m : Int) ∧ i - 1 ≤ m ∧ m ≤ i + 1) e168 rfl (Nat.le_of_ble_eq_true rfl) h0 C ?_
  have w1 : IntKind.i64.wrap ((i : Int) - 1) = ((i - 1 : Nat) : Int) := by rw [wrap64 (by omega) (by omega)]; omega
  have w2 : IntKind.i64.wrap ((i : Int) + 1) = ((i + 1 : Nat) : Int) := by rw [wrap64 (by omega) (by omega)]; omega
  obtain ⟨r, h2, w, m1, l1, K1, C1, ht, m, rfl, hm⟩ := med_m X (i := i - 1) (j := i) (k := i + 1) A C hid hne h0 (by omega) (by omega) hi
  simp (config := {maxSteps := 4000000}) only [c168, w1, w2, rg_callm, mcallV_fn, m1, SS, bne_self_eq_false, wr_def, obOf, List.all_cons, List.all_nil, List.map_cons, List.map_nil, List.length_cons, List.length_nil, List.take_zero, List.take_succ_cons, List.take_nil, List.drop_zero, List.drop_succ_cons, List.drop_nil, Nat.reduceAdd, Nat.reduceMul, Nat.reduceSub, if_true, Nat.reduceLT, Nat.reduceLeDiff, ite_true, ite_false, Nat.reduceEqDiff, if_false, reduceCtorEq, ne_eq, List.getD, List.getElem?_cons_zero, List.getElem?_cons_succ, Option.getD_some, Option.bind_some, Option.map_some, Option.isSome_some, reduceIte, List.length_append, List.append_assoc, List.cons_append, List.nil_append, Option.some.injEq, forall_const, implies_true, Int.reduceNeg, eq_self, Prod.mk.injEq, List.self_eq_append_right, List.append_nil, exists_eq_left, exists_eq_left', exists_and_left, exists_eq_right, exists_and_right]
  exact ⟨rfl, K1, w, C1, ht, m, rfl, by omega, by omega⟩

theorem piv_pc {n0 n a b : Nat} {H : List Ob} {v : AV} {f : Nat → α} (A : Fs n0 H v c 1 n f) (h0 : n0 ≤ H.length) (hb : b ≤ n) (hn : n ≤ 1125899906842624) (ha : a + 12 < b) :
    ∃ (p : Nat) (t : Int), a ≤ p ∧ p < b ∧ pcall E 151 [v, .int .i64 (a : Int), .int .i64 (b : Int)] H = some (.tup [.int .i64 (p : Int), .int .i64 t]) := by
  have key : ∃ r, (∃ (p : Nat) (t : Int), r = .tup [.int .i64 (p : Int), .int .i64 t] ∧ a ≤ p ∧ p < b) ∧ ecall E 151 [v, .int .i64 (a : Int), .int .i64 (b : Int)] H = some (r, H, H.length, H.length) := by
    refine so_ex e151 rfl (Nat.le_of_ble_eq_true rfl) (by rintro _ ⟨p, t, rfl, _⟩; rfl) ?_
    have hne : ¬ idOf v H.length := fun h => by have := A.lt h; omega
    have A0 : Fs 0 (H ++ [⟨[.int .i64 0], 0, 0, true, true⟩]) v c 1 n f := (A.keep _).down (Nat.zero_le _)
    have C0 : Bx (H ++ [⟨[.int .i64 0], 0, 0, true, true⟩]) H.length (.int .i64 0) := by unfold Bx; simp [rdObj]
    have mono : ∀ {h h' : List Ob}, Fs 0 h v c 1 n f → Kb H.length h h' → Fs 0 h' v c 1 n f := fun A K => A.mono fun id' ep o hid ho => K.2 id' ep o (fun e => hne (e ▸ hid)) ho
    obtain ⟨l, hl⟩ : ∃ l, b - a = l := ⟨_, rfl⟩
    obtain ⟨q, hq⟩ : ∃ q, l / 4 = q := ⟨_, rfl⟩
    have w1 : IntKind.i64.wrap ((b : Int) - (a : Int)) = (l : Int) := by rw [wrap64 (by omega) (by omega)]; omega
    have w2 : abin .quo (.int .i64 (l : Int)) (.int .i64 4) = some (.int .i64 (q : Int)) := by
      rw [abin_quo _ _ _ (by decide)]
      have : (l : Int).tdiv 4 = (q : Int) := by rw [Int.tdiv_eq_ediv_of_nonneg (by omega)]; omega
      rw [this, wrap64 (by omega) (by omega)]
    have w3 : IntKind.i64.wrap ((q : Int) * 1) = (q : Int) := by rw [wrap64 (by omega) (by omega)]; omega
    have w4 : IntKind.i64.wrap ((q : Int) * 2) = ((q * 2 : Nat) : Int) := by rw [wrap64 (by omega) (by omega)]; omega
    have w5 : IntKind.i64.wrap ((q : Int) * 3) = ((q * 3 : Nat) : Int) := by rw [wrap64 (by omega) (by omega)]; omega
    have w6 : IntKind.i64.wrap ((a : Int) + (q : Int)) = ((a + q : Nat) : Int) := by rw [wrap64 (by omega) (by omega)]; omega
    have w7 : IntKind.i64.wrap ((a : Int) + ((q * 2 : Nat) : Int)) = ((a + q * 2 : Nat) : Int) := by rw [wrap64 (by omega) (by omega)]; omega
    have w8 : IntKind.i64.wrap ((a : Int) + ((q * 3 : Nat) : Int)) = ((a + q * 3 : Nat) : Int) := by rw [wrap64 (by omega) (by omega)]; omega
    have b1 : decide ((8 : Int) ≤ (l : Int)) = true := decide_eq_true (by omega)
    have hl0 : H.length ≤ (H ++ [(⟨[.int .i64 0], 0, 0, true, true⟩ : Ob)]).length := by simp
    have fin : ∀ (m : Nat) (t : Int), a ≤ m → m < b → ∃ s : Int, (if (t == 0) = true then (1 : Int) else if (t == 12) = true then 2 else 0) = s := fun m t _ _ => ⟨_, rfl⟩
    by_cases c1 : 50 ≤ l
    · have b2 : decide ((50 : Int) ≤ (l : Int)) = true := decide_eq_true (by omega)
      obtain ⟨r1, h1, x1, m1, l1, K1, C1, ⟨t1, rfl⟩, i1, rfl, q1, q1'⟩ := meda_m X (n0 := H.length) (i := a + q) A0 C0 (Nat.le_refl _) hne hl0 (by omega) (by omega) hn
      have A1 := mono A0 K1
      obtain ⟨r2, h2, x2, m2, l2, K2, C2, ⟨t2, rfl⟩, i2, rfl, q2, q2'⟩ := meda_m X (n0 := H.length) (i := a + q * 2) A1 C1 (Nat.le_refl _) hne l1 (by omega) (by omega) hn
      have A2 := mono A1 K2
      obtain ⟨r3, h3, x3, m3, l3, K3, C3, ⟨t3, rfl⟩, i3, rfl, q3, q3'⟩ := meda_m X (n0 := H.length) (i := a + q * 3) A2 C2 (Nat.le_refl _) hne l2 (by omega) (by omega) hn
      have A3 := mono A2 K3
      obtain ⟨r4, h4, x4, m4, l4, K4, C4, ⟨t4, rfl⟩, i4, rfl, q4⟩ := med_m X (n0 := H.length) (i := i1) (j := i2) (k := i3) A3 C3 (Nat.le_refl _) hne l3 (by omega) (by omega) (by omega)
      have r4 : rdObj h4 H.length 0 = _ := C4
      have hb4 : a ≤ i4 ∧ i4 < b := by omega
      by_cases z0 : t4 = 0
      · have b3 : (t4 == 0) = true := by rw [beq_iff_eq]; exact z0
        simp (config := {maxSteps := 4000000}) only [c151, w1, w2, w3, w4, w5, w6, w7, w8, b1, b2, rg_callm, mcallV_fn, m1, m2, m3, m4, r4, b3, SS, bne_self_eq_false, wr_def, obOf, List.all_cons, List.all_nil, List.map_cons, List.map_nil, List.length_cons, List.length_nil, List.take_zero, List.take_succ_cons, List.take_nil, List.drop_zero, List.drop_succ_cons, List.drop_nil, Nat.reduceAdd, Nat.reduceMul, Nat.reduceSub, if_true, Nat.reduceLT, Nat.reduceLeDiff, ite_true, ite_false, Nat.reduceEqDiff, if_false, reduceCtorEq, ne_eq, List.getD, List.getElem?_cons_zero, List.getElem?_cons_succ, Option.getD_some, Option.bind_some, Option.map_some, Option.isSome_some, reduceIte, List.length_append, List.append_assoc, List.cons_append, List.nil_append, Option.some.injEq, forall_const, implies_true, Int.reduceNeg, eq_self, Prod.mk.injEq, List.self_eq_append_right, List.append_nil, exists_eq_left, exists_eq_left', exists_and_left, exists_eq_right, exists_and_right]
        exact ⟨i4, ⟨1, rfl⟩, hb4.1, hb4.2⟩
      have b3 : (t4 == 0) = false := by rw [beq_eq_false_iff_ne]; exact z0
      by_cases z1 : t4 = 12
      · have b4 : (t4 == 12) = true := by rw [beq_iff_eq]; exact z1
        simp (config := {maxSteps := 4000000}) only [c151, w1, w2, w3, w4, w5, w6, w7, w8, b1, b2, rg_callm, mcallV_fn, m1, m2, m3, m4, r4, b3, b4, SS, bne_self_eq_false, wr_def, obOf, List.all_cons, List.all_nil, List.map_cons, List.map_nil, List.length_cons, List.length_nil, List.take_zero, List.take_succ_cons, List.take_nil, List.drop_zero, List.drop_succ_cons, List.drop_nil, Nat.reduceAdd, Nat.reduceMul, Nat.reduceSub, if_true, Nat.reduceLT, Nat.reduceLeDiff, ite_true, ite_false, Nat.reduceEqDiff, if_false, reduceCtorEq, ne_eq, List.getD, List.getElem?_cons_zero, List.getElem?_cons_succ, Option.getD_some, Option.bind_some, Option.map_some, Option.isSome_some, reduceIte, List.length_append, List.append_assoc, List.cons_append, List.nil_append, Option.some.injEq, forall_const, implies_true, Int.reduceNeg, eq_self, Prod.mk.injEq, List.self_eq_append_right, List.append_nil, exists_eq_left, exists_eq_left', exists_and_left, exists_eq_right, exists_and_right]
        exact ⟨i4, ⟨2, rfl⟩, hb4.1, hb4.2⟩
      have b4 : (t4 == 12) = false := by rw [beq_eq_false_iff_ne]; exact z1
      simp (config := {maxSteps := 4000000}) only [c151, w1, w2, w3, w4, w5, w6, w7, w8, b1, b2, rg_callm, mcallV_fn, m1, m2, m3, m4, r4, b3, b4, SS, bne_self_eq_false, wr_def, obOf, List.all_cons, List.all_nil, List.map_cons, List.map_nil, List.length_cons, List.length_nil, List.take_zero, List.take_succ_cons, List.take_nil, List.drop_zero, List.drop_succ_cons, List.drop_nil, Nat.reduceAdd, Nat.reduceMul, Nat.reduceSub, if_true, Nat.reduceLT, Nat.reduceLeDiff, ite_true, ite_false, Nat.reduceEqDiff, if_false, reduceCtorEq, ne_eq, List.getD, List.getElem?_cons_zero, List.getElem?_cons_succ, Option.getD_some, Option.bind_some, Option.map_some, Option.isSome_some, reduceIte, List.length_append, List.append_assoc, List.cons_append, List.nil_append, Option.some.injEq, forall_const, implies_true, Int.reduceNeg, eq_self, Prod.mk.injEq, List.self_eq_append_right, List.append_nil, exists_eq_left, exists_eq_left', exists_and_left, exists_eq_right, exists_and_right]
      exact ⟨i4, ⟨0, rfl⟩, hb4.1, hb4.2⟩
    · have b2 : decide ((50 : Int) ≤ (l : Int)) = false := decide_eq_false (by omega)
      obtain ⟨r4, h4, x4, m4, l4, K4, C4, ⟨t4, rfl⟩, i4, rfl, q4⟩ := med_m X (n0 := H.length) (i := a + q) (j := a + q * 2) (k := a + q * 3) A0 C0 (Nat.le_refl _) hne hl0 (by omega) (by omega) (by omega)
      have r4 : rdObj h4 H.length 0 = _ := C4
      have hb4 : a ≤ i4 ∧ i4 < b := by omega
      by_cases z0 : t4 = 0
      · have b3 : (t4 == 0) = true := by rw [beq_iff_eq]; exact z0
        simp (config := {maxSteps := 4000000}) only [c151, w1, w2, w3, w4, w5, w6, w7, w8, b1, b2, rg_callm, mcallV_fn, m4, r4, b3, SS, bne_self_eq_false, wr_def, obOf, List.all_cons, List.all_nil, List.map_cons, List.map_nil, List.length_cons, List.length_nil, List.take_zero, List.take_succ_cons, List.take_nil, List.drop_zero, List.drop_succ_cons, List.drop_nil, Nat.reduceAdd, Nat.reduceMul, Nat.reduceSub, if_true, Nat.reduceLT, Nat.reduceLeDiff, ite_true, ite_false, Nat.reduceEqDiff, if_false, reduceCtorEq, ne_eq, List.getD, List.getElem?_cons_zero, List.getElem?_cons_succ, Option.getD_some, Option.bind_some, Option.map_some, Option.isSome_some, reduceIte, List.length_append, List.append_assoc, List.cons_append, List.nil_append, Option.some.injEq, forall_const, implies_true, Int.reduceNeg, eq_self, Prod.mk.injEq, List.self_eq_append_right, List.append_nil, exists_eq_left, exists_eq_left', exists_and_left, exists_eq_right, exists_and_right]
        exact ⟨i4, ⟨1, rfl⟩, hb4.1, hb4.2⟩
      have b3 : (t4 == 0) = false := by rw [beq_eq_false_iff_ne]; exact z0
      by_cases z1 : t4 = 12
      · have b4 : (t4 == 12) = true := by rw [beq_iff_eq]; exact z1
        simp (config := {maxSteps := 4000000}) only [c151, w1, w2, w3, w4, w5, w6, w7, w8, b1, b2, rg_callm, mcallV_fn, m4, r4, b3, b4, SS, bne_self_eq_false, wr_def, obOf, List.all_cons, List.all_nil, List.map_cons, List.map_nil, List.length_cons, List.length_nil, List.take_zero, List.take_succ_cons, List.take_nil, List.drop_zero, List.drop_succ_cons, List.drop_nil, Nat.reduceAdd, Nat.reduceMul, Nat.reduceSub, if_true, Nat.reduceLT, Nat.reduceLeDiff, ite_true, ite_false, Nat.reduceEqDiff, if_false, reduceCtorEq, ne_eq, List.getD, List.getElem?_cons_zero, List.getElem?_cons_succ, Option.getD_some, Option.bind_some, Option.map_some, Option.isSome_some, reduceIte, List.length_append, List.append_assoc, List.cons_append, List.nil_append, Option.some.injEq, forall_const, implies_true, Int.reduceNeg, eq_self, Prod.mk.injEq, List.self_eq_append_right, List.append_nil, exists_eq_left, exists_eq_left', exists_and_left, exists_eq_right, exists_and_right]
        exact ⟨i4, ⟨2, rfl⟩, hb4.1, hb4.2⟩
      have b4 : (t4 == 12) = false := by rw [beq_eq_false_iff_ne]; exact z1
      simp (config := {maxSteps := 4000000}) only [c151, w1, w2, w3, w4, w5, w6, w7, w8, b1, b2, rg_callm, mcallV_fn, m4, r4, b3, b4, SS, bne_self_eq_false, wr_def, obOf, List.all_cons, List.all_nil, List.map_cons, List.map_nil, List.length_cons, List.length_nil, List.take_zero, List.take_succ_cons, List.take_nil, List.drop_zero, List.drop_succ_cons, List.drop_nil, Nat.reduceAdd, Nat.reduceMul, Nat.reduceSub, if_true, Nat.reduceLT, Nat.reduceLeDiff, ite_true, ite_false, Nat.reduceEqDiff, if_false, reduceCtorEq, ne_eq, List.getD, List.getElem?_cons_zero, List.getElem?_cons_succ, Option.getD_some, Option.bind_some, Option.map_some, Option.isSome_some, reduceIte, List.length_append, List.append_assoc, List.cons_append, List.nil_append, Option.some.injEq, forall_const, implies_true, Int.reduceNeg, eq_self, Prod.mk.injEq, List.self_eq_append_right, List.append_nil, exists_eq_left, exists_eq_left', exists_and_left, exists_eq_right, exists_and_right]
      exact ⟨i4, ⟨0, rfl⟩, hb4.1, hb4.2⟩
  obtain ⟨r, ⟨p, t, rfl, h1, h2⟩, hc⟩ := key
  exact ⟨p, t, h1, h2, pcall_some.2 hc⟩

theorem brk_m {n0 n a b : Nat} {H : List Ob} {v : AV} {f : Nat → α} (A : Fs n0 H v c 1 n f) (h0 : n0 ≤ H.length) (hb : b ≤ n) (hn : n ≤ 1125899906842624) (ha : a + 12 < b) :
    ∃ r h2 g, mcall E n0 150 [v, .int .i64 (a : Int), .int .i64 (b : Int)] H = some (r, h2) ∧ n0 ≤ h2.length ∧ Fs n0 h2 v c 1 n g ∧ Kp v H h2 ∧ r = .tup [] ∧ Per a b f g := by
  obtain ⟨L, O, he, hcmp⟩ := X
  refine row_call (P := fun r g => r = .tup [] ∧ Per a b f g) e150 rfl (Nat.le_of_ble_eq_true rfl) h0 A ?_
  obtain ⟨l, hl⟩ : ∃ l, b - a = l := ⟨_, rfl⟩
  obtain ⟨q, hq⟩ : ∃ q, l / 4 = q := ⟨_, rfl⟩
  have w1 : IntKind.i64.wrap ((b : Int) - (a : Int)) = (l : Int) := by rw [wrap64 (by omega) (by omega)]; omega
  have w2 : abin .quo (.int .i64 (l : Int)) (.int .i64 4) = some (.int .i64 (q : Int)) := by
    rw [abin_quo _ _ _ (by decide)]
    have : (l : Int).tdiv 4 = (q : Int) := by rw [Int.tdiv_eq_ediv_of_nonneg (by omega)]; omega
    rw [this, wrap64 (by omega) (by omega)]
  have w4 : IntKind.i64.wrap ((q : Int) * 2) = ((q * 2 : Nat) : Int) := by rw [wrap64 (by omega) (by omega)]; omega
  have w7 : IntKind.i64.wrap ((a : Int) + ((q * 2 : Nat) : Int)) = ((a + q * 2 : Nat) : Int) := by rw [wrap64 (by omega) (by omega)]; omega
  have w8 : IntKind.i64.wrap (((a + q * 2 : Nat) : Int) - 1) = ((a + q * 2 - 1 : Nat) : Int) := by rw [wrap64 (by omega) (by omega)]; omega
  have w9 : IntKind.i64.wrap (((a + q * 2 : Nat) : Int) + 1) = ((a + q * 2 + 1 : Nat) : Int) := by rw [wrap64 (by omega) (by omega)]; omega
  have wu : IntKind.u64.wrap (l : Int) = (l : Int) := wu64 (by omega) (by omega)
  have b1 : decide ((8 : Int) ≤ (l : Int)) = true := decide_eq_true (by omega)
  have hnp := npow_pc (l := l) (by omega)
  obtain ⟨p1, p2, p3⟩ := len2_spec (x := l) (by omega)
  have p4 : 2 ^ len2 l = 2 * 2 ^ (len2 l - 1) := by
    obtain ⟨z, hz⟩ : ∃ z, len2 l = z + 1 := ⟨len2 l - 1, by omega⟩
    rw [hz, Nat.add_sub_cancel, Nat.pow_succ, Nat.mul_comm]
  generalize 2 ^ len2 l = M at *
  generalize 2 ^ (len2 l - 1) = M' at *
  have wm : IntKind.u64.wrap ((M : Int) - 1) = ((M - 1 : Nat) : Int) := by rw [wu64 (by omega) (by omega)]; omega
  have hne : ¬ idOf v H.length := fun h => by have := A.lt h; omega
  simp (config := {maxSteps := 4000000}) only [c150, w1, w2, w4, w7, w8, wu, b1, hnp, SS, bne_self_eq_false, wr_def, obOf, List.all_cons, List.all_nil, List.map_cons, List.map_nil, List.length_cons, List.length_nil, List.take_zero, List.take_succ_cons, List.take_nil, List.drop_zero, List.drop_succ_cons, List.drop_nil, Nat.reduceAdd, Nat.reduceMul, Nat.reduceSub, if_true, Nat.reduceLT, Nat.reduceLeDiff, ite_true, ite_false, Nat.reduceEqDiff, if_false, reduceCtorEq, ne_eq, List.getD, List.getElem?_cons_zero, List.getElem?_cons_succ, Option.getD_some, Option.bind_some, Option.map_some, Option.isSome_some, reduceIte, List.length_append, List.append_assoc, List.cons_append, List.nil_append, Option.some.injEq, forall_const, implies_true, Int.reduceNeg, eq_self, Prod.mk.injEq, List.self_eq_append_right, List.append_nil, exists_eq_left, exists_eq_left', exists_and_left, exists_eq_right, exists_and_right]
  refine ⟨h0, by omega, ?_⟩
  refine W_loop (fun k f1 h1 => ∃ d : Nat, k = 3 - d ∧ d ≤ 3 ∧ f1 0 = v ∧ f1 1 = .int .i64 (a : Int) ∧ f1 6 = .int .i64 (l : Int) ∧ f1 7 = .ptr H.length 0 0 ∧ f1 8 = .int .u64 (M : Int) ∧ f1 9 = .int .i64 ((a + q * 2 - 1 + d : Nat) : Int) ∧ ∃ g, Fs n0 h1 v c 1 n g ∧ Kp v H h1 ∧ Per a b f g ∧ ∃ x, Bx h1 H.length (.int .u64 x)) (by simp; omega) _ ⟨0, rfl, by omega, rfl, rfl, rfl, rfl, rfl, rfl, f, A.keep _, Kp.app _, .rfl, (l : Int), by unfold Bx; simp [rdObj]⟩ ?_
  rintro k f1 h1 hn1 ht ⟨d, rfl, hd, e0, e1, e6, e7, e8, e9, g, B, K, P, x, C⟩
  by_cases hd3 : d < 3
  rotate_left
  · have b2 : decide (((a + q * 2 - 1 + d : Nat) : Int) ≤ ((a + q * 2 + 1 : Nat) : Int)) = false := decide_eq_false (by omega)
    simp (config := {maxSteps := 4000000}) only [e0, e1, e6, e7, e8, e9, w2, w4, w7, w9, b2, SS, bne_self_eq_false, wr_def, obOf, List.all_cons, List.all_nil, List.map_cons, List.map_nil, List.length_cons, List.length_nil, List.take_zero, List.take_succ_cons, List.take_nil, List.drop_zero, List.drop_succ_cons, List.drop_nil, Nat.reduceAdd, Nat.reduceMul, Nat.reduceSub, if_true, Nat.reduceLT, Nat.reduceLeDiff, ite_true, ite_false, Nat.reduceEqDiff, if_false, reduceCtorEq, ne_eq, List.getD, List.getElem?_cons_zero, List.getElem?_cons_succ, Option.getD_some, Option.bind_some, Option.map_some, Option.isSome_some, reduceIte, List.length_append, List.append_assoc, List.cons_append, List.nil_append, Option.some.injEq, forall_const, implies_true, Int.reduceNeg, eq_self, Prod.mk.injEq, List.self_eq_append_right, List.append_nil, exists_eq_left, exists_eq_left', exists_and_left, exists_eq_right, exists_and_right]
    exact ⟨rfl, g, B, K, rfl, P⟩
  have b2 : decide (((a + q * 2 - 1 + d : Nat) : Int) ≤ ((a + q * 2 + 1 : Nat) : Int)) = true := decide_eq_true (by omega)
  have wd : IntKind.i64.wrap (((a + q * 2 - 1 + d : Nat) : Int) + 1) = ((a + q * 2 - 1 + (d + 1) : Nat) : Int) := by rw [wrap64 (by omega) (by omega)]; omega
  obtain ⟨r, h2, z, hm, l2, K2, C2, y, rfl, rfl⟩ := next_m (n0 := n0) C h0 hn1
  have B2 : Fs n0 h2 v c 1 n g := B.mono fun id' ep o hid ho => K2.2 id' ep o (fun e => hne (e ▸ hid)) ho
  have K2' : Kp v H h2 := ⟨Nat.le_trans K.1 K2.1, fun id ep o hid ho => K2.2 id ep o (fun e => by have := rd_lt ho; omega) (K.2 id ep o hid ho)⟩
  obtain ⟨o, hand, ho⟩ := and_le y (m := M - 1) (by unfold M64; omega)
  have wo : IntKind.i64.wrap (o : Int) = (o : Int) := wrap64 (by omega) (by omega)
  generalize hidx : a + q * 2 - 1 + d = idx at *
  have oi := B2.ok (kk := .i64) (i := idx) (by omega)
  have di := Fs.ldI L he B2 (kk := .i64) (i := idx) (by omega)
  by_cases c2 : l ≤ o
  · have b3 : decide ((l : Int) ≤ (o : Int)) = true := decide_eq_true (by omega)
    have ws : IntKind.i64.wrap ((o : Int) - (l : Int)) = ((o - l : Nat) : Int) := by rw [wrap64 (by omega) (by omega)]; omega
    have wx : IntKind.i64.wrap ((a : Int) + ((o - l : Nat) : Int)) = ((a + (o - l) : Nat) : Int) := by rw [wrap64 (by omega) (by omega)]; omega
    have oj := B2.ok (kk := .i64) (i := a + (o - l)) (by omega)
    have dj := Fs.ldI L he B2 (kk := .i64) (i := a + (o - l)) (by omega)
    obtain ⟨s1, s2, B', K', hlen⟩ := B2.sw L (kk := .i64) (i := idx) (j := a + (o - l)) (by omega) (by omega)
    simp (config := {maxSteps := 4000000}) only [e0, e1, e6, e7, e8, e9, w2, w4, w7, w9, b2, rg_callm, mcallV_fn, hm, wm, hand, wo, b3, ws, wx, oi, oj, isPtr_idx oi, isPtr_idx oj, di, dj, s1, s2, wd, SS, bne_self_eq_false, wr_def, obOf, List.all_cons, List.all_nil, List.map_cons, List.map_nil, List.length_cons, List.length_nil, List.take_zero, List.take_succ_cons, List.take_nil, List.drop_zero, List.drop_succ_cons, List.drop_nil, Nat.reduceAdd, Nat.reduceMul, Nat.reduceSub, if_true, Nat.reduceLT, Nat.reduceLeDiff, ite_true, ite_false, Nat.reduceEqDiff, if_false, reduceCtorEq, ne_eq, List.getD, List.getElem?_cons_zero, List.getElem?_cons_succ, Option.getD_some, Option.bind_some, Option.map_some, Option.isSome_some, reduceIte, List.length_append, List.append_assoc, List.cons_append, List.nil_append, Option.some.injEq, forall_const, implies_true, Int.reduceNeg, eq_self, Prod.mk.injEq, List.self_eq_append_right, List.append_nil, exists_eq_left, exists_eq_left', exists_and_left, exists_eq_right, exists_and_right]
    exact ⟨_, by omega, d + 1, rfl, by omega, rfl, _, B', K2'.trans K', P.sw (by omega) (by omega) (by omega) (by omega), y, K'.2 _ _ _ hne C2⟩
  · have b3 : decide ((l : Int) ≤ (o : Int)) = false := decide_eq_false (by omega)
    have wx : IntKind.i64.wrap ((a : Int) + (o : Int)) = ((a + o : Nat) : Int) := by rw [wrap64 (by omega) (by omega)]; omega
    have oj := B2.ok (kk := .i64) (i := a + o) (by omega)
    have dj := Fs.ldI L he B2 (kk := .i64) (i := a + o) (by omega)
    obtain ⟨s1, s2, B', K', hlen⟩ := B2.sw L (kk := .i64) (i := idx) (j := a + o) (by omega) (by omega)
    simp (config := {maxSteps := 4000000}) only [e0, e1, e6, e7, e8, e9, w2, w4, w7, w9, b2, rg_callm, mcallV_fn, hm, wm, hand, wo, b3, wx, oi, oj, isPtr_idx oi, isPtr_idx oj, di, dj, s1, s2, wd, SS, bne_self_eq_false, wr_def, obOf, List.all_cons, List.all_nil, List.map_cons, List.map_nil, List.length_cons, List.length_nil, List.take_zero, List.take_succ_cons, List.take_nil, List.drop_zero, List.drop_succ_cons, List.drop_nil, Nat.reduceAdd, Nat.reduceMul, Nat.reduceSub, if_true, Nat.reduceLT, Nat.reduceLeDiff, ite_true, ite_false, Nat.reduceEqDiff, if_false, reduceCtorEq, ne_eq, List.getD, List.getElem?_cons_zero, List.getElem?_cons_succ, Option.getD_some, Option.bind_some, Option.map_some, Option.isSome_some, reduceIte, List.length_append, List.append_assoc, List.cons_append, List.nil_append, Option.some.injEq, forall_const, implies_true, Int.reduceNeg, eq_self, Prod.mk.injEq, List.self_eq_append_right, List.append_nil, exists_eq_left, exists_eq_left', exists_and_left, exists_eq_right, exists_and_right]
    exact ⟨_, by omega, d + 1, rfl, by omega, rfl, _, B', K2'.trans K', P.sw (by omega) (by omega) (by omega) (by omega), y, K'.2 _ _ _ hne C2⟩
end
end Go.Proofs.Ytaekgifbehoipaa.So.KI
/- Sorting as the library does it (kind I): the whole. Conditions stand in each lemma. -/
namespace Go.Proofs.Ytaekgifbehoipaa.So.KI
open Go Go.Proofs.Ytaekgifbehoipaa.Eva Go.Proofs.Ytaekgifbehoipaa.CodeAll Go.Proofs.Ytaekgifbehoipaa.So Go.Proofs.Ytaekgifbehoipaa.Fl
set_option linter.unusedVariables false
set_option linter.unusedSimpArgs false
set_option maxRecDepth 10000
set_option maxHeartbeats 4000000

section
variable {α : Type} {c : α → List AV} {e : α → AV} {lt : α → α → Bool} (X : Ctx c e lt)
include X

theorem pdq_m {n0 n : Nat} {v : AV} (hn : n ≤ 1125899906842624) : ∀ (m a b : Nat) (H : List Ob) (f : Nat → α) (lim : Int), b - a ≤ m → a ≤ b → b ≤ n → Fs n0 H v c 1 n f → n0 ≤ H.length → Low lt a b f →
    ∃ r h2 g, mcall E n0 123 [v, .int .i64 (a : Int), .int .i64 (b : Int), .int .i64 lim] H = some (r, h2) ∧ n0 ≤ h2.length ∧ Fs n0 h2 v c 1 n g ∧ Kp v H h2 ∧ r = .tup [] ∧ Per a b f g ∧ Srt lt a b g := by
  intro m
  induction m using Nat.strongRecOn with
  | _ m ih =>
  intro a b H f lim hm hab hb A h0 hlow
  have XX := X
  obtain ⟨L, O, he, hcmp⟩ := X
  refine row_call (P := fun r g => r = .tup [] ∧ Per a b f g ∧ Srt lt a b g) e123 rfl (Nat.le_of_ble_eq_true rfl) h0 A ?_
  simp (config := {maxSteps := 4000000}) only [c123, SS, bne_self_eq_false, wr_def, obOf, List.all_cons, List.all_nil, List.map_cons, List.map_nil, List.length_cons, List.length_nil, List.take_zero, List.take_succ_cons, List.take_nil, List.drop_zero, List.drop_succ_cons, List.drop_nil, Nat.reduceAdd, Nat.reduceMul, Nat.reduceSub, if_true, Nat.reduceLT, Nat.reduceLeDiff, ite_true, ite_false, Nat.reduceEqDiff, if_false, reduceCtorEq, ne_eq, List.getD, List.getElem?_cons_zero, List.getElem?_cons_succ, Option.getD_some, Option.bind_some, Option.map_some, Option.isSome_some, reduceIte, List.length_append, List.append_assoc, List.cons_append, List.nil_append, Option.some.injEq, forall_const, implies_true, Int.reduceNeg, eq_self, Prod.mk.injEq, List.self_eq_append_right, List.append_nil, exists_eq_left, exists_eq_left', exists_and_left, exists_eq_right, exists_and_right]
  refine W_loopW (fun k f1 h1 => ∃ a' b' : Nat, k = b' - a' ∧ a ≤ a' ∧ a' ≤ b' ∧ b' ≤ b ∧ f1 0 = v ∧ f1 1 = .int .i64 (a' : Int) ∧ f1 2 = .int .i64 (b' : Int) ∧ (∃ lm, f1 3 = .int .i64 lm) ∧ (∃ t, f1 8 = .bool t) ∧ (∃ t, f1 9 = .bool t) ∧ ∃ g, Pd lt c 1 n n0 v H h1 f a b a' b' g) h0 _ ⟨a, b, rfl, Nat.le_refl _, hab, Nat.le_refl _, rfl, rfl, rfl, ⟨lim, rfl⟩, ⟨true, rfl⟩, ⟨true, rfl⟩, f, A, Kp.refl, .rfl, hlow, fun g' _ h => h⟩ ?_
  rintro k f1 h1 hn1 ht ⟨a', b', rfl, ha', hab', hb', e0, e1, e2, ⟨lm, e3⟩, ⟨t8, e8⟩, ⟨t9, e9⟩, g, S⟩
  have wl : IntKind.i64.wrap ((b' : Int) - (a' : Int)) = ((b' - a' : Nat) : Int) := by rw [wrap64 (by omega) (by omega)]; omega
  by_cases c1 : b' - a' ≤ 12
  · have b1 : decide (((b' - a' : Nat) : Int) ≤ 12) = true := decide_eq_true (by omega)
    obtain ⟨r, h2, g2, m2, l2, B2, K2, rfl, P2, S2⟩ := ins_m XX (a := a') (b := b') S.B hn1 (by omega) hn (by omega)
    refine wc_sound _ _ _ _ hn1 ?_
    simp (config := {maxSteps := 8000000}) only [e0, e1, e2, e3, e8, e9, wl, b1, rg_callm, mcallV_fn, m2, SS, bne_self_eq_false, wr_def, obOf, List.all_cons, List.all_nil, List.map_cons, List.map_nil, List.length_cons, List.length_nil, List.take_zero, List.take_succ_cons, List.take_nil, List.drop_zero, List.drop_succ_cons, List.drop_nil, Nat.reduceAdd, Nat.reduceMul, Nat.reduceSub, if_true, Nat.reduceLT, Nat.reduceLeDiff, ite_true, ite_false, Nat.reduceEqDiff, if_false, reduceCtorEq, ne_eq, List.getD, List.getElem?_cons_zero, List.getElem?_cons_succ, Option.getD_some, Option.bind_some, Option.map_some, Option.isSome_some, reduceIte, List.length_append, List.append_assoc, List.cons_append, List.nil_append, Option.some.injEq, forall_const, implies_true, Int.reduceNeg, eq_self, Prod.mk.injEq, List.self_eq_append_right, List.append_nil, exists_eq_left, exists_eq_left', exists_and_left, exists_eq_right, exists_and_right]
    exact ⟨rfl, g2, B2, S.K.trans K2, rfl, S.P.trans (P2.mono ha' hb'), S.J _ P2 S2⟩
  have b1 : decide (((b' - a' : Nat) : Int) ≤ 12) = false := decide_eq_false (by omega)
  by_cases c2 : lm = 0
  · have b2 : (lm == 0) = true := by rw [beq_iff_eq]; exact c2
    obtain ⟨r, h2, g2, m2, l2, B2, K2, rfl, P2, S2⟩ := heap_m XX (a := a') (b := b') S.B hn1 (by omega) hn (by omega)
    refine wc_sound _ _ _ _ hn1 ?_
    simp (config := {maxSteps := 8000000}) only [e0, e1, e2, e3, e8, e9, wl, b1, b2, rg_callm, mcallV_fn, m2, SS, bne_self_eq_false, wr_def, obOf, List.all_cons, List.all_nil, List.map_cons, List.map_nil, List.length_cons, List.length_nil, List.take_zero, List.take_succ_cons, List.take_nil, List.drop_zero, List.drop_succ_cons, List.drop_nil, Nat.reduceAdd, Nat.reduceMul, Nat.reduceSub, if_true, Nat.reduceLT, Nat.reduceLeDiff, ite_true, ite_false, Nat.reduceEqDiff, if_false, reduceCtorEq, ne_eq, List.getD, List.getElem?_cons_zero, List.getElem?_cons_succ, Option.getD_some, Option.bind_some, Option.map_some, Option.isSome_some, reduceIte, List.length_append, List.append_assoc, List.cons_append, List.nil_append, Option.some.injEq, forall_const, implies_true, Int.reduceNeg, eq_self, Prod.mk.injEq, List.self_eq_append_right, List.append_nil, exists_eq_left, exists_eq_left', exists_and_left, exists_eq_right, exists_and_right]
    exact ⟨rfl, g2, B2, S.K.trans K2, rfl, S.P.trans (P2.mono ha' hb'), S.J _ P2 S2⟩
  have b2 : (lm == 0) = false := by rw [beq_eq_false_iff_ne]; exact c2
  refine W_blkI (W_seqI (W.mono (Q := fun ex f2 h2 => ex = .nrm ∧ h2 = h1 ∧ f2 3 = .int .i64 lm ∧ f2 0 = v ∧ f2 1 = .int .i64 (a' : Int) ∧ f2 2 = .int .i64 (b' : Int) ∧ (∃ lm, f2 3 = .int .i64 lm) ∧ (∃ t, f2 8 = .bool t) ∧ (∃ t, f2 9 = .bool t) ∧ f2 10 = .int .i64 ((b' - a' : Nat) : Int)) (wc_sound _ _ _ _ hn1 ?_) ?_))
  · simp (config := {maxSteps := 8000000}) only [e0, e1, e2, e3, e8, e9, wl, SS, bne_self_eq_false, wr_def, obOf, List.all_cons, List.all_nil, List.map_cons, List.map_nil, List.length_cons, List.length_nil, List.take_zero, List.take_succ_cons, List.take_nil, List.drop_zero, List.drop_succ_cons, List.drop_nil, Nat.reduceAdd, Nat.reduceMul, Nat.reduceSub, if_true, Nat.reduceLT, Nat.reduceLeDiff, ite_true, ite_false, Nat.reduceEqDiff, if_false, reduceCtorEq, ne_eq, List.getD, List.getElem?_cons_zero, List.getElem?_cons_succ, Option.getD_some, Option.bind_some, Option.map_some, Option.isSome_some, reduceIte, List.length_append, List.append_assoc, List.cons_append, List.nil_append, Option.some.injEq, forall_const, implies_true, Int.reduceNeg, eq_self, Prod.mk.injEq, List.self_eq_append_right, List.append_nil, exists_eq_left, exists_eq_left', exists_and_left, exists_eq_right, exists_and_right]
    exact ⟨⟨lm, rfl⟩, ⟨t8, rfl⟩, t9, rfl⟩
  clear e0 e1 e2 e3 e8 e9
  rintro ex f2 h2 hn2 ht2 ⟨rfl, rfl, e3, e0, e1, e2, -, ⟨t8, e8⟩, ⟨t9, e9⟩, e10⟩
  rw [thenQ_n]
  refine W_seqI (W.mono (Q := fun ex f2 h => ex = .nrm ∧ h = h2 ∧ f2 3 = .int .i64 lm ∧ f2 0 = v ∧ f2 1 = .int .i64 (a' : Int) ∧ f2 2 = .int .i64 (b' : Int) ∧ (∃ lm, f2 3 = .int .i64 lm) ∧ (∃ t, f2 8 = .bool t) ∧ (∃ t, f2 9 = .bool t) ∧ f2 10 = .int .i64 ((b' - a' : Nat) : Int)) (wc_sound _ _ _ _ hn2 ?_) ?_)
  · simp (config := {maxSteps := 8000000}) only [e0, e1, e2, e3, e8, e9, e10, b1, SS, bne_self_eq_false, wr_def, obOf, List.all_cons, List.all_nil, List.map_cons, List.map_nil, List.length_cons, List.length_nil, List.take_zero, List.take_succ_cons, List.take_nil, List.drop_zero, List.drop_succ_cons, List.drop_nil, Nat.reduceAdd, Nat.reduceMul, Nat.reduceSub, if_true, Nat.reduceLT, Nat.reduceLeDiff, ite_true, ite_false, Nat.reduceEqDiff, if_false, reduceCtorEq, ne_eq, List.getD, List.getElem?_cons_zero, List.getElem?_cons_succ, Option.getD_some, Option.bind_some, Option.map_some, Option.isSome_some, reduceIte, List.length_append, List.append_assoc, List.cons_append, List.nil_append, Option.some.injEq, forall_const, implies_true, Int.reduceNeg, eq_self, Prod.mk.injEq, List.self_eq_append_right, List.append_nil, exists_eq_left, exists_eq_left', exists_and_left, exists_eq_right, exists_and_right]
    exact ⟨⟨lm, rfl⟩, ⟨t8, rfl⟩, t9, rfl⟩
  clear e0 e1 e2 e3 e8 e9 e10
  rintro ex f2 h2' hn2' ht2' ⟨rfl, rfl, e3, e0, e1, e2, -, ⟨t8, e8⟩, ⟨t9, e9⟩, e10⟩
  rw [thenQ_n]
  refine W_seqI (W.mono (Q := fun ex f2 h => ex = .nrm ∧ h = h2' ∧ f2 0 = v ∧ f2 1 = .int .i64 (a' : Int) ∧ f2 2 = .int .i64 (b' : Int) ∧ (∃ lm, f2 3 = .int .i64 lm) ∧ (∃ t, f2 8 = .bool t) ∧ (∃ t, f2 9 = .bool t) ∧ f2 10 = .int .i64 ((b' - a' : Nat) : Int)) (wc_sound _ _ _ _ hn2 ?_) ?_)
  · simp (config := {maxSteps := 8000000}) only [e0, e1, e2, e3, e8, e9, e10, b2, SS, bne_self_eq_false, wr_def, obOf, List.all_cons, List.all_nil, List.map_cons, List.map_nil, List.length_cons, List.length_nil, List.take_zero, List.take_succ_cons, List.take_nil, List.drop_zero, List.drop_succ_cons, List.drop_nil, Nat.reduceAdd, Nat.reduceMul, Nat.reduceSub, if_true, Nat.reduceLT, Nat.reduceLeDiff, ite_true, ite_false, Nat.reduceEqDiff, if_false, reduceCtorEq, ne_eq, List.getD, List.getElem?_cons_zero, List.getElem?_cons_succ, Option.getD_some, Option.bind_some, Option.map_some, Option.isSome_some, reduceIte, List.length_append, List.append_assoc, List.cons_append, List.nil_append, Option.some.injEq, forall_const, implies_true, Int.reduceNeg, eq_self, Prod.mk.injEq, List.self_eq_append_right, List.append_nil, exists_eq_left, exists_eq_left', exists_and_left, exists_eq_right, exists_and_right]
    exact ⟨⟨lm, rfl⟩, ⟨t8, rfl⟩, t9, rfl⟩
  clear e0 e1 e2 e3 e8 e9 e10 c2 b2
  clear lm
  rintro ex f2 h2 hn2 ht2 ⟨rfl, rfl, e0, e1, e2, ⟨lm, e3⟩, ⟨t8, e8⟩, ⟨t9, e9⟩, e10⟩
  rw [thenQ_n]
  -- patterns are broken
  refine W_seqI (W.mono (Q := fun ex f2 h => ex = .nrm ∧ f2 0 = v ∧ f2 1 = .int .i64 (a' : Int) ∧ f2 2 = .int .i64 (b' : Int) ∧ (∃ lm, f2 3 = .int .i64 lm) ∧ (∃ t, f2 8 = .bool t) ∧ (∃ t, f2 9 = .bool t) ∧ f2 10 = .int .i64 ((b' - a' : Nat) : Int) ∧ ∃ g, Pd lt c 1 n n0 v H h f a b a' b' g) (wc_sound _ _ _ _ hn2 ?_) ?_)
  · cases t8
    · obtain ⟨r, h3, g2, m2, l2, B2, K2, rfl, P2⟩ := brk_m XX (a := a') (b := b') S.B hn2 (by omega) hn (by omega)
      simp (config := {maxSteps := 8000000}) only [e0, e1, e2, e3, e8, e9, e10, rg_callm, mcallV_fn, m2, SS, bne_self_eq_false, wr_def, obOf, List.all_cons, List.all_nil, List.map_cons, List.map_nil, List.length_cons, List.length_nil, List.take_zero, List.take_succ_cons, List.take_nil, List.drop_zero, List.drop_succ_cons, List.drop_nil, Nat.reduceAdd, Nat.reduceMul, Nat.reduceSub, if_true, Nat.reduceLT, Nat.reduceLeDiff, ite_true, ite_false, Nat.reduceEqDiff, if_false, reduceCtorEq, ne_eq, List.getD, List.getElem?_cons_zero, List.getElem?_cons_succ, Option.getD_some, Option.bind_some, Option.map_some, Option.isSome_some, reduceIte, List.length_append, List.append_assoc, List.cons_append, List.nil_append, Option.some.injEq, forall_const, implies_true, Int.reduceNeg, eq_self, Prod.mk.injEq, List.self_eq_append_right, List.append_nil, exists_eq_left, exists_eq_left', exists_and_left, exists_eq_right, exists_and_right]
      exact ⟨⟨_, rfl⟩, ⟨_, rfl⟩, ⟨t9, rfl⟩, g2, S.step ha' hb' B2 K2 P2⟩
    · simp (config := {maxSteps := 8000000}) only [e0, e1, e2, e3, e8, e9, e10, SS, bne_self_eq_false, wr_def, obOf, List.all_cons, List.all_nil, List.map_cons, List.map_nil, List.length_cons, List.length_nil, List.take_zero, List.take_succ_cons, List.take_nil, List.drop_zero, List.drop_succ_cons, List.drop_nil, Nat.reduceAdd, Nat.reduceMul, Nat.reduceSub, if_true, Nat.reduceLT, Nat.reduceLeDiff, ite_true, ite_false, Nat.reduceEqDiff, if_false, reduceCtorEq, ne_eq, List.getD, List.getElem?_cons_zero, List.getElem?_cons_succ, Option.getD_some, Option.bind_some, Option.map_some, Option.isSome_some, reduceIte, List.length_append, List.append_assoc, List.cons_append, List.nil_append, Option.some.injEq, forall_const, implies_true, Int.reduceNeg, eq_self, Prod.mk.injEq, List.self_eq_append_right, List.append_nil, exists_eq_left, exists_eq_left', exists_and_left, exists_eq_right, exists_and_right]
      exact ⟨⟨_, rfl⟩, ⟨_, rfl⟩, ⟨t9, rfl⟩, g, S⟩
  clear e0 e1 e2 e3 e8 e9 e10 S hn1 hn2 hn2' ht ht2 ht2'
  clear lm t8 t9 g
  rintro ex f2 h2 hn2 ht2 ⟨rfl, e0, e1, e2, ⟨lm, e3⟩, ⟨t8, e8⟩, ⟨t9, e9⟩, e10, g, S⟩
  rw [thenQ_n]
  -- the pivot
  obtain ⟨p, t, hp1, hp2, hpc⟩ := piv_pc XX (a := a') (b := b') S.B hn2 (by omega) hn (by omega)
  refine W_seqI (W.mono (Q := fun ex f3 h => ex = .nrm ∧ h = h2 ∧ f3 0 = v ∧ f3 1 = .int .i64 (a' : Int) ∧ f3 2 = .int .i64 (b' : Int) ∧ (∃ lm, f3 3 = .int .i64 lm) ∧ (∃ t, f3 8 = .bool t) ∧ (∃ t, f3 9 = .bool t) ∧ f3 10 = .int .i64 ((b' - a' : Nat) : Int) ∧ f3 11 = .int .i64 (p : Int) ∧ f3 12 = .int .i64 t) (wc_sound _ _ _ _ hn2 ?_) ?_)
  · simp (config := {maxSteps := 8000000}) only [e0, e1, e2, e3, e8, e9, e10, hpc, hn2, SS, bne_self_eq_false, wr_def, obOf, List.all_cons, List.all_nil, List.map_cons, List.map_nil, List.length_cons, List.length_nil, List.take_zero, List.take_succ_cons, List.take_nil, List.drop_zero, List.drop_succ_cons, List.drop_nil, Nat.reduceAdd, Nat.reduceMul, Nat.reduceSub, if_true, Nat.reduceLT, Nat.reduceLeDiff, ite_true, ite_false, Nat.reduceEqDiff, if_false, reduceCtorEq, ne_eq, List.getD, List.getElem?_cons_zero, List.getElem?_cons_succ, Option.getD_some, Option.bind_some, Option.map_some, Option.isSome_some, reduceIte, List.length_append, List.append_assoc, List.cons_append, List.nil_append, Option.some.injEq, forall_const, implies_true, Int.reduceNeg, eq_self, Prod.mk.injEq, List.self_eq_append_right, List.append_nil, exists_eq_left, exists_eq_left', exists_and_left, exists_eq_right, exists_and_right]
    exact ⟨⟨_, rfl⟩, ⟨_, rfl⟩, _, rfl⟩
  clear e0 e1 e2 e3 e8 e9 e10 hpc
  clear lm t8 t9
  rintro ex f3 h3 hn3 ht3 ⟨rfl, rfl, e0, e1, e2, ⟨lm, e3⟩, ⟨t8, e8⟩, ⟨t9, e9⟩, e10, e11, e12⟩
  rw [thenQ_n]
  -- turned round
  refine W_seqI (W.mono (Q := fun ex f3 h => ex = .nrm ∧ f3 0 = v ∧ f3 1 = .int .i64 (a' : Int) ∧ f3 2 = .int .i64 (b' : Int) ∧ (∃ lm, f3 3 = .int .i64 lm) ∧ (∃ t, f3 8 = .bool t) ∧ (∃ t, f3 9 = .bool t) ∧ f3 10 = .int .i64 ((b' - a' : Nat) : Int) ∧ (∃ p : Nat, a' ≤ p ∧ p < b' ∧ f3 11 = .int .i64 (p : Int)) ∧ (∃ t, f3 12 = .int .i64 t) ∧ ∃ g, Pd lt c 1 n n0 v H h f a b a' b' g) (wc_sound _ _ _ _ hn3 ?_) ?_)
  · by_cases c3 : t = 2
    · have b3 : (t == 2) = true := by rw [beq_iff_eq]; exact c3
      obtain ⟨r, h4, g2, m2, l2, B2, K2, rfl, P2⟩ := rev_m XX (a := a') (b := b') S.B hn3 (by omega) hn (by omega)
      have x1 : IntKind.i64.wrap ((b' : Int) - 1) = ((b' - 1 : Nat) : Int) := by rw [wrap64 (by omega) (by omega)]; omega
      have x2 : IntKind.i64.wrap ((p : Int) - (a' : Int)) = ((p - a' : Nat) : Int) := by rw [wrap64 (by omega) (by omega)]; omega
      have x3 : IntKind.i64.wrap (((b' - 1 : Nat) : Int) - ((p - a' : Nat) : Int)) = ((b' - 1 - (p - a') : Nat) : Int) := by rw [wrap64 (by omega) (by omega)]; omega
      simp (config := {maxSteps := 8000000}) only [e0, e1, e2, e3, e8, e9, e10, e11, e12, b3, x1, x2, x3, rg_callm, mcallV_fn, m2, SS, bne_self_eq_false, wr_def, obOf, List.all_cons, List.all_nil, List.map_cons, List.map_nil, List.length_cons, List.length_nil, List.take_zero, List.take_succ_cons, List.take_nil, List.drop_zero, List.drop_succ_cons, List.drop_nil, Nat.reduceAdd, Nat.reduceMul, Nat.reduceSub, if_true, Nat.reduceLT, Nat.reduceLeDiff, ite_true, ite_false, Nat.reduceEqDiff, if_false, reduceCtorEq, ne_eq, List.getD, List.getElem?_cons_zero, List.getElem?_cons_succ, Option.getD_some, Option.bind_some, Option.map_some, Option.isSome_some, reduceIte, List.length_append, List.append_assoc, List.cons_append, List.nil_append, Option.some.injEq, forall_const, implies_true, Int.reduceNeg, eq_self, Prod.mk.injEq, List.self_eq_append_right, List.append_nil, exists_eq_left, exists_eq_left', exists_and_left, exists_eq_right, exists_and_right]
      exact ⟨⟨_, rfl⟩, ⟨_, rfl⟩, ⟨_, rfl⟩, ⟨b' - 1 - (p - a'), by omega, by omega, rfl⟩, ⟨_, rfl⟩, g2, S.step ha' hb' B2 K2 P2⟩
    · have b3 : (t == 2) = false := by rw [beq_eq_false_iff_ne]; exact c3
      simp (config := {maxSteps := 8000000}) only [e0, e1, e2, e3, e8, e9, e10, e11, e12, b3, SS, bne_self_eq_false, wr_def, obOf, List.all_cons, List.all_nil, List.map_cons, List.map_nil, List.length_cons, List.length_nil, List.take_zero, List.take_succ_cons, List.take_nil, List.drop_zero, List.drop_succ_cons, List.drop_nil, Nat.reduceAdd, Nat.reduceMul, Nat.reduceSub, if_true, Nat.reduceLT, Nat.reduceLeDiff, ite_true, ite_false, Nat.reduceEqDiff, if_false, reduceCtorEq, ne_eq, List.getD, List.getElem?_cons_zero, List.getElem?_cons_succ, Option.getD_some, Option.bind_some, Option.map_some, Option.isSome_some, reduceIte, List.length_append, List.append_assoc, List.cons_append, List.nil_append, Option.some.injEq, forall_const, implies_true, Int.reduceNeg, eq_self, Prod.mk.injEq, List.self_eq_append_right, List.append_nil, exists_eq_left, exists_eq_left', exists_and_left, exists_eq_right, exists_and_right]
      exact ⟨⟨_, rfl⟩, ⟨_, rfl⟩, ⟨_, rfl⟩, ⟨p, hp1, hp2, rfl⟩, ⟨_, rfl⟩, g, S⟩
  clear e0 e1 e2 e3 e8 e9 e10 e11 e12 S hp1 hp2 hn2 ht2 ht3 hn3
  clear lm t8 t9 t p g
  rintro ex f3 h3 hn3 ht3 ⟨rfl, e0, e1, e2, ⟨lm, e3⟩, ⟨t8, e8⟩, ⟨t9, e9⟩, e10, ⟨p, hp1, hp2, e11⟩, ⟨t, e12⟩, g, S⟩
  rw [thenQ_n]
  -- nearly sorted
  refine W_seqI (W.mono (Q := fun ex f3 h => (ex = .rt ∧ ∃ g, Fs n0 h v c 1 n g ∧ Kp v H h ∧ Per a b f g ∧ Srt lt a b g) ∨ (ex = .nrm ∧ f3 0 = v ∧ f3 1 = .int .i64 (a' : Int) ∧ f3 2 = .int .i64 (b' : Int) ∧ (∃ lm, f3 3 = .int .i64 lm) ∧ (∃ t, f3 8 = .bool t) ∧ (∃ t, f3 9 = .bool t) ∧ f3 10 = .int .i64 ((b' - a' : Nat) : Int) ∧ f3 11 = .int .i64 (p : Int) ∧ ∃ g, Pd lt c 1 n n0 v H h f a b a' b' g)) (wc_sound _ _ _ _ hn3 ?_) ?_)
  · cases t8
    · simp (config := {maxSteps := 8000000}) only [e0, e1, e2, e3, e8, e9, e10, e11, e12, SS, bne_self_eq_false, wr_def, obOf, List.all_cons, List.all_nil, List.map_cons, List.map_nil, List.length_cons, List.length_nil, List.take_zero, List.take_succ_cons, List.take_nil, List.drop_zero, List.drop_succ_cons, List.drop_nil, Nat.reduceAdd, Nat.reduceMul, Nat.reduceSub, if_true, Nat.reduceLT, Nat.reduceLeDiff, ite_true, ite_false, Nat.reduceEqDiff, if_false, reduceCtorEq, ne_eq, List.getD, List.getElem?_cons_zero, List.getElem?_cons_succ, Option.getD_some, Option.bind_some, Option.map_some, Option.isSome_some, reduceIte, List.length_append, List.append_assoc, List.cons_append, List.nil_append, Option.some.injEq, forall_const, implies_true, Int.reduceNeg, eq_self, Prod.mk.injEq, List.self_eq_append_right, List.append_nil, exists_eq_left, exists_eq_left', exists_and_left, exists_eq_right, exists_and_right]
      exact Or.inr ⟨⟨_, rfl⟩, ⟨_, rfl⟩, ⟨_, rfl⟩, g, S⟩
    · cases t9
      · simp (config := {maxSteps := 8000000}) only [e0, e1, e2, e3, e8, e9, e10, e11, e12, SS, bne_self_eq_false, wr_def, obOf, List.all_cons, List.all_nil, List.map_cons, List.map_nil, List.length_cons, List.length_nil, List.take_zero, List.take_succ_cons, List.take_nil, List.drop_zero, List.drop_succ_cons, List.drop_nil, Nat.reduceAdd, Nat.reduceMul, Nat.reduceSub, if_true, Nat.reduceLT, Nat.reduceLeDiff, ite_true, ite_false, Nat.reduceEqDiff, if_false, reduceCtorEq, ne_eq, List.getD, List.getElem?_cons_zero, List.getElem?_cons_succ, Option.getD_some, Option.bind_some, Option.map_some, Option.isSome_some, reduceIte, List.length_append, List.append_assoc, List.cons_append, List.nil_append, Option.some.injEq, forall_const, implies_true, Int.reduceNeg, eq_self, Prod.mk.injEq, List.self_eq_append_right, List.append_nil, exists_eq_left, exists_eq_left', exists_and_left, exists_eq_right, exists_and_right]
        exact Or.inr ⟨⟨_, rfl⟩, ⟨_, rfl⟩, ⟨_, rfl⟩, g, S⟩
      · by_cases c3 : t = 1
        · have b3 : (t == 1) = true := by rw [beq_iff_eq]; exact c3
          obtain ⟨r, h4, g2, m2, l2, B2, K2, s, rfl, P2, S2⟩ := pins_m XX (a := a') (b := b') S.B hn3 (by omega) hn (by omega) S.Lw
          cases s
          · simp (config := {maxSteps := 8000000}) only [e0, e1, e2, e3, e8, e9, e10, e11, e12, b3, rg_callm, mcallV_fn, m2, SS, bne_self_eq_false, wr_def, obOf, List.all_cons, List.all_nil, List.map_cons, List.map_nil, List.length_cons, List.length_nil, List.take_zero, List.take_succ_cons, List.take_nil, List.drop_zero, List.drop_succ_cons, List.drop_nil, Nat.reduceAdd, Nat.reduceMul, Nat.reduceSub, if_true, Nat.reduceLT, Nat.reduceLeDiff, ite_true, ite_false, Nat.reduceEqDiff, if_false, reduceCtorEq, ne_eq, List.getD, List.getElem?_cons_zero, List.getElem?_cons_succ, Option.getD_some, Option.bind_some, Option.map_some, Option.isSome_some, reduceIte, List.length_append, List.append_assoc, List.cons_append, List.nil_append, Option.some.injEq, forall_const, implies_true, Int.reduceNeg, eq_self, Prod.mk.injEq, List.self_eq_append_right, List.append_nil, exists_eq_left, exists_eq_left', exists_and_left, exists_eq_right, exists_and_right]
            exact Or.inr ⟨⟨_, rfl⟩, ⟨_, rfl⟩, ⟨_, rfl⟩, g2, S.step ha' hb' B2 K2 P2⟩
          · simp (config := {maxSteps := 8000000}) only [e0, e1, e2, e3, e8, e9, e10, e11, e12, b3, rg_callm, mcallV_fn, m2, SS, bne_self_eq_false, wr_def, obOf, List.all_cons, List.all_nil, List.map_cons, List.map_nil, List.length_cons, List.length_nil, List.take_zero, List.take_succ_cons, List.take_nil, List.drop_zero, List.drop_succ_cons, List.drop_nil, Nat.reduceAdd, Nat.reduceMul, Nat.reduceSub, if_true, Nat.reduceLT, Nat.reduceLeDiff, ite_true, ite_false, Nat.reduceEqDiff, if_false, reduceCtorEq, ne_eq, List.getD, List.getElem?_cons_zero, List.getElem?_cons_succ, Option.getD_some, Option.bind_some, Option.map_some, Option.isSome_some, reduceIte, List.length_append, List.append_assoc, List.cons_append, List.nil_append, Option.some.injEq, forall_const, implies_true, Int.reduceNeg, eq_self, Prod.mk.injEq, List.self_eq_append_right, List.append_nil, exists_eq_left, exists_eq_left', exists_and_left, exists_eq_right, exists_and_right]
            exact Or.inl ⟨g2, B2, S.K.trans K2, S.P.trans (P2.mono ha' hb'), S.J _ P2 (S2 rfl)⟩
        · have b3 : (t == 1) = false := by rw [beq_eq_false_iff_ne]; exact c3
          simp (config := {maxSteps := 8000000}) only [e0, e1, e2, e3, e8, e9, e10, e11, e12, b3, SS, bne_self_eq_false, wr_def, obOf, List.all_cons, List.all_nil, List.map_cons, List.map_nil, List.length_cons, List.length_nil, List.take_zero, List.take_succ_cons, List.take_nil, List.drop_zero, List.drop_succ_cons, List.drop_nil, Nat.reduceAdd, Nat.reduceMul, Nat.reduceSub, if_true, Nat.reduceLT, Nat.reduceLeDiff, ite_true, ite_false, Nat.reduceEqDiff, if_false, reduceCtorEq, ne_eq, List.getD, List.getElem?_cons_zero, List.getElem?_cons_succ, Option.getD_some, Option.bind_some, Option.map_some, Option.isSome_some, reduceIte, List.length_append, List.append_assoc, List.cons_append, List.nil_append, Option.some.injEq, forall_const, implies_true, Int.reduceNeg, eq_self, Prod.mk.injEq, List.self_eq_append_right, List.append_nil, exists_eq_left, exists_eq_left', exists_and_left, exists_eq_right, exists_and_right]
          exact Or.inr ⟨⟨_, rfl⟩, ⟨_, rfl⟩, ⟨_, rfl⟩, g, S⟩
  clear e0 e1 e2 e3 e8 e9 e10 e11 e12 S hn3 ht3 ht2
  clear lm t8 t9 t g
  rintro ex f3 h3 hn3 ht3 (⟨rfl, g2, B2, K2, P2, S2⟩ | ⟨rfl, e0, e1, e2, ⟨lm, e3⟩, ⟨t8, e8⟩, ⟨t9, e9⟩, e10, e11, g, S⟩)
  · simp only [SS, bne_self_eq_false, wr_def, obOf, List.all_cons, List.all_nil, List.map_cons, List.map_nil, List.length_cons, List.length_nil, List.take_zero, List.take_succ_cons, List.take_nil, List.drop_zero, List.drop_succ_cons, List.drop_nil, Nat.reduceAdd, Nat.reduceMul, Nat.reduceSub, if_true, Nat.reduceLT, Nat.reduceLeDiff, ite_true, ite_false, Nat.reduceEqDiff, if_false, reduceCtorEq, ne_eq, List.getD, List.getElem?_cons_zero, List.getElem?_cons_succ, Option.getD_some, Option.bind_some, Option.map_some, Option.isSome_some, reduceIte, List.length_append, List.append_assoc, List.cons_append, List.nil_append, Option.some.injEq, forall_const, implies_true, Int.reduceNeg, eq_self, Prod.mk.injEq, List.self_eq_append_right, List.append_nil, exists_eq_left, exists_eq_left', exists_and_left, exists_eq_right, exists_and_right]
    exact ⟨rfl, g2, B2, K2, rfl, P2, S2⟩
  rw [thenQ_n]
  have op := S.B.ok (kk := .i64) (i := p) (by omega)
  have dp := Fs.ldI L he S.B (kk := .i64) (i := p) (by omega)
  -- what equals the pivot
  refine W_seqI (W.mono (Q := fun ex f3 h => (ex = .ex 1 ∧ ∃ k, k < b' - a' ∧ ∃ a' b' : Nat, k = b' - a' ∧ a ≤ a' ∧ a' ≤ b' ∧ b' ≤ b ∧ f3 0 = v ∧ f3 1 = .int .i64 (a' : Int) ∧ f3 2 = .int .i64 (b' : Int) ∧ (∃ lm, f3 3 = .int .i64 lm) ∧ (∃ t, f3 8 = .bool t) ∧ (∃ t, f3 9 = .bool t) ∧ ∃ g, Pd lt c 1 n n0 v H h f a b a' b' g) ∨ (ex = .nrm ∧ h = h3 ∧ f3 0 = v ∧ f3 1 = .int .i64 (a' : Int) ∧ f3 2 = .int .i64 (b' : Int) ∧ (∃ lm, f3 3 = .int .i64 lm) ∧ (∃ t, f3 8 = .bool t) ∧ (∃ t, f3 9 = .bool t) ∧ f3 10 = .int .i64 ((b' - a' : Nat) : Int) ∧ f3 11 = .int .i64 (p : Int))) (wc_sound _ _ _ _ hn3 ?_) ?_)
  · by_cases c3 : 0 < a'
    · have b3 : decide ((0 : Int) < (a' : Int)) = true := decide_eq_true (by omega)
      have x1 : IntKind.i64.wrap ((a' : Int) - 1) = ((a' - 1 : Nat) : Int) := by rw [wrap64 (by omega) (by omega)]; omega
      have oa := S.B.ok (kk := .i64) (i := a' - 1) (by omega)
      have da := Fs.ldI L he S.B (kk := .i64) (i := a' - 1) (by omega)
      cases hl : lt (g (a' - 1)) (g p)
      · obtain ⟨r, h4, g2, m2, l2, B2, K2, i, rfl, hi1, hi2, P2, Q2, G2⟩ := peq_m XX (a := a') (b := b') (p := p) S.B hn3 (by omega) hn hp1 hp2
        have hmin : ∀ k, a' ≤ k → k < b' → lt (g k) (g p) = false := fun k k1 k2 => O.tr _ _ _ hl (S.Lw c3 k k1 k2)
        have hmin2 : ∀ k, a' ≤ k → k < b' → lt (g2 k) (g2 a') = false := by rw [G2]; exact P2.all (P := fun x => lt x (g p) = false) hmin
        simp (config := {maxSteps := 8000000}) only [e0, e1, e2, e3, e8, e9, e10, e11, b3, x1, oa, isPtr_idx oa, da, op, isPtr_idx op, dp, hcmp, hl, rg_callm, mcallV_fn, m2, hn3, SS, bne_self_eq_false, wr_def, obOf, List.all_cons, List.all_nil, List.map_cons, List.map_nil, List.length_cons, List.length_nil, List.take_zero, List.take_succ_cons, List.take_nil, List.drop_zero, List.drop_succ_cons, List.drop_nil, Nat.reduceAdd, Nat.reduceMul, Nat.reduceSub, if_true, Nat.reduceLT, Nat.reduceLeDiff, ite_true, ite_false, Nat.reduceEqDiff, if_false, reduceCtorEq, ne_eq, List.getD, List.getElem?_cons_zero, List.getElem?_cons_succ, Option.getD_some, Option.bind_some, Option.map_some, Option.isSome_some, reduceIte, List.length_append, List.append_assoc, List.cons_append, List.nil_append, Option.some.injEq, forall_const, implies_true, Int.reduceNeg, eq_self, Prod.mk.injEq, List.self_eq_append_right, List.append_nil, exists_eq_left, exists_eq_left', exists_and_left, exists_eq_right, exists_and_right]
        refine Or.inl ⟨_, by omega, i, b', rfl, by omega, hi2, hb', rfl, rfl, ⟨_, rfl⟩, ⟨_, rfl⟩, ⟨_, rfl⟩, g2, B2, S.K.trans K2, S.P.trans (P2.mono ha' hb'), fun _ k k1 k2 => ?_, fun g' p' s' => ?_⟩
        · refine O.tr _ (g2 a') _ ?_ (O.asym _ _ (Q2.2 k (by omega) k2))
          by_cases h : i - 1 = a'
          · rw [h]; exact O.refl _
          · exact Q2.1 (i - 1) (by omega) (by omega)
        · exact S.J g' (P2.trans (p'.mono (by omega) (Nat.le_refl _))) (eq_join O Q2 hi1 hi2 hmin2 p' s')
      · simp (config := {maxSteps := 8000000}) only [e0, e1, e2, e3, e8, e9, e10, e11, b3, x1, oa, isPtr_idx oa, da, op, isPtr_idx op, dp, hcmp, hl, hn3, SS, bne_self_eq_false, wr_def, obOf, List.all_cons, List.all_nil, List.map_cons, List.map_nil, List.length_cons, List.length_nil, List.take_zero, List.take_succ_cons, List.take_nil, List.drop_zero, List.drop_succ_cons, List.drop_nil, Nat.reduceAdd, Nat.reduceMul, Nat.reduceSub, if_true, Nat.reduceLT, Nat.reduceLeDiff, ite_true, ite_false, Nat.reduceEqDiff, if_false, reduceCtorEq, ne_eq, List.getD, List.getElem?_cons_zero, List.getElem?_cons_succ, Option.getD_some, Option.bind_some, Option.map_some, Option.isSome_some, reduceIte, List.length_append, List.append_assoc, List.cons_append, List.nil_append, Option.some.injEq, forall_const, implies_true, Int.reduceNeg, eq_self, Prod.mk.injEq, List.self_eq_append_right, List.append_nil, exists_eq_left, exists_eq_left', exists_and_left, exists_eq_right, exists_and_right]
        exact Or.inr ⟨⟨_, rfl⟩, ⟨_, rfl⟩, _, rfl⟩
    · have b3 : decide ((0 : Int) < (a' : Int)) = false := decide_eq_false (by omega)
      simp (config := {maxSteps := 8000000}) only [e0, e1, e2, e3, e8, e9, e10, e11, b3, SS, bne_self_eq_false, wr_def, obOf, List.all_cons, List.all_nil, List.map_cons, List.map_nil, List.length_cons, List.length_nil, List.take_zero, List.take_succ_cons, List.take_nil, List.drop_zero, List.drop_succ_cons, List.drop_nil, Nat.reduceAdd, Nat.reduceMul, Nat.reduceSub, if_true, Nat.reduceLT, Nat.reduceLeDiff, ite_true, ite_false, Nat.reduceEqDiff, if_false, reduceCtorEq, ne_eq, List.getD, List.getElem?_cons_zero, List.getElem?_cons_succ, Option.getD_some, Option.bind_some, Option.map_some, Option.isSome_some, reduceIte, List.length_append, List.append_assoc, List.cons_append, List.nil_append, Option.some.injEq, forall_const, implies_true, Int.reduceNeg, eq_self, Prod.mk.injEq, List.self_eq_append_right, List.append_nil, exists_eq_left, exists_eq_left', exists_and_left, exists_eq_right, exists_and_right]
      exact Or.inr ⟨⟨_, rfl⟩, ⟨_, rfl⟩, _, rfl⟩
  clear e0 e1 e2 e3 e8 e9 e10 e11
  clear lm t8 t9
  rintro ex f4 h4 hn4 ht4 (⟨rfl, k, hk, hI⟩ | ⟨rfl, rfl, e0, e1, e2, ⟨lm, e3⟩, ⟨t8, e8⟩, ⟨t9, e9⟩, e10, e11⟩)
  · simp only [SS, bne_self_eq_false, wr_def, obOf, List.all_cons, List.all_nil, List.map_cons, List.map_nil, List.length_cons, List.length_nil, List.take_zero, List.take_succ_cons, List.take_nil, List.drop_zero, List.drop_succ_cons, List.drop_nil, Nat.reduceAdd, Nat.reduceMul, Nat.reduceSub, if_true, Nat.reduceLT, Nat.reduceLeDiff, ite_true, ite_false, Nat.reduceEqDiff, if_false, reduceCtorEq, ne_eq, List.getD, List.getElem?_cons_zero, List.getElem?_cons_succ, Option.getD_some, Option.bind_some, Option.map_some, Option.isSome_some, reduceIte, List.length_append, List.append_assoc, List.cons_append, List.nil_append, Option.some.injEq, forall_const, implies_true, Int.reduceNeg, eq_self, Prod.mk.injEq, List.self_eq_append_right, List.append_nil, exists_eq_left, exists_eq_left', exists_and_left, exists_eq_right, exists_and_right]
    exact ⟨k, hk, hI⟩
  rw [thenQ_n]
  -- divided
  obtain ⟨r, h5, g2, m2, l2, B2, K2, j, s, rfl, hj1, hj2, P2, D2⟩ := part_m XX (a := a') (b := b') (p := p) S.B hn4 (by omega) hn hp1 hp2
  have S2 := S.step ha' hb' B2 K2 P2
  refine wc_sound _ _ _ _ hn4 ?_
  have y1 : IntKind.i64.wrap ((j : Int) - (a' : Int)) = ((j - a' : Nat) : Int) := by rw [wrap64 (by omega) (by omega)]; omega
  have y2 : IntKind.i64.wrap ((b' : Int) - (j : Int)) = ((b' - j : Nat) : Int) := by rw [wrap64 (by omega) (by omega)]; omega
  have y3 : IntKind.i64.wrap ((j : Int) + 1) = ((j + 1 : Nat) : Int) := by rw [wrap64 (by omega) (by omega)]; omega
  have y4 : ∃ z, abin .quo (.int .i64 ((b' - a' : Nat) : Int)) (.int .i64 8) = some (.int .i64 z) := ⟨_, abin_quo _ _ _ (by decide)⟩
  obtain ⟨z, y4⟩ := y4
  by_cases c5 : j - a' < b' - j
  · have b5 : decide (((j - a' : Nat) : Int) < ((b' - j : Nat) : Int)) = true := decide_eq_true (by omega)
    obtain ⟨r, h6, g3, m3, l3, B3, K3, rfl, P3, S3⟩ := ih (j - a') (by omega) a' j h5 g2 lm (Nat.le_refl _) hj1 (by omega) B2 l2 (fun h0 k k1 k2 => S2.Lw h0 k k1 (by omega))
    simp (config := {maxSteps := 8000000}) only [e0, e1, e2, e3, e8, e9, e10, e11, y1, y2, y3, y4, b5, rg_callm, mcallV_fn, m2, m3, SS, bne_self_eq_false, wr_def, obOf, List.all_cons, List.all_nil, List.map_cons, List.map_nil, List.length_cons, List.length_nil, List.take_zero, List.take_succ_cons, List.take_nil, List.drop_zero, List.drop_succ_cons, List.drop_nil, Nat.reduceAdd, Nat.reduceMul, Nat.reduceSub, if_true, Nat.reduceLT, Nat.reduceLeDiff, ite_true, ite_false, Nat.reduceEqDiff, if_false, reduceCtorEq, ne_eq, List.getD, List.getElem?_cons_zero, List.getElem?_cons_succ, Option.getD_some, Option.bind_some, Option.map_some, Option.isSome_some, reduceIte, List.length_append, List.append_assoc, List.cons_append, List.nil_append, Option.some.injEq, forall_const, implies_true, Int.reduceNeg, eq_self, Prod.mk.injEq, List.self_eq_append_right, List.append_nil, exists_eq_left, exists_eq_left', exists_and_left, exists_eq_right, exists_and_right]
    refine ⟨_, by omega, j + 1, b', rfl, by omega, by omega, hb', rfl, rfl, ⟨_, rfl⟩, ⟨_, rfl⟩, ⟨_, rfl⟩, g3, B3, S2.K.trans K3, S2.P.trans (P3.mono ha' (by omega)), fun _ k k1 k2 => ?_, fun g' p' s' => ?_⟩
    · rw [Nat.add_sub_cancel, P3.out (k := j) (by omega), P3.out (k := k) (by omega)]
      exact D2.2 k (by omega) k2
    · exact S2.J g' ((P3.mono (Nat.le_refl _) (by omega)).trans (p'.mono (by omega) (Nat.le_refl _))) (div_join O D2 hj1 hj2 P3 S3 p' s')
  · have b5 : decide (((j - a' : Nat) : Int) < ((b' - j : Nat) : Int)) = false := decide_eq_false (by omega)
    obtain ⟨r, h6, g3, m3, l3, B3, K3, rfl, P3, S3⟩ := ih (b' - (j + 1)) (by omega) (j + 1) b' h5 g2 lm (Nat.le_refl _) (by omega) (by omega) B2 l2 (fun h0 k k1 k2 => by rw [Nat.add_sub_cancel]; exact D2.2 k (by omega) k2)
    simp (config := {maxSteps := 8000000}) only [e0, e1, e2, e3, e8, e9, e10, e11, y1, y2, y3, y4, b5, rg_callm, mcallV_fn, m2, m3, SS, bne_self_eq_false, wr_def, obOf, List.all_cons, List.all_nil, List.map_cons, List.map_nil, List.length_cons, List.length_nil, List.take_zero, List.take_succ_cons, List.take_nil, List.drop_zero, List.drop_succ_cons, List.drop_nil, Nat.reduceAdd, Nat.reduceMul, Nat.reduceSub, if_true, Nat.reduceLT, Nat.reduceLeDiff, ite_true, ite_false, Nat.reduceEqDiff, if_false, reduceCtorEq, ne_eq, List.getD, List.getElem?_cons_zero, List.getElem?_cons_succ, Option.getD_some, Option.bind_some, Option.map_some, Option.isSome_some, reduceIte, List.length_append, List.append_assoc, List.cons_append, List.nil_append, Option.some.injEq, forall_const, implies_true, Int.reduceNeg, eq_self, Prod.mk.injEq, List.self_eq_append_right, List.append_nil, exists_eq_left, exists_eq_left', exists_and_left, exists_eq_right, exists_and_right]
    refine ⟨_, by omega, a', j, rfl, by omega, by omega, by omega, rfl, rfl, ⟨_, rfl⟩, ⟨_, rfl⟩, ⟨_, rfl⟩, g3, B3, S2.K.trans K3, S2.P.trans (P3.mono (by omega) hb'), fun h0 k k1 k2 => ?_, fun g' p' s' => ?_⟩
    · rw [P3.out (k := a' - 1) (by omega), P3.out (k := k) (by omega)]
      exact S2.Lw h0 k k1 (by omega)
    · exact S2.J g' ((P3.mono (by omega) (Nat.le_refl _)).trans (p'.mono (Nat.le_refl _) (by omega))) (div_join' O D2 hj1 hj2 P3 S3 p' s')

theorem sort_m {n0 n : Nat} {H : List Ob} {v : AV} {f : Nat → α} (A : Fs n0 H v c 1 n f) (h0 : n0 ≤ H.length) (hn : n ≤ 1125899906842624) :
    ∃ h2 g, mcall E n0 106 [v] H = some (.tup [], h2) ∧ n0 ≤ h2.length ∧ Fs n0 h2 v c 1 n g ∧ Kp v H h2 ∧ (arr n g).Perm (arr n f) ∧ (arr n g).Pairwise (fun x y => lt y x = false) := by
  have len := A.len
  have wu : IntKind.u64.wrap (n : Int) = (n : Int) := wu64 (by omega) (by omega)
  have hl := fun H => len_pc (show n < M64 by unfold M64; omega) H
  obtain ⟨r, h2, g, m2, l2, B2, K2, rfl, P2, S2⟩ := pdq_m X hn n 0 n H f (len2 n : Int) (by omega) (Nat.zero_le _) (Nat.le_refl _) A h0 (fun h => by omega)
  rw [show ((0 : Nat) : Int) = 0 from rfl] at m2
  obtain ⟨r, h3, g', m3, l3, B3, K3, rfl, q1, q2⟩ := row_call (P := fun r g => r = .tup [] ∧ (arr n g).Perm (arr n f) ∧ (arr n g).Pairwise (fun x y => lt y x = false)) e106 rfl (Nat.le_of_ble_eq_true rfl) h0 A (args := [v]) (by
    simp (config := {maxSteps := 4000000}) only [c106, len, wu, hl, h0, rg_callm, mcallV_fn, m2, SS, bne_self_eq_false, wr_def, obOf, List.all_cons, List.all_nil, List.map_cons, List.map_nil, List.length_cons, List.length_nil, List.take_zero, List.take_succ_cons, List.take_nil, List.drop_zero, List.drop_succ_cons, List.drop_nil, Nat.reduceAdd, Nat.reduceMul, Nat.reduceSub, if_true, Nat.reduceLT, Nat.reduceLeDiff, ite_true, ite_false, Nat.reduceEqDiff, if_false, reduceCtorEq, ne_eq, List.getD, List.getElem?_cons_zero, List.getElem?_cons_succ, Option.getD_some, Option.bind_some, Option.map_some, Option.isSome_some, reduceIte, List.length_append, List.append_assoc, List.cons_append, List.nil_append, Option.some.injEq, forall_const, implies_true, Int.reduceNeg, eq_self, Prod.mk.injEq, List.self_eq_append_right, List.append_nil, exists_eq_left, exists_eq_left', exists_and_left, exists_eq_right, exists_and_right]
    exact ⟨rfl, g, B2, K2, rfl, P2.perm (Nat.le_refl _), S2.pair⟩)
  exact ⟨h3, g', m3, l3, B3, K3, q1, q2⟩
end
end Go.Proofs.Ytaekgifbehoipaa.So.KI
/- Sorting whole numbers. Conditions stand in each lemma. -/
namespace Go.Proofs.Ytaekgifbehoipaa.So
open Go Go.Proofs.Ytaekgifbehoipaa.Eva Go.Proofs.Ytaekgifbehoipaa.CodeAll Go.Proofs.Ytaekgifbehoipaa.Fl
set_option linter.unusedVariables false
set_option linter.unusedSimpArgs false
set_option maxRecDepth 10000
set_option maxHeartbeats 4000000

theorem less_pc (x y : Int) (H : List Ob) : pcall E 68 [.int .i64 x, .int .i64 y] H = some (.bool (decide (x < y))) := by
  refine pcall_some.2 (call_plain e68 rfl (Nat.le_of_ble_eq_true rfl) rfl ?_)
  have h := fun x => nan_pc x H
  simp (config := {maxSteps := 4000000}) only [c68, h, nan_pc, SS, bne_self_eq_false, wr_def, obOf, List.all_cons, List.all_nil, List.map_cons, List.map_nil, List.length_cons, List.length_nil, List.take_zero, List.take_succ_cons, List.take_nil, List.drop_zero, List.drop_succ_cons, List.drop_nil, Nat.reduceAdd, Nat.reduceMul, Nat.reduceSub, if_true, Nat.reduceLT, Nat.reduceLeDiff, ite_true, ite_false, Nat.reduceEqDiff, if_false, reduceCtorEq, ne_eq, List.getD, List.getElem?_cons_zero, List.getElem?_cons_succ, Option.getD_some, Option.bind_some, Option.map_some, Option.isSome_some, reduceIte, List.length_append, List.append_assoc, List.cons_append, List.nil_append, Option.some.injEq, forall_const, implies_true, Int.reduceNeg, eq_self, Prod.mk.injEq, List.self_eq_append_right, List.append_nil, exists_eq_left, exists_eq_left', exists_and_left, exists_eq_right, exists_and_right]
def iV (x : Int) : AV := .int .i64 x
def iLt (x y : Int) : Bool := decide (x < y)
theorem iCtx : KI.Ctx intC iV iLt where
  L := ⟨fun _ => rfl, by decide, fun _ => rfl, fun _ => rfl, fun _ => rfl⟩
  O := ⟨fun x y h => by simp only [iLt, decide_eq_true_eq, decide_eq_false_iff_not] at h ⊢; omega, fun x y z h1 h2 => by simp only [iLt, decide_eq_false_iff_not] at h1 h2 ⊢; omega⟩
  he := fun _ => rfl
  hcmp := fun x y H => less_pc x y H
/-- A slice that is built, as a row. -/
theorem fs_isl {α : Type} {n0 : Nat} {h : List Ob} {v : AV} {c : α → List AV} {sz : Nat} {xs : List α} (d : α) (A : IsL n0 h v sz true (flat c xs) xs.length) : Fs n0 h v c sz xs.length (fun i => (xs[i]?).getD d) := by
  rcases A with ⟨rfl, h1, h2⟩ | ⟨id, ep, rfl, h2, h3, h4⟩
  · exact Or.inl ⟨h2, by rfl, rfl, rfl, fun id => idOf_nil⟩
  · refine Or.inr ⟨id, ep, rfl, ?_, h3⟩
    rw [← arr_list xs d]; exact h2
/-- m is the lower one of the middle ones of xs. -/
def IsMed (xs : List Int) (m : Int) : Prop := ∃ ys : List Int, ys.Perm xs ∧ ys.Pairwise (fun x y => x ≤ y) ∧ ys[(xs.length - 1) / 2]? = some m
end Go.Proofs.Ytaekgifbehoipaa.So
/- What the functions of plots and of their offsets answer. No condition. -/
namespace Go.Proofs.Ytaekgifbehoipaa.Fl
open Go Go.Proofs.Ytaekgifbehoipaa.Eva Go.Proofs.Ytaekgifbehoipaa.CodeAll
set_option linter.unusedVariables false
set_option linter.unusedSimpArgs false
set_option maxRecDepth 10000
set_option maxHeartbeats 4000000

/-- A plot. -/
structure Pt where
  (r t d a h k : Int)
  deriving DecidableEq
def Pt.c (p : Pt) : List AV := [.int .i64 p.r, .int .i64 p.t, .int .i64 p.d, .int .i64 p.a, .int .i64 p.h, .int .i64 p.k]
def Pt.zero : Pt := ⟨0, 0, 0, 0, 0, 0⟩
/-- An offset. -/
structure Bo where
  (r a t : Int)
  deriving DecidableEq
def Bo.c (b : Bo) : List AV := [.int .i64 b.r, .int .i64 b.a, .int .i64 b.t]
def Pt.chk (p : Pt) : Int := if (decide (p.r < 0) || decide (255 < p.r) || decide (p.t < 0) || decide (200000 < p.t) || decide (p.d < 0) || decide (2000000 < p.d) || decide (p.a < 0) || decide (4095 < p.a) || decide (p.h < 0) || decide (60000 < p.h) || decide (p.k < -1) || decide (4095 < p.k)) then 4 else 0
theorem rchk_pc (r t d a h k : Int) (H : List Ob) : pcall E 35 [.agg [.int .i64 r, .int .i64 t, .int .i64 d, .int .i64 a, .int .i64 h, .int .i64 k]] H = some (.int .i64 (Pt.chk ⟨r, t, d, a, h, k⟩)) := by
  refine pcall_some.2 (call_plain e35 rfl (Nat.le_of_ble_eq_true rfl) rfl ?_)
  generalize hv : AV.int .i64 (Pt.chk ⟨r, t, d, a, h, k⟩) = v
  simp (config := {maxSteps := 4000000}) only [c35, SS, bne_self_eq_false, wr_def, obOf, List.all_cons, List.all_nil, List.map_cons, List.map_nil, List.length_cons, List.length_nil, List.take_zero, List.take_succ_cons, List.take_nil, List.drop_zero, List.drop_succ_cons, List.drop_nil, Nat.reduceAdd, Nat.reduceMul, Nat.reduceSub, if_true, Nat.reduceLT, Nat.reduceLeDiff, ite_true, ite_false, Nat.reduceEqDiff, if_false, reduceCtorEq, ne_eq, List.getD, List.getElem?_cons_zero, List.getElem?_cons_succ, Option.getD_some, Option.bind_some, Option.map_some, Option.isSome_some, reduceIte, List.length_append, List.append_assoc, List.cons_append, List.nil_append, Option.some.injEq, forall_const, implies_true, Int.reduceNeg, eq_self, Prod.mk.injEq, List.self_eq_append_right, List.append_nil, exists_eq_left, exists_eq_left', exists_and_left, exists_eq_right, exists_and_right]
  simp only [join_ite]
  subst hv
  unfold Pt.chk
  simp only [apply_ite (AV.int .i64)]
def Bo.chk (b : Bo) : Int := if (decide (b.r < -10000) || decide (10000 < b.r) || decide (b.a < -2047) || decide (2048 < b.a) || decide (b.t < -1000) || decide (1000 < b.t)) then 4 else 0
theorem bchk_pc (r a t : Int) (H : List Ob) : pcall E 71 [.agg [.int .i64 r, .int .i64 a, .int .i64 t]] H = some (.int .i64 (Bo.chk ⟨r, a, t⟩)) := by
  refine pcall_some.2 (call_plain e71 rfl (Nat.le_of_ble_eq_true rfl) rfl ?_)
  generalize hv : AV.int .i64 (Bo.chk ⟨r, a, t⟩) = v
  simp (config := {maxSteps := 4000000}) only [c71, SS, bne_self_eq_false, wr_def, obOf, List.all_cons, List.all_nil, List.map_cons, List.map_nil, List.length_cons, List.length_nil, List.take_zero, List.take_succ_cons, List.take_nil, List.drop_zero, List.drop_succ_cons, List.drop_nil, Nat.reduceAdd, Nat.reduceMul, Nat.reduceSub, if_true, Nat.reduceLT, Nat.reduceLeDiff, ite_true, ite_false, Nat.reduceEqDiff, if_false, reduceCtorEq, ne_eq, List.getD, List.getElem?_cons_zero, List.getElem?_cons_succ, Option.getD_some, Option.bind_some, Option.map_some, Option.isSome_some, reduceIte, List.length_append, List.append_assoc, List.cons_append, List.nil_append, Option.some.injEq, forall_const, implies_true, Int.reduceNeg, eq_self, Prod.mk.injEq, List.self_eq_append_right, List.append_nil, exists_eq_left, exists_eq_left', exists_and_left, exists_eq_right, exists_and_right]
  simp only [join_ite]
  subst hv
  unfold Bo.chk
  simp only [apply_ite (AV.int .i64)]
theorem and_fff (a : Int) : abin .and (.int .i64 a) (.int .i64 4095) = some (.int .i64 (a % 4096)) := by
  have e : (BitVec.ofInt IntKind.i64.bits a &&& BitVec.ofInt IntKind.i64.bits 4095).toNat = (a % 4096).toNat := by
    rw [BitVec.toNat_and, BitVec.toNat_ofInt, BitVec.toNat_ofInt]
    show (a % ((2 ^ 64 : Nat) : Int)).toNat &&& ((4095 : Int) % ((2 ^ 64 : Nat) : Int)).toNat = _
    have h2 : ((4095 : Int) % ((2 ^ 64 : Nat) : Int)).toNat = 2 ^ 12 - 1 := by decide
    rw [h2, Nat.and_two_pow_sub_one_eq_mod]
    omega
  simp only [abin, if_true, e]
  rw [wrap64 (by omega) (by omega)]
  simp only [Option.some.injEq, AV.int.injEq, true_and]
  omega
theorem norm_pc (a : Int) (H : List Ob) : pcall E 105 [.int .i64 a] H = some (.int .i64 (a % 4096)) := by
  refine pcall_some.2 (call_plain e105 rfl (Nat.le_of_ble_eq_true rfl) rfl ?_)
  simp (config := {maxSteps := 4000000}) only [c105, and_fff, SS, bne_self_eq_false, wr_def, obOf, List.all_cons, List.all_nil, List.map_cons, List.map_nil, List.length_cons, List.length_nil, List.take_zero, List.take_succ_cons, List.take_nil, List.drop_zero, List.drop_succ_cons, List.drop_nil, Nat.reduceAdd, Nat.reduceMul, Nat.reduceSub, if_true, Nat.reduceLT, Nat.reduceLeDiff, ite_true, ite_false, Nat.reduceEqDiff, if_false, reduceCtorEq, ne_eq, List.getD, List.getElem?_cons_zero, List.getElem?_cons_succ, Option.getD_some, Option.bind_some, Option.map_some, Option.isSome_some, reduceIte, List.length_append, List.append_assoc, List.cons_append, List.nil_append, Option.some.injEq, forall_const, implies_true, Int.reduceNeg, eq_self, Prod.mk.injEq, List.self_eq_append_right, List.append_nil, exists_eq_left, exists_eq_left', exists_and_left, exists_eq_right, exists_and_right]
def adiff (a b : Int) : Int := if 2048 < IntKind.i64.wrap (b - a) % 4096 then IntKind.i64.wrap (b - a) % 4096 - 4096 else IntKind.i64.wrap (b - a) % 4096
theorem adiff_pc (a b : Int) (H : List Ob) : pcall E 69 [.int .i64 a, .int .i64 b] H = some (.int .i64 (adiff a b)) := by
  refine pcall_some.2 (call_plain e69 rfl (Nat.le_of_ble_eq_true rfl) rfl ?_)
  unfold adiff
  generalize hq : IntKind.i64.wrap (b - a) = q
  have w1 : IntKind.i64.wrap (q % 4096 - 4096) = q % 4096 - 4096 := wrap64 (by omega) (by omega)
  by_cases h : 2048 < q % 4096
  · have b1 : decide (2048 < q % 4096) = true := decide_eq_true h
    simp (config := {maxSteps := 4000000}) only [c69, norm_pc, hq, b1, w1, if_pos h, SS, bne_self_eq_false, wr_def, obOf, List.all_cons, List.all_nil, List.map_cons, List.map_nil, List.length_cons, List.length_nil, List.take_zero, List.take_succ_cons, List.take_nil, List.drop_zero, List.drop_succ_cons, List.drop_nil, Nat.reduceAdd, Nat.reduceMul, Nat.reduceSub, if_true, Nat.reduceLT, Nat.reduceLeDiff, ite_true, ite_false, Nat.reduceEqDiff, if_false, reduceCtorEq, ne_eq, List.getD, List.getElem?_cons_zero, List.getElem?_cons_succ, Option.getD_some, Option.bind_some, Option.map_some, Option.isSome_some, reduceIte, List.length_append, List.append_assoc, List.cons_append, List.nil_append, Option.some.injEq, forall_const, implies_true, Int.reduceNeg, eq_self, Prod.mk.injEq, List.self_eq_append_right, List.append_nil, exists_eq_left, exists_eq_left', exists_and_left, exists_eq_right, exists_and_right]
  · have b1 : decide (2048 < q % 4096) = false := decide_eq_false h
    simp (config := {maxSteps := 4000000}) only [c69, norm_pc, hq, b1, if_neg h, SS, bne_self_eq_false, wr_def, obOf, List.all_cons, List.all_nil, List.map_cons, List.map_nil, List.length_cons, List.length_nil, List.take_zero, List.take_succ_cons, List.take_nil, List.drop_zero, List.drop_succ_cons, List.drop_nil, Nat.reduceAdd, Nat.reduceMul, Nat.reduceSub, if_true, Nat.reduceLT, Nat.reduceLeDiff, ite_true, ite_false, Nat.reduceEqDiff, if_false, reduceCtorEq, ne_eq, List.getD, List.getElem?_cons_zero, List.getElem?_cons_succ, Option.getD_some, Option.bind_some, Option.map_some, Option.isSome_some, reduceIte, List.length_append, List.append_assoc, List.cons_append, List.nil_append, Option.some.injEq, forall_const, implies_true, Int.reduceNeg, eq_self, Prod.mk.injEq, List.self_eq_append_right, List.append_nil, exists_eq_left, exists_eq_left', exists_and_left, exists_eq_right, exists_and_right]
/-- A plot with an offset. -/
def Pt.mv (p : Pt) (b : Bo) : Pt := ⟨p.r, IntKind.i64.wrap (p.t + IntKind.i64.wrap (1 * b.t)), IntKind.i64.wrap (p.d + IntKind.i64.wrap (1 * b.r)), IntKind.i64.wrap (p.a + IntKind.i64.wrap (1 * b.a)) % 4096, p.h, p.k⟩
def appB (p : Pt) (b : Bo) : Pt × Int := if b.chk ≠ 0 then (Pt.zero, b.chk) else if p.chk ≠ 0 then (Pt.zero, p.chk) else if (p.mv b).chk ≠ 0 then (Pt.zero, 8) else (p.mv b, 0)
theorem mv_pc (r t d a h k : Int) (br ba bt : Int) (H : List Ob) : pcall E 72 [.agg [.int .i64 r, .int .i64 t, .int .i64 d, .int .i64 a, .int .i64 h, .int .i64 k], .agg [.int .i64 br, .int .i64 ba, .int .i64 bt], .int .i64 1] H = some (.tup [.agg (appB ⟨r, t, d, a, h, k⟩ ⟨br, ba, bt⟩).1.c, .int .i64 (appB ⟨r, t, d, a, h, k⟩ ⟨br, ba, bt⟩).2]) := by
  refine pcall_some.2 (call_plain e72 rfl (Nat.le_of_ble_eq_true rfl) rfl ?_)
  have h1 := fun H => bchk_pc br ba bt H
  have h2 := fun H => rchk_pc r t d a h k H
  have h3 := fun H => rchk_pc r (IntKind.i64.wrap (t + IntKind.i64.wrap (1 * bt))) (IntKind.i64.wrap (d + IntKind.i64.wrap (1 * br))) (IntKind.i64.wrap (a + IntKind.i64.wrap (1 * ba)) % 4096) h k H
  by_cases c1 : Bo.chk ⟨br, ba, bt⟩ = 0
  rotate_left
  · have b1 : (Bo.chk ⟨br, ba, bt⟩ != 0) = true := bne_iff_ne.2 c1
    rw [appB, if_pos c1]
    generalize Bo.chk ⟨br, ba, bt⟩ = q at *
    simp (config := {maxSteps := 4000000}) only [c72, h1, b1, Pt.zero, Pt.c, SS, bne_self_eq_false, wr_def, obOf, List.all_cons, List.all_nil, List.map_cons, List.map_nil, List.length_cons, List.length_nil, List.take_zero, List.take_succ_cons, List.take_nil, List.drop_zero, List.drop_succ_cons, List.drop_nil, Nat.reduceAdd, Nat.reduceMul, Nat.reduceSub, if_true, Nat.reduceLT, Nat.reduceLeDiff, ite_true, ite_false, Nat.reduceEqDiff, if_false, reduceCtorEq, ne_eq, List.getD, List.getElem?_cons_zero, List.getElem?_cons_succ, Option.getD_some, Option.bind_some, Option.map_some, Option.isSome_some, reduceIte, List.length_append, List.append_assoc, List.cons_append, List.nil_append, Option.some.injEq, forall_const, implies_true, Int.reduceNeg, eq_self, Prod.mk.injEq, List.self_eq_append_right, List.append_nil, exists_eq_left, exists_eq_left', exists_and_left, exists_eq_right, exists_and_right]
  rw [c1] at h1
  have b1 : ((0 : Int) != 0) = false := rfl
  by_cases c2 : Pt.chk ⟨r, t, d, a, h, k⟩ = 0
  rotate_left
  · have b2 : (Pt.chk ⟨r, t, d, a, h, k⟩ != 0) = true := bne_iff_ne.2 c2
    rw [appB, if_neg (fun h => h c1), if_pos c2]
    generalize Pt.chk ⟨r, t, d, a, h, k⟩ = q at *
    simp (config := {maxSteps := 4000000}) only [c72, h1, h2, b1, b2, Pt.zero, Pt.c, SS, bne_self_eq_false, wr_def, obOf, List.all_cons, List.all_nil, List.map_cons, List.map_nil, List.length_cons, List.length_nil, List.take_zero, List.take_succ_cons, List.take_nil, List.drop_zero, List.drop_succ_cons, List.drop_nil, Nat.reduceAdd, Nat.reduceMul, Nat.reduceSub, if_true, Nat.reduceLT, Nat.reduceLeDiff, ite_true, ite_false, Nat.reduceEqDiff, if_false, reduceCtorEq, ne_eq, List.getD, List.getElem?_cons_zero, List.getElem?_cons_succ, Option.getD_some, Option.bind_some, Option.map_some, Option.isSome_some, reduceIte, List.length_append, List.append_assoc, List.cons_append, List.nil_append, Option.some.injEq, forall_const, implies_true, Int.reduceNeg, eq_self, Prod.mk.injEq, List.self_eq_append_right, List.append_nil, exists_eq_left, exists_eq_left', exists_and_left, exists_eq_right, exists_and_right]
  rw [c2] at h2
  rw [appB, if_neg (fun h => h c1), if_neg (fun h => h c2)]
  by_cases c3 : (Pt.mv ⟨r, t, d, a, h, k⟩ ⟨br, ba, bt⟩).chk = 0
  rotate_left
  · rw [if_pos c3]
    have b3 : (Pt.chk ⟨r, IntKind.i64.wrap (t + IntKind.i64.wrap (1 * bt)), IntKind.i64.wrap (d + IntKind.i64.wrap (1 * br)), IntKind.i64.wrap (a + IntKind.i64.wrap (1 * ba)) % 4096, h, k⟩ != 0) = true := bne_iff_ne.2 c3
    generalize Pt.chk ⟨r, IntKind.i64.wrap (t + IntKind.i64.wrap (1 * bt)), IntKind.i64.wrap (d + IntKind.i64.wrap (1 * br)), IntKind.i64.wrap (a + IntKind.i64.wrap (1 * ba)) % 4096, h, k⟩ = q at *
    simp (config := {maxSteps := 8000000}) only [c72, h1, h2, h3, norm_pc, b1, b3, Pt.zero, Pt.c, SS, bne_self_eq_false, wr_def, obOf, List.all_cons, List.all_nil, List.map_cons, List.map_nil, List.length_cons, List.length_nil, List.take_zero, List.take_succ_cons, List.take_nil, List.drop_zero, List.drop_succ_cons, List.drop_nil, Nat.reduceAdd, Nat.reduceMul, Nat.reduceSub, if_true, Nat.reduceLT, Nat.reduceLeDiff, ite_true, ite_false, Nat.reduceEqDiff, if_false, reduceCtorEq, ne_eq, List.getD, List.getElem?_cons_zero, List.getElem?_cons_succ, Option.getD_some, Option.bind_some, Option.map_some, Option.isSome_some, reduceIte, List.length_append, List.append_assoc, List.cons_append, List.nil_append, Option.some.injEq, forall_const, implies_true, Int.reduceNeg, eq_self, Prod.mk.injEq, List.self_eq_append_right, List.append_nil, exists_eq_left, exists_eq_left', exists_and_left, exists_eq_right, exists_and_right]
  · rw [if_neg (fun h => h c3)]
    have e3 : Pt.chk ⟨r, IntKind.i64.wrap (t + IntKind.i64.wrap (1 * bt)), IntKind.i64.wrap (d + IntKind.i64.wrap (1 * br)), IntKind.i64.wrap (a + IntKind.i64.wrap (1 * ba)) % 4096, h, k⟩ = 0 := c3
    rw [e3] at h3
    simp (config := {maxSteps := 8000000}) only [c72, h1, h2, h3, norm_pc, b1, Pt.mv, Pt.c, SS, bne_self_eq_false, wr_def, obOf, List.all_cons, List.all_nil, List.map_cons, List.map_nil, List.length_cons, List.length_nil, List.take_zero, List.take_succ_cons, List.take_nil, List.drop_zero, List.drop_succ_cons, List.drop_nil, Nat.reduceAdd, Nat.reduceMul, Nat.reduceSub, if_true, Nat.reduceLT, Nat.reduceLeDiff, ite_true, ite_false, Nat.reduceEqDiff, if_false, reduceCtorEq, ne_eq, List.getD, List.getElem?_cons_zero, List.getElem?_cons_succ, Option.getD_some, Option.bind_some, Option.map_some, Option.isSome_some, reduceIte, List.length_append, List.append_assoc, List.cons_append, List.nil_append, Option.some.injEq, forall_const, implies_true, Int.reduceNeg, eq_self, Prod.mk.injEq, List.self_eq_append_right, List.append_nil, exists_eq_left, exists_eq_left', exists_and_left, exists_eq_right, exists_and_right]
theorem app_pc (p : Pt) (b : Bo) (H : List Ob) : pcall E 34 [.agg p.c, .agg b.c] H = some (.tup [.agg (appB p b).1.c, .int .i64 (appB p b).2]) := by
  refine pcall_some.2 (call_plain e34 rfl (Nat.le_of_ble_eq_true rfl) rfl ?_)
  obtain ⟨r, t, d, a, h, k⟩ := p
  obtain ⟨br, ba, bt⟩ := b
  have h1 := fun H => mv_pc r t d a h k br ba bt H
  generalize appB ⟨r, t, d, a, h, k⟩ ⟨br, ba, bt⟩ = R at *
  simp only [Pt.c] at h1
  simp (config := {maxSteps := 4000000}) only [c34, h1, Pt.c, Bo.c, SS, bne_self_eq_false, wr_def, obOf, List.all_cons, List.all_nil, List.map_cons, List.map_nil, List.length_cons, List.length_nil, List.take_zero, List.take_succ_cons, List.take_nil, List.drop_zero, List.drop_succ_cons, List.drop_nil, Nat.reduceAdd, Nat.reduceMul, Nat.reduceSub, if_true, Nat.reduceLT, Nat.reduceLeDiff, ite_true, ite_false, Nat.reduceEqDiff, if_false, reduceCtorEq, ne_eq, List.getD, List.getElem?_cons_zero, List.getElem?_cons_succ, Option.getD_some, Option.bind_some, Option.map_some, Option.isSome_some, reduceIte, List.length_append, List.append_assoc, List.cons_append, List.nil_append, Option.some.injEq, forall_const, implies_true, Int.reduceNeg, eq_self, Prod.mk.injEq, List.self_eq_append_right, List.append_nil, exists_eq_left, exists_eq_left', exists_and_left, exists_eq_right, exists_and_right]
end Go.Proofs.Ytaekgifbehoipaa.Fl
/- The middle of a row, and what more than half of a row holds. Conditions stand in each lemma. -/
namespace Go.Proofs.Ytaekgifbehoipaa.So
open Go Go.Proofs.Ytaekgifbehoipaa.Eva Go.Proofs.Ytaekgifbehoipaa.CodeAll Go.Proofs.Ytaekgifbehoipaa.Fl
set_option linter.unusedVariables false
set_option linter.unusedSimpArgs false
set_option maxRecDepth 10000
set_option maxHeartbeats 4000000

theorem mid_m {n0 n : Nat} {H : List Ob} {v : AV} {f : Nat → Int} (A : Fs n0 H v intC 1 n f) (h0 : n0 ≤ H.length) (hn : n ≤ 1125899906842624) (hpos : 0 < n) :
    ∃ r h2 g, mcall E n0 70 [v] H = some (r, h2) ∧ n0 ≤ h2.length ∧ Fs n0 h2 v intC 1 n g ∧ Kp v H h2 ∧ ∃ x, r = .int .i64 x ∧ IsMed (arr n f) x := by
  refine row_call (P := fun r g => ∃ x, r = .int .i64 x ∧ IsMed (arr n f) x) e70 rfl (Nat.le_of_ble_eq_true rfl) h0 A ?_
  obtain ⟨h2, g, m2, l2, B2, K2, p2, s2⟩ := KI.sort_m iCtx A h0 hn
  have len := B2.len
  have w1 : IntKind.i64.wrap ((n : Int) - 1) = ((n - 1 : Nat) : Int) := by rw [wrap64 (by omega) (by omega)]; omega
  have w2 : abin .quo (.int .i64 ((n - 1 : Nat) : Int)) (.int .i64 2) = some (.int .i64 (((n - 1) / 2 : Nat) : Int)) := by
    rw [abin_quo _ _ _ (by decide)]
    have : ((n - 1 : Nat) : Int).tdiv 2 = (((n - 1) / 2 : Nat) : Int) := by rw [Int.tdiv_eq_ediv_of_nonneg (by omega)]; omega
    rw [this, wrap64 (by omega) (by omega)]
  have ok := B2.ok (kk := .i64) (i := (n - 1) / 2) (by omega)
  have ld := Fs.ldI iCtx.L iCtx.he B2 (kk := .i64) (i := (n - 1) / 2) (by omega)
  simp only [iV] at ld
  simp (config := {maxSteps := 4000000}) only [c70, rg_callm, mcallV_fn, m2, len, w1, w2, ok, isPtr_idx ok, ld, SS, bne_self_eq_false, wr_def, obOf, List.all_cons, List.all_nil, List.map_cons, List.map_nil, List.length_cons, List.length_nil, List.take_zero, List.take_succ_cons, List.take_nil, List.drop_zero, List.drop_succ_cons, List.drop_nil, Nat.reduceAdd, Nat.reduceMul, Nat.reduceSub, if_true, Nat.reduceLT, Nat.reduceLeDiff, ite_true, ite_false, Nat.reduceEqDiff, if_false, reduceCtorEq, ne_eq, List.getD, List.getElem?_cons_zero, List.getElem?_cons_succ, Option.getD_some, Option.bind_some, Option.map_some, Option.isSome_some, reduceIte, List.length_append, List.append_assoc, List.cons_append, List.nil_append, Option.some.injEq, forall_const, implies_true, Int.reduceNeg, eq_self, Prod.mk.injEq, List.self_eq_append_right, List.append_nil, exists_eq_left, exists_eq_left', exists_and_left, exists_eq_right, exists_and_right]
  refine ⟨rfl, ⟨g, B2⟩, K2, _, rfl, arr n g, p2, s2.imp (fun h => ?_), ?_⟩
  · simp only [iLt, decide_eq_false_iff_not] at h; omega
  · rw [arr_len]; exact arr_get (by omega)

/-- What more than half of a row holds is its middle. -/
theorem med_most {xs : List Int} {m v : Int} (h : IsMed xs m) (hc : xs.length < 2 * xs.count v) : m = v := by
  obtain ⟨ys, hp, hs, hm⟩ := h
  have hl := hp.length_eq
  have hcy : ys.count v = xs.count v := hp.count_eq v
  rw [← hcy, ← hl] at hc
  rw [← hl] at hm
  have hk : (ys.length - 1) / 2 < ys.length := (List.getElem?_eq_some_iff.1 hm).1
  have hge := (List.getElem?_eq_some_iff.1 hm).2
  generalize hkk : (ys.length - 1) / 2 = k at hm hk hge
  rw [List.pairwise_iff_getElem] at hs
  have hsplit : ys.count v = (ys.take k).count v + (ys.drop k).count v := by rw [← List.count_append, List.take_append_drop]
  have hsplit1 : ys.count v = (ys.take (k + 1)).count v + (ys.drop (k + 1)).count v := by rw [← List.count_append, List.take_append_drop]
  rcases Int.lt_trichotomy m v with hlt | heq | hgt
  · exfalso
    have : (ys.take (k + 1)).count v = 0 := by
      rw [List.count_eq_zero]
      intro hmem
      obtain ⟨i, hi⟩ := List.mem_iff_getElem?.1 hmem
      rw [List.getElem?_take] at hi
      split at hi
      · obtain ⟨hi1, hi2⟩ := List.getElem?_eq_some_iff.1 hi
        by_cases e : i = k
        · subst e; omega
        · have := hs i k hi1 hk (by omega)
          omega
      · cases hi
    have h2 : (ys.drop (k + 1)).count v ≤ ys.length - (k + 1) := by
      have := List.count_le_length (a := v) (l := ys.drop (k + 1))
      rw [List.length_drop] at this; exact this
    omega
  · exact heq
  · exfalso
    have : (ys.drop k).count v = 0 := by
      rw [List.count_eq_zero]
      intro hmem
      obtain ⟨i, hi⟩ := List.mem_iff_getElem?.1 hmem
      rw [List.getElem?_drop] at hi
      obtain ⟨hi1, hi2⟩ := List.getElem?_eq_some_iff.1 hi
      by_cases e : i = 0
      · subst e
        have e2 : ys[k + 0] = ys[k] := rfl
        omega
      · have := hs k (k + i) hk hi1 (by omega)
        omega
    have h2 : (ys.take k).count v ≤ k := by
      have := List.count_le_length (a := v) (l := ys.take k)
      rw [List.length_take] at this; omega
    omega
end Go.Proofs.Ytaekgifbehoipaa.So
