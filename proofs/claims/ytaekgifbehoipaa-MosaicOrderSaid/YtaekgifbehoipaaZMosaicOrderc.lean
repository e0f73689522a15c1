/- Sorting as the library does it (kind L): choosing a pivot, breaking patterns. Conditions stand in each lemma. -/
import Derived.Test.YtaekgifbehoipaaZMosaicOrderb
import Derived.Test.YtaekgifbehoipaaZMosaicOrdera
namespace Go.Proofs.Ytaekgifbehoipaa.So.KL
open Go Go.Proofs.Ytaekgifbehoipaa.Eva Go.Proofs.Ytaekgifbehoipaa.CodeAll Go.Proofs.Ytaekgifbehoipaa.So Go.Proofs.Ytaekgifbehoipaa.Fl
set_option linter.unusedVariables false
set_option linter.unusedSimpArgs false
set_option maxRecDepth 10000
set_option maxHeartbeats 4000000

section
variable {α : Type} {c : α → List AV} {e : α → AV} {lt : α → α → Bool} {KC : AV} {q : α → α → Int} (X : Ctx c e lt KC q)
include X

theorem ord_m {n0 n i j id : Nat} {s : Int} {H : List Ob} {v : AV} {f : Nat → α} (A : Fs 0 H v c 6 n f) (C : Bx H id (.int .i64 s)) (hid : n0 ≤ id) (h0 : n0 ≤ H.length) (hi : i < n) (hj : j < n) :
    ∃ r h2 w, mcall E n0 171 [v, .int .i64 (i : Int), .int .i64 (j : Int), .ptr id 0 0, KC] H = some (r, h2) ∧ n0 ≤ h2.length ∧ Kb id H h2 ∧ Bx h2 id w ∧ (∃ t, w = .int .i64 t) ∧ (r = .tup [.int .i64 (i : Int), .int .i64 (j : Int)] ∨ r = .tup [.int .i64 (j : Int), .int .i64 (i : Int)]) := by
  obtain ⟨L, O, he, hcmp, hq⟩ := X
  refine box_call (P := fun r w => (∃ t, w = .int .i64 t) ∧ (r = .tup [.int .i64 (i : Int), .int .i64 (j : Int)] ∨ r = .tup [.int .i64 (j : Int), .int .i64 (i : Int)])) e171 rfl (Nat.le_of_ble_eq_true rfl) h0 C ?_
  have oi := A.ok (kk := .i64) hi
  have oj := A.ok (kk := .i64) hj
  have di := Fs.ldE L he A (kk := .i64) hi
  have dj := Fs.ldE L he A (kk := .i64) hj
  obtain ⟨C', K'⟩ := bx_put C (w := .int .i64 (IntKind.i64.wrap (s + 1))) rfl
  have r0 : rdObj H id 0 = _ := C
  have r1 : rdObj _ id 0 = _ := C'
  cases hl : lt (f j) (f i)
  · simp (config := {maxSteps := 4000000}) only [c171, oi, oj, isPtr_idx oi, isPtr_idx oj, di, dj, hcmp, hq, hl, h0, SS, bne_self_eq_false, wr_def, obOf, List.all_cons, List.all_nil, List.map_cons, List.map_nil, List.length_cons, List.length_nil, List.take_zero, List.take_succ_cons, List.take_nil, List.drop_zero, List.drop_succ_cons, List.drop_nil, Nat.reduceAdd, Nat.reduceMul, Nat.reduceSub, if_true, Nat.reduceLT, Nat.reduceLeDiff, ite_true, ite_false, Nat.reduceEqDiff, if_false, reduceCtorEq, ne_eq, List.getD, List.getElem?_cons_zero, List.getElem?_cons_succ, Option.getD_some, Option.bind_some, Option.map_some, Option.isSome_some, reduceIte, List.length_append, List.append_assoc, List.cons_append, List.nil_append, Option.some.injEq, forall_const, implies_true, Int.reduceNeg, eq_self, Prod.mk.injEq, List.self_eq_append_right, List.append_nil, exists_eq_left, exists_eq_left', exists_and_left, exists_eq_right, exists_and_right]
    exact ⟨rfl, Kb.refl, _, C, ⟨s, rfl⟩, Or.inl (by trivial)⟩
  · simp (config := {maxSteps := 4000000}) only [c171, oi, oj, isPtr_idx oi, isPtr_idx oj, di, dj, hcmp, hq, hl, h0, r0, r1, hid, SS, bne_self_eq_false, wr_def, obOf, List.all_cons, List.all_nil, List.map_cons, List.map_nil, List.length_cons, List.length_nil, List.take_zero, List.take_succ_cons, List.take_nil, List.drop_zero, List.drop_succ_cons, List.drop_nil, Nat.reduceAdd, Nat.reduceMul, Nat.reduceSub, if_true, Nat.reduceLT, Nat.reduceLeDiff, ite_true, ite_false, Nat.reduceEqDiff, if_false, reduceCtorEq, ne_eq, List.getD, List.getElem?_cons_zero, List.getElem?_cons_succ, Option.getD_some, Option.bind_some, Option.map_some, Option.isSome_some, reduceIte, List.length_append, List.append_assoc, List.cons_append, List.nil_append, Option.some.injEq, forall_const, implies_true, Int.reduceNeg, eq_self, Prod.mk.injEq, List.self_eq_append_right, List.append_nil, exists_eq_left, exists_eq_left', exists_and_left, exists_eq_right, exists_and_right]
    exact ⟨rfl, K', _, C', ⟨_, rfl⟩, Or.inr (by trivial)⟩

theorem med_m {n0 n i j k id : Nat} {s : Int} {H : List Ob} {v : AV} {f : Nat → α} (A : Fs 0 H v c 6 n f) (C : Bx H id (.int .i64 s)) (hid : n0 ≤ id) (hne : ¬ idOf v id) (h0 : n0 ≤ H.length) (hi : i < n) (hj : j < n) (hk : k < n) :
    ∃ r h2 w, mcall E n0 163 [v, .int .i64 (i : Int), .int .i64 (j : Int), .int .i64 (k : Int), .ptr id 0 0, KC] H = some (r, h2) ∧ n0 ≤ h2.length ∧ Kb id H h2 ∧ Bx h2 id w ∧ (∃ t, w = .int .i64 t) ∧ ∃ m : Nat, r = .int .i64 (m : Int) ∧ (m = i ∨ m = j ∨ m = k) := by
  have ord := @ord_m _ c e lt KC q X n0 n
  refine box_call (P := fun r w => (∃ t, w = .int .i64 t) ∧ ∃ m : Nat, r = .int .i64 (m : Int) ∧ (m = i ∨ m = j ∨ m = k)) e163 rfl (Nat.le_of_ble_eq_true rfl) h0 C ?_
  have mono : ∀ {h h' : List Ob}, Fs 0 h v c 6 n f → Kb id h h' → Fs 0 h' v c 6 n f := fun A K => A.mono fun id' ep o hid ho => K.2 id' ep o (fun e => hne (e ▸ hid)) ho
  obtain ⟨r1, h1, w1, m1, l1, K1, C1, ⟨t1, rfl⟩, q1⟩ := ord A C hid h0 hi hj
  have A1 := mono A K1
  obtain ⟨x1, y1, e1, z1⟩ : ∃ x y : Nat, r1 = .tup [.int .i64 (x : Int), .int .i64 (y : Int)] ∧ ((x = i ∧ y = j) ∨ (x = j ∧ y = i)) := by
    rcases q1 with h | h
    · exact ⟨i, j, h, Or.inl ⟨rfl, rfl⟩⟩
    · exact ⟨j, i, h, Or.inr ⟨rfl, rfl⟩⟩
  subst e1
  obtain ⟨r2, h2, w2, m2, l2, K2, C2, ⟨t2, rfl⟩, q2⟩ := ord (i := y1) (j := k) A1 C1 hid l1 (by omega) hk
  have A2 := mono A1 K2
  obtain ⟨x2, y2, e2, z2⟩ : ∃ x y : Nat, r2 = .tup [.int .i64 (x : Int), .int .i64 (y : Int)] ∧ ((x = y1 ∧ y = k) ∨ (x = k ∧ y = y1)) := by
    rcases q2 with h | h
    · exact ⟨_, _, h, Or.inl ⟨rfl, rfl⟩⟩
    · exact ⟨_, _, h, Or.inr ⟨rfl, rfl⟩⟩
  subst e2
  obtain ⟨r3, h3, w3, m3, l3, K3, C3, ⟨t3, rfl⟩, q3⟩ := ord (i := x1) (j := x2) A2 C2 hid l2 (by omega) (by omega)
  obtain ⟨x3, y3, e3, z3⟩ : ∃ x y : Nat, r3 = .tup [.int .i64 (x : Int), .int .i64 (y : Int)] ∧ ((x = x1 ∧ y = x2) ∨ (x = x2 ∧ y = x1)) := by
    rcases q3 with h | h
    · exact ⟨_, _, h, Or.inl ⟨rfl, rfl⟩⟩
    · exact ⟨_, _, h, Or.inr ⟨rfl, rfl⟩⟩
  subst e3
  simp (config := {maxSteps := 4000000}) only [c163, rg_callm, mcallV_fn, m1, m2, m3, SS, bne_self_eq_false, wr_def, obOf, List.all_cons, List.all_nil, List.map_cons, List.map_nil, List.length_cons, List.length_nil, List.take_zero, List.take_succ_cons, List.take_nil, List.drop_zero, List.drop_succ_cons, List.drop_nil, Nat.reduceAdd, Nat.reduceMul, Nat.reduceSub, if_true, Nat.reduceLT, Nat.reduceLeDiff, ite_true, ite_false, Nat.reduceEqDiff, if_false, reduceCtorEq, ne_eq, List.getD, List.getElem?_cons_zero, List.getElem?_cons_succ, Option.getD_some, Option.bind_some, Option.map_some, Option.isSome_some, reduceIte, List.length_append, List.append_assoc, List.cons_append, List.nil_append, Option.some.injEq, forall_const, implies_true, Int.reduceNeg, eq_self, Prod.mk.injEq, List.self_eq_append_right, List.append_nil, exists_eq_left, exists_eq_left', exists_and_left, exists_eq_right, exists_and_right]
  exact ⟨rfl, (K1.trans K2).trans K3, _, C3, ⟨_, rfl⟩, y3, rfl, by omega⟩

theorem meda_m {n0 n i id : Nat} {s : Int} {H : List Ob} {v : AV} {f : Nat → α} (A : Fs 0 H v c 6 n f) (C : Bx H id (.int .i64 s)) (hid : n0 ≤ id) (hne : ¬ idOf v id) (h0 : n0 ≤ H.length) (hi : i + 1 < n) (hi0 : 1 ≤ i) (hn : n ≤ 1125899906842624) :
    ∃ r h2 w, mcall E n0 162 [v, .int .i64 (i : Int), .ptr id 0 0, KC] H = some (r, h2) ∧ n0 ≤ h2.length ∧ Kb id H h2 ∧ Bx h2 id w ∧ (∃ t, w = .int .i64 t) ∧ ∃ m : Nat, r = .int .i64 (m : Int) ∧ i - 1 ≤ m ∧ m ≤ i + 1 := by
  refine box_call (P := fun r w => (∃ t, w = .int .i64 t) ∧ ∃ m : Nat, r = .int .i64 (m : Int) ∧ i - 1 ≤ m ∧ m ≤ i + 1) e162 rfl (Nat.le_of_ble_eq_true rfl) h0 C ?_
  have w1 : IntKind.i64.wrap ((i : Int) - 1) = ((i - 1 : Nat) : Int) := by rw [wrap64 (by omega) (by omega)]; omega
  have w2 : IntKind.i64.wrap ((i : Int) + 1) = ((i + 1 : Nat) : Int) := by rw [wrap64 (by omega) (by omega)]; omega
  obtain ⟨r, h2, w, m1, l1, K1, C1, ht, m, rfl, hm⟩ := med_m X (i := i - 1) (j := i) (k := i + 1) A C hid hne h0 (by omega) (by omega) hi
  simp (config := {maxSteps := 4000000}) only [c162, w1, w2, rg_callm, mcallV_fn, m1, SS, bne_self_eq_false, wr_def, obOf, List.all_cons, List.all_nil, List.map_cons, List.map_nil, List.length_cons, List.length_nil, List.take_zero, List.take_succ_cons, List.take_nil, List.drop_zero, List.drop_succ_cons, List.drop_nil, Nat.reduceAdd, Nat.reduceMul, Nat.reduceSub, if_true, Nat.reduceLT, Nat.reduceLeDiff, ite_true, ite_false, Nat.reduceEqDiff, if_false, reduceCtorEq, ne_eq, List.getD, List.getElem?_cons_zero, List.getElem?_cons_succ, Option.getD_some, Option.bind_some, Option.map_some, Option.isSome_some, reduceIte, List.length_append, List.append_assoc, List.cons_append, List.nil_append, Option.some.injEq, forall_const, implies_true, Int.reduceNeg, eq_self, Prod.mk.injEq, List.self_eq_append_right, List.append_nil, exists_eq_left, exists_eq_left', exists_and_left, exists_eq_right, exists_and_right]
  exact ⟨rfl, K1, w, C1, ht, m, rfl, by omega, by omega⟩

theorem piv_pc {n0 n a b : Nat} {H : List Ob} {v : AV} {f : Nat → α} (A : Fs n0 H v c 6 n f) (h0 : n0 ≤ H.length) (hb : b ≤ n) (hn : n ≤ 1125899906842624) (ha : a + 12 < b) :
    ∃ (p : Nat) (t : Int), a ≤ p ∧ p < b ∧ pcall E 136 [v, .int .i64 (a : Int), .int .i64 (b : Int), KC] H = some (.tup [.int .i64 (p : Int), .int .i64 t]) := by
  have key : ∃ r, (∃ (p : Nat) (t : Int), r = .tup [.int .i64 (p : Int), .int .i64 t] ∧ a ≤ p ∧ p < b) ∧ ecall E 136 [v, .int .i64 (a : Int), .int .i64 (b : Int), KC] H = some (r, H, H.length, H.length) := by
    refine so_ex e136 rfl (Nat.le_of_ble_eq_true rfl) (by rintro _ ⟨p, t, rfl, _⟩; rfl) ?_
    have hne : ¬ idOf v H.length := fun h => by have := A.lt h; omega
    have A0 : Fs 0 (H ++ [⟨[.int .i64 0], 0, 0, true, true⟩]) v c 6 n f := (A.keep _).down (Nat.zero_le _)
    have C0 : Bx (H ++ [⟨[.int .i64 0], 0, 0, true, true⟩]) H.length (.int .i64 0) := by unfold Bx; simp [rdObj]
    have mono : ∀ {h h' : List Ob}, Fs 0 h v c 6 n f → Kb H.length h h' → Fs 0 h' v c 6 n f := fun A K => A.mono fun id' ep o hid ho => K.2 id' ep o (fun e => hne (e ▸ hid)) ho
    obtain ⟨l, hl⟩ : ∃ l, b - a = l := ⟨_, rfl⟩
    obtain ⟨q, hq⟩ : ∃ q, l / 4 = q := ⟨_, rfl⟩
    have w1 : IntKind.i64.wrap ((b : Int) - (a : Int)) = (l : Int) := by rw [wrap64 (by omega) (by omega)]; omega
    have w2 : abin .quo (.int .i64 (l : Int)) (.int .i64 4) = some (.int .i64 (q : Int)) := by
      rw [abin_quo _ _ _ (by decide)]
      have : (l : Int).tdiv 4 = (q : Int) := by rw [Int.tdiv_eq_ediv_of_nonneg (by omega)]; omega
      rw [this, wrap64 (by omega) (by omega)]
    have w3 : IntKind.i64.wrap ((q : Int) * 1) = (q : Int) := by rw [wrap64 (by omega) (by omega)]; omega
    have w4 : IntKind.i64.wrap ((q : Int) * 2) = ((q * 2 : Nat) : Int) := by rw [wrap64 (by omega) (by omega)]; omega
    have w5 : IntKind.i64.wrap ((q : Int) * 3) = ((q * 3 : Nat) : Int) := by rw [wrap64 (by omega) (by omega)]; omega
    have w6 : IntKind.i64.wrap ((a : Int) + (q : Int)) = ((a + q : Nat) : Int) := by rw [wrap64 (by omega) (by omega)]; omega
    have w7 : IntKind.i64.wrap ((a : Int) + ((q * 2 : Nat) : Int)) = ((a + q * 2 : Nat) : Int) := by rw [wrap64 (by omega) (by omega)]; omega
    have w8 : IntKind.i64.wrap ((a : Int) + ((q * 3 : Nat) : Int)) = ((a + q * 3 : Nat) : Int) := by rw [wrap64 (by omega) (by omega)]; omega
    have b1 : decide ((8 : Int) ≤ (l : Int)) = true := decide_eq_true (by omega)
    have hl0 : H.length ≤ (H ++ [(⟨[.int .i64 0], 0, 0, true, true⟩ : Ob)]).length := by simp
    have fin : ∀ (m : Nat) (t : Int), a ≤ m → m < b → ∃ s : Int, (if (t == 0) = true then (1 : Int) else if (t == 12) = true then 2 else 0) = s := fun m t _ _ => ⟨_, rfl⟩
    by_cases c1 : 50 ≤ l
    · have b2 : decide ((50 : Int) ≤ (l : Int)) = true := decide_eq_true (by omega)
      obtain ⟨r1, h1, x1, m1, l1, K1, C1, ⟨t1, rfl⟩, i1, rfl, q1, q1'⟩ := meda_m X (n0 := H.length) (i := a + q) A0 C0 (Nat.le_refl _) hne hl0 (by omega) (by omega) hn
      have A1 := mono A0 K1
      obtain ⟨r2, h2, x2, m2, l2, K2, C2, ⟨t2, rfl⟩, i2, rfl, q2, q2'⟩ := meda_m X (n0 := H.length) (i := a + q * 2) A1 C1 (Nat.le_refl _) hne l1 (by omega) (by omega) hn
      have A2 := mono A1 K2
      obtain ⟨r3, h3, x3, m3, l3, K3, C3, ⟨t3, rfl⟩, i3, rfl, q3, q3'⟩ := meda_m X (n0 := H.length) (i := a + q * 3) A2 C2 (Nat.le_refl _) hne l2 (by omega) (by omega) hn
      have A3 := mono A2 K3
      obtain ⟨r4, h4, x4, m4, l4, K4, C4, ⟨t4, rfl⟩, i4, rfl, q4⟩ := med_m X (n0 := H.length) (i := i1) (j := i2) (k := i3) A3 C3 (Nat.le_refl _) hne l3 (by omega) (by omega) (by omega)
      have r4 : rdObj h4 H.length 0 = _ := C4
      have hb4 : a ≤ i4 ∧ i4 < b := by omega
      by_cases z0 : t4 = 0
      · have b3 : (t4 == 0) = true := by rw [beq_iff_eq]; exact z0
        simp (config := {maxSteps := 4000000}) only [c136, w1, w2, w3, w4, w5, w6, w7, w8, b1, b2, rg_callm, mcallV_fn, m1, m2, m3, m4, r4, b3, SS, bne_self_eq_false, wr_def, obOf, List.all_cons, List.all_nil, List.map_cons, List.map_nil, List.length_cons, List.length_nil, List.take_zero, List.take_succ_cons, List.take_nil, List.drop_zero, List.drop_succ_cons, List.drop_nil, Nat.reduceAdd, Nat.reduceMul, Nat.reduceSub, if_true, Nat.reduceLT, Nat.reduceLeDiff, ite_true, ite_false, Nat.reduceEqDiff, if_false, reduceCtorEq, ne_eq, List.getD, List.getElem?_cons_zero, List.getElem?_cons_succ, Option.getD_some, Option.bind_some, Option.map_some, Option.isSome_some, reduceIte, List.length_append, List.append_assoc, List.cons_append, List.nil_append, Option.some.injEq, forall_const, implies_true, Int.reduceNeg, eq_self, Prod.mk.injEq, List.self_eq_append_right, List.append_nil, exists_eq_left, exists_eq_left', exists_and_left, exists_eq_right, exists_and_right]
        exact ⟨i4, ⟨1, rfl⟩, hb4.1, hb4.2⟩
      have b3 : (t4 == 0) = false := by rw [beq_eq_false_iff_ne]; exact z0
      by_cases z1 : t4 = 12
      · have b4 : (t4 == 12) = true := by rw [beq_iff_eq]; exact z1
        simp (config := {maxSteps := 4000000}) only [c136, w1, w2, w3, w4, w5, w6, w7, w8, b1, b2, rg_callm, mcallV_fn, m1, m2, m3, m4, r4, b3, b4, SS, bne_self_eq_false, wr_def, obOf, List.all_cons, List.all_nil, List.map_cons, List.map_nil, List.length_cons, List.length_nil, List.take_zero, List.take_succ_cons, List.take_nil, List.drop_zero, List.drop_succ_cons, List.drop_nil, Nat.reduceAdd, Nat.reduceMul, Nat.reduceSub, if_true, Nat.reduceLT, Nat.reduceLeDiff, ite_true, ite_false, Nat.reduceEqDiff, if_false, reduceCtorEq, ne_eq, List.getD, List.getElem?_cons_zero, List.getElem?_cons_succ, Option.getD_some, Option.bind_some, Option.map_some, Option.isSome_some, reduceIte, List.length_append, List.append_assoc, List.cons_append, List.nil_append, Option.some.injEq, forall_const, implies_true, Int.reduceNeg, eq_self, Prod.mk.injEq, List.self_eq_append_right, List.append_nil, exists_eq_left, exists_eq_left', exists_and_left, exists_eq_right, exists_and_right]
        exact ⟨i4, ⟨2, rfl⟩, hb4.1, hb4.2⟩
      have b4 : (t4 == 12) = false := by rw [beq_eq_false_iff_ne]; exact z1
      simp (config := {maxSteps := 4000000}) only [c136, w1, w2, w3, w4, w5, w6, w7, w8, b1, b2, rg_callm, mcallV_fn, m1, m2, m3, m4, r4, b3, b4, SS, bne_self_eq_false, wr_def, obOf, List.all_cons, List.all_nil, List.map_cons, List.map_nil, List.length_cons, List.length_nil, List.take_zero, List.take_succ_cons, List.take_nil, List.drop_zero, List.drop_succ_cons, List.drop_nil, Nat.reduceAdd, Nat.reduceMul, Nat.reduceSub, if_true, Nat.reduceLT, Nat.reduceLeDiff, ite_true, ite_false, Nat.reduceEqDiff, if_false, reduceCtorEq, ne_eq, List.getD, List.getElem?_cons_zero, List.getElem?_cons_succ, Option.getD_some, Option.bind_some, Option.map_some, Option.isSome_some, reduceIte, List.length_append, List.append_assoc, List.cons_append, List.nil_append, Option.some.injEq, forall_const, implies_true, Int.reduceNeg, eq_self, Prod.mk.injEq, List.self_eq_append_right, List.append_nil, exists_eq_left, exists_eq_left', exists_and_left, exists_eq_right, exists_and_right]
      exact ⟨i4, ⟨0, rfl⟩, hb4.1, hb4.2⟩
    · have b2 : decide ((50 : Int) ≤ (l : Int)) = false := decide_eq_false (by omega)
      obtain ⟨r4, h4, x4, m4, l4, K4, C4, ⟨t4, rfl⟩, i4, rfl, q4⟩ := med_m X (n0 := H.length) (i := a + q) (j := a + q * 2) (k := a + q * 3) A0 C0 (Nat.le_refl _) hne hl0 (by omega) (by omega) (by omega)
      have r4 : rdObj h4 H.length 0 = _ := C4
      have hb4 : a ≤ i4 ∧ i4 < b := by omega
      by_cases z0 : t4 = 0
      · have b3 : (t4 == 0) = true := by rw [beq_iff_eq]; exact z0
        simp (config := {maxSteps := 4000000}) only [c136, w1, w2, w3, w4, w5, w6, w7, w8, b1, b2, rg_callm, mcallV_fn, m4, r4, b3, SS, bne_self_eq_false, wr_def, obOf, List.all_cons, List.all_nil, List.map_cons, List.map_nil, List.length_cons, List.length_nil, List.take_zero, List.take_succ_cons, List.take_nil, List.drop_zero, List.drop_succ_cons, List.drop_nil, Nat.reduceAdd, Nat.reduceMul, Nat.reduceSub, if_true, Nat.reduceLT, Nat.reduceLeDiff, ite_true, ite_false, Nat.reduceEqDiff, if_false, reduceCtorEq, ne_eq, List.getD, List.getElem?_cons_zero, List.getElem?_cons_succ, Option.getD_some, Option.bind_some, Option.map_some, Option.isSome_some, reduceIte, List.length_append, List.append_assoc, List.cons_append, List.nil_append, Option.some.injEq, forall_const, implies_true, Int.reduceNeg, eq_self, Prod.mk.injEq, List.self_eq_append_right, List.append_nil, exists_eq_left, exists_eq_left', exists_and_left, exists_eq_right, exists_and_right]
        exact ⟨i4, ⟨1, rfl⟩, hb4.1, hb4.2⟩
      have b3 : (t4 == 0) = false := by rw [beq_eq_false_iff_ne]; exact z0
      by_cases z1 : t4 = 12
      · have b4 : (t4 == 12) = true := by rw [beq_iff_eq]; exact z1
        simp (config := {maxSteps := 4000000}) only [c136, w1, w2, w3, w4, w5, w6, w7, w8, b1, b2, rg_callm, mcallV_fn, m4, r4, b3, b4, SS, bne_self_eq_false, wr_def, obOf, List.all_cons, List.all_nil, List.map_cons, List.map_nil, List.length_cons, List.length_nil, List.take_zero, List.take_succ_cons, List.take_nil, List.drop_zero, List.drop_succ_cons, List.drop_nil, Nat.reduceAdd, Nat.reduceMul, Nat.reduceSub, if_true, Nat.reduceLT, Nat.reduceLeDiff, ite_true, ite_false, Nat.reduceEqDiff, if_false, reduceCtorEq, ne_eq, List.getD, List.getElem?_cons_zero, List.getElem?_cons_succ, Option.getD_some, Option.bind_some, Option.map_some, Option.isSome_some, reduceIte, List.length_append, List.append_assoc, List.cons_append, List.nil_append, Option.some.injEq, forall_const, implies_true, Int.reduceNeg, eq_self, Prod.mk.injEq, List.self_eq_append_right, List.append_nil, exists_eq_left, exists_eq_left', exists_and_left, exists_eq_right, exists_and_right]
        exact ⟨i4, ⟨2, rfl⟩, hb4.1, hb4.2⟩
      have b4 : (t4 == 12) = false := by rw [beq_eq_false_iff_ne]; exact z1
      simp (config := {maxSteps := 4000000}) only [c136, w1, w2, w3, w4, w5, w6, w7, w8, b1, b2, rg_callm, mcallV_fn, m4, r4, b3, b4, SS, bne_self_eq_false, wr_def, obOf, List.all_cons, List.all_nil, List.map_cons, List.map_nil, List.length_cons, List.length_nil, List.take_zero, List.take_succ_cons, List.take_nil, List.drop_zero, List.drop_succ_cons, List.drop_nil, Nat.reduceAdd, Nat.reduceMul, Nat.reduceSub, if_true, Nat.reduceLT, Nat.reduceLeDiff, ite_true, ite_false, Nat.reduceEqDiff, if_false, reduceCtorEq, ne_eq, List.getD, List.getElem?_cons_zero, List.getElem?_cons_succ, Option.getD_some, Option.bind_some, Option.map_some, Option.isSome_some, reduceIte, List.length_append, List.append_assoc, List.cons_append, List.nil_append, Option.some.injEq, forall_const, implies_true, Int.reduceNeg, eq_self, Prod.mk.injEq, List.self_eq_append_right, List.append_nil, exists_eq_left, exists_eq_left', exists_and_left, exists_eq_right, exists_and_right]
      exact ⟨i4, ⟨0, rfl⟩, hb4.1, hb4.2⟩
  obtain ⟨r, ⟨p, t, rfl, h1, h2⟩, hc⟩ := key
  exact ⟨p, t, h1, h2, pcall_some.2 hc⟩

theorem brk_m {n0 n a b : Nat} {H : List Ob} {v : AV} {f : Nat → α} (A : Fs n0 H v c 6 n f) (h0 : n0 ≤ H.length) (hb : b ≤ n) (hn : n ≤ 1125899906842624) (ha : a + 12 < b) :
    ∃ r h2 g, mcall E n0 135 [v, .int .i64 (a : Int), .int .i64 (b : Int), KC] H = some (r, h2) ∧ n0 ≤ h2.length ∧ Fs n0 h2 v c 6 n g ∧ Kp v H h2 ∧ r = .tup [] ∧ Per a b f g := by
  obtain ⟨L, O, he, hcmp, hq⟩ := X
  refine row_call (P := fun r g => r = .tup [] ∧ Per a b f g) e135 rfl (Nat.le_of_ble_eq_true rfl) h0 A ?_
  obtain ⟨l, hl⟩ : ∃ l, b - a = l := ⟨_, rfl⟩
  obtain ⟨q, hq⟩ : ∃ q, l / 4 = q := ⟨_, rfl⟩
  have w1 : IntKind.i64.wrap ((b : Int) - (a : Int)) = (l : Int) := by rw [wrap64 (by omega) (by omega)]; omega
  have w2 : abin .quo (.int .i64 (l : Int)) (.int .i64 4) = some (.int .i64 (q : Int)) := by
    rw [abin_quo _ _ _ (by decide)]
    have : (l : Int).tdiv 4 = (q : Int) := by rw [Int.tdiv_eq_ediv_of_nonneg (by omega)]; omega
    rw [this, wrap64 (by omega) (by omega)]
  have w4 : IntKind.i64.wrap ((q : Int) * 2) = ((q * 2 : Nat) : Int) := by rw [wrap64 (by omega) (by omega)]; omega
  have w7 : IntKind.i64.wrap ((a : Int) + ((q * 2 : Nat) : Int)) = ((a + q * 2 : Nat) : Int) := by rw [wrap64 (by omega) (by omega)]; omega
  have w8 : IntKind.i64.wrap (((a + q * 2 : Nat) : Int) - 1) = ((a + q * 2 - 1 : Nat) : Int) := by rw [wrap64 (by omega) (by omega)]; omega
  have w9 : IntKind.i64.wrap (((a + q * 2 : Nat) : Int) + 1) = ((a + q * 2 + 1 : Nat) : Int) := by rw [wrap64 (by omega) (by omega)]; omega
  have wu : IntKind.u64.wrap (l : Int) = (l : Int) := wu64 (by omega) (by omega)
  have b1 : decide ((8 : Int) ≤ (l : Int)) = true := decide_eq_true (by omega)
  have hnp := npow_pc (l := l) (by omega)
  obtain ⟨p1, p2, p3⟩ := len2_spec (x := l) (by omega)
  have p4 : 2 ^ len2 l = 2 * 2 ^ (len2 l - 1) := by
    obtain ⟨z, hz⟩ : ∃ z, len2 l = z + 1 := ⟨len2 l - 1, by omega⟩
    rw [hz, Nat.add_sub_cancel, Nat.pow_succ, Nat.mul_comm]
  generalize 2 ^ len2 l = M at *
  generalize 2 ^ (len2 l - 1) = M' at *
  have wm : IntKind.u64.wrap ((M : Int) - 1) = ((M - 1 : Nat) : Int) := by rw [wu64 (by omega) (by omega)]; omega
  have hne : ¬ idOf v H.length := fun h => by have := A.lt h; omega
  simp (config := {maxSteps := 4000000}) only [c135, w1, w2, w4, w7, w8, wu, b1, hnp, SS, bne_self_eq_false, wr_def, obOf, List.all_cons, List.all_nil, List.map_cons, List.map_nil, List.length_cons, List.length_nil, List.take_zero, List.take_succ_cons, List.take_nil, List.drop_zero, List.drop_succ_cons, List.drop_nil, Nat.reduceAdd, Nat.reduceMul, Nat.reduceSub, if_true, Nat.reduceLT, Nat.reduceLeDiff, ite_true, ite_false, Nat.reduceEqDiff, if_false, reduceCtorEq, ne_eq, List.getD, List.getElem?_cons_zero, List.getElem?_cons_succ, Option.getD_some, Option.bind_some, Option.map_some, Option.isSome_some, reduceIte, List.length_append, List.append_assoc, List.cons_append, List.nil_append, Option.some.injEq, forall_const, implies_true, Int.reduceNeg, eq_self, Prod.mk.injEq, List.self_eq_append_right, List.append_nil, exists_eq_left, exists_eq_left', exists_and_left, exists_eq_right, exists_and_right]
  refine ⟨h0, by omega, ?_⟩
  refine W_loop (fun k f1 h1 => ∃ d : Nat, k = 3 - d ∧ d ≤ 3 ∧ f1 0 = v ∧ f1 1 = .int .i64 (a : Int) ∧ f1 8 = .int .i64 (l : Int) ∧ f1 9 = .ptr H.length 0 0 ∧ f1 10 = .int .u64 (M : Int) ∧ f1 11 = .int .i64 ((a + q * 2 - 1 + d : Nat) : Int) ∧ ∃ g, Fs n0 h1 v c 6 n g ∧ Kp v H h1 ∧ Per a b f g ∧ ∃ x, Bx h1 H.length (.int .u64 x)) (by simp; omega) _ ⟨0, rfl, by omega, rfl, rfl, rfl, rfl, rfl, rfl, f, A.keep _, Kp.app _, .rfl, (l : Int), by unfold Bx; simp [rdObj]⟩ ?_
  rintro k f1 h1 hn1 ht ⟨d, rfl, hd, e0, e1, e6, e7, e8, e9, g, B, K, P, x, C⟩
  by_cases hd3 : d < 3
  rotate_left
  · have b2 : decide (((a + q * 2 - 1 + d : Nat) : Int) ≤ ((a + q * 2 + 1 : Nat) : Int)) = false := decide_eq_false (by omega)
    simp (config := {maxSteps := 4000000}) only [e0, e1, e6, e7, e8, e9, w2, w4, w7, w9, b2, SS, bne_self_eq_false, wr_def, obOf, List.all_cons, List.all_nil, List.map_cons, List.map_nil, List.length_cons, List.length_nil, List.take_zero, List.take_succ_cons, List.take_nil, List.drop_zero, List.drop_succ_cons, List.drop_nil, Nat.reduceAdd, Nat.reduceMul, Nat.reduceSub, if_true, Nat.reduceLT, Nat.reduceLeDiff, ite_true, ite_false, Nat.reduceEqDiff, if_false, reduceCtorEq, ne_eq, List.getD, List.getElem?_cons_zero, List.getElem?_cons_succ, Option.getD_some, Option.bind_some, Option.map_some, Option.isSome_some, reduceIte, List.length_append, List.append_assoc, List.cons_append, List.nil_append, Option.some.injEq, forall_const, implies_true, Int.reduceNeg, eq_self, Prod.mk.injEq, List.self_eq_append_right, List.append_nil, exists_eq_left, exists_eq_left', exists_and_left, exists_eq_right, exists_and_right]
    exact ⟨rfl, g, B, K, rfl, P⟩
  have b2 : decide (((a + q * 2 - 1 + d : Nat) : Int) ≤ ((a + q * 2 + 1 : Nat) : Int)) = true := decide_eq_true (by omega)
  have wd : IntKind.i64.wrap (((a + q * 2 - 1 + d : Nat) : Int) + 1) = ((a + q * 2 - 1 + (d + 1) : Nat) : Int) := by rw [wrap64 (by omega) (by omega)]; omega
  obtain ⟨r, h2, z, hm, l2, K2, C2, y, rfl, rfl⟩ := next_m (n0 := n0) C h0 hn1
  have B2 : Fs n0 h2 v c 6 n g := B.mono fun id' ep o hid ho => K2.2 id' ep o (fun e => hne (e ▸ hid)) ho
  have K2' : Kp v H h2 := ⟨Nat.le_trans K.1 K2.1, fun id ep o hid ho => K2.2 id ep o (fun e => by have := rd_lt ho; omega) (K.2 id ep o hid ho)⟩
  obtain ⟨o, hand, ho⟩ := and_le y (m := M - 1) (by unfold M64; omega)
  have wo : IntKind.i64.wrap (o : Int) = (o : Int) := wrap64 (by omega) (by omega)
  generalize hidx : a + q * 2 - 1 + d = idx at *
  have oi := B2.ok (kk := .i64) (i := idx) (by omega)
  have di := Fs.ldE L he B2 (kk := .i64) (i := idx) (by omega)
  by_cases c2 : l ≤ o
  · have b3 : decide ((l : Int) ≤ (o : Int)) = true := decide_eq_true (by omega)
    have ws : IntKind.i64.wrap ((o : Int) - (l : Int)) = ((o - l : Nat) : Int) := by rw [wrap64 (by omega) (by omega)]; omega
    have wx : IntKind.i64.wrap ((a : Int) + ((o - l : Nat) : Int)) = ((a + (o - l) : Nat) : Int) := by rw [wrap64 (by omega) (by omega)]; omega
    have oj := B2.ok (kk := .i64) (i := a + (o - l)) (by omega)
    have dj := Fs.ldE L he B2 (kk := .i64) (i := a + (o - l)) (by omega)
    obtain ⟨s1, s2, B', K', hlen⟩ := B2.sw L (kk := .i64) (i := idx) (j := a + (o - l)) (by omega) (by omega)
    simp (config := {maxSteps := 4000000}) only [e0, e1, e6, e7, e8, e9, w2, w4, w7, w9, b2, rg_callm, mcallV_fn, hm, wm, hand, wo, b3, ws, wx, oi, oj, isPtr_idx oi, isPtr_idx oj, di, dj, s1, s2, wd, SS, bne_self_eq_false, wr_def, obOf, List.all_cons, List.all_nil, List.map_cons, List.map_nil, List.length_cons, List.length_nil, List.take_zero, List.take_succ_cons, List.take_nil, List.drop_zero, List.drop_succ_cons, List.drop_nil, Nat.reduceAdd, Nat.reduceMul, Nat.reduceSub, if_true, Nat.reduceLT, Nat.reduceLeDiff, ite_true, ite_false, Nat.reduceEqDiff, if_false, reduceCtorEq, ne_eq, List.getD, List.getElem?_cons_zero, List.getElem?_cons_succ, Option.getD_some, Option.bind_some, Option.map_some, Option.isSome_some, reduceIte, List.length_append, List.append_assoc, List.cons_append, List.nil_append, Option.some.injEq, forall_const, implies_true, Int.reduceNeg, eq_self, Prod.mk.injEq, List.self_eq_append_right, List.append_nil, exists_eq_left, exists_eq_left', exists_and_left, exists_eq_right, exists_and_right]
    exact ⟨_, by omega, d + 1, rfl, by omega, rfl, _, B', K2'.trans K', P.sw (by omega) (by omega) (by omega) (by omega), y, K'.2 _ _ _ hne C2⟩
  · have b3 : decide ((l : Int) ≤ (o : Int)) = false := decide_eq_false (by omega)
    have wx : IntKind.i64.wrap ((a : Int) + (o : Int)) = ((a + o : Nat) : Int) := by rw [wrap64 (by omega) (by omega)]; omega
    have oj := B2.ok (kk := .i64) (i := a + o) (by omega)
    have dj := Fs.ldE L he B2 (kk := .i64) (i := a + o) (by omega)
    obtain ⟨s1, s2, B', K', hlen⟩ := B2.sw L (kk := .i64) (i := idx) (j := a + o) (by omega) (by omega)
    simp (config := {maxSteps := 4000000}) only [e0, e1, e6, e7, e8, e9, w2, w4, w7, w9, b2, rg_callm, mcallV_fn, hm, wm, hand, wo, b3, wx, oi, oj, isPtr_idx oi, isPtr_idx oj, di, dj, s1, s2, wd, SS, bne_self_eq_false, wr_def, obOf, List.all_cons, List.all_nil, List.map_cons, List.map_nil, List.length_cons, List.length_nil, List.take_zero, List.take_succ_cons, List.take_nil, List.drop_zero, List.drop_succ_cons, List.drop_nil, Nat.reduceAdd, Nat.reduceMul, Nat.reduceSub, if_true, Nat.reduceLT, Nat.reduceLeDiff, ite_true, ite_false, Nat.reduceEqDiff, if_false, reduceCtorEq, ne_eq, List.getD, List.getElem?_cons_zero, List.getElem?_cons_succ, Option.getD_some, Option.bind_some, Option.map_some, Option.isSome_some, reduceIte, List.length_append, List.append_assoc, List.cons_append, List.nil_append, Option.some.injEq, forall_const, implies_true, Int.reduceNeg, eq_self, Prod.mk.injEq, List.self_eq_append_right, List.append_nil, exists_eq_left, exists_eq_left', exists_and_left, exists_eq_right, exists_and_right]
    exact ⟨_, by omega, d + 1, rfl, by omega, rfl, _, B', K2'.trans K', P.sw (by omega) (by omega) (by omega) (by omega), y, K'.2 _ _ _ hne C2⟩
end
end Go.Proofs.Ytaekgifbehoipaa.So.KL
/- Sorting as the library does it (kind L): the whole. Conditions stand in each lemma. -/
namespace Go.Proofs.Ytaekgifbehoipaa.So.KL
open Go Go.Proofs.Ytaekgifbehoipaa.Eva Go.Proofs.Ytaekgifbehoipaa.CodeAll Go.Proofs.Ytaekgifbehoipaa.So Go.Proofs.Ytaekgifbehoipaa.Fl
set_option linter.unusedVariables false
set_option linter.unusedSimpArgs false
set_option maxRecDepth 10000
set_option maxHeartbeats 4000000

section
variable {α : Type} {c : α → List AV} {e : α → AV} {lt : α → α → Bool} {KC : AV} {q : α → α → Int} (X : Ctx c e lt KC q)
include X

theorem pdq_m {n0 n : Nat} {v : AV} (hn : n ≤ 1125899906842624) : ∀ (m a b : Nat) (H : List Ob) (f : Nat → α) (lim : Int), b - a ≤ m → a ≤ b → b ≤ n → Fs n0 H v c 6 n f → n0 ≤ H.length → Low lt a b f →
    ∃ r h2 g, mcall E n0 112 [v, .int .i64 (a : Int), .int .i64 (b : Int), .int .i64 lim, KC] H = some (r, h2) ∧ n0 ≤ h2.length ∧ Fs n0 h2 v c 6 n g ∧ Kp v H h2 ∧ r = .tup [] ∧ Per a b f g ∧ Srt lt a b g := by
  intro m
  induction m using Nat.strongRecOn with
  | _ m ih =>
  intro a b H f lim hm hab hb A h0 hlow
  have XX := X
  obtain ⟨L, O, he, hcmp, hq⟩ := X
  refine row_call (P := fun r g => r = .tup [] ∧ Per a b f g ∧ Srt lt a b g) e112 rfl (Nat.le_of_ble_eq_true rfl) h0 A ?_
  simp (config := {maxSteps := 4000000}) only [c112, SS, bne_self_eq_false, wr_def, obOf, List.all_cons, List.all_nil, List.map_cons, List.map_nil, List.length_cons, List.length_nil, List.take_zero, List.take_succ_cons, List.take_nil, List.drop_zero, List.drop_succ_cons, List.drop_nil, Nat.reduceAdd, Nat.reduceMul, Nat.reduceSub, if_true, Nat.reduceLT, Nat.reduceLeDiff, ite_true, ite_false, Nat.reduceEqDiff, if_false, reduceCtorEq, ne_eq, List.getD, List.getElem?_cons_zero, List.getElem?_cons_succ, Option.getD_some, Option.bind_some, Option.map_some, Option.isSome_some, reduceIte, List.length_append, List.append_assoc, List.cons_append, List.nil_append, Option.some.injEq, forall_const, implies_true, Int.reduceNeg, eq_self, Prod.mk.injEq, List.self_eq_append_right, List.append_nil, exists_eq_left, exists_eq_left', exists_and_left, exists_eq_right, exists_and_right]
  refine W_loopW (fun k f1 h1 => ∃ a' b' : Nat, k = b' - a' ∧ a ≤ a' ∧ a' ≤ b' ∧ b' ≤ b ∧ f1 0 = v ∧ f1 1 = .int .i64 (a' : Int) ∧ f1 2 = .int .i64 (b' : Int) ∧ f1 4 = KC ∧ (∃ lm, f1 3 = .int .i64 lm) ∧ (∃ t, f1 10 = .bool t) ∧ (∃ t, f1 11 = .bool t) ∧ ∃ g, Pd lt c 6 n n0 v H h1 f a b a' b' g) h0 _ ⟨a, b, rfl, Nat.le_refl _, hab, Nat.le_refl _, rfl, rfl, rfl, rfl, ⟨lim, rfl⟩, ⟨true, rfl⟩, ⟨true, rfl⟩, f, A, Kp.refl, .rfl, hlow, fun g' _ h => h⟩ ?_
  rintro k f1 h1 hn1 ht ⟨a', b', rfl, ha', hab', hb', e0, e1, e2, e4, ⟨lm, e3⟩, ⟨t8, e8⟩, ⟨t9, e9⟩, g, S⟩
  have wl : IntKind.i64.wrap ((b' : Int) - (a' : Int)) = ((b' - a' : Nat) : Int) := by rw [wrap64 (by omega) (by omega)]; omega
  by_cases c1 : b' - a' ≤ 12
  · have b1 : decide (((b' - a' : Nat) : Int) ≤ 12) = true := decide_eq_true (by omega)
    obtain ⟨r, h2, g2, m2, l2, B2, K2, rfl, P2, S2⟩ := ins_m XX (a := a') (b := b') S.B hn1 (by omega) hn (by omega)
    refine wc_sound _ _ _ _ hn1 ?_
    simp (config := {maxSteps := 8000000}) only [e0, e1, e2, e4, e3, e8, e9, wl, b1, rg_callm, mcallV_fn, m2, SS, bne_self_eq_false, wr_def, obOf, List.all_cons, List.all_nil, List.map_cons, List.map_nil, List.length_cons, List.length_nil, List.take_zero, List.take_succ_cons, List.take_nil, List.drop_zero, List.drop_succ_cons, List.drop_nil, Nat.reduceAdd, Nat.reduceMul, Nat.reduceSub, if_true, Nat.reduceLT, Nat.reduceLeDiff, ite_true, ite_false, Nat.reduceEqDiff, if_false, reduceCtorEq, ne_eq, List.getD, List.getElem?_cons_zero, List.getElem?_cons_succ, Option.getD_some, Option.bind_some, Option.map_some, Option.isSome_some, reduceIte, List.length_append, List.append_assoc, List.cons_append, List.nil_append, Option.some.injEq, forall_const, implies_true, Int.reduceNeg, eq_self, Prod.mk.injEq, List.self_eq_append_right, List.append_nil, exists_eq_left, exists_eq_left', exists_and_left, exists_eq_right, exists_and_right]
    exact ⟨rfl, g2, B2, S.K.trans K2, rfl, S.P.trans (P2.mono ha' hb'), S.J _ P2 S2⟩
  have b1 : decide (((b' - a' : Nat) : Int) ≤ 12) = false := decide_eq_false (by omega)
  by_cases c2 : lm = 0
  · have b2 : (lm == 0) = true := by rw [beq_iff_eq]; exact c2
    obtain ⟨r, h2, g2, m2, l2, B2, K2, rfl, P2, S2⟩ := heap_m XX (a := a') (b := b') S.B hn1 (by omega) hn (by omega)
    refine wc_sound _ _ _ _ hn1 ?_
    simp (config := {maxSteps := 8000000}) only [e0, e1, e2, e4, e3, e8, e9, wl, b1, b2, rg_callm, mcallV_fn, m2, SS, bne_self_eq_false, wr_def, obOf, List.all_cons, List.all_nil, List.map_cons, List.map_nil, List.length_cons, List.length_nil, List.take_zero, List.take_succ_cons, List.take_nil, List.drop_zero, List.drop_succ_cons, List.drop_nil, Nat.reduceAdd, Nat.reduceMul, Nat.reduceSub, if_true, Nat.reduceLT, Nat.reduceLeDiff, ite_true, ite_false, Nat.reduceEqDiff, if_false, reduceCtorEq, ne_eq, List.getD, List.getElem?_cons_zero, List.getElem?_cons_succ, Option.getD_some, Option.bind_some, Option.map_some, Option.isSome_some, reduceIte, List.length_append, List.append_assoc, List.cons_append, List.nil_append, Option.some.injEq, forall_const, implies_true, Int.reduceNeg, eq_self, Prod.mk.injEq, List.self_eq_append_right, List.append_nil, exists_eq_left, exists_eq_left', exists_and_left, exists_eq_right, exists_and_right]
    exact ⟨rfl, g2, B2, S.K.trans K2, rfl, S.P.trans (P2.mono ha' hb'), S.J _ P2 S2⟩
  have b2 : (lm == 0) = false := by rw [beq_eq_false_iff_ne]; exact c2
  refine W_blkI (W_seqI (W.mono (Q := fun ex f2 h2 => ex = .nrm ∧ h2 = h1 ∧ f2 3 = .int .i64 lm ∧ f2 0 = v ∧ f2 1 = .int .i64 (a' : Int) ∧ f2 2 = .int .i64 (b' : Int) ∧ f2 4 = KC ∧ (∃ lm, f2 3 = .int .i64 lm) ∧ (∃ t, f2 10 = .bool t) ∧ (∃ t, f2 11 = .bool t) ∧ f2 12 = .int .i64 ((b' - a' : Nat) : Int)) (wc_sound _ _ _ _ hn1 ?_) ?_))
  · simp (config := {maxSteps := 8000000}) only [e0, e1, e2, e4, e3, e8, e9, wl, SS, bne_self_eq_false, wr_def, obOf, List.all_cons, List.all_nil, List.map_cons, List.map_nil, List.length_cons, List.length_nil, List.take_zero, List.take_succ_cons, List.take_nil, List.drop_zero, List.drop_succ_cons, List.drop_nil, Nat.reduceAdd, Nat.reduceMul, Nat.reduceSub, if_true, Nat.reduceLT, Nat.reduceLeDiff, ite_true, ite_false, Nat.reduceEqDiff, if_false, reduceCtorEq, ne_eq, List.getD, List.getElem?_cons_zero, List.getElem?_cons_succ, Option.getD_some, Option.bind_some, Option.map_some, Option.isSome_some, reduceIte, List.length_append, List.append_assoc, List.cons_append, List.nil_append, Option.some.injEq, forall_const, implies_true, Int.reduceNeg, eq_self, Prod.mk.injEq, List.self_eq_append_right, List.append_nil, exists_eq_left, exists_eq_left', exists_and_left, exists_eq_right, exists_and_right]
    exact ⟨⟨lm, rfl⟩, ⟨t8, rfl⟩, t9, rfl⟩
  clear e0 e1 e2 e4 e3 e8 e9
  rintro ex f2 h2 hn2 ht2 ⟨rfl, rfl, e3, e0, e1, e2, e4, -, ⟨t8, e8⟩, ⟨t9, e9⟩, e10⟩
  rw [thenQ_n]
  refine W_seqI (W.mono (Q := fun ex f2 h => ex = .nrm ∧ h = h2 ∧ f2 3 = .int .i64 lm ∧ f2 0 = v ∧ f2 1 = .int .i64 (a' : Int) ∧ f2 2 = .int .i64 (b' : Int) ∧ f2 4 = KC ∧ (∃ lm, f2 3 = .int .i64 lm) ∧ (∃ t, f2 10 = .bool t) ∧ (∃ t, f2 11 = .bool t) ∧ f2 12 = .int .i64 ((b' - a' : Nat) : Int)) (wc_sound _ _ _ _ hn2 ?_) ?_)
  · simp (config := {maxSteps := 8000000}) only [e0, e1, e2, e4, e3, e8, e9, e10, b1, SS, bne_self_eq_false, wr_def, obOf, List.all_cons, List.all_nil, List.map_cons, List.map_nil, List.length_cons, List.length_nil, List.take_zero, List.take_succ_cons, List.take_nil, List.drop_zero, List.drop_succ_cons, List.drop_nil, Nat.reduceAdd, Nat.reduceMul, Nat.reduceSub, if_true, Nat.reduceLT, Nat.reduceLeDiff, ite_true, ite_false, Nat.reduceEqDiff, if_false, reduceCtorEq, ne_eq, List.getD, List.getElem?_cons_zero, List.getElem?_cons_succ, Option.getD_some, Option.bind_some, Option.map_some, Option.isSome_some, reduceIte, List.length_append, List.append_assoc, List.cons_append, List.nil_append, Option.some.injEq, forall_const, implies_true, Int.reduceNeg, eq_self, Prod.mk.injEq, List.self_eq_append_right, List.append_nil, exists_eq_left, exists_eq_left', exists_and_left, exists_eq_right, exists_and_right]
    exact ⟨⟨lm, rfl⟩, ⟨t8, rfl⟩, t9, rfl⟩
  clear e0 e1 e2 e4 e3 e8 e9 e10
  rintro ex f2 h2' hn2' ht2' ⟨rfl, rfl, e3, e0, e1, e2, e4, -, ⟨t8, e8⟩, ⟨t9, e9⟩, e10⟩
  rw [thenQ_n]
  refine W_seqI (W.mono (Q := fun ex f2 h => ex = .nrm ∧ h = h2' ∧ f2 0 = v ∧ f2 1 = .int .i64 (a' : Int) ∧ f2 2 = .int .i64 (b' : Int) ∧ f2 4 = KC ∧ (∃ lm, f2 3 = .int .i64 lm) ∧ (∃ t, f2 10 = .bool t) ∧ (∃ t, f2 11 = .bool t) ∧ f2 12 = .int .i64 ((b' - a' : Nat) : Int)) (wc_sound _ _ _ _ hn2 ?_) ?_)
  · simp (config := {maxSteps := 8000000}) only [e0, e1, e2, e4, e3, e8, e9, e10, b2, SS, bne_self_eq_false, wr_def, obOf, List.all_cons, List.all_nil, List.map_cons, List.map_nil, List.length_cons, List.length_nil, List.take_zero, List.take_succ_cons, List.take_nil, List.drop_zero, List.drop_succ_cons, List.drop_nil, Nat.reduceAdd, Nat.reduceMul, Nat.reduceSub, if_true, Nat.reduceLT, Nat.reduceLeDiff, ite_true, ite_false, Nat.reduceEqDiff, if_false, reduceCtorEq, ne_eq, List.getD, List.getElem?_cons_zero, List.getElem?_cons_succ, Option.getD_some, Option.bind_some, Option.map_some, Option.isSome_some, reduceIte, List.length_append, List.append_assoc, List.cons_append, List.nil_append, Option.some.injEq, forall_const, implies_true, Int.reduceNeg, eq_self, Prod.mk.injEq, List.self_eq_append_right, List.append_nil, exists_eq_left, exists_eq_left', exists_and_left, exists_eq_right, exists_and_right]
    exact ⟨⟨lm, rfl⟩, ⟨t8, rfl⟩, t9, rfl⟩
  clear e0 e1 e2 e4 e3 e8 e9 e10 c2 b2
  clear lm
  rintro ex f2 h2 hn2 ht2 ⟨rfl, rfl, e0, e1, e2, e4, ⟨lm, e3⟩, ⟨t8, e8⟩, ⟨t9, e9⟩, e10⟩
  rw [thenQ_n]
  -- patterns are broken
  refine W_seqI (W.mono (Q := fun ex f2 h => ex = .nrm ∧ f2 0 = v ∧ f2 1 = .int .i64 (a' : Int) ∧ f2 2 = .int .i64 (b' : Int) ∧ f2 4 = KC ∧ (∃ lm, f2 3 = .int .i64 lm) ∧ (∃ t, f2 10 = .bool t) ∧ (∃ t, f2 11 = .bool t) ∧ f2 12 = .int .i64 ((b' - a' : Nat) : Int) ∧ ∃ g, Pd lt c 6 n n0 v H h f a b a' b' g) (wc_sound _ _ _ _ hn2 ?_) ?_)
  · cases t8
    · obtain ⟨r, h3, g2, m2, l2, B2, K2, rfl, P2⟩ := brk_m XX (a := a') (b := b') S.B hn2 (by omega) hn (by omega)
      simp (config := {maxSteps := 8000000}) only [e0, e1, e2, e4, e3, e8, e9, e10, rg_callm, mcallV_fn, m2, SS, bne_self_eq_false, wr_def, obOf, List.all_cons, List.all_nil, List.map_cons, List.map_nil, List.length_cons, List.length_nil, List.take_zero, List.take_succ_cons, List.take_nil, List.drop_zero, List.drop_succ_cons, List.drop_nil, Nat.reduceAdd, Nat.reduceMul, Nat.reduceSub, if_true, Nat.reduceLT, Nat.reduceLeDiff, ite_true, ite_false, Nat.reduceEqDiff, if_false, reduceCtorEq, ne_eq, List.getD, List.getElem?_cons_zero, List.getElem?_cons_succ, Option.getD_some, Option.bind_some, Option.map_some, Option.isSome_some, reduceIte, List.length_append, List.append_assoc, List.cons_append, List.nil_append, Option.some.injEq, forall_const, implies_true, Int.reduceNeg, eq_self, Prod.mk.injEq, List.self_eq_append_right, List.append_nil, exists_eq_left, exists_eq_left', exists_and_left, exists_eq_right, exists_and_right]
      exact ⟨⟨_, rfl⟩, ⟨_, rfl⟩, ⟨t9, rfl⟩, g2, S.step ha' hb' B2 K2 P2⟩
    · simp (config := {maxSteps := 8000000}) only [e0, e1, e2, e4, e3, e8, e9, e10, SS, bne_self_eq_false, wr_def, obOf, List.all_cons, List.all_nil, List.map_cons, List.map_nil, List.length_cons, List.length_nil, List.take_zero, List.take_succ_cons, List.take_nil, List.drop_zero, List.drop_succ_cons, List.drop_nil, Nat.reduceAdd, Nat.reduceMul, Nat.reduceSub, if_true, Nat.reduceLT, Nat.reduceLeDiff, ite_true, ite_false, Nat.reduceEqDiff, if_false, reduceCtorEq, ne_eq, List.getD, List.getElem?_cons_zero, List.getElem?_cons_succ, Option.getD_some, Option.bind_some, Option.map_some, Option.isSome_some, reduceIte, List.length_append, List.append_assoc, List.cons_append, List.nil_append, Option.some.injEq, forall_const, implies_true, Int.reduceNeg, eq_self, Prod.mk.injEq, List.self_eq_append_right, List.append_nil, exists_eq_left, exists_eq_left', exists_and_left, exists_eq_right, exists_and_right]
      exact ⟨⟨_, rfl⟩, ⟨_, rfl⟩, ⟨t9, rfl⟩, g, S⟩
  clear e0 e1 e2 e4 e3 e8 e9 e10 S hn1 hn2 hn2' ht ht2 ht2'
  clear lm t8 t9 g
  rintro ex f2 h2 hn2 ht2 ⟨rfl, e0, e1, e2, e4, ⟨lm, e3⟩, ⟨t8, e8⟩, ⟨t9, e9⟩, e10, g, S⟩
  rw [thenQ_n]
  -- the pivot
  obtain ⟨p, t, hp1, hp2, hpc⟩ := piv_pc XX (a := a') (b := b') S.B hn2 (by omega) hn (by omega)
  refine W_seqI (W.mono (Q := fun ex f3 h => ex = .nrm ∧ h = h2 ∧ f3 0 = v ∧ f3 1 = .int .i64 (a' : Int) ∧ f3 2 = .int .i64 (b' : Int) ∧ f3 4 = KC ∧ (∃ lm, f3 3 = .int .i64 lm) ∧ (∃ t, f3 10 = .bool t) ∧ (∃ t, f3 11 = .bool t) ∧ f3 12 = .int .i64 ((b' - a' : Nat) : Int) ∧ f3 13 = .int .i64 (p : Int) ∧ f3 14 = .int .i64 t) (wc_sound _ _ _ _ hn2 ?_) ?_)
  · simp (config := {maxSteps := 8000000}) only [e0, e1, e2, e4, e3, e8, e9, e10, hpc, hn2, SS, bne_self_eq_false, wr_def, obOf, List.all_cons, List.all_nil, List.map_cons, List.map_nil, List.length_cons, List.length_nil, List.take_zero, List.take_succ_cons, List.take_nil, List.drop_zero, List.drop_succ_cons, List.drop_nil, Nat.reduceAdd, Nat.reduceMul, Nat.reduceSub, if_true, Nat.reduceLT, Nat.reduceLeDiff, ite_true, ite_false, Nat.reduceEqDiff, if_false, reduceCtorEq, ne_eq, List.getD, List.getElem?_cons_zero, List.getElem?_cons_succ, Option.getD_some, Option.bind_some, Option.map_some, Option.isSome_some, reduceIte, List.length_append, List.append_assoc, List.cons_append, List.nil_append, Option.some.injEq, forall_const, implies_true, Int.reduceNeg, eq_self, Prod.mk.injEq, List.self_eq_append_right, List.append_nil, exists_eq_left, exists_eq_left', exists_and_left, exists_eq_right, exists_and_right]
    exact ⟨⟨_, rfl⟩, ⟨_, rfl⟩, _, rfl⟩
  clear e0 e1 e2 e4 e3 e8 e9 e10 hpc
  clear lm t8 t9
  rintro ex f3 h3 hn3 ht3 ⟨rfl, rfl, e0, e1, e2, e4, ⟨lm, e3⟩, ⟨t8, e8⟩, ⟨t9, e9⟩, e10, e11, e12⟩
  rw [thenQ_n]
  -- turned round
  refine W_seqI (W.mono (Q := fun ex f3 h => ex = .nrm ∧ f3 0 = v ∧ f3 1 = .int .i64 (a' : Int) ∧ f3 2 = .int .i64 (b' : Int) ∧ f3 4 = KC ∧ (∃ lm, f3 3 = .int .i64 lm) ∧ (∃ t, f3 10 = .bool t) ∧ (∃ t, f3 11 = .bool t) ∧ f3 12 = .int .i64 ((b' - a' : Nat) : Int) ∧ (∃ p : Nat, a' ≤ p ∧ p < b' ∧ f3 13 = .int .i64 (p : Int)) ∧ (∃ t, f3 14 = .int .i64 t) ∧ ∃ g, Pd lt c 6 n n0 v H h f a b a' b' g) (wc_sound _ _ _ _ hn3 ?_) ?_)
  · by_cases c3 : t = 2
    · have b3 : (t == 2) = true := by rw [beq_iff_eq]; exact c3
      obtain ⟨r, h4, g2, m2, l2, B2, K2, rfl, P2⟩ := rev_m XX (a := a') (b := b') S.B hn3 (by omega) hn (by omega)
      have x1 : IntKind.i64.wrap ((b' : Int) - 1) = ((b' - 1 : Nat) : Int) := by rw [wrap64 (by omega) (by omega)]; omega
      have x2 : IntKind.i64.wrap ((p : Int) - (a' : Int)) = ((p - a' : Nat) : Int) := by rw [wrap64 (by omega) (by omega)]; omega
      have x3 : IntKind.i64.wrap (((b' - 1 : Nat) : Int) - ((p - a' : Nat) : Int)) = ((b' - 1 - (p - a') : Nat) : Int) := by rw [wrap64 (by omega) (by omega)]; omega
      simp (config := {maxSteps := 8000000}) only [e0, e1, e2, e4, e3, e8, e9, e10, e11, e12, b3, x1, x2, x3, rg_callm, mcallV_fn, m2, SS, bne_self_eq_false, wr_def, obOf, List.all_cons, List.all_nil, List.map_cons, List.map_nil, List.length_cons, List.length_nil, List.take_zero, List.take_succ_cons, List.take_nil, List.drop_zero, List.drop_succ_cons, List.drop_nil, Nat.reduceAdd, Nat.reduceMul, Nat.reduceSub, if_true, Nat.reduceLT, Nat.reduceLeDiff, ite_true, ite_false, Nat.reduceEqDiff, if_false, reduceCtorEq, ne_eq, List.getD, List.getElem?_cons_zero, List.getElem?_cons_succ, Option.getD_some, Option.bind_some, Option.map_some, Option.isSome_some, reduceIte, List.length_append, List.append_assoc, List.cons_append, List.nil_append, Option.some.injEq, forall_const, implies_true, Int.reduceNeg, eq_self, Prod.mk.injEq, List.self_eq_append_right, List.append_nil, exists_eq_left, exists_eq_left', exists_and_left, exists_eq_right, exists_and_right]
      exact ⟨⟨_, rfl⟩, ⟨_, rfl⟩, ⟨_, rfl⟩, ⟨b' - 1 - (p - a'), by omega, by omega, rfl⟩, ⟨_, rfl⟩, g2, S.step ha' hb' B2 K2 P2⟩
    · have b3 : (t == 2) = false := by rw [beq_eq_false_iff_ne]; exact c3
      simp (config := {maxSteps := 8000000}) only [e0, e1, e2, e4, e3, e8, e9, e10, e11, e12, b3, SS, bne_self_eq_false, wr_def, obOf, List.all_cons, List.all_nil, List.map_cons, List.map_nil, List.length_cons, List.length_nil, List.take_zero, List.take_succ_cons, List.take_nil, List.drop_zero, List.drop_succ_cons, List.drop_nil, Nat.reduceAdd, Nat.reduceMul, Nat.reduceSub, if_true, Nat.reduceLT, Nat.reduceLeDiff, ite_true, ite_false, Nat.reduceEqDiff, if_false, reduceCtorEq, ne_eq, List.getD, List.getElem?_cons_zero, List.getElem?_cons_succ, Option.getD_some, Option.bind_some, Option.map_some, Option.isSome_some, reduceIte, List.length_append, List.append_assoc, List.cons_append, List.nil_append, Option.some.injEq, forall_const, implies_true, Int.reduceNeg, eq_self, Prod.mk.injEq, List.self_eq_append_right, List.append_nil, exists_eq_left, exists_eq_left', exists_and_left, exists_eq_right, exists_and_right]
      exact ⟨⟨_, rfl⟩, ⟨_, rfl⟩, ⟨_, rfl⟩, ⟨p, hp1, hp2, rfl⟩, ⟨_, rfl⟩, g, S⟩
  clear e0 e1 e2 e4 e3 e8 e9 e10 e11 e12 S hp1 hp2 hn2 ht2 ht3 hn3
  clear lm t8 t9 t p g
  rintro ex f3 h3 hn3 ht3 ⟨rfl, e0, e1, e2, e4, ⟨lm, e3⟩, ⟨t8, e8⟩, ⟨t9, e9⟩, e10, ⟨p, hp1, hp2, e11⟩, ⟨t, e12⟩, g, S⟩
  rw [thenQ_n]
  -- nearly sorted
  refine W_seqI (W.mono (Q := fun ex f3 h => (ex = .rt ∧ ∃ g, Fs n0 h v c 6 n g ∧ Kp v H h ∧ Per a b f g ∧ Srt lt a b g) ∨ (ex = .nrm ∧ f3 0 = v ∧ f3 1 = .int .i64 (a' : Int) ∧ f3 2 = .int .i64 (b' : Int) ∧ f3 4 = KC ∧ (∃ lm, f3 3 = .int .i64 lm) ∧ (∃ t, f3 10 = .bool t) ∧ (∃ t, f3 11 = .bool t) ∧ f3 12 = .int .i64 ((b' - a' : Nat) : Int) ∧ f3 13 = .int .i64 (p : Int) ∧ ∃ g, Pd lt c 6 n n0 v H h f a b a' b' g)) (wc_sound _ _ _ _ hn3 ?_) ?_)
  · cases t8
    · simp (config := {maxSteps := 8000000}) only [e0, e1, e2, e4, e3, e8, e9, e10, e11, e12, SS, bne_self_eq_false, wr_def, obOf, List.all_cons, List.all_nil, List.map_cons, List.map_nil, List.length_cons, List.length_nil, List.take_zero, List.take_succ_cons, List.take_nil, List.drop_zero, List.drop_succ_cons, List.drop_nil, Nat.reduceAdd, Nat.reduceMul, Nat.reduceSub, if_true, Nat.reduceLT, Nat.reduceLeDiff, ite_true, ite_false, Nat.reduceEqDiff, if_false, reduceCtorEq, ne_eq, List.getD, List.getElem?_cons_zero, List.getElem?_cons_succ, Option.getD_some, Option.bind_some, Option.map_some, Option.isSome_some, reduceIte, List.length_append, List.append_assoc, List.cons_append, List.nil_append, Option.some.injEq, forall_const, implies_true, Int.reduceNeg, eq_self, Prod.mk.injEq, List.self_eq_append_right, List.append_nil, exists_eq_left, exists_eq_left', exists_and_left, exists_eq_right, exists_and_right]
      exact Or.inr ⟨⟨_, rfl⟩, ⟨_, rfl⟩, ⟨_, rfl⟩, g, S⟩
    · cases t9
      · simp (config := {maxSteps := 8000000}) only [e0, e1, e2, e4, e3, e8, e9, e10, e11, e12, SS, bne_self_eq_false, wr_def, obOf, List.all_cons, List.all_nil, List.map_cons, List.map_nil, List.length_cons, List.length_nil, List.take_zero, List.take_succ_cons, List.take_nil, List.drop_zero, List.drop_succ_cons, List.drop_nil, Nat.reduceAdd, Nat.reduceMul, Nat.reduceSub, if_true, Nat.reduceLT, Nat.reduceLeDiff, ite_true, ite_false, Nat.reduceEqDiff, if_false, reduceCtorEq, ne_eq, List.getD, List.getElem?_cons_zero, List.getElem?_cons_succ, Option.getD_some, Option.bind_some, Option.map_some, Option.isSome_some, reduceIte, List.length_append, List.append_assoc, List.cons_append, List.nil_append, Option.some.injEq, forall_const, implies_true, Int.reduceNeg, eq_self, Prod.mk.injEq, List.self_eq_append_right, List.append_nil, exists_eq_left, exists_eq_left', exists_and_left, exists_eq_right, exists_and_right]
        exact Or.inr ⟨⟨_, rfl⟩, ⟨_, rfl⟩, ⟨_, rfl⟩, g, S⟩
      · by_cases c3 : t = 1
        · have b3 : (t == 1) = true := by rw [beq_iff_eq]; exact c3
          obtain ⟨r, h4, g2, m2, l2, B2, K2, s, rfl, P2, S2⟩ := pins_m XX (a := a') (b := b') S.B hn3 (by omega) hn (by omega) S.Lw
          cases s
          · simp (config := {maxSteps := 8000000}) only [e0, e1, e2, e4, e3, e8, e9, e10, e11, e12, b3, rg_callm, mcallV_fn, m2, SS, bne_self_eq_false, wr_def, obOf, List.all_cons, List.all_nil, List.map_cons, List.map_nil, List.length_cons, List.length_nil, List.take_zero, List.take_succ_cons, List.take_nil, List.drop_zero, List.drop_succ_cons, List.drop_nil, Nat.reduceAdd, Nat.reduceMul, Nat.reduceSub, if_true, Nat.reduceLT, Nat.reduceLeDiff, ite_true, ite_false, Nat.reduceEqDiff, if_false, reduceCtorEq, ne_eq, List.getD, List.getElem?_cons_zero, List.getElem?_cons_succ, Option.getD_some, Option.bind_some, Option.map_some, Option.isSome_some, reduceIte, List.length_append, List.append_assoc, List.cons_append, List.nil_append, Option.some.injEq, forall_const, implies_true, Int.reduceNeg, eq_self, Prod.mk.injEq, List.self_eq_append_right, List.append_nil, exists_eq_left, exists_eq_left', exists_and_left, exists_eq_right, exists_and_right]
            exact Or.inr ⟨⟨_, rfl⟩, ⟨_, rfl⟩, ⟨_, rfl⟩, g2, S.step ha' hb' B2 K2 P2⟩
          · simp (config := {maxSteps := 8000000}) only [e0, e1, e2, e4, e3, e8, e9, e10, e11, e12, b3, rg_callm, mcallV_fn, m2, SS, bne_self_eq_false, wr_def, obOf, List.all_cons, List.all_nil, List.map_cons, List.map_nil, List.length_cons, List.length_nil, List.take_zero, List.take_succ_cons, List.take_nil, List.drop_zero, List.drop_succ_cons, List.drop_nil, Nat.reduceAdd, Nat.reduceMul, Nat.reduceSub, if_true, Nat.reduceLT, Nat.reduceLeDiff, ite_true, ite_false, Nat.reduceEqDiff, if_false, reduceCtorEq, ne_eq, List.getD, List.getElem?_cons_zero, List.getElem?_cons_succ, Option.getD_some, Option.bind_some, Option.map_some, Option.isSome_some, reduceIte, List.length_append, List.append_assoc, List.cons_append, List.nil_append, Option.some.injEq, forall_const, implies_true, Int.reduceNeg, eq_self, Prod.mk.injEq, List.self_eq_append_right, List.append_nil, exists_eq_left, exists_eq_left', exists_and_left, exists_eq_right, exists_and_right]
            exact Or.inl ⟨g2, B2, S.K.trans K2, S.P.trans (P2.mono ha' hb'), S.J _ P2 (S2 rfl)⟩
        · have b3 : (t == 1) = false := by rw [beq_eq_false_iff_ne]; exact c3
          simp (config := {maxSteps := 8000000}) only [e0, e1, e2, e4, e3, e8, e9, e10, e11, e12, b3, SS, bne_self_eq_false, wr_def, obOf, List.all_cons, List.all_nil, List.map_cons, List.map_nil, List.length_cons, List.length_nil, List.take_zero, List.take_succ_cons, List.take_nil, List.drop_zero, List.drop_succ_cons, List.drop_nil, Nat.reduceAdd, Nat.reduceMul, Nat.reduceSub, if_true, Nat.reduceLT, Nat.reduceLeDiff, ite_true, ite_false, Nat.reduceEqDiff, if_false, reduceCtorEq, ne_eq, List.getD, List.getElem?_cons_zero, List.getElem?_cons_succ, Option.getD_some, Option.bind_some, Option.map_some, Option.isSome_some, reduceIte, List.length_append, List.append_assoc, List.cons_append, List.nil_append, Option.some.injEq, forall_const, implies_true, Int.reduceNeg, eq_self, Prod.mk.injEq, List.self_eq_append_right, List.append_nil, exists_eq_left, exists_eq_left', exists_and_left, exists_eq_right, exists_and_right]
          exact Or.inr ⟨⟨_, rfl⟩, ⟨_, rfl⟩, ⟨_, rfl⟩, g, S⟩
  clear e0 e1 e2 e4 e3 e8 e9 e10 e11 e12 S hn3 ht3 ht2
  clear lm t8 t9 t g
  rintro ex f3 h3 hn3 ht3 (⟨rfl, g2, B2, K2, P2, S2⟩ | ⟨rfl, e0, e1, e2, e4, ⟨lm, e3⟩, ⟨t8, e8⟩, ⟨t9, e9⟩, e10, e11, g, S⟩)
  · simp only [SS, bne_self_eq_false, wr_def, obOf, List.all_cons, List.all_nil, List.map_cons, List.map_nil, List.length_cons, List.length_nil, List.take_zero, List.take_succ_cons, List.take_nil, List.drop_zero, List.drop_succ_cons, List.drop_nil, Nat.reduceAdd, Nat.reduceMul, Nat.reduceSub, if_true, Nat.reduceLT, Nat.reduceLeDiff, ite_true, ite_false, Nat.reduceEqDiff, if_false, reduceCtorEq, ne_eq, List.getD, List.getElem?_cons_zero, List.getElem?_cons_succ, Option.getD_some, Option.bind_some, Option.map_some, Option.isSome_some, reduceIte, List.length_append, List.append_assoc, List.cons_append, List.nil_append, Option.some.injEq, forall_const, implies_true, Int.reduceNeg, eq_self, Prod.mk.injEq, List.self_eq_append_right, List.append_nil, exists_eq_left, exists_eq_left', exists_and_left, exists_eq_right, exists_and_right]
    exact ⟨rfl, g2, B2, K2, rfl, P2, S2⟩
  rw [thenQ_n]
  have op := S.B.ok (kk := .i64) (i := p) (by omega)
  have dp := Fs.ldE L he S.B (kk := .i64) (i := p) (by omega)
  -- what equals the pivot
  refine W_seqI (W.mono (Q := fun ex f3 h => (ex = .ex 1 ∧ ∃ k, k < b' - a' ∧ ∃ a' b' : Nat, k = b' - a' ∧ a ≤ a' ∧ a' ≤ b' ∧ b' ≤ b ∧ f3 0 = v ∧ f3 1 = .int .i64 (a' : Int) ∧ f3 2 = .int .i64 (b' : Int) ∧ f3 4 = KC ∧ (∃ lm, f3 3 = .int .i64 lm) ∧ (∃ t, f3 10 = .bool t) ∧ (∃ t, f3 11 = .bool t) ∧ ∃ g, Pd lt c 6 n n0 v H h f a b a' b' g) ∨ (ex = .nrm ∧ h = h3 ∧ f3 0 = v ∧ f3 1 = .int .i64 (a' : Int) ∧ f3 2 = .int .i64 (b' : Int) ∧ f3 4 = KC ∧ (∃ lm, f3 3 = .int .i64 lm) ∧ (∃ t, f3 10 = .bool t) ∧ (∃ t, f3 11 = .bool t) ∧ f3 12 = .int .i64 ((b' - a' : Nat) : Int) ∧ f3 13 = .int .i64 (p : Int))) (wc_sound _ _ _ _ hn3 ?_) ?_)
  · by_cases c3 : 0 < a'
    · have b3 : decide ((0 : Int) < (a' : Int)) = true := decide_eq_true (by omega)
      have x1 : IntKind.i64.wrap ((a' : Int) - 1) = ((a' - 1 : Nat) : Int) := by rw [wrap64 (by omega) (by omega)]; omega
      have oa := S.B.ok (kk := .i64) (i := a' - 1) (by omega)
      have da := Fs.ldE L he S.B (kk := .i64) (i := a' - 1) (by omega)
      cases hl : lt (g (a' - 1)) (g p)
      · obtain ⟨r, h4, g2, m2, l2, B2, K2, i, rfl, hi1, hi2, P2, Q2, G2⟩ := peq_m XX (a := a') (b := b') (p := p) S.B hn3 (by omega) hn hp1 hp2
        have hmin : ∀ k, a' ≤ k → k < b' → lt (g k) (g p) = false := fun k k1 k2 => O.tr _ _ _ hl (S.Lw c3 k k1 k2)
        have hmin2 : ∀ k, a' ≤ k → k < b' → lt (g2 k) (g2 a') = false := by rw [G2]; exact P2.all (P := fun x => lt x (g p) = false) hmin
        simp (config := {maxSteps := 8000000}) only [e0, e1, e2, e4, e3, e8, e9, e10, e11, b3, x1, oa, isPtr_idx oa, da, op, isPtr_idx op, dp, hcmp, hq, hl, rg_callm, mcallV_fn, m2, hn3, SS, bne_self_eq_false, wr_def, obOf, List.all_cons, List.all_nil, List.map_cons, List.map_nil, List.length_cons, List.length_nil, List.take_zero, List.take_succ_cons, List.take_nil, List.drop_zero, List.drop_succ_cons, List.drop_nil, Nat.reduceAdd, Nat.reduceMul, Nat.reduceSub, if_true, Nat.reduceLT, Nat.reduceLeDiff, ite_true, ite_false, Nat.reduceEqDiff, if_false, reduceCtorEq, ne_eq, List.getD, List.getElem?_cons_zero, List.getElem?_cons_succ, Option.getD_some, Option.bind_some, Option.map_some, Option.isSome_some, reduceIte, List.length_append, List.append_assoc, List.cons_append, List.nil_append, Option.some.injEq, forall_const, implies_true, Int.reduceNeg, eq_self, Prod.mk.injEq, List.self_eq_append_right, List.append_nil, exists_eq_left, exists_eq_left', exists_and_left, exists_eq_right, exists_and_right]
        refine Or.inl ⟨_, by omega, i, b', rfl, by omega, hi2, hb', rfl, rfl, ⟨_, rfl⟩, ⟨_, rfl⟩, ⟨_, rfl⟩, g2, B2, S.K.trans K2, S.P.trans (P2.mono ha' hb'), fun _ k k1 k2 => ?_, fun g' p' s' => ?_⟩
        · refine O.tr _ (g2 a') _ ?_ (O.asym _ _ (Q2.2 k (by omega) k2))
          by_cases h : i - 1 = a'
          · rw [h]; exact O.refl _
          · exact Q2.1 (i - 1) (by omega) (by omega)
        · exact S.J g' (P2.trans (p'.mono (by omega) (Nat.le_refl _))) (eq_join O Q2 hi1 hi2 hmin2 p' s')
      · simp (config := {maxSteps := 8000000}) only [e0, e1, e2, e4, e3, e8, e9, e10, e11, b3, x1, oa, isPtr_idx oa, da, op, isPtr_idx op, dp, hcmp, hq, hl, hn3, SS, bne_self_eq_false, wr_def, obOf, List.all_cons, List.all_nil, List.map_cons, List.map_nil, List.length_cons, List.length_nil, List.take_zero, List.take_succ_cons, List.take_nil, List.drop_zero, List.drop_succ_cons, List.drop_nil, Nat.reduceAdd, Nat.reduceMul, Nat.reduceSub, if_true, Nat.reduceLT, Nat.reduceLeDiff, ite_true, ite_false, Nat.reduceEqDiff, if_false, reduceCtorEq, ne_eq, List.getD, List.getElem?_cons_zero, List.getElem?_cons_succ, Option.getD_some, Option.bind_some, Option.map_some, Option.isSome_some, reduceIte, List.length_append, List.append_assoc, List.cons_append, List.nil_append, Option.some.injEq, forall_const, implies_true, Int.reduceNeg, eq_self, Prod.mk.injEq, List.self_eq_append_right, List.append_nil, exists_eq_left, exists_eq_left', exists_and_left, exists_eq_right, exists_and_right]
        exact Or.inr ⟨⟨_, rfl⟩, ⟨_, rfl⟩, _, rfl⟩
    · have b3 : decide ((0 : Int) < (a' : Int)) = false := decide_eq_false (by omega)
      simp (config := {maxSteps := 8000000}) only [e0, e1, e2, e4, e3, e8, e9, e10, e11, b3, SS, bne_self_eq_false, wr_def, obOf, List.all_cons, List.all_nil, List.map_cons, List.map_nil, List.length_cons, List.length_nil, List.take_zero, List.take_succ_cons, List.take_nil, List.drop_zero, List.drop_succ_cons, List.drop_nil, Nat.reduceAdd, Nat.reduceMul, Nat.reduceSub, if_true, Nat.reduceLT, Nat.reduceLeDiff, ite_true, ite_false, Nat.reduceEqDiff, if_false, reduceCtorEq, ne_eq, List.getD, List.getElem?_cons_zero, List.getElem?_cons_succ, Option.getD_some, Option.bind_some, Option.map_some, Option.isSome_some, reduceIte, List.length_append, List.append_assoc, List.cons_append, List.nil_append, Option.some.injEq, forall_const, implies_true, Int.reduceNeg, eq_self, Prod.mk.injEq, List.self_eq_append_right, List.append_nil, exists_eq_left, exists_eq_left', exists_and_left, exists_eq_right, exists_and_right]
      exact Or.inr ⟨⟨_, rfl⟩, ⟨_, rfl⟩, _, rfl⟩
  clear e0 e1 e2 e4 e3 e8 e9 e10 e11
  clear lm t8 t9
  rintro ex f4 h4 hn4 ht4 (⟨rfl, k, hk, hI⟩ | ⟨rfl, rfl, e0, e1, e2, e4, ⟨lm, e3⟩, ⟨t8, e8⟩, ⟨t9, e9⟩, e10, e11⟩)
  · simp only [SS, bne_self_eq_false, wr_def, obOf, List.all_cons, List.all_nil, List.map_cons, List.map_nil, List.length_cons, List.length_nil, List.take_zero, List.take_succ_cons, List.take_nil, List.drop_zero, List.drop_succ_cons, List.drop_nil, Nat.reduceAdd, Nat.reduceMul, Nat.reduceSub, if_true, Nat.reduceLT, Nat.reduceLeDiff, ite_true, ite_false, Nat.reduceEqDiff, if_false, reduceCtorEq, ne_eq, List.getD, List.getElem?_cons_zero, List.getElem?_cons_succ, Option.getD_some, Option.bind_some, Option.map_some, Option.isSome_some, reduceIte, List.length_append, List.append_assoc, List.cons_append, List.nil_append, Option.some.injEq, forall_const, implies_true, Int.reduceNeg, eq_self, Prod.mk.injEq, List.self_eq_append_right, List.append_nil, exists_eq_left, exists_eq_left', exists_and_left, exists_eq_right, exists_and_right]
    exact ⟨k, hk, hI⟩
  rw [thenQ_n]
  -- divided
  obtain ⟨r, h5, g2, m2, l2, B2, K2, j, s, rfl, hj1, hj2, P2, D2⟩ := part_m XX (a := a') (b := b') (p := p) S.B hn4 (by omega) hn hp1 hp2
  have S2 := S.step ha' hb' B2 K2 P2
  refine wc_sound _ _ _ _ hn4 ?_
  have y1 : IntKind.i64.wrap ((j : Int) - (a' : Int)) = ((j - a' : Nat) : Int) := by rw [wrap64 (by omega) (by omega)]; omega
  have y2 : IntKind.i64.wrap ((b' : Int) - (j : Int)) = ((b' - j : Nat) : Int) := by rw [wrap64 (by omega) (by omega)]; omega
  have y3 : IntKind.i64.wrap ((j : Int) + 1) = ((j + 1 : Nat) : Int) := by rw [wrap64 (by omega) (by omega)]; omega
  have y4 : ∃ z, abin .quo (.int .i64 ((b' - a' : Nat) : Int)) (.int .i64 8) = some (.int .i64 z) := ⟨_, abin_quo _ _ _ (by decide)⟩
  obtain ⟨z, y4⟩ := y4
  by_cases c5 : j - a' < b' - j
  · have b5 : decide (((j - a' : Nat) : Int) < ((b' - j : Nat) : Int)) = true := decide_eq_true (by omega)
    obtain ⟨r, h6, g3, m3, l3, B3, K3, rfl, P3, S3⟩ := ih (j - a') (by omega) a' j h5 g2 lm (Nat.le_refl _) hj1 (by omega) B2 l2 (fun h0 k k1 k2 => S2.Lw h0 k k1 (by omega))
    simp (config := {maxSteps := 8000000}) only [e0, e1, e2, e4, e3, e8, e9, e10, e11, y1, y2, y3, y4, b5, rg_callm, mcallV_fn, m2, m3, SS, bne_self_eq_false, wr_def, obOf, List.all_cons, List.all_nil, List.map_cons, List.map_nil, List.length_cons, List.length_nil, List.take_zero, List.take_succ_cons, List.take_nil, List.drop_zero, List.drop_succ_cons, List.drop_nil, Nat.reduceAdd, Nat.reduceMul, Nat.reduceSub, if_true, Nat.reduceLT, Nat.reduceLeDiff, ite_true, ite_false, Nat.reduceEqDiff, if_false, reduceCtorEq, ne_eq, List.getD, List.getElem?_cons_zero, List.getElem?_cons_succ, Option.getD_some, Option.bind_some, Option.map_some, Option.isSome_some, reduceIte, List.length_append, List.append_assoc, List.cons_append, List.nil_append, Option.some.injEq, forall_const, implies_true, Int.reduceNeg, eq_self, Prod.mk.injEq, List.self_eq_append_right, List.append_nil, exists_eq_left, exists_eq_left', exists_and_left, exists_eq_right, exists_and_right]
    refine ⟨_, by omega, j + 1, b', rfl, by omega, by omega, hb', rfl, rfl, ⟨_, rfl⟩, ⟨_, rfl⟩, ⟨_, rfl⟩, g3, B3, S2.K.trans K3, S2.P.trans (P3.mono ha' (by omega)), fun _ k k1 k2 => ?_, fun g' p' s' => ?_⟩
    · rw [Nat.add_sub_cancel, P3.out (k := j) (by omega), P3.out (k := k) (by omega)]
      exact D2.2 k (by omega) k2
    · exact S2.J g' ((P3.mono (Nat.le_refl _) (by omega)).trans (p'.mono (by omega) (Nat.le_refl _))) (div_join O D2 hj1 hj2 P3 S3 p' s')
  · have b5 : decide (((j - a' : Nat) : Int) < ((b' - j : Nat) : Int)) = false := decide_eq_false (by omega)
    obtain ⟨r, h6, g3, m3, l3, B3, K3, rfl, P3, S3⟩ := ih (b' - (j + 1)) (by omega) (j + 1) b' h5 g2 lm (Nat.le_refl _) (by omega) (by omega) B2 l2 (fun h0 k k1 k2 => by rw [Nat.add_sub_cancel]; exact D2.2 k (by omega) k2)
    simp (config := {maxSteps := 8000000}) only [e0, e1, e2, e4, e3, e8, e9, e10, e11, y1, y2, y3, y4, b5, rg_callm, mcallV_fn, m2, m3, SS, bne_self_eq_false, wr_def, obOf, List.all_cons, List.all_nil, List.map_cons, List.map_nil, List.length_cons, List.length_nil, List.take_zero, List.take_succ_cons, List.take_nil, List.drop_zero, List.drop_succ_cons, List.drop_nil, Nat.reduceAdd, Nat.reduceMul, Nat.reduceSub, if_true, Nat.reduceLT, Nat.reduceLeDiff, ite_true, ite_false, Nat.reduceEqDiff, if_false, reduceCtorEq, ne_eq, List.getD, List.getElem?_cons_zero, List.getElem?_cons_succ, Option.getD_some, Option.bind_some, Option.map_some, Option.isSome_some, reduceIte, List.length_append, List.append_assoc, List.cons_append, List.nil_append, Option.some.injEq, forall_const, implies_true, Int.reduceNeg, eq_self, Prod.mk.injEq, List.self_eq_append_right, List.append_nil, exists_eq_left, exists_eq_left', exists_and_left, exists_eq_right, exists_and_right]
    refine ⟨_, by omega, a', j, rfl, by omega, by omega, by omega, rfl, rfl, ⟨_, rfl⟩, ⟨_, rfl⟩, ⟨_, rfl⟩, g3, B3, S2.K.trans K3, S2.P.trans (P3.mono (by omega) hb'), fun h0 k k1 k2 => ?_, fun g' p' s' => ?_⟩
    · rw [P3.out (k := a' - 1) (by omega), P3.out (k := k) (by omega)]
      exact S2.Lw h0 k k1 (by omega)
    · exact S2.J g' ((P3.mono (by omega) (Nat.le_refl _)).trans (p'.mono (Nat.le_refl _) (by omega))) (div_join' O D2 hj1 hj2 P3 S3 p' s')

theorem sort_m {n0 n : Nat} {H : List Ob} {v : AV} {f : Nat → α} (A : Fs n0 H v c 6 n f) (h0 : n0 ≤ H.length) (hn : n ≤ 1125899906842624) :
    ∃ h2 g, mcall E n0 82 [v, KC] H = some (.tup [], h2) ∧ n0 ≤ h2.length ∧ Fs n0 h2 v c 6 n g ∧ Kp v H h2 ∧ (arr n g).Perm (arr n f) ∧ (arr n g).Pairwise (fun x y => lt y x = false) := by
  have len := A.len
  have wu : IntKind.u64.wrap (n : Int) = (n : Int) := wu64 (by omega) (by omega)
  have hl := fun H => len_pc (show n < M64 by unfold M64; omega) H
  obtain ⟨r, h2, g, m2, l2, B2, K2, rfl, P2, S2⟩ := pdq_m X hn n 0 n H f (len2 n : Int) (by omega) (Nat.zero_le _) (Nat.le_refl _) A h0 (fun h => by omega)
  rw [show ((0 : Nat) : Int) = 0 from rfl] at m2
  obtain ⟨r, h3, g', m3, l3, B3, K3, rfl, q1, q2⟩ := row_call (P := fun r g => r = .tup [] ∧ (arr n g).Perm (arr n f) ∧ (arr n g).Pairwise (fun x y => lt y x = false)) e82 rfl (Nat.le_of_ble_eq_true rfl) h0 A (args := [v, KC]) (by
    simp (config := {maxSteps := 4000000}) only [c82, len, wu, hl, h0, rg_callm, mcallV_fn, m2, SS, bne_self_eq_false, wr_def, obOf, List.all_cons, List.all_nil, List.map_cons, List.map_nil, List.length_cons, List.length_nil, List.take_zero, List.take_succ_cons, List.take_nil, List.drop_zero, List.drop_succ_cons, List.drop_nil, Nat.reduceAdd, Nat.reduceMul, Nat.reduceSub, if_true, Nat.reduceLT, Nat.reduceLeDiff, ite_true, ite_false, Nat.reduceEqDiff, if_false, reduceCtorEq, ne_eq, List.getD, List.getElem?_cons_zero, List.getElem?_cons_succ, Option.getD_some, Option.bind_some, Option.map_some, Option.isSome_some, reduceIte, List.length_append, List.append_assoc, List.cons_append, List.nil_append, Option.some.injEq, forall_const, implies_true, Int.reduceNeg, eq_self, Prod.mk.injEq, List.self_eq_append_right, List.append_nil, exists_eq_left, exists_eq_left', exists_and_left, exists_eq_right, exists_and_right]
    exact ⟨rfl, g, B2, K2, rfl, P2.perm (Nat.le_refl _), S2.pair⟩)
  exact ⟨h3, g', m3, l3, B3, K3, q1, q2⟩
end
end Go.Proofs.Ytaekgifbehoipaa.So.KL
/- Plots: when they are valid, their order. No condition. -/
namespace Go.Proofs.Ytaekgifbehoipaa.Mo
open Go Go.Proofs.Ytaekgifbehoipaa.Eva Go.Proofs.Ytaekgifbehoipaa.CodeAll Go.Proofs.Ytaekgifbehoipaa.Fl Go.Proofs.Ytaekgifbehoipaa.So
set_option linter.unusedVariables false
set_option linter.unusedSimpArgs false
set_option maxRecDepth 10000
set_option maxHeartbeats 4000000

/-- A plot. -/
structure Pt where
  (r t d a h k : Int)
  deriving DecidableEq
def Pt.c (p : Pt) : List AV := [.int .i64 p.r, .int .i64 p.t, .int .i64 p.d, .int .i64 p.a, .int .i64 p.h, .int .i64 p.k]
def Pt.chk (p : Pt) : Int := if (decide (p.r < 0) || decide (255 < p.r) || decide (p.t < 0) || decide (200000 < p.t) || decide (p.d < 0) || decide (2000000 < p.d) || decide (p.a < 0) || decide (4095 < p.a) || decide (p.h < 0) || decide (60000 < p.h) || decide (p.k < -1) || decide (4095 < p.k)) then 4 else 0
theorem rchk_pc (r t d a h k : Int) (H : List Ob) : pcall E 35 [.agg [.int .i64 r, .int .i64 t, .int .i64 d, .int .i64 a, .int .i64 h, .int .i64 k]] H = some (.int .i64 (Pt.chk ⟨r, t, d, a, h, k⟩)) := by
  refine pcall_some.2 (call_plain e35 rfl (Nat.le_of_ble_eq_true rfl) rfl ?_)
  generalize hv : AV.int .i64 (Pt.chk ⟨r, t, d, a, h, k⟩) = v
  simp (config := {maxSteps := 4000000}) only [c35, SS, bne_self_eq_false, wr_def, obOf, List.all_cons, List.all_nil, List.map_cons, List.map_nil, List.length_cons, List.length_nil, List.take_zero, List.take_succ_cons, List.take_nil, List.drop_zero, List.drop_succ_cons, List.drop_nil, Nat.reduceAdd, Nat.reduceMul, Nat.reduceSub, if_true, Nat.reduceLT, Nat.reduceLeDiff, ite_true, ite_false, Nat.reduceEqDiff, if_false, reduceCtorEq, ne_eq, List.getD, List.getElem?_cons_zero, List.getElem?_cons_succ, Option.getD_some, Option.bind_some, Option.map_some, Option.isSome_some, reduceIte, List.length_append, List.append_assoc, List.cons_append, List.nil_append, Option.some.injEq, forall_const, implies_true, Int.reduceNeg, eq_self, Prod.mk.injEq, List.self_eq_append_right, List.append_nil, exists_eq_left, exists_eq_left', exists_and_left, exists_eq_right, exists_and_right]
  simp only [join_ite]
  subst hv
  unfold Pt.chk
  simp only [apply_ite (AV.int .i64)]
def Pt.key (p : Pt) : List Int := [p.t, p.r, p.d, p.a, p.h, p.k]
def pV (s : Pt) : AV := .agg s.c
theorem rchk_pc' (p : Pt) (H : List Ob) : pcall E 35 [.agg p.c] H = some (.int .i64 p.chk) := rchk_pc p.r p.t p.d p.a p.h p.k H
def orL : List Int → Int
  | [] => 0
  | x :: r => if x ≠ 0 then x else orL r
theorem or_cmp (x y : Int) (r : List Int) : orL (cmp1 x y :: r) = if x < y then -1 else if y < x then 1 else orL r := by
  unfold cmp1
  rw [orL]
  by_cases h1 : x < y
  · simp [h1]
  · by_cases h2 : y < x
    · simp [h1, h2]
    · simp [h1, h2]
theorem compare_pc (x y : Int) (H : List Ob) : pcall E 85 [.int .i64 x, .int .i64 y] H = some (.int .i64 (cmp1 x y)) := by
  refine pcall_some.2 (call_plain e85 rfl (Nat.le_of_ble_eq_true rfl) rfl ?_)
  have h := fun x => nan_pc x H
  unfold cmp1
  by_cases h1 : x < y
  · have b1 : decide (x < y) = true := decide_eq_true h1
    simp (config := {maxSteps := 4000000}) only [c85, h, b1, if_pos h1, SS, bne_self_eq_false, wr_def, obOf, List.all_cons, List.all_nil, List.map_cons, List.map_nil, List.length_cons, List.length_nil, List.take_zero, List.take_succ_cons, List.take_nil, List.drop_zero, List.drop_succ_cons, List.drop_nil, Nat.reduceAdd, Nat.reduceMul, Nat.reduceSub, if_true, Nat.reduceLT, Nat.reduceLeDiff, ite_true, ite_false, Nat.reduceEqDiff, if_false, reduceCtorEq, ne_eq, List.getD, List.getElem?_cons_zero, List.getElem?_cons_succ, Option.getD_some, Option.bind_some, Option.map_some, Option.isSome_some, reduceIte, List.length_append, List.append_assoc, List.cons_append, List.nil_append, Option.some.injEq, forall_const, implies_true, Int.reduceNeg, eq_self, Prod.mk.injEq, List.self_eq_append_right, List.append_nil, exists_eq_left, exists_eq_left', exists_and_left, exists_eq_right, exists_and_right]
  · have b1 : decide (x < y) = false := decide_eq_false h1
    by_cases h2 : y < x
    · have b2 : decide (y < x) = true := decide_eq_true h2
      simp (config := {maxSteps := 4000000}) only [c85, h, b1, b2, if_neg h1, if_pos h2, SS, bne_self_eq_false, wr_def, obOf, List.all_cons, List.all_nil, List.map_cons, List.map_nil, List.length_cons, List.length_nil, List.take_zero, List.take_succ_cons, List.take_nil, List.drop_zero, List.drop_succ_cons, List.drop_nil, Nat.reduceAdd, Nat.reduceMul, Nat.reduceSub, if_true, Nat.reduceLT, Nat.reduceLeDiff, ite_true, ite_false, Nat.reduceEqDiff, if_false, reduceCtorEq, ne_eq, List.getD, List.getElem?_cons_zero, List.getElem?_cons_succ, Option.getD_some, Option.bind_some, Option.map_some, Option.isSome_some, reduceIte, List.length_append, List.append_assoc, List.cons_append, List.nil_append, Option.some.injEq, forall_const, implies_true, Int.reduceNeg, eq_self, Prod.mk.injEq, List.self_eq_append_right, List.append_nil, exists_eq_left, exists_eq_left', exists_and_left, exists_eq_right, exists_and_right]
    · have b2 : decide (y < x) = false := decide_eq_false h2
      simp (config := {maxSteps := 4000000}) only [c85, h, b1, b2, if_neg h1, if_neg h2, SS, bne_self_eq_false, wr_def, obOf, List.all_cons, List.all_nil, List.map_cons, List.map_nil, List.length_cons, List.length_nil, List.take_zero, List.take_succ_cons, List.take_nil, List.drop_zero, List.drop_succ_cons, List.drop_nil, Nat.reduceAdd, Nat.reduceMul, Nat.reduceSub, if_true, Nat.reduceLT, Nat.reduceLeDiff, ite_true, ite_false, Nat.reduceEqDiff, if_false, reduceCtorEq, ne_eq, List.getD, List.getElem?_cons_zero, List.getElem?_cons_succ, Option.getD_some, Option.bind_some, Option.map_some, Option.isSome_some, reduceIte, List.length_append, List.append_assoc, List.cons_append, List.nil_append, Option.some.injEq, forall_const, implies_true, Int.reduceNeg, eq_self, Prod.mk.injEq, List.self_eq_append_right, List.append_nil, exists_eq_left, exists_eq_left', exists_and_left, exists_eq_right, exists_and_right]
theorem or_pc {H : List Ob} {V : AV} {ks : List Int} (hs : SlL H V intC 1 ks) (hb : ks.length ≤ 1125899906842624) : pcall E 84 [V] H = some (.int .i64 (orL ks)) := by
  refine pcall_some.2 (call_plain e84 rfl (Nat.le_of_ble_eq_true rfl) rfl ?_)
  generalize hR : orL ks = R
  have hlen := hs.len
  simp (config := {maxSteps := 4000000}) only [c84, hlen, SS, bne_self_eq_false, wr_def, obOf, List.all_cons, List.all_nil, List.map_cons, List.map_nil, List.length_cons, List.length_nil, List.take_zero, List.take_succ_cons, List.take_nil, List.drop_zero, List.drop_succ_cons, List.drop_nil, Nat.reduceAdd, Nat.reduceMul, Nat.reduceSub, if_true, Nat.reduceLT, Nat.reduceLeDiff, ite_true, ite_false, Nat.reduceEqDiff, if_false, reduceCtorEq, ne_eq, List.getD, List.getElem?_cons_zero, List.getElem?_cons_succ, Option.getD_some, Option.bind_some, Option.map_some, Option.isSome_some, reduceIte, List.length_append, List.append_assoc, List.cons_append, List.nil_append, Option.some.injEq, forall_const, implies_true, Int.reduceNeg, eq_self, Prod.mk.injEq, List.self_eq_append_right, List.append_nil, exists_eq_left, exists_eq_left', exists_and_left, exists_eq_right, exists_and_right]
  refine W_loop (fun q f1 h1 => ∃ j : Nat, q = ks.length - j ∧ j ≤ ks.length ∧ f1 3 = .int .i64 0 ∧ f1 6 = V ∧ f1 7 = .int .i64 (ks.length : Int) ∧ f1 8 = .int .i64 (j : Int) ∧ orL (ks.drop j) = R) (Nat.le_refl _) ks.length ⟨0, rfl, Nat.zero_le _, rfl, rfl, rfl, rfl, hR⟩ ?_
  rintro q f1 h1 hn1 ht ⟨j, rfl, hj, e3, e6, e7, e8, hgo⟩
  rw [List.take_length] at ht
  have hH := take_eq ht
  generalize h1.drop H.length = z at hH
  subst hH
  by_cases hjl : j < ks.length
  · have hjl' : decide ((j : Int) < (ks.length : Int)) = true := decide_eq_true (by omega)
    obtain ⟨k, hk⟩ : ∃ k, ks[j]? = some k := ⟨_, List.getElem?_eq_getElem hjl⟩
    have hd : ks.drop j = k :: ks.drop (j + 1) := by
      rw [List.drop_eq_getElem_cons hjl]; congr 1
      rw [List.getElem?_eq_getElem hjl] at hk; simpa using hk
    have hwj : IntKind.i64.wrap ((j : Int) + 1) = ((j + 1 : Nat) : Int) := by rw [wrap64 (by omega) (by omega)]; omega
    have hok : idxOk 1 V (.int .i64 (j : Int)) := hs.ok (by omega) (by omega)
    have hld : ld1A (H ++ z) (idxV 1 V (.int .i64 (j : Int))) = some (.int .i64 k) := by rw [(hs.keep z).ld0 (x := k) (by omega) (by simpa using hk)]; rfl
    rw [hd, orL] at hgo
    by_cases h0 : k = 0
    · have b : (k != 0) = false := by rw [h0]; rfl
      rw [if_neg (fun h => h h0)] at hgo
      simp (config := {maxSteps := 4000000}) only [e3, e6, e7, e8, hjl', hwj, hok, isPtr_idx hok, hld, b, SS, bne_self_eq_false, wr_def, obOf, List.all_cons, List.all_nil, List.map_cons, List.map_nil, List.length_cons, List.length_nil, List.take_zero, List.take_succ_cons, List.take_nil, List.drop_zero, List.drop_succ_cons, List.drop_nil, Nat.reduceAdd, Nat.reduceMul, Nat.reduceSub, if_true, Nat.reduceLT, Nat.reduceLeDiff, ite_true, ite_false, Nat.reduceEqDiff, if_false, reduceCtorEq, ne_eq, List.getD, List.getElem?_cons_zero, List.getElem?_cons_succ, Option.getD_some, Option.bind_some, Option.map_some, Option.isSome_some, reduceIte, List.length_append, List.append_assoc, List.cons_append, List.nil_append, Option.some.injEq, forall_const, implies_true, Int.reduceNeg, eq_self, Prod.mk.injEq, List.self_eq_append_right, List.append_nil, exists_eq_left, exists_eq_left', exists_and_left, exists_eq_right, exists_and_right]
      exact ⟨_, by omega, j + 1, rfl, by omega, rfl, hgo⟩
    · have b : (k != 0) = true := bne_iff_ne.2 h0
      rw [if_pos h0] at hgo
      subst hgo
      simp (config := {maxSteps := 4000000}) only [e3, e6, e7, e8, hjl', hwj, hok, isPtr_idx hok, hld, b, SS, bne_self_eq_false, wr_def, obOf, List.all_cons, List.all_nil, List.map_cons, List.map_nil, List.length_cons, List.length_nil, List.take_zero, List.take_succ_cons, List.take_nil, List.drop_zero, List.drop_succ_cons, List.drop_nil, Nat.reduceAdd, Nat.reduceMul, Nat.reduceSub, if_true, Nat.reduceLT, Nat.reduceLeDiff, ite_true, ite_false, Nat.reduceEqDiff, if_false, reduceCtorEq, ne_eq, List.getD, List.getElem?_cons_zero, List.getElem?_cons_succ, Option.getD_some, Option.bind_some, Option.map_some, Option.isSome_some, reduceIte, List.length_append, List.append_assoc, List.cons_append, List.nil_append, Option.some.injEq, forall_const, implies_true, Int.reduceNeg, eq_self, Prod.mk.injEq, List.self_eq_append_right, List.append_nil, exists_eq_left, exists_eq_left', exists_and_left, exists_eq_right, exists_and_right]
  · have hjl' : decide ((j : Int) < (ks.length : Int)) = false := decide_eq_false (by omega)
    have hd : ks.drop j = [] := List.drop_eq_nil_of_le (by omega)
    rw [hd, orL] at hgo
    subst hgo
    simp (config := {maxSteps := 4000000}) only [e3, e6, e7, e8, hjl', SS, bne_self_eq_false, wr_def, obOf, List.all_cons, List.all_nil, List.map_cons, List.map_nil, List.length_cons, List.length_nil, List.take_zero, List.take_succ_cons, List.take_nil, List.drop_zero, List.drop_succ_cons, List.drop_nil, Nat.reduceAdd, Nat.reduceMul, Nat.reduceSub, if_true, Nat.reduceLT, Nat.reduceLeDiff, ite_true, ite_false, Nat.reduceEqDiff, if_false, reduceCtorEq, ne_eq, List.getD, List.getElem?_cons_zero, List.getElem?_cons_succ, Option.getD_some, Option.bind_some, Option.map_some, Option.isSome_some, reduceIte, List.length_append, List.append_assoc, List.cons_append, List.nil_append, Option.some.injEq, forall_const, implies_true, Int.reduceNeg, eq_self, Prod.mk.injEq, List.self_eq_append_right, List.append_nil, exists_eq_left, exists_eq_left', exists_and_left, exists_eq_right, exists_and_right]
theorem cmpL_pc (a b : Pt) (H : List Ob) : pcall E 42 [.agg a.c, .agg b.c] H = some (.int .i64 (lexc a.key b.key)) := by
  refine pcall_some.2 (call_plain e42 rfl (Nat.le_of_ble_eq_true rfl) rfl ?_)
  have hc := fun x y H => compare_pc x y H
  have ho : pcall E 84 [.sl false (H.length + 2) 0 1 0 6] (H ++ [⟨a.c, 0, 0, true, true⟩, ⟨b.c, 0, 0, true, true⟩, ⟨[.int .i64 (cmp1 a.t b.t), .int .i64 (cmp1 a.r b.r), .int .i64 (cmp1 a.d b.d), .int .i64 (cmp1 a.a b.a), .int .i64 (cmp1 a.h b.h), .int .i64 (cmp1 a.k b.k)], 0, 1, true, true⟩]) = some (.int .i64 (lexc a.key b.key)) := by
    have hs : SlL (H ++ [⟨a.c, 0, 0, true, true⟩, ⟨b.c, 0, 0, true, true⟩, ⟨[.int .i64 (cmp1 a.t b.t), .int .i64 (cmp1 a.r b.r), .int .i64 (cmp1 a.d b.d), .int .i64 (cmp1 a.a b.a), .int .i64 (cmp1 a.h b.h), .int .i64 (cmp1 a.k b.k)], 0, 1, true, true⟩]) (.sl false (H.length + 2) 0 1 0 6) intC 1 [cmp1 a.t b.t, cmp1 a.r b.r, cmp1 a.d b.d, cmp1 a.a b.a, cmp1 a.h b.h, cmp1 a.k b.k] :=
      ⟨fun _ => rfl, by decide, rfl, Or.inr ⟨_, 0, 0, ⟨[.int .i64 (cmp1 a.t b.t), .int .i64 (cmp1 a.r b.r), .int .i64 (cmp1 a.d b.d), .int .i64 (cmp1 a.a b.a), .int .i64 (cmp1 a.h b.h), .int .i64 (cmp1 a.k b.k)], 0, 1, true, true⟩, rfl, by simp [rdObj], Nat.le_refl _, rfl⟩⟩
    rw [or_pc hs (by simp)]
    simp only [Pt.key, lexc]
    rw [or_cmp, or_cmp, or_cmp, or_cmp, or_cmp, or_cmp]
    rfl
  generalize lexc a.key b.key = R at *
  simp only [Pt.c] at ho
  simp (config := {maxSteps := 4000000}) only [c42, Pt.c, hc, ho, SS, bne_self_eq_false, wr_def, obOf, List.all_cons, List.all_nil, List.map_cons, List.map_nil, List.length_cons, List.length_nil, List.take_zero, List.take_succ_cons, List.take_nil, List.drop_zero, List.drop_succ_cons, List.drop_nil, Nat.reduceAdd, Nat.reduceMul, Nat.reduceSub, if_true, Nat.reduceLT, Nat.reduceLeDiff, ite_true, ite_false, Nat.reduceEqDiff, if_false, reduceCtorEq, ne_eq, List.getD, List.getElem?_cons_zero, List.getElem?_cons_succ, Option.getD_some, Option.bind_some, Option.map_some, Option.isSome_some, reduceIte, List.length_append, List.append_assoc, List.cons_append, List.nil_append, Option.some.injEq, forall_const, implies_true, Int.reduceNeg, eq_self, Prod.mk.injEq, List.self_eq_append_right, List.append_nil, exists_eq_left, exists_eq_left', exists_and_left, exists_eq_right, exists_and_right]
def pLt (a b : Pt) : Bool := decide (lexc a.key b.key < 0)
theorem lCtx : KL.Ctx Pt.c pV pLt (.fn 42 []) (fun a b => lexc a.key b.key) where
  L := ⟨fun _ => rfl, by decide, fun _ => rfl, fun _ => rfl, fun _ => rfl⟩
  O := od_key Pt.key 6 (fun _ => rfl)
  he := fun _ => rfl
  hcmp := fun x y H => by rw [pcallV_fn]; exact cmpL_pc x y H
  hq := fun x y => rfl
theorem key_inj {a b : Pt} (h : a.key = b.key) : a = b := by
  obtain ⟨r, t, d, a, h1, k⟩ := a
  obtain ⟨r', t', d', a', h', k'⟩ := b
  simp only [Pt.key, List.cons.injEq, and_true] at h
  obtain ⟨rfl, rfl, rfl, rfl, rfl, rfl⟩ := h
  rfl
theorem pLt_anti {a b : Pt} (h1 : pLt a b = false) (h2 : pLt b a = false) : a = b := by
  simp only [pLt, decide_eq_false_iff_not] at h1 h2
  rw [lexc_neg] at h2
  exact key_inj (lexc_zero _ _ rfl (by omega))

/-- IndexFunc and ContainsFunc over Int. -/
theorem ixf_Int {H : List Ob} {V : AV} {ks : List Int} {g : Nat} {caps : List AV} {p : Int → Bool} (hs : SlL H V intC 1 ks) (hbig : ks.length ≤ 1125899906842624) (hf : ∀ x k, k ∈ ks → pcall E g ([.int .i64 k] ++ caps) (H ++ x) = some (.bool (p k))) :
    ecall E 111 [V, .fn g caps] H = some (.int .i64 (ixGo p ks 0), H, H.length, H.length) := by
  refine call_plain e111 rfl (Nat.le_of_ble_eq_true rfl) rfl ?_
  generalize hR : ixGo p ks 0 = R
  have hlen := hs.len
  simp (config := {maxSteps := 4000000}) only [c111, hlen, SS, bne_self_eq_false, wr_def, obOf, List.all_cons, List.all_nil, List.map_cons, List.map_nil, List.length_cons, List.length_nil, List.take_zero, List.take_succ_cons, List.take_nil, List.drop_zero, List.drop_succ_cons, List.drop_nil, Nat.reduceAdd, Nat.reduceMul, Nat.reduceSub, if_true, Nat.reduceLT, Nat.reduceLeDiff, ite_true, ite_false, Nat.reduceEqDiff, if_false, reduceCtorEq, ne_eq, List.getD, List.getElem?_cons_zero, List.getElem?_cons_succ, Option.getD_some, Option.bind_some, Option.map_some, Option.isSome_some, reduceIte, List.length_append, List.append_assoc, List.cons_append, List.nil_append, Option.some.injEq, forall_const, implies_true, Int.reduceNeg, eq_self, Prod.mk.injEq, List.self_eq_append_right, List.append_nil, exists_eq_left, exists_eq_left', exists_and_left, exists_eq_right, exists_and_right]
  refine W_loop (fun q f1 h1 => ∃ j : Nat, q = ks.length - j ∧ j ≤ ks.length ∧ f1 0 = V ∧ f1 1 = .fn g caps ∧ f1 7 = .int .i64 ks.length ∧ f1 8 = .int .i64 j ∧ ixGo p (ks.drop j) j = R) (Nat.le_refl _) ks.length ⟨0, rfl, Nat.zero_le _, rfl, rfl, rfl, rfl, hR⟩ ?_
  rintro q f1 h1 hn1 ht ⟨j, rfl, hj, e0, e1, e7, e8, hgo⟩
  rw [List.take_length] at ht
  have hH := take_eq ht
  generalize h1.drop H.length = y at hH
  subst hH
  by_cases hjl : j < ks.length
  · have hjl' : decide ((j : Int) < (ks.length : Int)) = true := by simpa using hjl
    obtain ⟨k, hk⟩ : ∃ k, ks[j]? = some k := ⟨_, List.getElem?_eq_getElem hjl⟩
    have hd : ks.drop j = k :: ks.drop (j + 1) := by
      rw [List.drop_eq_getElem_cons hjl]; congr 1
      rw [List.getElem?_eq_getElem hjl] at hk; simpa using hk
    have hwj : IntKind.i64.wrap ((j : Int) + 1) = ((j + 1 : Nat) : Int) := by rw [wrap64 (by omega) (by omega)]; omega
    have hok : idxOk 1 V (.int .i64 (j : Int)) := hs.ok (by omega) (by omega)
    have hld := (hs.keep y).ld0 (i := (j : Int)) (kk := .i64) (x := k) (by omega) (by simpa using hk)
    have hp := hf y k (List.mem_of_getElem? hk)
    rw [hd] at hgo
    simp only [ixGo] at hgo
    simp only [intC, getC_zero, List.cons_append, List.nil_append] at hld hp
    simp (config := {maxSteps := 4000000}) only [e0, e1, e7, e8, hjl', hwj, hok, isPtr_idx hok, hld, hp, pcallV_fn, SS, bne_self_eq_false, wr_def, obOf, List.all_cons, List.all_nil, List.map_cons, List.map_nil, List.length_cons, List.length_nil, List.take_zero, List.take_succ_cons, List.take_nil, List.drop_zero, List.drop_succ_cons, List.drop_nil, Nat.reduceAdd, Nat.reduceMul, Nat.reduceSub, if_true, Nat.reduceLT, Nat.reduceLeDiff, ite_true, ite_false, Nat.reduceEqDiff, if_false, reduceCtorEq, ne_eq, List.getD, List.getElem?_cons_zero, List.getElem?_cons_succ, Option.getD_some, Option.bind_some, Option.map_some, Option.isSome_some, reduceIte, List.length_append, List.append_assoc, List.cons_append, List.nil_append, Option.some.injEq, forall_const, implies_true, Int.reduceNeg, eq_self, Prod.mk.injEq, List.self_eq_append_right, List.append_nil, exists_eq_left, exists_eq_left', exists_and_left, exists_eq_right, exists_and_right]
    refine ⟨fun k1 => ?_, fun k1 => ?_⟩
    · rw [if_pos k1] at hgo; subst hgo; rfl
    · rw [if_neg (by simpa using k1)] at hgo
      exact ⟨_, by omega, j + 1, rfl, by omega, rfl, hgo⟩
  · have hjl' : decide ((j : Int) < (ks.length : Int)) = false := by simpa using hjl
    have hd : ks.drop j = [] := List.drop_eq_nil_of_le (by omega)
    rw [hd] at hgo
    simp only [ixGo] at hgo
    subst hgo
    simp (config := {maxSteps := 8000000}) only [e0, e1, e7, e8, hjl', SS, bne_self_eq_false, wr_def, obOf, List.all_cons, List.all_nil, List.map_cons, List.map_nil, List.length_cons, List.length_nil, List.take_zero, List.take_succ_cons, List.take_nil, List.drop_zero, List.drop_succ_cons, List.drop_nil, Nat.reduceAdd, Nat.reduceMul, Nat.reduceSub, if_true, Nat.reduceLT, Nat.reduceLeDiff, ite_true, ite_false, Nat.reduceEqDiff, if_false, reduceCtorEq, ne_eq, List.getD, List.getElem?_cons_zero, List.getElem?_cons_succ, Option.getD_some, Option.bind_some, Option.map_some, Option.isSome_some, reduceIte, List.length_append, List.append_assoc, List.cons_append, List.nil_append, Option.some.injEq, forall_const, implies_true, Int.reduceNeg, eq_self, Prod.mk.injEq, List.self_eq_append_right, List.append_nil, exists_eq_left, exists_eq_left', exists_and_left, exists_eq_right, exists_and_right]
theorem ctf_Int {H : List Ob} {V : AV} {ks : List Int} {g : Nat} {caps : List AV} {p : Int → Bool} (hs : SlL H V intC 1 ks) (hbig : ks.length ≤ 1125899906842624) (hf : ∀ x k, k ∈ ks → pcall E g ([.int .i64 k] ++ caps) (H ++ x) = some (.bool (p k))) :
    pcall E 80 [V, .fn g caps] H = some (.bool (ks.any p)) := by
  refine pcall_some.2 (call_plain e80 rfl (Nat.le_of_ble_eq_true rfl) rfl ?_)
  have h1 := pcall_some.2 (ixf_Int hs hbig hf)
  simp (config := {maxSteps := 4000000}) only [c80, h1, SS, bne_self_eq_false, wr_def, obOf, List.all_cons, List.all_nil, List.map_cons, List.map_nil, List.length_cons, List.length_nil, List.take_zero, List.take_succ_cons, List.take_nil, List.drop_zero, List.drop_succ_cons, List.drop_nil, Nat.reduceAdd, Nat.reduceMul, Nat.reduceSub, if_true, Nat.reduceLT, Nat.reduceLeDiff, ite_true, ite_false, Nat.reduceEqDiff, if_false, reduceCtorEq, ne_eq, List.getD, List.getElem?_cons_zero, List.getElem?_cons_succ, Option.getD_some, Option.bind_some, Option.map_some, Option.isSome_some, reduceIte, List.length_append, List.append_assoc, List.cons_append, List.nil_append, Option.some.injEq, forall_const, implies_true, Int.reduceNeg, eq_self, Prod.mk.injEq, List.self_eq_append_right, List.append_nil, exists_eq_left, exists_eq_left', exists_and_left, exists_eq_right, exists_and_right]
  exact congrArg AV.bool (ixGo_any p ks 0)

theorem fine_pc {H : List Ob} {V : AV} {ks : List Int} (hs : SlL H V intC 1 ks) (hb : ks.length ≤ 1125899906842624) : pcall E 39 [V] H = some (.bool (!ks.any (fun x => x != 0))) := by
  refine pcall_some.2 (call_plain e39 rfl (Nat.le_of_ble_eq_true rfl) rfl ?_)
  have h1 := ctf_Int (g := 81) (caps := []) (p := fun x => x != 0) hs hb (fun x k _ => by
    refine pcall_some.2 (call_plain e81 rfl (Nat.le_of_ble_eq_true rfl) rfl ?_)
    simp (config := {maxSteps := 4000000}) only [c81, SS, bne_self_eq_false, wr_def, obOf, List.all_cons, List.all_nil, List.map_cons, List.map_nil, List.length_cons, List.length_nil, List.take_zero, List.take_succ_cons, List.take_nil, List.drop_zero, List.drop_succ_cons, List.drop_nil, Nat.reduceAdd, Nat.reduceMul, Nat.reduceSub, if_true, Nat.reduceLT, Nat.reduceLeDiff, ite_true, ite_false, Nat.reduceEqDiff, if_false, reduceCtorEq, ne_eq, List.getD, List.getElem?_cons_zero, List.getElem?_cons_succ, Option.getD_some, Option.bind_some, Option.map_some, Option.isSome_some, reduceIte, List.length_append, List.append_assoc, List.cons_append, List.nil_append, Option.some.injEq, forall_const, implies_true, Int.reduceNeg, eq_self, Prod.mk.injEq, List.self_eq_append_right, List.append_nil, exists_eq_left, exists_eq_left', exists_and_left, exists_eq_right, exists_and_right])
  simp (config := {maxSteps := 4000000}) only [c39, h1, SS, bne_self_eq_false, wr_def, obOf, List.all_cons, List.all_nil, List.map_cons, List.map_nil, List.length_cons, List.length_nil, List.take_zero, List.take_succ_cons, List.take_nil, List.drop_zero, List.drop_succ_cons, List.drop_nil, Nat.reduceAdd, Nat.reduceMul, Nat.reduceSub, if_true, Nat.reduceLT, Nat.reduceLeDiff, ite_true, ite_false, Nat.reduceEqDiff, if_false, reduceCtorEq, ne_eq, List.getD, List.getElem?_cons_zero, List.getElem?_cons_succ, Option.getD_some, Option.bind_some, Option.map_some, Option.isSome_some, reduceIte, List.length_append, List.append_assoc, List.cons_append, List.nil_append, Option.some.injEq, forall_const, implies_true, Int.reduceNeg, eq_self, Prod.mk.injEq, List.self_eq_append_right, List.append_nil, exists_eq_left, exists_eq_left', exists_and_left, exists_eq_right, exists_and_right]
end Go.Proofs.Ytaekgifbehoipaa.Mo
/- Rows without what equals the one before; sorted plots. No condition. -/
namespace Go.Proofs.Ytaekgifbehoipaa.Mo
open Go Go.Proofs.Ytaekgifbehoipaa.Eva Go.Proofs.Ytaekgifbehoipaa.CodeAll Go.Proofs.Ytaekgifbehoipaa.Fl Go.Proofs.Ytaekgifbehoipaa.So
set_option linter.unusedVariables false
set_option linter.unusedSimpArgs false

section
variable {α : Type} [DecidableEq α] {f g : Nat → α}
/-- The first n of a row without what equals the one before it. -/
def ddp (f : Nat → α) : Nat → List α
  | 0 => []
  | j + 1 => ddp f j ++ (if j = 0 ∨ f j ≠ f (j - 1) then [f j] else [])
theorem ddp_new {j : Nat} (h : j = 0 ∨ f j ≠ f (j - 1)) : ddp f (j + 1) = ddp f j ++ [f j] := by rw [ddp, if_pos h]
theorem ddp_old {j : Nat} (h0 : j ≠ 0) (h : f j = f (j - 1)) : ddp f (j + 1) = ddp f j := by
  rw [ddp, if_neg (by rintro (h1 | h1); exact h0 h1; exact h1 h), List.append_nil]
theorem ddp_len : ∀ j, (ddp f j).length ≤ j
  | 0 => Nat.le_refl _
  | j + 1 => by
    have := ddp_len j
    rw [ddp, List.length_append]
    split <;> simp <;> omega
theorem ddp_ext : ∀ j, (∀ i, i < j → f i = g i) → ddp f j = ddp g j
  | 0, _ => rfl
  | j + 1, h => by
    rw [ddp, ddp, ddp_ext j (fun i hi => h i (by omega)), h j (by omega), h (j - 1) (by omega)]
omit [DecidableEq α] in
theorem arr_succ {j : Nat} : arr (j + 1) f = arr j f ++ [f j] := by simp [arr, List.range_succ]
theorem ddp_all : ∀ j, (∀ i, 0 < i → i < j → f i ≠ f (i - 1)) → ddp f j = arr j f
  | 0, _ => rfl
  | j + 1, h => by
    rw [ddp_new, ddp_all j (fun i h0 hi => h i h0 (by omega)), arr_succ]
    by_cases h0 : j = 0
    · exact Or.inl h0
    · exact Or.inr (h j (by omega) (by omega))
omit [DecidableEq α] in
theorem arr_inj {n : Nat} (h : arr n f = arr n g) : ∀ i, i < n → f i = g i := fun i hi => by
  have h1 : (arr n f)[i]? = some (f i) := arr_get hi
  rw [h, arr_get hi] at h1
  exact (Option.some.inj h1).symm
theorem ddp_mem : ∀ {j : Nat} {x : α}, x ∈ ddp f j → ∃ i, i < j ∧ x = f i
  | 0, _, h => by cases h
  | j + 1, x, h => by
    rw [ddp, List.mem_append] at h
    rcases h with h | h
    · obtain ⟨i, h1, h2⟩ := ddp_mem h
      exact ⟨i, by omega, h2⟩
    · split at h
      · rw [List.mem_singleton] at h
        exact ⟨j, by omega, h⟩
      · cases h
end
theorem srt_uniq {xs ys : List Pt} (hp : xs.Perm ys) (h1 : xs.Pairwise (fun x y => pLt y x = false)) (h2 : ys.Pairwise (fun x y => pLt y x = false)) : xs = ys :=
  List.Perm.eq_of_pairwise (fun a b _ _ ha hb => pLt_anti hb ha) h1 h2 hp
theorem arr_srt {n : Nat} {g : Nat → Pt} (h : (arr n g).Pairwise (fun x y => pLt y x = false)) : ∀ i j, i < j → j < n → pLt (g j) (g i) = false := fun i j hij hj => by
  rw [List.pairwise_iff_getElem] at h
  have := h i j (by rw [arr_len]; omega) (by rw [arr_len]; exact hj) hij
  have e1 : (arr n g)[i]'(by rw [arr_len]; omega) = g i := by
    have h9 : (arr n g)[i]? = some (g i) := arr_get (by omega)
    rw [List.getElem?_eq_getElem (by rw [arr_len]; omega)] at h9
    exact Option.some.inj h9
  have e2 : (arr n g)[j]'(by rw [arr_len]; omega) = g j := by
    have h9 : (arr n g)[j]? = some (g j) := arr_get (by omega)
    rw [List.getElem?_eq_getElem (by rw [arr_len]; omega)] at h9
    exact Option.some.inj h9
  rw [e1, e2] at this
  exact this
/-- Sorted, and each once: strictly increasing. -/
theorem ddp_strict {n : Nat} {g : Nat → Pt} (h : ∀ i j, i < j → j < n → pLt (g j) (g i) = false) : ∀ j, j ≤ n → (ddp g j).Pairwise (fun x y => pLt x y = true)
  | 0, _ => List.Pairwise.nil
  | j + 1, hj => by
    have ih := ddp_strict h j (by omega)
    by_cases hc : j = 0 ∨ g j ≠ g (j - 1)
    · rw [ddp_new hc, List.pairwise_append]
      refine ⟨ih, List.pairwise_singleton _ _, fun a ha b hb => ?_⟩
      rw [List.mem_singleton] at hb
      subst hb
      obtain ⟨i, hi, rfl⟩ := ddp_mem ha
      have h1 := h i j hi (by omega)
      cases hlt : pLt (g i) (g j)
      · exfalso
        have e := pLt_anti hlt h1
        rcases hc with hc | hc
        · omega
        · by_cases hij : i = j - 1
          · rw [hij] at e; exact hc e.symm
          · have h2 := h i (j - 1) (by omega) (by omega)
            have h3 := h (j - 1) j (by omega) (by omega)
            rw [e] at h2
            exact hc (pLt_anti h3 h2)
      · rfl
    · have h0 : j ≠ 0 := fun h => hc (Or.inl h)
      have h1 : g j = g (j - 1) := Classical.byContradiction fun h => hc (Or.inr h)
      rw [ddp_old h0 h1]; exact ih
theorem lex_time {a b : Pt} (h : pLt a b = true) : a.t ≤ b.t := by
  simp only [pLt, decide_eq_true_eq, Pt.key, lexc] at h
  by_cases h1 : a.t < b.t
  · omega
  · rw [if_neg h1] at h
    by_cases h2 : b.t < a.t
    · rw [if_pos h2] at h; omega
    · omega
/-- A time divides what is in order by time. -/
theorem split_time {u : Int} : ∀ (xs : List Pt), xs.Pairwise (fun x y => x.t ≤ y.t) → xs.filter (fun p => decide (p.t < u)) ++ xs.filter (fun p => decide (u ≤ p.t)) = xs
  | [], _ => rfl
  | x :: xs, h => by
    rw [List.pairwise_cons] at h
    have ih := split_time (u := u) xs h.2
    by_cases hx : x.t < u
    · rw [List.filter_cons_of_pos (by simpa using hx), List.filter_cons_of_neg (by simp; omega), List.cons_append, ih]
    · have e1 : xs.filter (fun p => decide (p.t < u)) = [] := by
        rw [List.filter_eq_nil_iff]
        intro p hp
        have := h.1 p hp
        simp; omega
      have e2 : xs.filter (fun p => decide (u ≤ p.t)) = xs := by rw [e1, List.nil_append] at ih; exact ih
      rw [List.filter_cons_of_neg (by simpa using hx), e1, List.filter_cons_of_pos (by simp; omega), e2, List.nil_append]
theorem chk_time {p : Pt} (h : p.chk = 0) : 0 ≤ p.t ∧ p.t ≤ 200000 := by
  unfold Pt.chk at h
  split at h
  · cases h
  · rename_i hn
    simp only [Bool.or_eq_true, decide_eq_true_eq, not_or] at hn
    omega
end Go.Proofs.Ytaekgifbehoipaa.Mo
/- What Compact does. Conditions stand in each lemma. -/
namespace Go.Proofs.Ytaekgifbehoipaa.Mo
open Go Go.Proofs.Ytaekgifbehoipaa.Eva Go.Proofs.Ytaekgifbehoipaa.CodeAll Go.Proofs.Ytaekgifbehoipaa.Fl Go.Proofs.Ytaekgifbehoipaa.So
set_option linter.unusedVariables false
set_option linter.unusedSimpArgs false
set_option maxRecDepth 10000
set_option maxHeartbeats 4000000

/-- A call that writes into objects from n0 on, of the caller too, and returns the address of one of those. -/
theorem call_mutB {E : Nat → Option CF} {g n0 : Nat} {cf : CF} {P : AV → List Ob → Prop} (hE : E g = some cf) {args : List AV} (hn : args.length = cf.np) (hnt : args.length ≤ cf.nt) {h : List Ob} (h0 : n0 ≤ h.length)
    (hw : wc E n0 cf.nt cf.code (fun e f h' => exOk e = true ∧ h.length ≤ h'.length ∧ ∃ v, (rvq cf.nt f h' cf.res).map mkRes = some v ∧ refs h.length v = [] ∧ (∀ σ, ren h.length σ v = v) ∧ P v h') (ofL args) h) :
    ∃ v h' h2 wl wa, ecall E g args h = some (v, h2, wl, wa) ∧ n0 ≤ wl ∧ n0 ≤ wa ∧ h2.take n0 = h.take n0 ∧ h.length ≤ h2.length ∧ h2.take h.length = h'.take h.length ∧ P v h' := by
  obtain ⟨e, f', h', k1, k2, k3, k4, k6, v, k5, r1, r2, k7⟩ := wc_sound _ _ _ _ h0 hw
  obtain ⟨s2, m1, m2, m3, m4, m5⟩ := ecode_w (s1 := stt cf.nt (ofL args) h n0 n0) (s2 := stt cf.nt (ofL args) h h.length h.length) ⟨rfl, rfl, h0, h0⟩ k1
  obtain ⟨ts2, hh2, wl2, wa2⟩ := s2
  simp only [stt] at m2 m3 m4 m5
  subst m2; subst m3
  obtain ⟨vs, hv, rfl⟩ := Option.map_eq_some_iff.1 k5
  have hr : rvs ⟨mkE cf.nt f', hh2, wl2, wa2⟩ cf.res = some vs := by
    rw [rvs_w (wl' := n0) (wa' := n0)]
    exact (rvq_eq f' hh2 cf.res).trans hv
  have hc : ecall E g args h = some (fin h.length (mkRes vs) ⟨mkE cf.nt f', hh2, wl2, wa2⟩) := by
    rw [ec_call hE hn hnt, m1]
    simp only [retE, Option.bind_some, k4, if_true, hr, Option.map_some]
  have hlt : ∀ n, n ≤ hh2.length → (hh2.take n).length = n := fun n hn => by rw [List.length_take, Nat.min_eq_left hn]
  by_cases hwa : wa2 < h.length
  · refine ⟨_, hh2, hh2, wl2, wa2, ?_, m4, m5, k3, k6, rfl, k7⟩
    rw [hc]; simp only [fin, hwa, if_true]
  · refine ⟨_, hh2, hh2.take h.length, wl2, h.length, ?_, m4, h0, ?_, by rw [hlt _ k6]; exact Nat.le_refl _, by rw [List.take_take, Nat.min_self], k7⟩
    · rw [hc]; simp only [fin, hwa, if_false, r1, dd, pickObjs, r2, List.append_nil]
    · rw [List.take_take, Nat.min_eq_left h0, k3]
theorem rfs_sl {n0 id : Nat} {b : Bool} {ep sz off len : Nat} (h : id < n0) : refs n0 (.sl b id ep sz off len) = [] ∧ ∀ σ, ren n0 σ (.sl b id ep sz off len) = .sl b id ep sz off len := by
  have h1 : ¬ n0 ≤ id := by omega
  constructor
  · simp [refs, h]
  · intro σ; simp [ren, h]
/-- What a slice holds that lies at the start of an object that is built. -/
def Pre (n0 : Nat) (h : List Ob) (v : AV) (xs : List Pt) (cs : List AV) : Prop := IsL n0 h v 6 true cs xs.length ∧ xs.length * 6 ≤ cs.length ∧ cs.take (xs.length * 6) = flat Pt.c xs
theorem Pre.sl {n0 : Nat} {h : List Ob} {v : AV} {xs : List Pt} {cs : List AV} (A : Pre n0 h v xs cs) : SlL h v Pt.c 6 xs := by
  obtain ⟨H, h1, h2⟩ := A
  refine ⟨fun _ => rfl, by decide, flat_len (k := 6) (fun _ => rfl) _, ?_⟩
  rcases H with ⟨rfl, rfl, h3⟩ | ⟨id, ep, rfl, h3, h4, h5⟩
  · exact Or.inl ⟨h3, Or.inr rfl⟩
  · exact Or.inr ⟨id, ep, 0, _, rfl, h3, by simp only [Nat.zero_add]; exact h1, by rw [List.drop_zero]; exact h2⟩
theorem slc_at {id ep n k : Nat} (h : k ≤ n) : slcA 6 (some (k : Int)) none (.sl false id ep 6 0 n) = some (.sl false id ep 6 (k * 6) (n - k)) := by
  have h1 : (0 : Int) ≤ (k : Int) ∧ (k : Int) ≤ (n : Int) ∧ (n : Int) ≤ (n : Int) ∧ (false = true ∨ True) := ⟨by omega, by omega, by omega, Or.inr trivial⟩
  simp only [slcA, Option.getD_some, Option.getD_none]
  rw [if_pos h1]; simp
theorem slc_to {id ep n k : Nat} (h : k ≤ n) : slcA 6 none (some (k : Int)) (.sl false id ep 6 0 n) = some (.sl false id ep 6 0 k) := by
  have h1 : (0 : Int) ≤ (0 : Int) ∧ (0 : Int) ≤ (k : Int) ∧ (k : Int) ≤ (n : Int) ∧ (false = true ∨ True) := ⟨by omega, by omega, by omega, Or.inr trivial⟩
  simp only [slcA, Option.getD_some, Option.getD_none]
  rw [if_pos h1]; simp
theorem idx_at {id ep n K j : Nat} : idxV 6 (.sl false id ep 6 (K * 6) (n - K)) (.int .i64 (j : Int)) = idxV 6 (.sl false id ep 6 0 n) (.int .i64 ((K + j : Nat) : Int)) := by
  rw [idxV_sl, idxV_sl]
  congr 1
  simp only [Int.toNat_natCast]
  omega
def pz : List AV := [.int .i64 0, .int .i64 0, .int .i64 0, .int .i64 0, .int .i64 0, .int .i64 0]
theorem pz_len (k : Nat) : (zrep k pz).length = k * 6 := by unfold zrep; split <;> simp_all [pz]
theorem compact_m {n0 n : Nat} {H : List Ob} {v : AV} {f : Nat → Pt} (A : Fs n0 H v Pt.c 6 n f) (hnil : n = 0 → v = .sl true 0 0 0 0 0) (h0 : n0 ≤ H.length) (hn : n ≤ 1125899906842624) :
    ∃ r h2 cs, mcall E n0 83 [v] H = some (r, h2) ∧ n0 ≤ h2.length ∧ Pre n0 h2 r (ddp f n) cs ∧ Kp v H h2 := by
  have vlt : ∀ id, idOf v id → id < H.length := fun id h => A.lt h
  have key : wc E n0 c83.nt c83.code (fun e x h' => exOk e = true ∧ H.length ≤ h'.length ∧ ∃ r, (rvq c83.nt x h' c83.res).map mkRes = some r ∧ refs H.length r = [] ∧ (∀ σ, ren H.length σ r = r) ∧ (∃ cs, Pre n0 h' r (ddp f n) cs) ∧ (∀ id, idOf r id → id < H.length) ∧ Kp v H h') (ofL [v]) H := by
    have len := A.len
    have retv : ddp f n = arr n f → refs H.length v = [] ∧ (∀ σ, ren H.length σ v = v) ∧ (∃ cs, Pre n0 H v (ddp f n) cs) ∧ (∀ id, idOf v id → id < H.length) ∧ Kp v H H := fun he => by
      by_cases hz : n = 0
      · have hv := hnil hz
        subst hv
        subst hz
        exact ⟨by simp [refs], by simp [ren], ⟨[], IsL.nil, by simp [ddp], rfl⟩, vlt, Kp.refl⟩
      · obtain ⟨id, ep, rfl, h2, h3⟩ := A.real (i := 0) (by omega)
        obtain ⟨r1, r2⟩ := rfs_sl (b := false) (ep := ep) (sz := 6) (off := 0) (len := n) (rd_lt h2)
        have hl : (ddp f n).length = n := by rw [he, arr_len]
        have hfl : (flat Pt.c (arr n f)).length = n * 6 := by rw [flat_len (k := 6) (fun _ => rfl), arr_len]
        exact ⟨r1, r2, ⟨flat Pt.c (arr n f), Or.inr ⟨id, ep, by rw [hl], h2, h3, by omega⟩, by rw [hl, hfl]; exact Nat.le_refl _, by rw [hl, he, ← hfl, List.take_length]⟩, vlt, Kp.refl⟩
    by_cases hn2 : n < 2
    · have b1 : decide ((n : Int) < 2) = true := decide_eq_true (by omega)
      obtain ⟨q1, q2, q3⟩ := retv (ddp_all n (fun i h0 hi => by omega))
      simp (config := {maxSteps := 4000000}) only [c83, len, b1, SS, bne_self_eq_false, wr_def, obOf, List.all_cons, List.all_nil, List.map_cons, List.map_nil, List.length_cons, List.length_nil, List.take_zero, List.take_succ_cons, List.take_nil, List.drop_zero, List.drop_succ_cons, List.drop_nil, Nat.reduceAdd, Nat.reduceMul, Nat.reduceSub, if_true, Nat.reduceLT, Nat.reduceLeDiff, ite_true, ite_false, Nat.reduceEqDiff, if_false, reduceCtorEq, ne_eq, List.getD, List.getElem?_cons_zero, List.getElem?_cons_succ, Option.getD_some, Option.bind_some, Option.map_some, Option.isSome_some, reduceIte, List.length_append, List.append_assoc, List.cons_append, List.nil_append, Option.some.injEq, forall_const, implies_true, Int.reduceNeg, eq_self, Prod.mk.injEq, List.self_eq_append_right, List.append_nil, exists_eq_left, exists_eq_left', exists_and_left, exists_eq_right, exists_and_right]
      exact ⟨q1, q2, q3⟩
    have b1 : decide ((n : Int) < 2) = false := decide_eq_false (by omega)
    simp (config := {maxSteps := 4000000}) only [c83, len, b1, SS, bne_self_eq_false, wr_def, obOf, List.all_cons, List.all_nil, List.map_cons, List.map_nil, List.length_cons, List.length_nil, List.take_zero, List.take_succ_cons, List.take_nil, List.drop_zero, List.drop_succ_cons, List.drop_nil, Nat.reduceAdd, Nat.reduceMul, Nat.reduceSub, if_true, Nat.reduceLT, Nat.reduceLeDiff, ite_true, ite_false, Nat.reduceEqDiff, if_false, reduceCtorEq, ne_eq, List.getD, List.getElem?_cons_zero, List.getElem?_cons_succ, Option.getD_some, Option.bind_some, Option.map_some, Option.isSome_some, reduceIte, List.length_append, List.append_assoc, List.cons_append, List.nil_append, Option.some.injEq, forall_const, implies_true, Int.reduceNeg, eq_self, Prod.mk.injEq, List.self_eq_append_right, List.append_nil, exists_eq_left, exists_eq_left', exists_and_left, exists_eq_right, exists_and_right]
    obtain ⟨id, ep, hv, hR, hid⟩ := A.real (i := 0) (by omega)
    have hidl := rd_lt hR
    have ldv : ∀ {h : List Ob} {g : Nat → Pt}, Fs n0 h v Pt.c 6 n g → ∀ {i : Nat}, i < n → ldnA 6 h (idxV 6 v (.int .i64 (i : Int))) = some (.agg (g i).c) := by intro h g B i hi; exact B.ldn lCtx.L hi
    have hne : ∀ {x y : Pt}, x ≠ y → ((x.r == y.r) && ((x.t == y.t) && ((x.d == y.d) && ((x.a == y.a) && ((x.h == y.h) && (x.k == y.k)))))) = false := fun {x y} h => by
      cases hb : ((x.r == y.r) && ((x.t == y.t) && ((x.d == y.d) && ((x.a == y.a) && ((x.h == y.h) && (x.k == y.k))))))
      · rfl
      · exfalso; apply h
        simp only [Bool.and_eq_true, beq_iff_eq] at hb
        obtain ⟨r1, r2, r3, r4, r5, r6⟩ := hb
        cases x; cases y; simp_all
    have hbb : ∀ x : Int, (x == x) = true := fun x => by simp
    refine W_loop (fun q f1 h1 => ∃ k : Nat, q = n - k ∧ 0 < k ∧ k ≤ n ∧ f1 0 = v ∧ f1 3 = .int .i64 (k : Int) ∧ h1 = H ∧ ∀ i, 0 < i → i < k → f i ≠ f (i - 1)) (by omega) _ ⟨1, rfl, by omega, by omega, rfl, rfl, rfl, fun i h1 h2 => by omega⟩ ?_
    rintro q f1 h1 hn1 ht ⟨k, rfl, hk0, hk, e0, e3, rfl, hF⟩
    by_cases hkn : k < n
    rotate_left
    · have b2 : decide ((k : Int) < (n : Int)) = false := decide_eq_false (by omega)
      have : k = n := by omega
      subst this
      obtain ⟨q1, q2, q3⟩ := retv (ddp_all k hF)
      simp (config := {maxSteps := 4000000}) only [e0, e3, len, b2, SS, bne_self_eq_false, wr_def, obOf, List.all_cons, List.all_nil, List.map_cons, List.map_nil, List.length_cons, List.length_nil, List.take_zero, List.take_succ_cons, List.take_nil, List.drop_zero, List.drop_succ_cons, List.drop_nil, Nat.reduceAdd, Nat.reduceMul, Nat.reduceSub, if_true, Nat.reduceLT, Nat.reduceLeDiff, ite_true, ite_false, Nat.reduceEqDiff, if_false, reduceCtorEq, ne_eq, List.getD, List.getElem?_cons_zero, List.getElem?_cons_succ, Option.getD_some, Option.bind_some, Option.map_some, Option.isSome_some, reduceIte, List.length_append, List.append_assoc, List.cons_append, List.nil_append, Option.some.injEq, forall_const, implies_true, Int.reduceNeg, eq_self, Prod.mk.injEq, List.self_eq_append_right, List.append_nil, exists_eq_left, exists_eq_left', exists_and_left, exists_eq_right, exists_and_right]
      exact ⟨q1, q2, q3⟩
    have b2 : decide ((k : Int) < (n : Int)) = true := decide_eq_true (by omega)
    have wk : IntKind.i64.wrap ((k : Int) + 1) = ((k + 1 : Nat) : Int) := by rw [wrap64 (by omega) (by omega)]; omega
    have wm : IntKind.i64.wrap ((k : Int) - 1) = ((k - 1 : Nat) : Int) := by rw [wrap64 (by omega) (by omega)]; omega
    have o1 : idxOk 6 v (.int .i64 (k : Int)) := A.ok hkn
    have o2 : idxOk 6 v (.int .i64 ((k - 1 : Nat) : Int)) := A.ok (by omega)
    have d1 := ldv A hkn
    have d2 := ldv A (show k - 1 < n by omega)
    by_cases hxy : f k = f (k - 1)
    rotate_left
    · have hz := hne hxy
      simp only [Pt.c] at d1 d2
      simp (config := {maxSteps := 4000000}) only [e0, e3, len, b2, wk, wm, o1, o2, isPtr_idx o1, isPtr_idx o2, d1, d2, hz, Bool.false_xor, SS, bne_self_eq_false, wr_def, obOf, List.all_cons, List.all_nil, List.map_cons, List.map_nil, List.length_cons, List.length_nil, List.take_zero, List.take_succ_cons, List.take_nil, List.drop_zero, List.drop_succ_cons, List.drop_nil, Nat.reduceAdd, Nat.reduceMul, Nat.reduceSub, if_true, Nat.reduceLT, Nat.reduceLeDiff, ite_true, ite_false, Nat.reduceEqDiff, if_false, reduceCtorEq, ne_eq, List.getD, List.getElem?_cons_zero, List.getElem?_cons_succ, Option.getD_some, Option.bind_some, Option.map_some, Option.isSome_some, reduceIte, List.length_append, List.append_assoc, List.cons_append, List.nil_append, Option.some.injEq, forall_const, implies_true, Int.reduceNeg, eq_self, Prod.mk.injEq, List.self_eq_append_right, List.append_nil, exists_eq_left, exists_eq_left', exists_and_left, exists_eq_right, exists_and_right]
      exact ⟨_, by omega, k + 1, rfl, by omega, by omega, rfl, fun i h1 h2 => by
        by_cases h : i = k
        · rw [h]; exact hxy
        · exact hF i h1 (by omega)⟩
    rw [hxy] at d1
    simp only [Pt.c] at d1 d2
    have sl1 := slc_at (id := id) (ep := ep) (n := n) (k := k) (by omega)
    rw [← hv] at sl1
    simp (config := {maxSteps := 4000000}) only [e0, e3, len, b2, wk, wm, o1, o2, isPtr_idx o1, isPtr_idx o2, d1, d2, hbb, sl1, Bool.false_xor, SS, bne_self_eq_false, wr_def, obOf, List.all_cons, List.all_nil, List.map_cons, List.map_nil, List.length_cons, List.length_nil, List.take_zero, List.take_succ_cons, List.take_nil, List.drop_zero, List.drop_succ_cons, List.drop_nil, Nat.reduceAdd, Nat.reduceMul, Nat.reduceSub, if_true, Nat.reduceLT, Nat.reduceLeDiff, ite_true, ite_false, Nat.reduceEqDiff, if_false, reduceCtorEq, ne_eq, List.getD, List.getElem?_cons_zero, List.getElem?_cons_succ, Option.getD_some, Option.bind_some, Option.map_some, Option.isSome_some, reduceIte, List.length_append, List.append_assoc, List.cons_append, List.nil_append, Option.some.injEq, forall_const, implies_true, Int.reduceNeg, eq_self, Prod.mk.injEq, List.self_eq_append_right, List.append_nil, exists_eq_left, exists_eq_left', exists_and_left, exists_eq_right, exists_and_right]
    have hkid := hv ▸ vlt
    have hlenW : lenvA false (.sl false id ep 6 (k * 6) (n - k)) = some (.int .i64 ((n - k : Nat) : Int)) := rfl
    clear wk wm o1 o2 d1 d2 b2
    refine W_loop (fun q f2 h2 => ∃ (j i : Nat) (g : Nat → Pt), q = (n - k) - j ∧ 1 ≤ j ∧ j ≤ n - k ∧ f2 0 = v ∧ f2 3 = .int .i64 (i : Int) ∧ f2 4 = .sl false id ep 6 (k * 6) (n - k) ∧ f2 5 = .int .i64 (j : Int) ∧ Fs n0 h2 v Pt.c 6 n g ∧ Kp v h1 h2 ∧ k ≤ i ∧ i + 1 ≤ k + j ∧ (∀ x, k + j - 1 ≤ x → g x = f x) ∧ arr i g = ddp f (k + j)) (by first | exact hn1 | simp) _ ⟨1, k, f, rfl, Nat.le_refl _, by omega, e0, e3, rfl, rfl, A, Kp.refl, Nat.le_refl _, Nat.le_refl _, fun _ _ => rfl, ?_⟩ ?_
    · rw [ddp_old (by omega) hxy, ddp_all k hF]
    clear hF
    rintro q f2 h2 hn2 ht2 ⟨j, i, g, rfl, hj1, hj, e0, e3, e4, e5, B, K, hki, hij, G, D⟩
    by_cases hjn : j < n - k
    · have b2 : decide ((j : Int) < ((n - k : Nat) : Int)) = true := decide_eq_true (by omega)
      have wj : IntKind.i64.wrap ((j : Int) + 1) = ((j + 1 : Nat) : Int) := by rw [wrap64 (by omega) (by omega)]; omega
      have wi : IntKind.i64.wrap ((i : Int) + 1) = ((i + 1 : Nat) : Int) := by rw [wrap64 (by omega) (by omega)]; omega
      have wm : IntKind.i64.wrap ((j : Int) - 1) = ((j - 1 : Nat) : Int) := by rw [wrap64 (by omega) (by omega)]; omega
      have o1 : idxOk 6 (.sl false id ep 6 (k * 6) (n - k)) (.int .i64 (j : Int)) := ⟨by omega, by omega, rfl, rfl⟩
      have o2 : idxOk 6 (.sl false id ep 6 (k * 6) (n - k)) (.int .i64 ((j - 1 : Nat) : Int)) := ⟨by omega, by omega, rfl, rfl⟩
      have o3 : idxOk 6 v (.int .i64 (i : Int)) := B.ok (by omega)
      have i1 : ∀ j : Nat, idxV 6 (.sl false id ep 6 (k * 6) (n - k)) (.int .i64 (j : Int)) = idxV 6 v (.int .i64 ((k + j : Nat) : Int)) := fun j => by rw [hv]; exact idx_at
      have d1 := ldv B (show k + j < n by omega)
      have d2 := ldv B (show k + (j - 1) < n by omega)
      rw [G _ (by omega)] at d1 d2
      have p1 : isPtr (idxV 6 v (.int .i64 ((k + j : Nat) : Int))) = true := isPtr_idx (B.ok (by omega))
      have p2 : isPtr (idxV 6 v (.int .i64 ((k + (j - 1) : Nat) : Int))) = true := isPtr_idx (B.ok (by omega))
      generalize hW : AV.sl false id ep 6 (k * 6) (n - k) = w at *
      by_cases hxy2 : f (k + j) = f (k + (j - 1))
      · rw [hxy2] at d1
        simp only [Pt.c] at d1 d2
        simp (config := {maxSteps := 4000000}) only [e0, e3, e4, e5, hlenW, b2, wj, wm, o1, o2, i1, p1, p2, d1, d2, hbb, Bool.xor_self, Bool.true_xor, SS, bne_self_eq_false, wr_def, obOf, List.all_cons, List.all_nil, List.map_cons, List.map_nil, List.length_cons, List.length_nil, List.take_zero, List.take_succ_cons, List.take_nil, List.drop_zero, List.drop_succ_cons, List.drop_nil, Nat.reduceAdd, Nat.reduceMul, Nat.reduceSub, if_true, Nat.reduceLT, Nat.reduceLeDiff, ite_true, ite_false, Nat.reduceEqDiff, if_false, reduceCtorEq, ne_eq, List.getD, List.getElem?_cons_zero, List.getElem?_cons_succ, Option.getD_some, Option.bind_some, Option.map_some, Option.isSome_some, reduceIte, List.length_append, List.append_assoc, List.cons_append, List.nil_append, Option.some.injEq, forall_const, implies_true, Int.reduceNeg, eq_self, Prod.mk.injEq, List.self_eq_append_right, List.append_nil, exists_eq_left, exists_eq_left', exists_and_left, exists_eq_right, exists_and_right]
        exact ⟨_, by omega, j + 1, rfl, by omega, by omega, i, rfl, rfl, g, B, K, hki, by omega, fun x hx => G x (by omega), by rw [D, ← Nat.add_assoc, ddp_old (by omega) (by rw [hxy2]; congr 1; omega)]⟩
      · have hz := hne hxy2
        obtain ⟨s1, s2, s3, s4⟩ := B.st lCtx.L (kk := .i64) (show i < n by omega) (f (k + j))
        have s0 := B.stO lCtx.L (kk := .i64) (show i < n by omega) (f (k + j))
        simp only [pV, Pt.c] at d1 d2 s0 s1 s2 s3 s4
        simp (config := {maxSteps := 4000000}) only [e0, e3, e4, e5, hlenW, b2, wj, wm, wi, o1, o2, o3, i1, p1, p2, isPtr_idx o3, d1, d2, hz, s0, Bool.true_xor, SS, bne_self_eq_false, wr_def, obOf, List.all_cons, List.all_nil, List.map_cons, List.map_nil, List.length_cons, List.length_nil, List.take_zero, List.take_succ_cons, List.take_nil, List.drop_zero, List.drop_succ_cons, List.drop_nil, Nat.reduceAdd, Nat.reduceMul, Nat.reduceSub, if_true, Nat.reduceLT, Nat.reduceLeDiff, ite_true, ite_false, Nat.reduceEqDiff, if_false, reduceCtorEq, ne_eq, List.getD, List.getElem?_cons_zero, List.getElem?_cons_succ, Option.getD_some, Option.bind_some, Option.map_some, Option.isSome_some, reduceIte, List.length_append, List.append_assoc, List.cons_append, List.nil_append, Option.some.injEq, forall_const, implies_true, Int.reduceNeg, eq_self, Prod.mk.injEq, List.self_eq_append_right, List.append_nil, exists_eq_left, exists_eq_left', exists_and_left, exists_eq_right, exists_and_right]
        refine ⟨_, by omega, j + 1, rfl, by omega, by omega, i + 1, rfl, rfl, put g i (f (k + j)), s1, K.trans s2, by omega, by omega, fun x hx => by rw [put_ne (by omega)]; exact G x (by omega), ?_⟩
        have e1 : k + j - 1 = k + (j - 1) := by omega
        rw [arr_succ, put_same, ← Nat.add_assoc, ddp_new (Or.inr (by rw [e1]; exact hxy2)), ← D, arr_ext (g := g) (fun x hx => put_ne (by omega))]
    have b2 : decide ((j : Int) < ((n - k : Nat) : Int)) = false := decide_eq_false (by omega)
    have hje : k + j = n := by omega
    rw [hje] at hij D G
    have sl2 := slc_at (id := id) (ep := ep) (n := n) (k := i) (by omega)
    have sl3 := slc_to (id := id) (ep := ep) (n := n) (k := i) (by omega)
    obtain ⟨id', ep', hv', hR2, -⟩ := B.real (i := 0) (by omega)
    rw [hv] at hv'
    simp only [AV.sl.injEq, true_and, and_true] at hv'
    obtain ⟨rfl, rfl⟩ := hv'
    rw [← hv] at sl2 sl3
    simp (config := {maxSteps := 4000000}) only [e0, e3, e4, e5, hlenW, b2, sl2, sl3, rg_clr, SS, bne_self_eq_false, wr_def, obOf, List.all_cons, List.all_nil, List.map_cons, List.map_nil, List.length_cons, List.length_nil, List.take_zero, List.take_succ_cons, List.take_nil, List.drop_zero, List.drop_succ_cons, List.drop_nil, Nat.reduceAdd, Nat.reduceMul, Nat.reduceSub, if_true, Nat.reduceLT, Nat.reduceLeDiff, ite_true, ite_false, Nat.reduceEqDiff, if_false, reduceCtorEq, ne_eq, List.getD, List.getElem?_cons_zero, List.getElem?_cons_succ, Option.getD_some, Option.bind_some, Option.map_some, Option.isSome_some, reduceIte, List.length_append, List.append_assoc, List.cons_append, List.nil_append, Option.some.injEq, forall_const, implies_true, Int.reduceNeg, eq_self, Prod.mk.injEq, List.self_eq_append_right, List.append_nil, exists_eq_left, exists_eq_left', exists_and_left, exists_eq_right, exists_and_right]
    obtain ⟨r1, r2⟩ := rfs_sl (b := false) (ep := ep) (sz := 6) (off := 0) (len := i) hidl
    have hdl : (ddp f n).length = i := by rw [← D, arr_len]
    have hfl : (flat Pt.c (arr n g)).length = n * 6 := by rw [flat_len (k := 6) (fun _ => rfl), arr_len]
    have hfit : i * 6 + (zrep (n - i) pz).length ≤ (flat Pt.c (arr n g)).length := by rw [pz_len, hfl]; omega
    have hw := wr_eq hfit
    have hwl : (wr (flat Pt.c (arr n g)) (i * 6) (zrep (n - i) pz)).length = n * 6 := by
      rw [hw, List.length_append, List.length_append, List.length_take, List.length_drop, pz_len, hfl]; omega
    have htk : (wr (flat Pt.c (arr n g)) (i * 6) (zrep (n - i) pz)).take (i * 6) = flat Pt.c (arr i g) := by
      have e1 : ((flat Pt.c (arr n g)).take (i * 6)).length = i * 6 := by rw [List.length_take, hfl]; omega
      have e2 : (arr n g).take i = arr i g := by
        unfold arr
        rw [← List.map_take, List.take_range, Nat.min_eq_left (by omega)]
      rw [hw, List.append_assoc, List.take_append_of_le_length (by omega), List.take_take, Nat.min_self, ← flat_take' (k := 6) (fun _ => rfl), e2]
    have hsc : (zrep (n - i) pz).all AV.scalar = true := by rw [List.all_eq_true]; exact zrep_scalar (zs := pz) (by decide)
    have hset : ∀ o : Ob, rdObj (h2.set id o) id o.ep = some o := fun o => rd_set_same (by have := rd_lt hR2; exact this)
    refine Or.inr ⟨by omega, rfl, rfl, hid, ⟨flat Pt.c (arr n g), ep, 6, true, true⟩, hR2, by simp only; rw [hfl]; omega, rfl, ?_, r1, r2, ⟨wr (flat Pt.c (arr n g)) (i * 6) (zrep (n - i) pz), Or.inr ⟨id, ep, by rw [hdl], ?_, hid, by omega⟩, by rw [hdl, hwl]; omega, by rw [hdl, htk, D]⟩, ?_, ?_⟩
    · rw [List.length_set]; exact K.1
    · have := hset ⟨wr (flat Pt.c (arr n g)) (i * 6) (zrep (n - i) pz), ep, 6, true, true && (zrep (n - i) pz).all AV.scalar⟩
      rw [hsc] at this
      simp only [Bool.and_true] at this
      show rdObj (h2.set id ⟨wr (flat Pt.c (arr n g)) (i * 6) (zrep (n - i) pz), ep, 6, true, true && (zrep (n - i) pz).all AV.scalar⟩) id ep = _
      rw [hsc]
      exact this
    · rintro id' ⟨_, rfl⟩; exact hidl
    · refine K.trans ⟨by rw [List.length_set]; exact Nat.le_refl _, fun id' ep' o hne ho => ?_⟩
      rw [rd_set_ne (fun e => hne (by rw [hv]; exact ⟨rfl, e⟩))]; exact ho
  obtain ⟨r, h', h2, wl, wa, k1, k2, k3, k4, k5, k6, ⟨cs, q1⟩, q2, q3⟩ := call_mutB e83 rfl (Nat.le_of_ble_eq_true rfl) h0 key
  have hm : ∀ id ep o, id < H.length → rdObj h' id ep = some o → rdObj h2 id ep = some o := fun id ep o hid ho => rd_take k6 hid ho
  exact ⟨r, h2, cs, mcall_some.2 ⟨wl, wa, k1, k2, k3, by omega, k4⟩, by omega, ⟨q1.1.mono fun id ep o hid ho => hm id ep o (q2 id hid) ho, q1.2⟩, ⟨k5, fun id ep o hid ho => hm id ep o (rd_lt ho) (q3.2 id ep o hid ho)⟩⟩
end Go.Proofs.Ytaekgifbehoipaa.Mo
