/- Sorting as the library does it (kind S): choosing a pivot, breaking patterns. Conditions stand in each lemma. -/
import Derived.Test.YtaekgifbehoipaaZFuseOnceb
import Derived.Test.YtaekgifbehoipaaZFuseOncea
namespace Go.Proofs.Ytaekgifbehoipaa.So.KS
open Go Go.Proofs.Ytaekgifbehoipaa.Eva Go.Proofs.Ytaekgifbehoipaa.CodeAll Go.Proofs.Ytaekgifbehoipaa.So Go.Proofs.Ytaekgifbehoipaa.Fl
set_option linter.unusedVariables false
set_option linter.unusedSimpArgs false
set_option maxRecDepth 10000
set_option maxHeartbeats 4000000

section
variable {α : Type} {c : α → List AV} {e : α → AV} {lt : α → α → Bool} {KC : AV} {q : α → α → Int} (X : Ctx c e lt KC q)
include X

theorem ord_m {n0 n i j id : Nat} {s : Int} {H : List Ob} {v : AV} {f : Nat → α} (A : Fs 0 H v c 6 n f) (C : Bx H id (.int .i64 s)) (hid : n0 ≤ id) (h0 : n0 ≤ H.length) (hi : i < n) (hj : j < n) :
    ∃ r h2 w, mcall E n0 170 [v, .int .i64 (i : Int), .int .i64 (j : Int), .ptr id 0 0, KC] H = some (r, h2) ∧ n0 ≤ h2.length ∧ Kb id H h2 ∧ Bx h2 id w ∧ (∃ t, w = .int .i64 t) ∧ (r = .tup [.int .i64 (i : Int), .int .i64 (j : Int)] ∨ r = .tup [.int .i64 (j : Int), .int .i64 (i : Int)]) := by
  obtain ⟨L, O, he, hcmp, hq⟩ := X
  refine box_call (P := fun r w => (∃ t, w = .int .i64 t) ∧ (r = .tup [.int .i64 (i : Int), .int .i64 (j : Int)] ∨ r = .tup [.int .i64 (j : Int), .int .i64 (i : Int)])) e170 rfl (Nat.le_of_ble_eq_true rfl) h0 C ?_
  have oi := A.ok (kk := .i64) hi
  have oj := A.ok (kk := .i64) hj
  have di := Fs.ldE L he A (kk := .i64) hi
  have dj := Fs.ldE L he A (kk := .i64) hj
  obtain ⟨C', K'⟩ := bx_put C (w := .int .i64 (IntKind.i64.wrap (s + 1))) rfl
  have r0 : rdObj H id 0 = _ := C
  have r1 : rdObj _ id 0 = _ := C'
  cases hl : lt (f j) (f i)
  · simp (config := {maxSteps := 4000000}) only [c170, oi, oj, isPtr_idx oi, isPtr_idx oj, di, dj, hcmp, hq, hl, h0, SS, bne_self_eq_false, wr_def, obOf, List.all_cons, List.all_nil, List.map_cons, List.map_nil, List.length_cons, List.length_nil, List.take_zero, List.take_succ_cons, List.take_nil, List.drop_zero, List.drop_succ_cons, List.drop_nil, Nat.reduceAdd, Nat.reduceMul, Nat.reduceSub, if_true, Nat.reduceLT, Nat.reduceLeDiff, ite_true, ite_false, Nat.reduceEqDiff, if_false, reduceCtorEq, ne_eq, List.getD, List.getElem?_cons_zero, List.getElem?_cons_succ, Option.getD_some, Option.bind_some, Option.map_some, Option.isSome_some, reduceIte, List.length_append, List.append_assoc, List.cons_append, List.nil_append, Option.some.injEq, forall_const, implies_true, Int.reduceNeg, eq_self, Prod.mk.injEq, List.self_eq_append_right, List.append_nil, exists_eq_left, exists_eq_left', exists_and_left, exists_eq_right, exists_and_right]
    exact ⟨rfl, Kb.refl, _, C, ⟨s, rfl⟩, Or.inl (by trivial)⟩
  · simp (config := {maxSteps := 4000000}) only [c170, oi, oj, isPtr_idx oi, isPtr_idx oj, di, dj, hcmp, hq, hl, h0, r0, r1, hid, SS, bne_self_eq_false, wr_def, obOf, List.all_cons, List.all_nil, List.map_cons, List.map_nil, List.length_cons, List.length_nil, List.take_zero, List.take_succ_cons, List.take_nil, List.drop_zero, List.drop_succ_cons, List.drop_nil, Nat.reduceAdd, Nat.reduceMul, Nat.reduceSub, if_true, Nat.reduceLT, Nat.reduceLeDiff, ite_true, ite_false, Nat.reduceEqDiff, if_false, reduceCtorEq, ne_eq, List.getD, List.getElem?_cons_zero, List.getElem?_cons_succ, Option.getD_some, Option.bind_some, Option.map_some, Option.isSome_some, reduceIte, List.length_append, List.append_assoc, List.cons_append, List.nil_append, Option.some.injEq, forall_const, implies_true, Int.reduceNeg, eq_self, Prod.mk.injEq, List.self_eq_append_right, List.append_nil, exists_eq_left, exists_eq_left', exists_and_left, exists_eq_right, exists_and_right]
    exact ⟨rfl, K', _, C', ⟨_, rfl⟩, Or.inr (by trivial)⟩

theorem med_m {n0 n i j k id : Nat} {s : Int} {H : List Ob} {v : AV} {f : Nat → α} (A : Fs 0 H v c 6 n f) (C : Bx H id (.int .i64 s)) (hid : n0 ≤ id) (hne : ¬ idOf v id) (h0 : n0 ≤ H.length) (hi : i < n) (hj : j < n) (hk : k < n) :
    ∃ r h2 w, mcall E n0 160 [v, .int .i64 (i : Int), .int .i64 (j : Int), .int .i64 (k : Int), .ptr id 0 0, KC] H = some (r, h2) ∧ n0 ≤ h2.length ∧ Kb id H h2 ∧ Bx h2 id w ∧ (∃ t, w = .int .i64 t) ∧ ∃ m : Nat, r = .int .i64 (m : Int) ∧ (m = i ∨ m = j ∨ m = k) := by
  have ord := @ord_m _ c e lt KC q X n0 n
  refine box_call (P := fun r w => (∃ t, w = .int .i64 t) ∧ ∃ m : Nat, r = .int .i64 (m : Int) ∧ (m = i ∨ m = j ∨ m = k)) e160 rfl (Nat.le_of_ble_eq_true rfl) h0 C ?_
  have mono : ∀ {h h' : List Ob}, Fs 0 h v c 6 n f → Kb id h h' → Fs 0 h' v c 6 n f := fun A K => A.mono fun id' ep o hid ho => K.2 id' ep o (fun e => hne (e ▸ hid)) ho
  obtain ⟨r1, h1, w1, m1, l1, K1, C1, ⟨t1, rfl⟩, q1⟩ := ord A C hid h0 hi hj
  have A1 := mono A K1
  obtain ⟨x1, y1, e1, z1⟩ : ∃ x y : Nat, r1 = .tup [.int .i64 (x : Int), .int .i64 (y : Int)] ∧ ((x = i ∧ y = j) ∨ (x = j ∧ y = i)) := by
    rcases q1 with h | h
    · exact ⟨i, j, h, Or.inl ⟨rfl, rfl⟩⟩
    · exact ⟨j, i, h, Or.inr ⟨rfl, rfl⟩⟩
  subst e1
  obtain ⟨r2, h2, w2, m2, l2, K2, C2, ⟨t2, rfl⟩, q2⟩ := ord (i := y1) (j := k) A1 C1 hid l1 (by omega) hk
  have A2 := mono A1 K2
  obtain ⟨x2, y2, e2, z2⟩ : ∃ x y : Nat, r2 = .tup [.int .i64 (x : Int), .int .i64 (y : Int)] ∧ ((x = y1 ∧ y = k) ∨ (x = k ∧ y = y1)) := by
    rcases q2 with h | h
    · exact ⟨_, _, h, Or.inl ⟨rfl, rfl⟩⟩
    · exact ⟨_, _, h, Or.inr ⟨rfl, rfl⟩⟩
  subst e2
  obtain ⟨r3, h3, w3, m3, l3, K3, C3, ⟨t3, rfl⟩, q3⟩ := ord (i := x1) (j := x2) A2 C2 hid l2 (by omega) (by omega)
  obtain ⟨x3, y3, e3, z3⟩ : ∃ x y : Nat, r3 = .tup [.int .i64 (x : Int), .int .i64 (y : Int)] ∧ ((x = x1 ∧ y = x2) ∨ (x = x2 ∧ y = x1)) := by
    rcases q3 with h | h
    · exact ⟨_, _, h, Or.inl ⟨rfl, rfl⟩⟩
    · exact ⟨_, _, h, Or.inr ⟨rfl, rfl⟩⟩
  subst e3
  simp (config := {maxSteps := 4000000}) only [c160, rg_callm, mcallV_fn, m1, m2, m3, SS, bne_self_eq_false, wr_def, obOf, List.all_cons, List.all_nil, List.map_cons, List.map_nil, List.length_cons, List.length_nil, List.take_zero, List.take_succ_cons, List.take_nil, List.drop_zero, List.drop_succ_cons, List.drop_nil, Nat.reduceAdd, Nat.reduceMul, Nat.reduceSub, if_true, Nat.reduceLT, Nat.reduceLeDiff, ite_true, ite_false, Nat.reduceEqDiff, if_false, reduceCtorEq, ne_eq, List.getD, List.getElem?_cons_zero, List.getElem?_cons_succ, Option.getD_some, Option.bind_some, Option.map_some, Option.isSome_some, reduceIte, List.length_append, List.append_assoc, List.cons_append, List.nil_append, Option.some.injEq, forall_const, implies_true, Int.reduceNeg, eq_self, Prod.mk.injEq, List.self_eq_append_right, List.append_nil, exists_eq_left, exists_eq_left', exists_and_left, exists_eq_right, exists_and_right]
  exact ⟨rfl, (K1.trans K2).trans K3, _, C3, ⟨_, rfl⟩, y3, rfl, by omega⟩

theorem meda_m {n0 n i id : Nat} {s : Int} {H : List Ob} {v : AV} {f : Nat → α} (A : Fs 0 H v c 6 n f) (C : Bx H id (.int .i64 s)) (hid : n0 ≤ id) (hne : ¬ idOf v id) (h0 : n0 ≤ H.length) (hi : i + 1 < n) (hi0 : 1 ≤ i) (hn : n ≤ 1125899906842624) :
    ∃ r h2 w, mcall E n0 159 [v, .int .i64 (i : Int), .ptr id 0 0, KC] H = some (r, h2) ∧ n0 ≤ h2.length ∧ Kb id H h2 ∧ Bx h2 id w ∧ (∃ t, w = .int .i64 t) ∧ ∃ m : Nat, r = .int .i64 (m : Int) ∧ i - 1 ≤ m ∧ m ≤ i + 1 := by
  refine box_call (P := fun r w => (∃ t, w = .int .i64 t) ∧ ∃ m : Nat, r = .int .i64 (m : Int) ∧ i - 1 ≤ m ∧ m ≤ i + 1) e159 rfl (Nat.le_of_ble_eq_true rfl) h0 C ?_
  have w1 : IntKind.i64.wrap ((i : Int) - 1) = ((i - 1 : Nat) : Int) := by rw [wrap64 (by omega) (by omega)]; omega
  have w2 : IntKind.i64.wrap ((i : Int) + 1) = ((i + 1 : Nat) : Int) := by rw [wrap64 (by omega) (by omega)]; omega
  obtain ⟨r, h2, w, m1, l1, K1, C1, ht, m, rfl, hm⟩ := med_m X (i := i - 1) (j := i) (k := i + 1) A C hid hne h0 (by omega) (by omega) hi
  simp (config := {maxSteps := 4000000}) only [c159, w1, w2, rg_callm, mcallV_fn, m1, SS, bne_self_eq_false, wr_def, obOf, List.all_cons, List.all_nil, List.map_cons, List.map_nil, List.length_cons, List.length_nil, List.take_zero, List.take_succ_cons, List.take_nil, List.drop_zero, List.drop_succ_cons, List.drop_nil, Nat.reduceAdd, Nat.reduceMul, Nat.reduceSub, if_true, Nat.reduceLT, Nat.reduceLeDiff, ite_true, ite_false, Nat.reduceEqDiff, if_false, reduceCtorEq, ne_eq, List.getD, List.getElem?_cons_zero, List.getElem?_cons_succ, Option.getD_some, Option.bind_some, Option.map_some, Option.isSome_some, reduceIte, List.length_append, List.append_assoc, List.cons_append, List.nil_append, Option.some.injEq, forall_const, implies_true, Int.reduceNeg, eq_self, Prod.mk.injEq, List.self_eq_append_right, List.append_nil, exists_eq_left, exists_eq_left', exists_and_left, exists_eq_right, exists_and_right]
  exact ⟨rfl, K1, w, C1, ht, m, rfl, by omega, by omega⟩

theorem piv_pc {n0 n a b : Nat} {H : List Ob} {v : AV} {f : Nat → α} (A : Fs n0 H v c 6 n f) (h0 : n0 ≤ H.length) (hb : b ≤ n) (hn : n ≤ 1125899906842624) (ha : a + 12 < b) :
    ∃ (p : Nat) (t : Int), a ≤ p ∧ p < b ∧ pcall E 127 [v, .int .i64 (a : Int), .int .i64 (b : Int), KC] H = some (.tup [.int .i64 (p : Int), .int .i64 t]) := by
  have key : ∃ r, (∃ (p : Nat) (t : Int), r = .tup [.int .i64 (p : Int), .int .i64 t] ∧ a ≤ p ∧ p < b) ∧ ecall E 127 [v, .int .i64 (a : Int), .int .i64 (b : Int), KC] H = some (r, H, H.length, H.length) := by
    refine so_ex e127 rfl (Nat.le_of_ble_eq_true rfl) (by rintro _ ⟨p, t, rfl, _⟩; rfl) ?_
    have hne : ¬ idOf v H.length := fun h => by have := A.lt h; omega
    have A0 : Fs 0 (H ++ [⟨[.int .i64 0], 0, 0, true, true⟩]) v c 6 n f := (A.keep _).down (Nat.zero_le _)
    have C0 : Bx (H ++ [⟨[.int .i64 0], 0, 0, true, true⟩]) H.length (.int .i64 0) := by unfold Bx; simp [rdObj]
    have mono : ∀ {h h' : List Ob}, Fs 0 h v c 6 n f → Kb H.length h h' → Fs 0 h' v c 6 n f := fun A K => A.mono fun id' ep o hid ho => K.2 id' ep o (fun e => hne (e ▸ hid)) ho
    obtain ⟨l, hl⟩ : ∃ l, b - a = l := ⟨_, rfl⟩
    obtain ⟨q, hq⟩ : ∃ q, l / 4 = q := ⟨_, rfl⟩
    have w1 : IntKind.i64.wrap ((b : Int) - (a : Int)) = (l : Int) := by rw [wrap64 (by omega) (by omega)]; omega
    have w2 : abin .quo (.int .i64 (l : Int)) (.int .i64 4) = some (.int .i64 (q : Int)) := by
      rw [abin_quo _ _ _ (by decide)]
      have : (l : Int).tdiv 4 = (q : Int) := by rw [Int.tdiv_eq_ediv_of_nonneg (by omega)]; omega
      rw [this, wrap64 (by omega) (by omega)]
    have w3 : IntKind.i64.wrap ((q : Int) * 1) = (q : Int) := by rw [wrap64 (by omega) (by omega)]; omega
    have w4 : IntKind.i64.wrap ((q : Int) * 2) = ((q * 2 : Nat) : Int) := by rw [wrap64 (by omega) (by omega)]; omega
    have w5 : IntKind.i64.wrap ((q : Int) * 3) = ((q * 3 : Nat) : Int) := by rw [wrap64 (by omega) (by omega)]; omega
    have w6 : IntKind.i64.wrap ((a : Int) + (q : Int)) = ((a + q : Nat) : Int) := by rw [wrap64 (by omega) (by omega)]; omega
    have w7 : IntKind.i64.wrap ((a : Int) + ((q * 2 : Nat) : Int)) = ((a + q * 2 : Nat) : Int) := by rw [wrap64 (by omega) (by omega)]; omega
    have w8 : IntKind.i64.wrap ((a : Int) + ((q * 3 : Nat) : Int)) = ((a + q * 3 : Nat) : Int) := by rw [wrap64 (by omega) (by omega)]; omega
    have b1 : decide ((8 : Int) ≤ (l : Int)) = true := decide_eq_true (by omega)
    have hl0 : H.length ≤ (H ++ [(⟨[.int .i64 0], 0, 0, true, true⟩ : Ob)]).length := by simp
    have fin : ∀ (m : Nat) (t : Int), a ≤ m → m < b → ∃ s : Int, (if (t == 0) = true then (1 : Int) else if (t == 12) = true then 2 else 0) = s := fun m t _ _ => ⟨_, rfl⟩
    by_cases c1 : 50 ≤ l
    · have b2 : decide ((50 : Int) ≤ (l : Int)) = true := decide_eq_true (by omega)
      obtain ⟨r1, h1, x1, m1, l1, K1, C1, ⟨t1, rfl⟩, i1, rfl, q1, q1'⟩ := meda_m X (n0 := H.length) (i := a + q) A0 C0 (Nat.le_refl _) hne hl0 (by omega) (by omega) hn
      have A1 := mono A0 K1
      obtain ⟨r2, h2, x2, m2, l2, K2, C2, ⟨t2, rfl⟩, i2, rfl, q2, q2'⟩ := meda_m X (n0 := H.length) (i := a + q * 2) A1 C1 (Nat.le_refl _) hne l1 (by omega) (by omega) hn
      have A2 := mono A1 K2
      obtain ⟨r3, h3, x3, m3, l3, K3, C3, ⟨t3, rfl⟩, i3, rfl, q3, q3'⟩ := meda_m X (n0 := H.length) (i := a + q * 3) A2 C2 (Nat.le_refl _) hne l2 (by omega) (by omega) hn
      have A3 := mono A2 K3
      obtain ⟨r4, h4, x4, m4, l4, K4, C4, ⟨t4, rfl⟩, i4, rfl, q4⟩ := med_m X (n0 := H.length) (i := i1) (j := i2) (k := i3) A3 C3 (Nat.le_refl _) hne l3 (by omega) (by omega) (by omega)
      have r4 : rdObj h4 H.length 0 = _ := C4
      have hb4 : a ≤ i4 ∧ i4 < b := by omega
      by_cases z0 : t4 = 0
      · have b3 : (t4 == 0) = true := by rw [beq_iff_eq]; exact z0
        simp (config := {maxSteps := 4000000}) only [c127, w1, w2, w3, w4, w5, w6, w7, w8, b1, b2, rg_callm, mcallV_fn, m1, m2, m3, m4, r4, b3, SS, bne_self_eq_false, wr_def, obOf, List.all_cons, List.all_nil, List.map_cons, List.map_nil, List.length_cons, List.length_nil, List.take_zero, List.take_succ_cons, List.take_nil, List.drop_zero, List.drop_succ_cons, List.drop_nil, Nat.reduceAdd, Nat.reduceMul, Nat.reduceSub, if_true, Nat.reduceLT, Nat.reduceLeDiff, ite_true, ite_false, Nat.reduceEqDiff, if_false, reduceCtorEq, ne_eq, List.getD, List.getElem?_cons_zero, List.getElem?_cons_succ, Option.getD_some, Option.bind_some, Option.map_some, Option.isSome_some, reduceIte, List.length_append, List.append_assoc, List.cons_append, List.nil_append, Option.some.injEq, forall_const, implies_true, Int.reduceNeg, eq_self, Prod.mk.injEq, List.self_eq_append_right, List.append_nil, exists_eq_left, exists_eq_left', exists_and_left, exists_eq_right, exists_and_right]
        exact ⟨i4, ⟨1, rfl⟩, hb4.1, hb4.2⟩
      have b3 : (t4 == 0) = false := by rw [beq_eq_false_iff_ne]; exact z0
      by_cases z1 : t4 = 12
      · have b4 : (t4 == 12) = true := by rw [beq_iff_eq]; exact z1
        simp (config := {maxSteps := 4000000}) only [c127, w1, w2, w3, w4, w5, w6, w7, w8, b1, b2, rg_callm, mcallV_fn, m1, m2, m3, m4, r4, b3, b4, SS, bne_self_eq_false, wr_def, obOf, List.all_cons, List.all_nil, List.map_cons, List.map_nil, List.length_cons, List.length_nil, List.take_zero, List.take_succ_cons, List.take_nil, List.drop_zero, List.drop_succ_cons, List.drop_nil, Nat.reduceAdd, Nat.reduceMul, Nat.reduceSub, if_true, Nat.reduceLT, Nat.reduceLeDiff, ite_true, ite_false, Nat.reduceEqDiff, if_false, reduceCtorEq, ne_eq, List.getD, List.getElem?_cons_zero, List.getElem?_cons_succ, Option.getD_some, Option.bind_some, Option.map_some, Option.isSome_some, reduceIte, List.length_append, List.append_assoc, List.cons_append, List.nil_append, Option.some.injEq, forall_const, implies_true, Int.reduceNeg, eq_self, Prod.mk.injEq, List.self_eq_append_right, List.append_nil, exists_eq_left, exists_eq_left', exists_and_left, exists_eq_right, exists_and_right]
        exact ⟨i4, ⟨2, rfl⟩, hb4.1, hb4.2⟩
      have b4 : (t4 == 12) = false := by rw [beq_eq_false_iff_ne]; exact z1
      simp (config := {maxSteps := 4000000}) only [c127, w1, w2, w3, w4, w5, w6, w7, w8, b1, b2, rg_callm, mcallV_fn, m1, m2, m3, m4, r4, b3, b4, SS, bne_self_eq_false, wr_def, obOf, List.all_cons, List.all_nil, List.map_cons, List.map_nil, List.length_cons, List.length_nil, List.take_zero, List.take_succ_cons, List.take_nil, List.drop_zero, List.drop_succ_cons, List.drop_nil, Nat.reduceAdd, Nat.reduceMul, Nat.reduceSub, if_true, Nat.reduceLT, Nat.reduceLeDiff, ite_true, ite_false, Nat.reduceEqDiff, if_false, reduceCtorEq, ne_eq, List.getD, List.getElem?_cons_zero, List.getElem?_cons_succ, Option.getD_some, Option.bind_some, Option.map_some, Option.isSome_some, reduceIte, List.length_append, List.append_assoc, List.cons_append, List.nil_append, Option.some.injEq, forall_const, implies_true, Int.reduceNeg, eq_self, Prod.mk.injEq, List.self_eq_append_right, List.append_nil, exists_eq_left, exists_eq_left', exists_and_left, exists_eq_right, exists_and_right]
      exact ⟨i4, ⟨0, rfl⟩, hb4.1, hb4.2⟩
    · have b2 : decide ((50 : Int) ≤ (l : Int)) = false := decide_eq_false (by omega)
      obtain ⟨r4, h4, x4, m4, l4, K4, C4, ⟨t4, rfl⟩, i4, rfl, q4⟩ := med_m X (n0 := H.length) (i := a + q) (j := a + q * 2) (k := a + q * 3) A0 C0 (Nat.le_refl _) hne hl0 (by omega) (by omega) (by omega)
      have r4 : rdObj h4 H.length 0 = _ := C4
      have hb4 : a ≤ i4 ∧ i4 < b := by omega
      by_cases z0 : t4 = 0
      · have b3 : (t4 == 0) = true := by rw [beq_iff_eq]; exact z0
        simp (config := {maxSteps := 4000000}) only [c127, w1, w2, w3, w4, w5, w6, w7, w8, b1, b2, rg_callm, mcallV_fn, m4, r4, b3, SS, bne_self_eq_false, wr_def, obOf, List.all_cons, List.all_nil, List.map_cons, List.map_nil, List.length_cons, List.length_nil, List.take_zero, List.take_succ_cons, List.take_nil, List.drop_zero, List.drop_succ_cons, List.drop_nil, Nat.reduceAdd, Nat.reduceMul, Nat.reduceSub, if_true, Nat.reduceLT, Nat.reduceLeDiff, ite_true, ite_false, Nat.reduceEqDiff, if_false, reduceCtorEq, ne_eq, List.getD, List.getElem?_cons_zero, List.getElem?_cons_succ, Option.getD_some, Option.bind_some, Option.map_some, Option.isSome_some, reduceIte, List.length_append, List.append_assoc, List.cons_append, List.nil_append, Option.some.injEq, forall_const, implies_true, Int.reduceNeg, eq_self, Prod.mk.injEq, List.self_eq_append_right, List.append_nil, exists_eq_left, exists_eq_left', exists_and_left, exists_eq_right, exists_and_right]
        exact ⟨i4, ⟨1, rfl⟩, hb4.1, hb4.2⟩
      have b3 : (t4 == 0) = false := by rw [beq_eq_false_iff_ne]; exact z0
      by_cases z1 : t4 = 12
      · have b4 : (t4 == 12) = true := by rw [beq_iff_eq]; exact z1
        simp (config := {maxSteps := 4000000}) only [c127, w1, w2, w3, w4, w5, w6, w7, w8, b1, b2, rg_callm, mcallV_fn, m4, r4, b3, b4, SS, bne_self_eq_false, wr_def, obOf, List.all_cons, List.all_nil, List.map_cons, List.map_nil, List.length_cons, List.length_nil, List.take_zero, List.take_succ_cons, List.take_nil, List.drop_zero, List.drop_succ_cons, List.drop_nil, Nat.reduceAdd, Nat.reduceMul, Nat.reduceSub, if_true, Nat.reduceLT, Nat.reduceLeDiff, ite_true, ite_false, Nat.reduceEqDiff, if_false, reduceCtorEq, ne_eq, List.getD, List.getElem?_cons_zero, List.getElem?_cons_succ, Option.getD_some, Option.bind_some, Option.map_some, Option.isSome_some, reduceIte, List.length_append, List.append_assoc, List.cons_append, List.nil_append, Option.some.injEq, forall_const, implies_true, Int.reduceNeg, eq_self, Prod.mk.injEq, List.self_eq_append_right, List.append_nil, exists_eq_left, exists_eq_left', exists_and_left, exists_eq_right, exists_and_right]
        exact ⟨i4, ⟨2, rfl⟩, hb4.1, hb4.2⟩
      have b4 : (t4 == 12) = false := by rw [beq_eq_false_iff_ne]; exact z1
      simp (config := {maxSteps := 4000000}) only [c127, w1, w2, w3, w4, w5, w6, w7, w8, b1, b2, rg_callm, mcallV_fn, m4, r4, b3, b4, SS, bne_self_eq_false, wr_def, obOf, List.all_cons, List.all_nil, List.map_cons, List.map_nil, List.length_cons, List.length_nil, List.take_zero, List.take_succ_cons, List.take_nil, List.drop_zero, List.drop_succ_cons, List.drop_nil, Nat.reduceAdd, Nat.reduceMul, Nat.reduceSub, if_true, Nat.reduceLT, Nat.reduceLeDiff, ite_true, ite_false, Nat.reduceEqDiff, if_false, reduceCtorEq, ne_eq, List.getD, List.getElem?_cons_zero, List.getElem?_cons_succ, Option.getD_some, Option.bind_some, Option.map_some, Option.isSome_some, reduceIte, List.length_append, List.append_assoc, List.cons_append, List.nil_append, Option.some.injEq, forall_const, implies_true, Int.reduceNeg, eq_self, Prod.mk.injEq, List.self_eq_append_right, List.append_nil, exists_eq_left, exists_eq_left', exists_and_left, exists_eq_right, exists_and_right]
      exact ⟨i4, ⟨0, rfl⟩, hb4.1, hb4.2⟩
  obtain ⟨r, ⟨p, t, rfl, h1, h2⟩, hc⟩ := key
  exact ⟨p, t, h1, h2, pcall_some.2 hc⟩

theorem brk_m {n0 n a b : Nat} {H : List Ob} {v : AV} {f : Nat → α} (A : Fs n0 H v c 6 n f) (h0 : n0 ≤ H.length) (hb : b ≤ n) (hn : n ≤ 1125899906842624) (ha : a + 12 < b) :
    ∃ r h2 g, mcall E n0 126 [v, .int .i64 (a : Int), .int .i64 (b : Int), KC] H = some (r, h2) ∧ n0 ≤ h2.length ∧ Fs n0 h2 v c 6 n g ∧ Kp v H h2 ∧ r = .tup [] ∧ Per a b f g := by
  obtain ⟨L, O, he, hcmp, hq⟩ := X
  refine row_call (P := fun r g => r = .tup [] ∧ Per a b f g) e126 rfl (Nat.le_of_ble_eq_true rfl) h0 A ?_
  obtain ⟨l, hl⟩ : ∃ l, b - a = l := ⟨_, rfl⟩
  obtain ⟨q, hq⟩ : ∃ q, l / 4 = q := ⟨_, rfl⟩
  have w1 : IntKind.i64.wrap ((b : Int) - (a : Int)) = (l : Int) := by rw [wrap64 (by omega) (by omega)]; omega
  have w2 : abin .quo (.int .i64 (l : Int)) (.int .i64 4) = some (.int .i64 (q : Int)) := by
    rw [abin_quo _ _ _ (by decide)]
    have : (l : Int).tdiv 4 = (q : Int) := by rw [Int.tdiv_eq_ediv_of_nonneg (by omega)]; omega
    rw [this, wrap64 (by omega) (by omega)]
  have w4 : IntKind.i64.wrap ((q : Int) * 2) = ((q * 2 : Nat) : Int) := by rw [wrap64 (by omega) (by omega)]; omega
  have w7 : IntKind.i64.wrap ((a : Int) + ((q * 2 : Nat) : Int)) = ((a + q * 2 : Nat) : Int) := by rw [wrap64 (by omega) (by omega)]; omega
  have w8 : IntKind.i64.wrap (((a + q * 2 : Nat) : Int) - 1) = ((a + q * 2 - 1 : Nat) : Int) := by rw [wrap64 (by omega) (by omega)]; omega
  have w9 : IntKind.i64.wrap (((a + q * 2 : Nat) : Int) + 1) = ((a + q * 2 + 1 : Nat) : Int) := by rw [wrap64 (by omega) (by omega)]; omega
  have wu : IntKind.u64.wrap (l : Int) = (l : Int) := wu64 (by omega) (by omega)
  have b1 : decide ((8 : Int) ≤ (l : Int)) = true := decide_eq_true (by omega)
  have hnp := npow_pc (l := l) (by omega)
  obtain ⟨p1, p2, p3⟩ := len2_spec (x := l) (by omega)
  have p4 : 2 ^ len2 l = 2 * 2 ^ (len2 l - 1) := by
    obtain ⟨z, hz⟩ : ∃ z, len2 l = z + 1 := ⟨len2 l - 1, by omega⟩
    rw [hz, Nat.add_sub_cancel, Nat.pow_succ, Nat.mul_comm]
  generalize 2 ^ len2 l = M at *
  generalize 2 ^ (len2 l - 1) = M' at *
  have wm : IntKind.u64.wrap ((M : Int) - 1) = ((M - 1 : Nat) : Int) := by rw [wu64 (by omega) (by omega)]; omega
  have hne : ¬ idOf v H.length := fun h => by have := A.lt h; omega
  simp (config := {maxSteps := 4000000}) only [c126, w1, w2, w4, w7, w8, wu, b1, hnp, SS, bne_self_eq_false, wr_def, obOf, List.all_cons, List.all_nil, List.map_cons, List.map_nil, List.length_cons, List.length_nil, List.take_zero, List.take_succ_cons, List.take_nil, List.drop_zero, List.drop_succ_cons, List.drop_nil, Nat.reduceAdd, Nat.reduceMul, Nat.reduceSub, if_true, Nat.reduceLT, Nat.reduceLeDiff, ite_true, ite_false, Nat.reduceEqDiff, if_false, reduceCtorEq, ne_eq, List.getD, List.getElem?_cons_zero, List.getElem?_cons_succ, Option.getD_some, Option.bind_some, Option.map_some, Option.isSome_some, reduceIte, List.length_append, List.append_assoc, List.cons_append, List.nil_append, Option.some.injEq, forall_const, implies_true, Int.reduceNeg, eq_self, Prod.mk.injEq, List.self_eq_append_right, List.append_nil, exists_eq_left, exists_eq_left', exists_and_left, exists_eq_right, exists_and_right]
  refine ⟨h0, by omega, ?_⟩
  refine W_loop (fun k f1 h1 => ∃ d : Nat, k = 3 - d ∧ d ≤ 3 ∧ f1 0 = v ∧ f1 1 = .int .i64 (a : Int) ∧ f1 8 = .int .i64 (l : Int) ∧ f1 9 = .ptr H.length 0 0 ∧ f1 10 = .int .u64 (M : Int) ∧ f1 11 = .int .i64 ((a + q * 2 - 1 + d : Nat) : Int) ∧ ∃ g, Fs n0 h1 v c 6 n g ∧ Kp v H h1 ∧ Per a b f g ∧ ∃ x, Bx h1 H.length (.int .u64 x)) (by simp; omega) _ ⟨0, rfl, by omega, rfl, rfl, rfl, rfl, rfl, rfl, f, A.keep _, Kp.app _, .rfl, (l : Int), by unfold Bx; simp [rdObj]⟩ ?_
  rintro k f1 h1 hn1 ht ⟨d, rfl, hd, e0, e1, e6, e7, e8, e9, g, B, K, P, x, C⟩
  by_cases hd3 : d < 3
  rotate_left
  · have b2 : decide (((a + q * 2 - 1 + d : Nat) : Int) ≤ ((a + q * 2 + 1 : Nat) : Int)) = false := decide_eq_false (by omega)
    simp (config := {maxSteps := 4000000}) only [e0, e1, e6, e7, e8, e9, w2, w4, w7, w9, b2, SS, bne_self_eq_false, wr_def, obOf, List.all_cons, List.all_nil, List.map_cons, List.map_nil, List.length_cons, List.length_nil, List.take_zero, List.take_succ_cons, List.take_nil, List.drop_zero, List.drop_succ_cons, List.drop_nil, Nat.reduceAdd, Nat.reduceMul, Nat.reduceSub, if_true, Nat.reduceLT, Nat.reduceLeDiff, ite_true, ite_false, Nat.reduceEqDiff, if_false, reduceCtorEq, ne_eq, List.getD, List.getElem?_cons_zero, List.getElem?_cons_succ, Option.getD_some, Option.bind_some, Option.map_some, Option.isSome_some, reduceIte, List.length_append, List.append_assoc, List.cons_append, List.nil_append, Option.some.injEq, forall_const, implies_true, Int.reduceNeg, eq_self, Prod.mk.injEq, List.self_eq_append_right, List.append_nil, exists_eq_left, exists_eq_left', exists_and_left, exists_eq_right, exists_and_right]
    exact ⟨rfl, g, B, K, rfl, P⟩
  have b2 : decide (((a + q * 2 - 1 + d : Nat) : Int) ≤ ((a + q * 2 + 1 : Nat) : Int)) = true := decide_eq_true (by omega)
  have wd : IntKind.i64.wrap (((a + q * 2 - 1 + d : Nat) : Int) + 1) = ((a + q * 2 - 1 + (d + 1) : Nat) : Int) := by rw [wrap64 (by omega) (by omega)]; omega
  obtain ⟨r, h2, z, hm, l2, K2, C2, y, rfl, rfl⟩ := next_m (n0 := n0) C h0 hn1
  have B2 : Fs n0 h2 v c 6 n g := B.mono fun id' ep o hid ho => K2.2 id' ep o (fun e => hne (e ▸ hid)) ho
  have K2' : Kp v H h2 := ⟨Nat.le_trans K.1 K2.1, fun id ep o hid ho => K2.2 id ep o (fun e => by have := rd_lt ho; omega) (K.2 id ep o hid ho)⟩
  obtain ⟨o, hand, ho⟩ := and_le y (m := M - 1) (by unfold M64; omega)
  have wo : IntKind.i64.wrap (o : Int) = (o : Int) := wrap64 (by omega) (by omega)
  generalize hidx : a + q * 2 - 1 + d = idx at *
  have oi := B2.ok (kk := .i64) (i := idx) (by omega)
  have di := Fs.ldE L he B2 (kk := .i64) (i := idx) (by omega)
  by_cases c2 : l ≤ o
  · have b3 : decide ((l : Int) ≤ (o : Int)) = true := decide_eq_true (by omega)
    have ws : IntKind.i64.wrap ((o : Int) - (l : Int)) = ((o - l : Nat) : Int) := by rw [wrap64 (by omega) (by omega)]; omega
    have wx : IntKind.i64.wrap ((a : Int) + ((o - l : Nat) : Int)) = ((a + (o - l) : Nat) : Int) := by rw [wrap64 (by omega) (by omega)]; omega
    have oj := B2.ok (kk := .i64) (i := a + (o - l)) (by omega)
    have dj := Fs.ldE L he B2 (kk := .i64) (i := a + (o - l)) (by omega)
    obtain ⟨s1, s2, B', K', hlen⟩ := B2.sw L (kk := .i64) (i := idx) (j := a + (o - l)) (by omega) (by omega)
    simp (config := {maxSteps := 4000000}) only [e0, e1, e6, e7, e8, e9, w2, w4, w7, w9, b2, rg_callm, mcallV_fn, hm, wm, hand, wo, b3, ws, wx, oi, oj, isPtr_idx oi, isPtr_idx oj, di, dj, s1, s2, wd, SS, bne_self_eq_false, wr_def, obOf, List.all_cons, List.all_nil, List.map_cons, List.map_nil, List.length_cons, List.length_nil, List.take_zero, List.take_succ_cons, List.take_nil, List.drop_zero, List.drop_succ_cons, List.drop_nil, Nat.reduceAdd, Nat.reduceMul, Nat.reduceSub, if_true, Nat.reduceLT, Nat.reduceLeDiff, ite_true, ite_false, Nat.reduceEqDiff, if_false, reduceCtorEq, ne_eq, List.getD, List.getElem?_cons_zero, List.getElem?_cons_succ, Option.getD_some, Option.bind_some, Option.map_some, Option.isSome_some, reduceIte, List.length_append, List.append_assoc, List.cons_append, List.nil_append, Option.some.injEq, forall_const, implies_true, Int.reduceNeg, eq_self, Prod.mk.injEq, List.self_eq_append_right, List.append_nil, exists_eq_left, exists_eq_left', exists_and_left, exists_eq_right, exists_and_right]
    exact ⟨_, by omega, d + 1, rfl, by omega, rfl, _, B', K2'.trans K', P.sw (by omega) (by omega) (by omega) (by omega), y, K'.2 _ _ _ hne C2⟩
  · have b3 : decide ((l : Int) ≤ (o : Int)) = false := decide_eq_false (by omega)
    have wx : IntKind.i64.wrap ((a : Int) + (o : Int)) = ((a + o : Nat) : Int) := by rw [wrap64 (by omega) (by omega)]; omega
    have oj := B2.ok (kk := .i64) (i := a + o) (by omega)
    have dj := Fs.ldE L he B2 (kk := .i64) (i := a + o) (by omega)
    obtain ⟨s1, s2, B', K', hlen⟩ := B2.sw L (kk := .i64) (i := idx) (j := a + o) (by omega) (by omega)
    simp (config := {maxSteps := 4000000}) only [e0, e1, e6, e7, e8, e9, w2, w4, w7, w9, b2, rg_callm, mcallV_fn, hm, wm, hand, wo, b3, wx, oi, oj, isPtr_idx oi, isPtr_idx oj, di, dj, s1, s2, wd, SS, bne_self_eq_false, wr_def, obOf, List.all_cons, List.all_nil, List.map_cons, List.map_nil, List.length_cons, List.length_nil, List.take_zero, List.take_succ_cons, List.take_nil, List.drop_zero, List.drop_succ_cons, List.drop_nil, Nat.reduceAdd, Nat.reduceMul, Nat.reduceSub, if_true, Nat.reduceLT, Nat.reduceLeDiff, ite_true, ite_false, Nat.reduceEqDiff, if_false, reduceCtorEq, ne_eq, List.getD, List.getElem?_cons_zero, List.getElem?_cons_succ, Option.getD_some, Option.bind_some, Option.map_some, Option.isSome_some, reduceIte, List.length_append, List.append_assoc, List.cons_append, List.nil_append, Option.some.injEq, forall_const, implies_true, Int.reduceNeg, eq_self, Prod.mk.injEq, List.self_eq_append_right, List.append_nil, exists_eq_left, exists_eq_left', exists_and_left, exists_eq_right, exists_and_right]
    exact ⟨_, by omega, d + 1, rfl, by omega, rfl, _, B', K2'.trans K', P.sw (by omega) (by omega) (by omega) (by omega), y, K'.2 _ _ _ hne C2⟩
end
end Go.Proofs.Ytaekgifbehoipaa.So.KS
/- Sorting as the library does it (kind S): the whole. Conditions stand in each lemma. -/
namespace Go.Proofs.Ytaekgifbehoipaa.So.KS
open Go Go.Proofs.Ytaekgifbehoipaa.Eva Go.Proofs.Ytaekgifbehoipaa.CodeAll Go.Proofs.Ytaekgifbehoipaa.So Go.Proofs.Ytaekgifbehoipaa.Fl
set_option linter.unusedVariables false
set_option linter.unusedSimpArgs false
set_option maxRecDepth 10000
set_option maxHeartbeats 4000000

section
variable {α : Type} {c : α → List AV} {e : α → AV} {lt : α → α → Bool} {KC : AV} {q : α → α → Int} (X : Ctx c e lt KC q)
include X

theorem pdq_m {n0 n : Nat} {v : AV} (hn : n ≤ 1125899906842624) : ∀ (m a b : Nat) (H : List Ob) (f : Nat → α) (lim : Int), b - a ≤ m → a ≤ b → b ≤ n → Fs n0 H v c 6 n f → n0 ≤ H.length → Low lt a b f →
    ∃ r h2 g, mcall E n0 108 [v, .int .i64 (a : Int), .int .i64 (b : Int), .int .i64 lim, KC] H = some (r, h2) ∧ n0 ≤ h2.length ∧ Fs n0 h2 v c 6 n g ∧ Kp v H h2 ∧ r = .tup [] ∧ Per a b f g ∧ Srt lt a b g := by
  intro m
  induction m using Nat.strongRecOn with
  | _ m ih =>
  intro a b H f lim hm hab hb A h0 hlow
  have XX := X
  obtain ⟨L, O, he, hcmp, hq⟩ := X
  refine row_call (P := fun r g => r = .tup [] ∧ Per a b f g ∧ Srt lt a b g) e108 rfl (Nat.le_of_ble_eq_true rfl) h0 A ?_
  simp (config := {maxSteps := 4000000}) only [c108, SS, bne_self_eq_false, wr_def, obOf, List.all_cons, List.all_nil, List.map_cons, List.map_nil, List.length_cons, List.length_nil, List.take_zero, List.take_succ_cons, List.take_nil, List.drop_zero, List.drop_succ_cons, List.drop_nil, Nat.reduceAdd, Nat.reduceMul, Nat.reduceSub, if_true, Nat.reduceLT, Nat.reduceLeDiff, ite_true, ite_false, Nat.reduceEqDiff, if_false, reduceCtorEq, ne_eq, List.getD, List.getElem?_cons_zero, List.getElem?_cons_succ, Option.getD_some, Option.bind_some, Option.map_some, Option.isSome_some, reduceIte, List.length_append, List.append_assoc, List.cons_append, List.nil_append, Option.some.injEq, forall_const, implies_true, Int.reduceNeg, eq_self, Prod.mk.injEq, List.self_eq_append_right, List.append_nil, exists_eq_left, exists_eq_left', exists_and_left, exists_eq_right, exists_and_right]
  refine W_loopW (fun k f1 h1 => ∃ a' b' : Nat, k = b' - a' ∧ a ≤ a' ∧ a' ≤ b' ∧ b' ≤ b ∧ f1 0 = v ∧ f1 1 = .int .i64 (a' : Int) ∧ f1 2 = .int .i64 (b' : Int) ∧ f1 4 = KC ∧ (∃ lm, f1 3 = .int .i64 lm) ∧ (∃ t, f1 10 = .bool t) ∧ (∃ t, f1 11 = .bool t) ∧ ∃ g, Pd lt c 6 n n0 v H h1 f a b a' b' g) h0 _ ⟨a, b, rfl, Nat.le_refl _, hab, Nat.le_refl _, rfl, rfl, rfl, rfl, ⟨lim, rfl⟩, ⟨true, rfl⟩, ⟨true, rfl⟩, f, A, Kp.refl, .rfl, hlow, fun g' _ h => h⟩ ?_
  rintro k f1 h1 hn1 ht ⟨a', b', rfl, ha', hab', hb', e0, e1, e2, e4, ⟨lm, e3⟩, ⟨t8, e8⟩, ⟨t9, e9⟩, g, S⟩
  have wl : IntKind.i64.wrap ((b' : Int) - (a' : Int)) = ((b' - a' : Nat) : Int) := by rw [wrap64 (by omega) (by omega)]; omega
  by_cases c1 : b' - a' ≤ 12
  · have b1 : decide (((b' - a' : Nat) : Int) ≤ 12) = true := decide_eq_true (by omega)
    obtain ⟨r, h2, g2, m2, l2, B2, K2, rfl, P2, S2⟩ := ins_m XX (a := a') (b := b') S.B hn1 (by omega) hn (by omega)
    refine wc_sound _ _ _ _ hn1 ?_
    simp (config := {maxSteps := 8000000}) only [e0, e1, e2, e4, e3, e8, e9, wl, b1, rg_callm, mcallV_fn, m2, SS, bne_self_eq_false, wr_def, obOf, List.all_cons, List.all_nil, List.map_cons, List.map_nil, List.length_cons, List.length_nil, List.take_zero, List.take_succ_cons, List.take_nil, List.drop_zero, List.drop_succ_cons, List.drop_nil, Nat.reduceAdd, Nat.reduceMul, Nat.reduceSub, if_true, Nat.reduceLT, Nat.reduceLeDiff, ite_true, ite_false, Nat.reduceEqDiff, if_false, reduceCtorEq, ne_eq, List.getD, List.getElem?_cons_zero, List.getElem?_cons_succ, Option.getD_some, Option.bind_some, Option.map_some, Option.isSome_some, reduceIte, List.length_append, List.append_assoc, List.cons_append, List.nil_append, Option.some.injEq, forall_const, implies_true, Int.reduceNeg, eq_self, Prod.mk.injEq, List.self_eq_append_right, List.append_nil, exists_eq_left, exists_eq_left', exists_and_left, exists_eq_right, exists_and_right]
    exact ⟨rfl, g2, B2, S.K.trans K2, rfl, S.P.trans (P2.mono ha' hb'), S.J _ P2 S2⟩
  have b1 : decide (((b' - a' : Nat) : Int) ≤ 12) = false := decide_eq_false (by omega)
  by_cases c2 : lm = 0
  · have b2 : (lm == 0) = true := by rw [beq_iff_eq]; exact c2
    obtain ⟨r, h2, g2, m2, l2, B2, K2, rfl, P2, S2⟩ := heap_m XX (a := a') (b := b') S.B hn1 (by omega) hn (by omega)
    refine wc_sound _ _ _ _ hn1 ?_
    simp (config := {maxSteps := 8000000}) only [e0, e1, e2, e4, e3, e8, e9, wl, b1, b2, rg_callm, mcallV_fn, m2, SS, bne_self_eq_false, wr_def, obOf, List.all_cons, List.all_nil, List.map_cons, List.map_nil, List.length_cons, List.length_nil, List.take_zero, List.take_succ_cons, List.take_nil, List.drop_zero, List.drop_succ_cons, List.drop_nil, Nat.reduceAdd, Nat.reduceMul, Nat.reduceSub, if_true, Nat.reduceLT, Nat.reduceLeDiff, ite_true, ite_false, Nat.reduceEqDiff, if_false, reduceCtorEq, ne_eq, List.getD, List.getElem?_cons_zero, List.getElem?_cons_succ, Option.getD_some, Option.bind_some, Option.map_some, Option.isSome_some, reduceIte, List.length_append, List.append_assoc, List.cons_append, List.nil_append, Option.some.injEq, forall_const, implies_true, Int.reduceNeg, eq_self, Prod.mk.injEq, List.self_eq_append_right, List.append_nil, exists_eq_left, exists_eq_left', exists_and_left, exists_eq_right, exists_and_right]
    exact ⟨rfl, g2, B2, S.K.trans K2, rfl, S.P.trans (P2.mono ha' hb'), S.J _ P2 S2⟩
  have b2 : (lm == 0) = false := by rw [beq_eq_false_iff_ne]; exact c2
  refine W_blkI (W_seqI (W.mono (Q := fun ex f2 h2 => ex = .nrm ∧ h2 = h1 ∧ f2 3 = .int .i64 lm ∧ f2 0 = v ∧ f2 1 = .int .i64 (a' : Int) ∧ f2 2 = .int .i64 (b' : Int) ∧ f2 4 = KC ∧ (∃ lm, f2 3 = .int .i64 lm) ∧ (∃ t, f2 10 = .bool t) ∧ (∃ t, f2 11 = .bool t) ∧ f2 12 = .int .i64 ((b' - a' : Nat) : Int)) (wc_sound _ _ _ _ hn1 ?_) ?_))
  · simp (config := {maxSteps := 8000000}) only [e0, e1, e2, e4, e3, e8, e9, wl, SS, bne_self_eq_false, wr_def, obOf, List.all_cons, List.all_nil, List.map_cons, List.map_nil, List.length_cons, List.length_nil, List.take_zero, List.take_succ_cons, List.take_nil, List.drop_zero, List.drop_succ_cons, List.drop_nil, Nat.reduceAdd, Nat.reduceMul, Nat.reduceSub, if_true, Nat.reduceLT, Nat.reduceLeDiff, ite_true, ite_false, Nat.reduceEqDiff, if_false, reduceCtorEq, ne_eq, List.getD, List.getElem?_cons_zero, List.getElem?_cons_succ, Option.getD_some, Option.bind_some, Option.map_some, Option.isSome_some, reduceIte, List.length_append, List.append_assoc, List.cons_append, List.nil_append, Option.some.injEq, forall_const, implies_true, Int.reduceNeg, eq_self, Prod.mk.injEq, List.self_eq_append_right, List.append_nil, exists_eq_left, exists_eq_left', exists_and_left, exists_eq_right, exists_and_right]
    exact ⟨⟨lm, rfl⟩, ⟨t8, rfl⟩, t9, rfl⟩
  clear e0 e1 e2 e4 e3 e8 e9
  rintro ex f2 h2 hn2 ht2 ⟨rfl, rfl, e3, e0, e1, e2, e4, -, ⟨t8, e8⟩, ⟨t9, e9⟩, e10⟩
  rw [thenQ_n]
  refine W_seqI (W.mono (Q := fun ex f2 h => ex = .nrm ∧ h = h2 ∧ f2 3 = .int .i64 lm ∧ f2 0 = v ∧ f2 1 = .int .i64 (a' : Int) ∧ f2 2 = .int .i64 (b' : Int) ∧ f2 4 = KC ∧ (∃ lm, f2 3 = .int .i64 lm) ∧ (∃ t, f2 10 = .bool t) ∧ (∃ t, f2 11 = .bool t) ∧ f2 12 = .int .i64 ((b' - a' : Nat) : Int)) (wc_sound _ _ _ _ hn2 ?_) ?_)
  · simp (config := {maxSteps := 8000000}) only [e0, e1, e2, e4, e3, e8, e9, e10, b1, SS, bne_self_eq_false, wr_def, obOf, List.all_cons, List.all_nil, List.map_cons, List.map_nil, List.length_cons, List.length_nil, List.take_zero, List.take_succ_cons, List.take_nil, List.drop_zero, List.drop_succ_cons, List.drop_nil, Nat.reduceAdd, Nat.reduceMul, Nat.reduceSub, if_true, Nat.reduceLT, Nat.reduceLeDiff, ite_true, ite_false, Nat.reduceEqDiff, if_false, reduceCtorEq, ne_eq, List.getD, List.getElem?_cons_zero, List.getElem?_cons_succ, Option.getD_some, Option.bind_some, Option.map_some, Option.isSome_some, reduceIte, List.length_append, List.append_assoc, List.cons_append, List.nil_append, Option.some.injEq, forall_const, implies_true, Int.reduceNeg, eq_self, Prod.mk.injEq, List.self_eq_append_right, List.append_nil, exists_eq_left, exists_eq_left', exists_and_left, exists_eq_right, exists_and_right]
    exact ⟨⟨lm, rfl⟩, ⟨t8, rfl⟩, t9, rfl⟩
  clear e0 e1 e2 e4 e3 e8 e9 e10
  rintro ex f2 h2' hn2' ht2' ⟨rfl, rfl, e3, e0, e1, e2, e4, -, ⟨t8, e8⟩, ⟨t9, e9⟩, e10⟩
  rw [thenQ_n]
  refine W_seqI (W.mono (Q := fun ex f2 h => ex = .nrm ∧ h = h2' ∧ f2 0 = v ∧ f2 1 = .int .i64 (a' : Int) ∧ f2 2 = .int .i64 (b' : Int) ∧ f2 4 = KC ∧ (∃ lm, f2 3 = .int .i64 lm) ∧ (∃ t, f2 10 = .bool t) ∧ (∃ t, f2 11 = .bool t) ∧ f2 12 = .int .i64 ((b' - a' : Nat) : Int)) (wc_sound _ _ _ _ hn2 ?_) ?_)
  · simp (config := {maxSteps := 8000000}) only [e0, e1, e2, e4, e3, e8, e9, e10, b2, SS, bne_self_eq_false, wr_def, obOf, List.all_cons, List.all_nil, List.map_cons, List.map_nil, List.length_cons, List.length_nil, List.take_zero, List.take_succ_cons, List.take_nil, List.drop_zero, List.drop_succ_cons, List.drop_nil, Nat.reduceAdd, Nat.reduceMul, Nat.reduceSub, if_true, Nat.reduceLT, Nat.reduceLeDiff, ite_true, ite_false, Nat.reduceEqDiff, if_false, reduceCtorEq, ne_eq, List.getD, List.getElem?_cons_zero, List.getElem?_cons_succ, Option.getD_some, Option.bind_some, Option.map_some, Option.isSome_some, reduceIte, List.length_append, List.append_assoc, List.cons_append, List.nil_append, Option.some.injEq, forall_const, implies_true, Int.reduceNeg, eq_self, Prod.mk.injEq, List.self_eq_append_right, List.append_nil, exists_eq_left, exists_eq_left', exists_and_left, exists_eq_right, exists_and_right]
    exact ⟨⟨lm, rfl⟩, ⟨t8, rfl⟩, t9, rfl⟩
  clear e0 e1 e2 e4 e3 e8 e9 e10 c2 b2
  clear lm
  rintro ex f2 h2 hn2 ht2 ⟨rfl, rfl, e0, e1, e2, e4, ⟨lm, e3⟩, ⟨t8, e8⟩, ⟨t9, e9⟩, e10⟩
  rw [thenQ_n]
  -- patterns are broken
  refine W_seqI (W.mono (Q := fun ex f2 h => ex = .nrm ∧ f2 0 = v ∧ f2 1 = .int .i64 (a' : Int) ∧ f2 2 = .int .i64 (b' : Int) ∧ f2 4 = KC ∧ (∃ lm, f2 3 = .int .i64 lm) ∧ (∃ t, f2 10 = .bool t) ∧ (∃ t, f2 11 = .bool t) ∧ f2 12 = .int .i64 ((b' - a' : Nat) : Int) ∧ ∃ g, Pd lt c 6 n n0 v H h f a b a' b' g) (wc_sound _ _ _ _ hn2 ?_) ?_)
  · cases t8
    · obtain ⟨r, h3, g2, m2, l2, B2, K2, rfl, P2⟩ := brk_m XX (a := a') (b := b') S.B hn2 (by omega) hn (by omega)
      simp (config := {maxSteps := 8000000}) only [e0, e1, e2, e4, e3, e8, e9, e10, rg_callm, mcallV_fn, m2, SS, bne_self_eq_false, wr_def, obOf, List.all_cons, List.all_nil, List.map_cons, List.map_nil, List.length_cons, List.length_nil, List.take_zero, List.take_succ_cons, List.take_nil, List.drop_zero, List.drop_succ_cons, List.drop_nil, Nat.reduceAdd, Nat.reduceMul, Nat.reduceSub, if_true, Nat.reduceLT, Nat.reduceLeDiff, ite_true, ite_false, Nat.reduceEqDiff, if_false, reduceCtorEq, ne_eq, List.getD, List.getElem?_cons_zero, List.getElem?_cons_succ, Option.getD_some, Option.bind_some, Option.map_some, Option.isSome_some, reduceIte, List.length_append, List.append_assoc, List.cons_append, List.nil_append, Option.some.injEq, forall_const, implies_true, Int.reduceNeg, eq_self, Prod.mk.injEq, List.self_eq_append_right, List.append_nil, exists_eq_left, exists_eq_left', exists_and_left, exists_eq_right, exists_and_right]
      exact ⟨⟨_, rfl⟩, ⟨_, rfl⟩, ⟨t9, rfl⟩, g2, S.step ha' hb' B2 K2 P2⟩
    · simp (config := {maxSteps := 8000000}) only [e0, e1, e2, e4, e3, e8, e9, e10, SS, bne_self_eq_false, wr_def, obOf, List.all_cons, List.all_nil, List.map_cons, List.map_nil, List.length_cons, List.length_nil, List.take_zero, List.take_succ_cons, List.take_nil, List.drop_zero, List.drop_succ_cons, List.drop_nil, Nat.reduceAdd, Nat.reduceMul, Nat.reduceSub, if_true, Nat.reduceLT, Nat.reduceLeDiff, ite_true, ite_false, Nat.reduceEqDiff, if_false, reduceCtorEq, ne_eq, List.getD, List.getElem?_cons_zero, List.getElem?_cons_succ, Option.getD_some, Option.bind_some, Option.map_some, Option.isSome_some, reduceIte, List.length_append, List.append_assoc, List.cons_append, List.nil_append, Option.some.injEq, forall_const, implies_true, Int.reduceNeg, eq_self, Prod.mk.injEq, List.self_eq_append_right, List.append_nil, exists_eq_left, exists_eq_left', exists_and_left, exists_eq_right, exists_and_right]
      exact ⟨⟨_, rfl⟩, ⟨_, rfl⟩, ⟨t9, rfl⟩, g, S⟩
  clear e0 e1 e2 e4 e3 e8 e9 e10 S hn1 hn2 hn2' ht ht2 ht2'
  clear lm t8 t9 g
  rintro ex f2 h2 hn2 ht2 ⟨rfl, e0, e1, e2, e4, ⟨lm, e3⟩, ⟨t8, e8⟩, ⟨t9, e9⟩, e10, g, S⟩
  rw [thenQ_n]
  -- the pivot
  obtain ⟨p, t, hp1, hp2, hpc⟩ := piv_pc XX (a := a') (b := b') S.B hn2 (by omega) hn (by omega)
  refine W_seqI (W.mono (Q := fun ex f3 h => ex = .nrm ∧ h = h2 ∧ f3 0 = v ∧ f3 1 = .int .i64 (a' : Int) ∧ f3 2 = .int .i64 (b' : Int) ∧ f3 4 = KC ∧ (∃ lm, f3 3 = .int .i64 lm) ∧ (∃ t, f3 10 = .bool t) ∧ (∃ t, f3 11 = .bool t) ∧ f3 12 = .int .i64 ((b' - a' : Nat) : Int) ∧ f3 13 = .int .i64 (p : Int) ∧ f3 14 = .int .i64 t) (wc_sound _ _ _ _ hn2 ?_) ?_)
  · simp (config := {maxSteps := 8000000}) only [e0, e1, e2, e4, e3, e8, e9, e10, hpc, hn2, SS, bne_self_eq_false, wr_def, obOf, List.all_cons, List.all_nil, List.map_cons, List.map_nil, List.length_cons, List.length_nil, List.take_zero, List.take_succ_cons, List.take_nil, List.drop_zero, List.drop_succ_cons, List.drop_nil, Nat.reduceAdd, Nat.reduceMul, Nat.reduceSub, if_true, Nat.reduceLT, Nat.reduceLeDiff, ite_true, ite_false, Nat.reduceEqDiff, if_false, reduceCtorEq, ne_eq, List.getD, List.getElem?_cons_zero, List.getElem?_cons_succ, Option.getD_some, Option.bind_some, Option.map_some, Option.isSome_some, reduceIte, List.length_append, List.append_assoc, List.cons_append, List.nil_append, Option.some.injEq, forall_const, implies_true, Int.reduceNeg, eq_self, Prod.mk.injEq, List.self_eq_append_right, List.append_nil, exists_eq_left, exists_eq_left', exists_and_left, exists_eq_right, exists_and_right]
    exact ⟨⟨_, rfl⟩, ⟨_, rfl⟩, _, rfl⟩
  clear e0 e1 e2 e4 e3 e8 e9 e10 hpc
  clear lm t8 t9
  rintro ex f3 h3 hn3 ht3 ⟨rfl, rfl, e0, e1, e2, e4, ⟨lm, e3⟩, ⟨t8, e8⟩, ⟨t9, e9⟩, e10, e11, e12⟩
  rw [thenQ_n]
  -- turned round
  refine W_seqI (W.mono (Q := fun ex f3 h => ex = .nrm ∧ f3 0 = v ∧ f3 1 = .int .i64 (a' : Int) ∧ f3 2 = .int .i64 (b' : Int) ∧ f3 4 = KC ∧ (∃ lm, f3 3 = .int .i64 lm) ∧ (∃ t, f3 10 = .bool t) ∧ (∃ t, f3 11 = .bool t) ∧ f3 12 = .int .i64 ((b' - a' : Nat) : Int) ∧ (∃ p : Nat, a' ≤ p ∧ p < b' ∧ f3 13 = .int .i64 (p : Int)) ∧ (∃ t, f3 14 = .int .i64 t) ∧ ∃ g, Pd lt c 6 n n0 v H h f a b a' b' g) (wc_sound _ _ _ _ hn3 ?_) ?_)
  · by_cases c3 : t = 2
    · have b3 : (t == 2) = true := by rw [beq_iff_eq]; exact c3
      obtain ⟨r, h4, g2, m2, l2, B2, K2, rfl, P2⟩ := rev_m XX (a := a') (b := b') S.B hn3 (by omega) hn (by omega)
      have x1 : IntKind.i64.wrap ((b' : Int) - 1) = ((b' - 1 : Nat) : Int) := by rw [wrap64 (by omega) (by omega)]; omega
      have x2 : IntKind.i64.wrap ((p : Int) - (a' : Int)) = ((p - a' : Nat) : Int) := by rw [wrap64 (by omega) (by omega)]; omega
      have x3 : IntKind.i64.wrap (((b' - 1 : Nat) : Int) - ((p - a' : Nat) : Int)) = ((b' - 1 - (p - a') : Nat) : Int) := by rw [wrap64 (by omega) (by omega)]; omega
      simp (config := {maxSteps := 8000000}) only [e0, e1, e2, e4, e3, e8, e9, e10, e11, e12, b3, x1, x2, x3, rg_callm, mcallV_fn, m2, SS, bne_self_eq_false, wr_def, obOf, List.all_cons, List.all_nil, List.map_cons, List.map_nil, List.length_cons, List.length_nil, List.take_zero, List.take_succ_cons, List.take_nil, List.drop_zero, List.drop_succ_cons, List.drop_nil, Nat.reduceAdd, Nat.reduceMul, Nat.reduceSub, if_true, Nat.reduceLT, Nat.reduceLeDiff, ite_true, ite_false, Nat.reduceEqDiff, if_false, reduceCtorEq, ne_eq, List.getD, List.getElem?_cons_zero, List.getElem?_cons_succ, Option.getD_some, Option.bind_some, Option.map_some, Option.isSome_some, reduceIte, List.length_append, List.append_assoc, List.cons_append, List.nil_append, Option.some.injEq, forall_const, implies_true, Int.reduceNeg, eq_self, Prod.mk.injEq, List.self_eq_append_right, List.append_nil, exists_eq_left, exists_eq_left', exists_and_left, exists_eq_right, exists_and_right]
      exact ⟨⟨_, rfl⟩, ⟨_, rfl⟩, ⟨_, rfl⟩, ⟨b' - 1 - (p - a'), by omega, by omega, rfl⟩, ⟨_, rfl⟩, g2, S.step ha' hb' B2 K2 P2⟩
    · have b3 : (t == 2) = false := by rw [beq_eq_false_iff_ne]; exact c3
      simp (config := {maxSteps := 8000000}) only [e0, e1, e2, e4, e3, e8, e9, e10, e11, e12, b3, SS, bne_self_eq_false, wr_def, obOf, List.all_cons, List.all_nil, List.map_cons, List.map_nil, List.length_cons, List.length_nil, List.take_zero, List.take_succ_cons, List.take_nil, List.drop_zero, List.drop_succ_cons, List.drop_nil, Nat.reduceAdd, Nat.reduceMul, Nat.reduceSub, if_true, Nat.reduceLT, Nat.reduceLeDiff, ite_true, ite_false, Nat.reduceEqDiff, if_false, reduceCtorEq, ne_eq, List.getD, List.getElem?_cons_zero, List.getElem?_cons_succ, Option.getD_some, Option.bind_some, Option.map_some, Option.isSome_some, reduceIte, List.length_append, List.append_assoc, List.cons_append, List.nil_append, Option.some.injEq, forall_const, implies_true, Int.reduceNeg, eq_self, Prod.mk.injEq, List.self_eq_append_right, List.append_nil, exists_eq_left, exists_eq_left', exists_and_left, exists_eq_right, exists_and_right]
      exact ⟨⟨_, rfl⟩, ⟨_, rfl⟩, ⟨_, rfl⟩, ⟨p, hp1, hp2, rfl⟩, ⟨_, rfl⟩, g, S⟩
  clear e0 e1 e2 e4 e3 e8 e9 e10 e11 e12 S hp1 hp2 hn2 ht2 ht3 hn3
  clear lm t8 t9 t p g
  rintro ex f3 h3 hn3 ht3 ⟨rfl, e0, e1, e2, e4, ⟨lm, e3⟩, ⟨t8, e8⟩, ⟨t9, e9⟩, e10, ⟨p, hp1, hp2, e11⟩, ⟨t, e12⟩, g, S⟩
  rw [thenQ_n]
  -- nearly sorted
  refine W_seqI (W.mono (Q := fun ex f3 h => (ex = .rt ∧ ∃ g, Fs n0 h v c 6 n g ∧ Kp v H h ∧ Per a b f g ∧ Srt lt a b g) ∨ (ex = .nrm ∧ f3 0 = v ∧ f3 1 = .int .i64 (a' : Int) ∧ f3 2 = .int .i64 (b' : Int) ∧ f3 4 = KC ∧ (∃ lm, f3 3 = .int .i64 lm) ∧ (∃ t, f3 10 = .bool t) ∧ (∃ t, f3 11 = .bool t) ∧ f3 12 = .int .i64 ((b' - a' : Nat) : Int) ∧ f3 13 = .int .i64 (p : Int) ∧ ∃ g, Pd lt c 6 n n0 v H h f a b a' b' g)) (wc_sound _ _ _ _ hn3 ?_) ?_)
  · cases t8
    · simp (config := {maxSteps := 8000000}) only [e0, e1, e2, e4, e3, e8, e9, e10, e11, e12, SS, bne_self_eq_false, wr_def, obOf, List.all_cons, List.all_nil, List.map_cons, List.map_nil, List.length_cons, List.length_nil, List.take_zero, List.take_succ_cons, List.take_nil, List.drop_zero, List.drop_succ_cons, List.drop_nil, Nat.reduceAdd, Nat.reduceMul, Nat.reduceSub, if_true, Nat.reduceLT, Nat.reduceLeDiff, ite_true, ite_false, Nat.reduceEqDiff, if_false, reduceCtorEq, ne_eq, List.getD, List.getElem?_cons_zero, List.getElem?_cons_succ, Option.getD_some, Option.bind_some, Option.map_some, Option.isSome_some, reduceIte, List.length_append, List.append_assoc, List.cons_append, List.nil_append, Option.some.injEq, forall_const, implies_true, Int.reduceNeg, eq_self, Prod.mk.injEq, List.self_eq_append_right, List.append_nil, exists_eq_left, exists_eq_left', exists_and_left, exists_eq_right, exists_and_right]
      exact Or.inr ⟨⟨_, rfl⟩, ⟨_, rfl⟩, ⟨_, rfl⟩, g, S⟩
    · cases t9
      · simp (config := {maxSteps := 8000000}) only [e0, e1, e2, e4, e3, e8, e9, e10, e11, e12, SS, bne_self_eq_false, wr_def, obOf, List.all_cons, List.all_nil, List.map_cons, List.map_nil, List.length_cons, List.length_nil, List.take_zero, List.take_succ_cons, List.take_nil, List.drop_zero, List.drop_succ_cons, List.drop_nil, Nat.reduceAdd, Nat.reduceMul, Nat.reduceSub, if_true, Nat.reduceLT, Nat.reduceLeDiff, ite_true, ite_false, Nat.reduceEqDiff, if_false, reduceCtorEq, ne_eq, List.getD, List.getElem?_cons_zero, List.getElem?_cons_succ, Option.getD_some, Option.bind_some, Option.map_some, Option.isSome_some, reduceIte, List.length_append, List.append_assoc, List.cons_append, List.nil_append, Option.some.injEq, forall_const, implies_true, Int.reduceNeg, eq_self, Prod.mk.injEq, List.self_eq_append_right, List.append_nil, exists_eq_left, exists_eq_left', exists_and_left, exists_eq_right, exists_and_right]
        exact Or.inr ⟨⟨_, rfl⟩, ⟨_, rfl⟩, ⟨_, rfl⟩, g, S⟩
      · by_cases c3 : t = 1
        · have b3 : (t == 1) = true := by rw [beq_iff_eq]; exact c3
          obtain ⟨r, h4, g2, m2, l2, B2, K2, s, rfl, P2, S2⟩ := pins_m XX (a := a') (b := b') S.B hn3 (by omega) hn (by omega) S.Lw
          cases s
          · simp (config := {maxSteps := 8000000}) only [e0, e1, e2, e4, e3, e8, e9, e10, e11, e12, b3, rg_callm, mcallV_fn, m2, SS, bne_self_eq_false, wr_def, obOf, List.all_cons, List.all_nil, List.map_cons, List.map_nil, List.length_cons, List.length_nil, List.take_zero, List.take_succ_cons, List.take_nil, List.drop_zero, List.drop_succ_cons, List.drop_nil, Nat.reduceAdd, Nat.reduceMul, Nat.reduceSub, if_true, Nat.reduceLT, Nat.reduceLeDiff, ite_true, ite_false, Nat.reduceEqDiff, if_false, reduceCtorEq, ne_eq, List.getD, List.getElem?_cons_zero, List.getElem?_cons_succ, Option.getD_some, Option.bind_some, Option.map_some, Option.isSome_some, reduceIte, List.length_append, List.append_assoc, List.cons_append, List.nil_append, Option.some.injEq, forall_const, implies_true, Int.reduceNeg, eq_self, Prod.mk.injEq, List.self_eq_append_right, List.append_nil, exists_eq_left, exists_eq_left', exists_and_left, exists_eq_right, exists_and_right]
            exact Or.inr ⟨⟨_, rfl⟩, ⟨_, rfl⟩, ⟨_, rfl⟩, g2, S.step ha' hb' B2 K2 P2⟩
          · simp (config := {maxSteps := 8000000}) only [e0, e1, e2, e4, e3, e8, e9, e10, e11, e12, b3, rg_callm, mcallV_fn, m2, SS, bne_self_eq_false, wr_def, obOf, List.all_cons, List.all_nil, List.map_cons, List.map_nil, List.length_cons, List.length_nil, List.take_zero, List.take_succ_cons, List.take_nil, List.drop_zero, List.drop_succ_cons, List.drop_nil, Nat.reduceAdd, Nat.reduceMul, Nat.reduceSub, if_true, Nat.reduceLT, Nat.reduceLeDiff, ite_true, ite_false, Nat.reduceEqDiff, if_false, reduceCtorEq, ne_eq, List.getD, List.getElem?_cons_zero, List.getElem?_cons_succ, Option.getD_some, Option.bind_some, Option.map_some, Option.isSome_some, reduceIte, List.length_append, List.append_assoc, List.cons_append, List.nil_append, Option.some.injEq, forall_const, implies_true, Int.reduceNeg, eq_self, Prod.mk.injEq, List.self_eq_append_right, List.append_nil, exists_eq_left, exists_eq_left', exists_and_left, exists_eq_right, exists_and_right]
            exact Or.inl ⟨g2, B2, S.K.trans K2, S.P.trans (P2.mono ha' hb'), S.J _ P2 (S2 rfl)⟩
        · have b3 : (t == 1) = false := by rw [beq_eq_false_iff_ne]; exact c3
          simp (config := {maxSteps := 8000000}) only [e0, e1, e2, e4, e3, e8, e9, e10, e11, e12, b3, SS, bne_self_eq_false, wr_def, obOf, List.all_cons, List.all_nil, List.map_cons, List.map_nil, List.length_cons, List.length_nil, List.take_zero, List.take_succ_cons, List.take_nil, List.drop_zero, List.drop_succ_cons, List.drop_nil, Nat.reduceAdd, Nat.reduceMul, Nat.reduceSub, if_true, Nat.reduceLT, Nat.reduceLeDiff, ite_true, ite_false, Nat.reduceEqDiff, if_false, reduceCtorEq, ne_eq, List.getD, List.getElem?_cons_zero, List.getElem?_cons_succ, Option.getD_some, Option.bind_some, Option.map_some, Option.isSome_some, reduceIte, List.length_append, List.append_assoc, List.cons_append, List.nil_append, Option.some.injEq, forall_const, implies_true, Int.reduceNeg, eq_self, Prod.mk.injEq, List.self_eq_append_right, List.append_nil, exists_eq_left, exists_eq_left', exists_and_left, exists_eq_right, exists_and_right]
          exact Or.inr ⟨⟨_, rfl⟩, ⟨_, rfl⟩, ⟨_, rfl⟩, g, S⟩
  clear e0 e1 e2 e4 e3 e8 e9 e10 e11 e12 S hn3 ht3 ht2
  clear lm t8 t9 t g
  rintro ex f3 h3 hn3 ht3 (⟨rfl, g2, B2, K2, P2, S2⟩ | ⟨rfl, e0, e1, e2, e4, ⟨lm, e3⟩, ⟨t8, e8⟩, ⟨t9, e9⟩, e10, e11, g, S⟩)
  · simp only [SS, bne_self_eq_false, wr_def, obOf, List.all_cons, List.all_nil, List.map_cons, List.map_nil, List.length_cons, List.length_nil, List.take_zero, List.take_succ_cons, List.take_nil, List.drop_zero, List.drop_succ_cons, List.drop_nil, Nat.reduceAdd, Nat.reduceMul, Nat.reduceSub, if_true, Nat.reduceLT, Nat.reduceLeDiff, ite_true, ite_false, Nat.reduceEqDiff, if_false, reduceCtorEq, ne_eq, List.getD, List.getElem?_cons_zero, List.getElem?_cons_succ, Option.getD_some, Option.bind_some, Option.map_some, Option.isSome_some, reduceIte, List.length_append, List.append_assoc, List.cons_append, List.nil_append, Option.some.injEq, forall_const, implies_true, Int.reduceNeg, eq_self, Prod.mk.injEq, List.self_eq_append_right, List.append_nil, exists_eq_left, exists_eq_left', exists_and_left, exists_eq_right, exists_and_right]
    exact ⟨rfl, g2, B2, K2, rfl, P2, S2⟩
  rw [thenQ_n]
  have op := S.B.ok (kk := .i64) (i := p) (by omega)
  have dp := Fs.ldE L he S.B (kk := .i64) (i := p) (by omega)
  -- what equals the pivot
  refine W_seqI (W.mono (Q := fun ex f3 h => (ex = .ex 1 ∧ ∃ k, k < b' - a' ∧ ∃ a' b' : Nat, k = b' - a' ∧ a ≤ a' ∧ a' ≤ b' ∧ b' ≤ b ∧ f3 0 = v ∧ f3 1 = .int .i64 (a' : Int) ∧ f3 2 = .int .i64 (b' : Int) ∧ f3 4 = KC ∧ (∃ lm, f3 3 = .int .i64 lm) ∧ (∃ t, f3 10 = .bool t) ∧ (∃ t, f3 11 = .bool t) ∧ ∃ g, Pd lt c 6 n n0 v H h f a b a' b' g) ∨ (ex = .nrm ∧ h = h3 ∧ f3 0 = v ∧ f3 1 = .int .i64 (a' : Int) ∧ f3 2 = .int .i64 (b' : Int) ∧ f3 4 = KC ∧ (∃ lm, f3 3 = .int .i64 lm) ∧ (∃ t, f3 10 = .bool t) ∧ (∃ t, f3 11 = .bool t) ∧ f3 12 = .int .i64 ((b' - a' : Nat) : Int) ∧ f3 13 = .int .i64 (p : Int))) (wc_sound _ _ _ _ hn3 ?_) ?_)
  · by_cases c3 : 0 < a'
    · have b3 : decide ((0 : Int) < (a' : Int)) = true := decide_eq_true (by omega)
      have x1 : IntKind.i64.wrap ((a' : Int) - 1) = ((a' - 1 : Nat) : Int) := by rw [wrap64 (by omega) (by omega)]; omega
      have oa := S.B.ok (kk := .i64) (i := a' - 1) (by omega)
      have da := Fs.ldE L he S.B (kk := .i64) (i := a' - 1) (by omega)
      cases hl : lt (g (a' - 1)) (g p)
      · obtain ⟨r, h4, g2, m2, l2, B2, K2, i, rfl, hi1, hi2, P2, Q2, G2⟩ := peq_m XX (a := a') (b := b') (p := p) S.B hn3 (by omega) hn hp1 hp2
        have hmin : ∀ k, a' ≤ k → k < b' → lt (g k) (g p) = false := fun k k1 k2 => O.tr _ _ _ hl (S.Lw c3 k k1 k2)
        have hmin2 : ∀ k, a' ≤ k → k < b' → lt (g2 k) (g2 a') = false := by rw [G2]; exact P2.all (P := fun x => lt x (g p) = false) hmin
        simp (config := {maxSteps := 8000000}) only [e0, e1, e2, e4, e3, e8, e9, e10, e11, b3, x1, oa, isPtr_idx oa, da, op, isPtr_idx op, dp, hcmp, hq, hl, rg_callm, mcallV_fn, m2, hn3, SS, bne_self_eq_false, wr_def, obOf, List.all_cons, List.all_nil, List.map_cons, List.map_nil, List.length_cons, List.length_nil, List.take_zero, List.take_succ_cons, List.take_nil, List.drop_zero, List.drop_succ_cons, List.drop_nil, Nat.reduceAdd, Nat.reduceMul, Nat.reduceSub, if_true, Nat.reduceLT, Nat.reduceLeDiff, ite_true, ite_false, Nat.reduceEqDiff, if_false, reduceCtorEq, ne_eq, List.getD, List.getElem?_cons_zero, List.getElem?_cons_succ, Option.getD_some, Option.bind_some, Option.map_some, Option.isSome_some, reduceIte, List.length_append, List.append_assoc, List.cons_append, List.nil_append, Option.some.injEq, forall_const, implies_true, Int.reduceNeg, eq_self, Prod.mk.injEq, List.self_eq_append_right, List.append_nil, exists_eq_left, exists_eq_left', exists_and_left, exists_eq_right, exists_and_right]
        refine Or.inl ⟨_, by omega, i, b', rfl, by omega, hi2, hb', rfl, rfl, ⟨_, rfl⟩, ⟨_, rfl⟩, ⟨_, rfl⟩, g2, B2, S.K.trans K2, S.P.trans (P2.mono ha' hb'), fun _ k k1 k2 => ?_, fun g' p' s' => ?_⟩
        · refine O.tr _ (g2 a') _ ?_ (O.asym _ _ (Q2.2 k (by omega) k2))
          by_cases h : i - 1 = a'
          · rw [h]; exact O.refl _
          · exact Q2.1 (i - 1) (by omega) (by omega)
        · exact S.J g' (P2.trans (p'.mono (by omega) (Nat.le_refl _))) (eq_join O Q2 hi1 hi2 hmin2 p' s')
      · simp (config := {maxSteps := 8000000}) only [e0, e1, e2, e4, e3, e8, e9, e10, e11, b3, x1, oa, isPtr_idx oa, da, op, isPtr_idx op, dp, hcmp, hq, hl, hn3, SS, bne_self_eq_false, wr_def, obOf, List.all_cons, List.all_nil, List.map_cons, List.map_nil, List.length_cons, List.length_nil, List.take_zero, List.take_succ_cons, List.take_nil, List.drop_zero, List.drop_succ_cons, List.drop_nil, Nat.reduceAdd, Nat.reduceMul, Nat.reduceSub, if_true, Nat.reduceLT, Nat.reduceLeDiff, ite_true, ite_false, Nat.reduceEqDiff, if_false, reduceCtorEq, ne_eq, List.getD, List.getElem?_cons_zero, List.getElem?_cons_succ, Option.getD_some, Option.bind_some, Option.map_some, Option.isSome_some, reduceIte, List.length_append, List.append_assoc, List.cons_append, List.nil_append, Option.some.injEq, forall_const, implies_true, Int.reduceNeg, eq_self, Prod.mk.injEq, List.self_eq_append_right, List.append_nil, exists_eq_left, exists_eq_left', exists_and_left, exists_eq_right, exists_and_right]
        exact Or.inr ⟨⟨_, rfl⟩, ⟨_, rfl⟩, _, rfl⟩
    · have b3 : decide ((0 : Int) < (a' : Int)) = false := decide_eq_false (by omega)
      simp (config := {maxSteps := 8000000}) only [e0, e1, e2, e4, e3, e8, e9, e10, e11, b3, SS, bne_self_eq_false, wr_def, obOf, List.all_cons, List.all_nil, List.map_cons, List.map_nil, List.length_cons, List.length_nil, List.take_zero, List.take_succ_cons, List.take_nil, List.drop_zero, List.drop_succ_cons, List.drop_nil, Nat.reduceAdd, Nat.reduceMul, Nat.reduceSub, if_true, Nat.reduceLT, Nat.reduceLeDiff, ite_true, ite_false, Nat.reduceEqDiff, if_false, reduceCtorEq, ne_eq, List.getD, List.getElem?_cons_zero, List.getElem?_cons_succ, Option.getD_some, Option.bind_some, Option.map_some, Option.isSome_some, reduceIte, List.length_append, List.append_assoc, List.cons_append, List.nil_append, Option.some.injEq, forall_const, implies_true, Int.reduceNeg, eq_self, Prod.mk.injEq, List.self_eq_append_right, List.append_nil, exists_eq_left, exists_eq_left', exists_and_left, exists_eq_right, exists_and_right]
      exact Or.inr ⟨⟨_, rfl⟩, ⟨_, rfl⟩, _, rfl⟩
  clear e0 e1 e2 e4 e3 e8 e9 e10 e11
  clear lm t8 t9
  rintro ex f4 h4 hn4 ht4 (⟨rfl, k, hk, hI⟩ | ⟨rfl, rfl, e0, e1, e2, e4, ⟨lm, e3⟩, ⟨t8, e8⟩, ⟨t9, e9⟩, e10, e11⟩)
  · simp only [SS, bne_self_eq_false, wr_def, obOf, List.all_cons, List.all_nil, List.map_cons, List.map_nil, List.length_cons, List.length_nil, List.take_zero, List.take_succ_cons, List.take_nil, List.drop_zero, List.drop_succ_cons, List.drop_nil, Nat.reduceAdd, Nat.reduceMul, Nat.reduceSub, if_true, Nat.reduceLT, Nat.reduceLeDiff, ite_true, ite_false, Nat.reduceEqDiff, if_false, reduceCtorEq, ne_eq, List.getD, List.getElem?_cons_zero, List.getElem?_cons_succ, Option.getD_some, Option.bind_some, Option.map_some, Option.isSome_some, reduceIte, List.length_append, List.append_assoc, List.cons_append, List.nil_append, Option.some.injEq, forall_const, implies_true, Int.reduceNeg, eq_self, Prod.mk.injEq, List.self_eq_append_right, List.append_nil, exists_eq_left, exists_eq_left', exists_and_left, exists_eq_right, exists_and_right]
    exact ⟨k, hk, hI⟩
  rw [thenQ_n]
  -- divided
  obtain ⟨r, h5, g2, m2, l2, B2, K2, j, s, rfl, hj1, hj2, P2, D2⟩ := part_m XX (a := a') (b := b') (p := p) S.B hn4 (by omega) hn hp1 hp2
  have S2 := S.step ha' hb' B2 K2 P2
  refine wc_sound _ _ _ _ hn4 ?_
  have y1 : IntKind.i64.wrap ((j : Int) - (a' : Int)) = ((j - a' : Nat) : Int) := by rw [wrap64 (by omega) (by omega)]; omega
  have y2 : IntKind.i64.wrap ((b' : Int) - (j : Int)) = ((b' - j : Nat) : Int) := by rw [wrap64 (by omega) (by omega)]; omega
  have y3 : IntKind.i64.wrap ((j : Int) + 1) = ((j + 1 : Nat) : Int) := by rw [wrap64 (by omega) (by omega)]; omega
  have y4 : ∃ z, abin .quo (.int .i64 ((b' - a' : Nat) : Int)) (.int .i64 8) = some (.int .i64 z) := ⟨_, abin_quo _ _ _ (by decide)⟩
  obtain ⟨z, y4⟩ := y4
  by_cases c5 : j - a' < b' - j
  · have b5 : decide (((j - a' : Nat) : Int) < ((b' - j : Nat) : Int)) = true := decide_eq_true (by omega)
    obtain ⟨r, h6, g3, m3, l3, B3, K3, rfl, P3, S3⟩ := ih (j - a') (by omega) a' j h5 g2 lm (Nat.le_refl _) hj1 (by omega) B2 l2 (fun h0 k k1 k2 => S2.Lw h0 k k1 (by omega))
    simp (config := {maxSteps := 8000000}) only [e0, e1, e2, e4, e3, e8, e9, e10, e11, y1, y2, y3, y4, b5, rg_callm, mcallV_fn, m2, m3, SS, bne_self_eq_false, wr_def, obOf, List.all_cons, List.all_nil, List.map_cons, List.map_nil, List.length_cons, List.length_nil, List.take_zero, List.take_succ_cons, List.take_nil, List.drop_zero, List.drop_succ_cons, List.drop_nil, Nat.reduceAdd, Nat.reduceMul, Nat.reduceSub, if_true, Nat.reduceLT, Nat.reduceLeDiff, ite_true, ite_false, Nat.reduceEqDiff, if_false, reduceCtorEq, ne_eq, List.getD, List.getElem?_cons_zero, List.getElem?_cons_succ, Option.getD_some, Option.bind_some, Option.map_some, Option.isSome_some, reduceIte, List.length_append, List.append_assoc, List.cons_append, List.nil_append, Option.some.injEq, forall_const, implies_true, Int.reduceNeg, eq_self, Prod.mk.injEq, List.self_eq_append_right, List.append_nil, exists_eq_left, exists_eq_left', exists_and_left, exists_eq_right, exists_and_right]
    refine ⟨_, by omega, j + 1, b', rfl, by omega, by omega, hb', rfl, rfl, ⟨_, rfl⟩, ⟨_, rfl⟩, ⟨_, rfl⟩, g3, B3, S2.K.trans K3, S2.P.trans (P3.mono ha' (by omega)), fun _ k k1 k2 => ?_, fun g' p' s' => ?_⟩
    · rw [Nat.add_sub_cancel, P3.out (k := j) (by omega), P3.out (k := k) (by omega)]
      exact D2.2 k (by omega) k2
    · exact S2.J g' ((P3.mono (Nat.le_refl _) (by omega)).trans (p'.mono (by omega) (Nat.le_refl _))) (div_join O D2 hj1 hj2 P3 S3 p' s')
  · have b5 : decide (((j - a' : Nat) : Int) < ((b' - j : Nat) : Int)) = false := decide_eq_false (by omega)
    obtain ⟨r, h6, g3, m3, l3, B3, K3, rfl, P3, S3⟩ := ih (b' - (j + 1)) (by omega) (j + 1) b' h5 g2 lm (Nat.le_refl _) (by omega) (by omega) B2 l2 (fun h0 k k1 k2 => by rw [Nat.add_sub_cancel]; exact D2.2 k (by omega) k2)
    simp (config := {maxSteps := 8000000}) only [e0, e1, e2, e4, e3, e8, e9, e10, e11, y1, y2, y3, y4, b5, rg_callm, mcallV_fn, m2, m3, SS, bne_self_eq_false, wr_def, obOf, List.all_cons, List.all_nil, List.map_cons, List.map_nil, List.length_cons, List.length_nil, List.take_zero, List.take_succ_cons, List.take_nil, List.drop_zero, List.drop_succ_cons, List.drop_nil, Nat.reduceAdd, Nat.reduceMul, Nat.reduceSub, if_true, Nat.reduceLT, Nat.reduceLeDiff, ite_true, ite_false, Nat.reduceEqDiff, if_false, reduceCtorEq, ne_eq, List.getD, List.getElem?_cons_zero, List.getElem?_cons_succ, Option.getD_some, Option.bind_some, Option.map_some, Option.isSome_some, reduceIte, List.length_append, List.append_assoc, List.cons_append, List.nil_append, Option.some.injEq, forall_const, implies_true, Int.reduceNeg, eq_self, Prod.mk.injEq, List.self_eq_append_right, List.append_nil, exists_eq_left, exists_eq_left', exists_and_left, exists_eq_right, exists_and_right]
    refine ⟨_, by omega, a', j, rfl, by omega, by omega, by omega, rfl, rfl, ⟨_, rfl⟩, ⟨_, rfl⟩, ⟨_, rfl⟩, g3, B3, S2.K.trans K3, S2.P.trans (P3.mono (by omega) hb'), fun h0 k k1 k2 => ?_, fun g' p' s' => ?_⟩
    · rw [P3.out (k := a' - 1) (by omega), P3.out (k := k) (by omega)]
      exact S2.Lw h0 k k1 (by omega)
    · exact S2.J g' ((P3.mono (by omega) (Nat.le_refl _)).trans (p'.mono (Nat.le_refl _) (by omega))) (div_join' O D2 hj1 hj2 P3 S3 p' s')

theorem sort_m {n0 n : Nat} {H : List Ob} {v : AV} {f : Nat → α} (A : Fs n0 H v c 6 n f) (h0 : n0 ≤ H.length) (hn : n ≤ 1125899906842624) :
    ∃ h2 g, mcall E n0 74 [v, KC] H = some (.tup [], h2) ∧ n0 ≤ h2.length ∧ Fs n0 h2 v c 6 n g ∧ Kp v H h2 ∧ (arr n g).Perm (arr n f) ∧ (arr n g).Pairwise (fun x y => lt y x = false) := by
  have len := A.len
  have wu : IntKind.u64.wrap (n : Int) = (n : Int) := wu64 (by omega) (by omega)
  have hl := fun H => len_pc (show n < M64 by unfold M64; omega) H
  obtain ⟨r, h2, g, m2, l2, B2, K2, rfl, P2, S2⟩ := pdq_m X hn n 0 n H f (len2 n : Int) (by omega) (Nat.zero_le _) (Nat.le_refl _) A h0 (fun h => by omega)
  rw [show ((0 : Nat) : Int) = 0 from rfl] at m2
  obtain ⟨r, h3, g', m3, l3, B3, K3, rfl, q1, q2⟩ := row_call (P := fun r g => r = .tup [] ∧ (arr n g).Perm (arr n f) ∧ (arr n g).Pairwise (fun x y => lt y x = false)) e74 rfl (Nat.le_of_ble_eq_true rfl) h0 A (args := [v, KC]) (by
    simp (config := {maxSteps := 4000000}) only [c74, len, wu, hl, h0, rg_callm, mcallV_fn, m2, SS, bne_self_eq_false, wr_def, obOf, List.all_cons, List.all_nil, List.map_cons, List.map_nil, List.length_cons, List.length_nil, List.take_zero, List.take_succ_cons, List.take_nil, List.drop_zero, List.drop_succ_cons, List.drop_nil, Nat.reduceAdd, Nat.reduceMul, Nat.reduceSub, if_true, Nat.reduceLT, Nat.reduceLeDiff, ite_true, ite_false, Nat.reduceEqDiff, if_false, reduceCtorEq, ne_eq, List.getD, List.getElem?_cons_zero, List.getElem?_cons_succ, Option.getD_some, Option.bind_some, Option.map_some, Option.isSome_some, reduceIte, List.length_append, List.append_assoc, List.cons_append, List.nil_append, Option.some.injEq, forall_const, implies_true, Int.reduceNeg, eq_self, Prod.mk.injEq, List.self_eq_append_right, List.append_nil, exists_eq_left, exists_eq_left', exists_and_left, exists_eq_right, exists_and_right]
    exact ⟨rfl, g, B2, K2, rfl, P2.perm (Nat.le_refl _), S2.pair⟩)
  exact ⟨h3, g', m3, l3, B3, K3, q1, q2⟩
end
end Go.Proofs.Ytaekgifbehoipaa.So.KS
/- Spots: when they are valid, alike, and their order. No condition. -/
namespace Go.Proofs.Ytaekgifbehoipaa.So
open Go Go.Proofs.Ytaekgifbehoipaa.Eva Go.Proofs.Ytaekgifbehoipaa.CodeAll Go.Proofs.Ytaekgifbehoipaa.Fl
set_option linter.unusedVariables false
set_option linter.unusedSimpArgs false
set_option maxRecDepth 10000
set_option maxHeartbeats 4000000

/-- A spot. -/
structure Sd where
  (t x y h k e : Int)
  deriving DecidableEq
def Sd.c (s : Sd) : List AV := [.int .i64 s.t, .int .i64 s.x, .int .i64 s.y, .int .i64 s.h, .int .i64 s.k, .int .i64 s.e]
def Sd.key (s : Sd) : List Int := [s.t, s.e, s.x, s.y, s.h, s.k]
def sV (s : Sd) : AV := .agg s.c
def orL : List Int → Int
  | [] => 0
  | x :: r => if x ≠ 0 then x else orL r
theorem or_cmp (x y : Int) (r : List Int) : orL (cmp1 x y :: r) = if x < y then -1 else if y < x then 1 else orL r := by
  unfold cmp1
  rw [orL]
  by_cases h1 : x < y
  · simp [h1]
  · by_cases h2 : y < x
    · simp [h1, h2]
    · simp [h1, h2]
theorem compare_pc (x y : Int) (H : List Ob) : pcall E 85 [.int .i64 x, .int .i64 y] H = some (.int .i64 (cmp1 x y)) := by
  refine pcall_some.2 (call_plain e85 rfl (Nat.le_of_ble_eq_true rfl) rfl ?_)
  have h := fun x => nan_pc x H
  unfold cmp1
  by_cases h1 : x < y
  · have b1 : decide (x < y) = true := decide_eq_true h1
    simp (config := {maxSteps := 4000000}) only [c85, h, b1, if_pos h1, SS, bne_self_eq_false, wr_def, obOf, List.all_cons, List.all_nil, List.map_cons, List.map_nil, List.length_cons, List.length_nil, List.take_zero, List.take_succ_cons, List.take_nil, List.drop_zero, List.drop_succ_cons, List.drop_nil, Nat.reduceAdd, Nat.reduceMul, Nat.reduceSub, if_true, Nat.reduceLT, Nat.reduceLeDiff, ite_true, ite_false, Nat.reduceEqDiff, if_false, reduceCtorEq, ne_eq, List.getD, List.getElem?_cons_zero, List.getElem?_cons_succ, Option.getD_some, Option.bind_some, Option.map_some, Option.isSome_some, reduceIte, List.length_append, List.append_assoc, List.cons_append, List.nil_append, Option.some.injEq, forall_const, implies_true, Int.reduceNeg, eq_self, Prod.mk.injEq, List.self_eq_append_right, List.append_nil, exists_eq_left, exists_eq_left', exists_and_left, exists_eq_right, exists_and_right]
  · have b1 : decide (x < y) = false := decide_eq_false h1
    by_cases h2 : y < x
    · have b2 : decide (y < x) = true := decide_eq_true h2
      simp (config := {maxSteps := 4000000}) only [c85, h, b1, b2, if_neg h1, if_pos h2, SS, bne_self_eq_false, wr_def, obOf, List.all_cons, List.all_nil, List.map_cons, List.map_nil, List.length_cons, List.length_nil, List.take_zero, List.take_succ_cons, List.take_nil, List.drop_zero, List.drop_succ_cons, List.drop_nil, Nat.reduceAdd, Nat.reduceMul, Nat.reduceSub, if_true, Nat.reduceLT, Nat.reduceLeDiff, ite_true, ite_false, Nat.reduceEqDiff, if_false, reduceCtorEq, ne_eq, List.getD, List.getElem?_cons_zero, List.getElem?_cons_succ, Option.getD_some, Option.bind_some, Option.map_some, Option.isSome_some, reduceIte, List.length_append, List.append_assoc, List.cons_append, List.nil_append, Option.some.injEq, forall_const, implies_true, Int.reduceNeg, eq_self, Prod.mk.injEq, List.self_eq_append_right, List.append_nil, exists_eq_left, exists_eq_left', exists_and_left, exists_eq_right, exists_and_right]
    · have b2 : decide (y < x) = false := decide_eq_false h2
      simp (config := {maxSteps := 4000000}) only [c85, h, b1, b2, if_neg h1, if_neg h2, SS, bne_self_eq_false, wr_def, obOf, List.all_cons, List.all_nil, List.map_cons, List.map_nil, List.length_cons, List.length_nil, List.take_zero, List.take_succ_cons, List.take_nil, List.drop_zero, List.drop_succ_cons, List.drop_nil, Nat.reduceAdd, Nat.reduceMul, Nat.reduceSub, if_true, Nat.reduceLT, Nat.reduceLeDiff, ite_true, ite_false, Nat.reduceEqDiff, if_false, reduceCtorEq, ne_eq, List.getD, List.getElem?_cons_zero, List.getElem?_cons_succ, Option.getD_some, Option.bind_some, Option.map_some, Option.isSome_some, reduceIte, List.length_append, List.append_assoc, List.cons_append, List.nil_append, Option.some.injEq, forall_const, implies_true, Int.reduceNeg, eq_self, Prod.mk.injEq, List.self_eq_append_right, List.append_nil, exists_eq_left, exists_eq_left', exists_and_left, exists_eq_right, exists_and_right]
theorem or_pc {H : List Ob} {V : AV} {ks : List Int} (hs : SlL H V intC 1 ks) (hb : ks.length ≤ 1125899906842624) : pcall E 84 [V] H = some (.int .i64 (orL ks)) := by
  refine pcall_some.2 (call_plain e84 rfl (Nat.le_of_ble_eq_true rfl) rfl ?_)
  generalize hR : orL ks = R
  have hlen := hs.len
  simp (config := {maxSteps := 4000000}) only [c84, hlen, SS, bne_self_eq_false, wr_def, obOf, List.all_cons, List.all_nil, List.map_cons, List.map_nil, List.length_cons, List.length_nil, List.take_zero, List.take_succ_cons, List.take_nil, List.drop_zero, List.drop_succ_cons, List.drop_nil, Nat.reduceAdd, Nat.reduceMul, Nat.reduceSub, if_true, Nat.reduceLT, Nat.reduceLeDiff, ite_true, ite_false, Nat.reduceEqDiff, if_false, reduceCtorEq, ne_eq, List.getD, List.getElem?_cons_zero, List.getElem?_cons_succ, Option.getD_some, Option.bind_some, Option.map_some, Option.isSome_some, reduceIte, List.length_append, List.append_assoc, List.cons_append, List.nil_append, Option.some.injEq, forall_const, implies_true, Int.reduceNeg, eq_self, Prod.mk.injEq, List.self_eq_append_right, List.append_nil, exists_eq_left, exists_eq_left', exists_and_left, exists_eq_right, exists_and_right]
  refine W_loop (fun q f1 h1 => ∃ j : Nat, q = ks.length - j ∧ j ≤ ks.length ∧ f1 3 = .int .i64 0 ∧ f1 6 = V ∧ f1 7 = .int .i64 (ks.length : Int) ∧ f1 8 = .int .i64 (j : Int) ∧ orL (ks.drop j) = R) (Nat.le_refl _) ks.length ⟨0, rfl, Nat.zero_le _, rfl, rfl, rfl, rfl, hR⟩ ?_
  rintro q f1 h1 hn1 ht ⟨j, rfl, hj, e3, e6, e7, e8, hgo⟩
  rw [List.take_length] at ht
  have hH := take_eq ht
  generalize h1.drop H.length = z at hH
  subst hH
  by_cases hjl : j < ks.length
  · have hjl' : decide ((j : Int) < (ks.length : Int)) = true := decide_eq_true (by omega)
    obtain ⟨k, hk⟩ : ∃ k, ks[j]? = some k := ⟨_, List.getElem?_eq_getElem hjl⟩
    have hd : ks.drop j = k :: ks.drop (j + 1) := by
      rw [List.drop_eq_getElem_cons hjl]; congr 1
      rw [List.getElem?_eq_getElem hjl] at hk; simpa using hk
    have hwj : IntKind.i64.wrap ((j : Int) + 1) = ((j + 1 : Nat) : Int) := by rw [wrap64 (by omega) (by omega)]; omega
    have hok : idxOk 1 V (.int .i64 (j : Int)) := hs.ok (by omega) (by omega)
    have hld : ld1A (H ++ z) (idxV 1 V (.int .i64 (j : Int))) = some (.int .i64 k) := by rw [(hs.keep z).ld0 (x := k) (by omega) (by simpa using hk)]; rfl
    rw [hd, orL] at hgo
    by_cases h0 : k = 0
    · have b : (k != 0) = false := by rw [h0]; rfl
      rw [if_neg (fun h => h h0)] at hgo
      simp (config := {maxSteps := 4000000}) only [e3, e6, e7, e8, hjl', hwj, hok, isPtr_idx hok, hld, b, SS, bne_self_eq_false, wr_def, obOf, List.all_cons, List.all_nil, List.map_cons, List.map_nil, List.length_cons, List.length_nil, List.take_zero, List.take_succ_cons, List.take_nil, List.drop_zero, List.drop_succ_cons, List.drop_nil, Nat.reduceAdd, Nat.reduceMul, Nat.reduceSub, if_true, Nat.reduceLT, Nat.reduceLeDiff, ite_true, ite_false, Nat.reduceEqDiff, if_false, reduceCtorEq, ne_eq, List.getD, List.getElem?_cons_zero, List.getElem?_cons_succ, Option.getD_some, Option.bind_some, Option.map_some, Option.isSome_some, reduceIte, List.length_append, List.append_assoc, List.cons_append, List.nil_append, Option.some.injEq, forall_const, implies_true, Int.reduceNeg, eq_self, Prod.mk.injEq, List.self_eq_append_right, List.append_nil, exists_eq_left, exists_eq_left', exists_and_left, exists_eq_right, exists_and_right]
      exact ⟨_, by omega, j + 1, rfl, by omega, rfl, hgo⟩
    · have b : (k != 0) = true := bne_iff_ne.2 h0
      rw [if_pos h0] at hgo
      subst hgo
      simp (config := {maxSteps := 4000000}) only [e3, e6, e7, e8, hjl', hwj, hok, isPtr_idx hok, hld, b, SS, bne_self_eq_false, wr_def, obOf, List.all_cons, List.all_nil, List.map_cons, List.map_nil, List.length_cons, List.length_nil, List.take_zero, List.take_succ_cons, List.take_nil, List.drop_zero, List.drop_succ_cons, List.drop_nil, Nat.reduceAdd, Nat.reduceMul, Nat.reduceSub, if_true, Nat.reduceLT, Nat.reduceLeDiff, ite_true, ite_false, Nat.reduceEqDiff, if_false, reduceCtorEq, ne_eq, List.getD, List.getElem?_cons_zero, List.getElem?_cons_succ, Option.getD_some, Option.bind_some, Option.map_some, Option.isSome_some, reduceIte, List.length_append, List.append_assoc, List.cons_append, List.nil_append, Option.some.injEq, forall_const, implies_true, Int.reduceNeg, eq_self, Prod.mk.injEq, List.self_eq_append_right, List.append_nil, exists_eq_left, exists_eq_left', exists_and_left, exists_eq_right, exists_and_right]
  · have hjl' : decide ((j : Int) < (ks.length : Int)) = false := decide_eq_false (by omega)
    have hd : ks.drop j = [] := List.drop_eq_nil_of_le (by omega)
    rw [hd, orL] at hgo
    subst hgo
    simp (config := {maxSteps := 4000000}) only [e3, e6, e7, e8, hjl', SS, bne_self_eq_false, wr_def, obOf, List.all_cons, List.all_nil, List.map_cons, List.map_nil, List.length_cons, List.length_nil, List.take_zero, List.take_succ_cons, List.take_nil, List.drop_zero, List.drop_succ_cons, List.drop_nil, Nat.reduceAdd, Nat.reduceMul, Nat.reduceSub, if_true, Nat.reduceLT, Nat.reduceLeDiff, ite_true, ite_false, Nat.reduceEqDiff, if_false, reduceCtorEq, ne_eq, List.getD, List.getElem?_cons_zero, List.getElem?_cons_succ, Option.getD_some, Option.bind_some, Option.map_some, Option.isSome_some, reduceIte, List.length_append, List.append_assoc, List.cons_append, List.nil_append, Option.some.injEq, forall_const, implies_true, Int.reduceNeg, eq_self, Prod.mk.injEq, List.self_eq_append_right, List.append_nil, exists_eq_left, exists_eq_left', exists_and_left, exists_eq_right, exists_and_right]
theorem cmpS_pc (a b : Sd) (H : List Ob) : pcall E 75 [.agg a.c, .agg b.c] H = some (.int .i64 (lexc a.key b.key)) := by
  refine pcall_some.2 (call_plain e75 rfl (Nat.le_of_ble_eq_true rfl) rfl ?_)
  have hc := fun x y H => compare_pc x y H
  have ho : pcall E 84 [.sl false (H.length + 2) 0 1 0 6] (H ++ [⟨a.c, 0, 0, true, true⟩, ⟨b.c, 0, 0, true, true⟩, ⟨[.int .i64 (cmp1 a.t b.t), .int .i64 (cmp1 a.e b.e), .int .i64 (cmp1 a.x b.x), .int .i64 (cmp1 a.y b.y), .int .i64 (cmp1 a.h b.h), .int .i64 (cmp1 a.k b.k)], 0, 1, true, true⟩]) = some (.int .i64 (lexc a.key b.key)) := by
    have hs : SlL (H ++ [⟨a.c, 0, 0, true, true⟩, ⟨b.c, 0, 0, true, true⟩, ⟨[.int .i64 (cmp1 a.t b.t), .int .i64 (cmp1 a.e b.e), .int .i64 (cmp1 a.x b.x), .int .i64 (cmp1 a.y b.y), .int .i64 (cmp1 a.h b.h), .int .i64 (cmp1 a.k b.k)], 0, 1, true, true⟩]) (.sl false (H.length + 2) 0 1 0 6) intC 1 [cmp1 a.t b.t, cmp1 a.e b.e, cmp1 a.x b.x, cmp1 a.y b.y, cmp1 a.h b.h, cmp1 a.k b.k] :=
      ⟨fun _ => rfl, by decide, rfl, Or.inr ⟨_, 0, 0, ⟨[.int .i64 (cmp1 a.t b.t), .int .i64 (cmp1 a.e b.e), .int .i64 (cmp1 a.x b.x), .int .i64 (cmp1 a.y b.y), .int .i64 (cmp1 a.h b.h), .int .i64 (cmp1 a.k b.k)], 0, 1, true, true⟩, rfl, by simp [rdObj], Nat.le_refl _, rfl⟩⟩
    rw [or_pc hs (by simp)]
    simp only [Sd.key, lexc]
    rw [or_cmp, or_cmp, or_cmp, or_cmp, or_cmp, or_cmp]
    rfl
  generalize lexc a.key b.key = R at *
  simp only [Sd.c] at ho
  simp (config := {maxSteps := 4000000}) only [c75, Sd.c, hc, ho, SS, bne_self_eq_false, wr_def, obOf, List.all_cons, List.all_nil, List.map_cons, List.map_nil, List.length_cons, List.length_nil, List.take_zero, List.take_succ_cons, List.take_nil, List.drop_zero, List.drop_succ_cons, List.drop_nil, Nat.reduceAdd, Nat.reduceMul, Nat.reduceSub, if_true, Nat.reduceLT, Nat.reduceLeDiff, ite_true, ite_false, Nat.reduceEqDiff, if_false, reduceCtorEq, ne_eq, List.getD, List.getElem?_cons_zero, List.getElem?_cons_succ, Option.getD_some, Option.bind_some, Option.map_some, Option.isSome_some, reduceIte, List.length_append, List.append_assoc, List.cons_append, List.nil_append, Option.some.injEq, forall_const, implies_true, Int.reduceNeg, eq_self, Prod.mk.injEq, List.self_eq_append_right, List.append_nil, exists_eq_left, exists_eq_left', exists_and_left, exists_eq_right, exists_and_right]
def sLt (a b : Sd) : Bool := decide (lexc a.key b.key < 0)
theorem sCtx : KS.Ctx Sd.c sV sLt (.fn 75 []) (fun a b => lexc a.key b.key) where
  L := ⟨fun _ => rfl, by decide, fun _ => rfl, fun _ => rfl, fun _ => rfl⟩
  O := od_key Sd.key 6 (fun _ => rfl)
  he := fun _ => rfl
  hcmp := fun x y H => by rw [pcallV_fn]; exact cmpS_pc x y H
  hq := fun x y => rfl
theorem key_inj {a b : Sd} (h : a.key = b.key) : a = b := by
  obtain ⟨t, x, y, h1, k, e⟩ := a
  obtain ⟨t', x', y', h', k', e'⟩ := b
  simp only [Sd.key, List.cons.injEq, and_true] at h
  obtain ⟨rfl, rfl, rfl, rfl, rfl, rfl⟩ := h
  rfl
theorem sLt_anti {a b : Sd} (h1 : sLt a b = false) (h2 : sLt b a = false) : a = b := by
  simp only [sLt, decide_eq_false_iff_not] at h1 h2
  rw [lexc_neg] at h2
  exact key_inj (lexc_zero _ _ rfl (by omega))

/-! ### Valid and alike -/
def pl (x y : Int) : Bool := decide (-1000000 ≤ x) && decide (x ≤ 1000000) && decide (-1000000 ≤ y) && decide (y ≤ 1000000)
theorem pl_pc (x y : Int) (H : List Ob) : pcall E 107 [.agg [.int .i64 x, .int .i64 y]] H = some (.bool (pl x y)) := by
  refine pcall_some.2 (call_plain e107 rfl (Nat.le_of_ble_eq_true rfl) rfl ?_)
  simp (config := {maxSteps := 4000000}) only [c107, pl, SS, bne_self_eq_false, wr_def, obOf, List.all_cons, List.all_nil, List.map_cons, List.map_nil, List.length_cons, List.length_nil, List.take_zero, List.take_succ_cons, List.take_nil, List.drop_zero, List.drop_succ_cons, List.drop_nil, Nat.reduceAdd, Nat.reduceMul, Nat.reduceSub, if_true, Nat.reduceLT, Nat.reduceLeDiff, ite_true, ite_false, Nat.reduceEqDiff, if_false, reduceCtorEq, ne_eq, List.getD, List.getElem?_cons_zero, List.getElem?_cons_succ, Option.getD_some, Option.bind_some, Option.map_some, Option.isSome_some, reduceIte, List.length_append, List.append_assoc, List.cons_append, List.nil_append, Option.some.injEq, forall_const, implies_true, Int.reduceNeg, eq_self, Prod.mk.injEq, List.self_eq_append_right, List.append_nil, exists_eq_left, exists_eq_left', exists_and_left, exists_eq_right, exists_and_right]
def Sd.chk (s : Sd) : Int := if (decide (s.t < 0) || decide (200000 < s.t) || !pl s.x s.y || decide (s.h < 0) || decide (60000 < s.h) || decide (s.k < -1) || decide (4095 < s.k) || decide (s.e < 0) || decide (1000000 < s.e)) then 4 else 0
theorem schk_pc (t x y h k e : Int) (H : List Ob) : pcall E 73 [.agg [.int .i64 t, .int .i64 x, .int .i64 y, .int .i64 h, .int .i64 k, .int .i64 e]] H = some (.int .i64 (Sd.chk ⟨t, x, y, h, k, e⟩)) := by
  refine pcall_some.2 (call_plain e73 rfl (Nat.le_of_ble_eq_true rfl) rfl ?_)
  generalize hv : AV.int .i64 (Sd.chk ⟨t, x, y, h, k, e⟩) = v
  have hp := fun H => pl_pc x y H
  obtain ⟨p, hpp⟩ : ∃ p, pl x y = p := ⟨_, rfl⟩
  rw [hpp] at hp
  simp (config := {maxSteps := 4000000}) only [c73, hp, SS, bne_self_eq_false, wr_def, obOf, List.all_cons, List.all_nil, List.map_cons, List.map_nil, List.length_cons, List.length_nil, List.take_zero, List.take_succ_cons, List.take_nil, List.drop_zero, List.drop_succ_cons, List.drop_nil, Nat.reduceAdd, Nat.reduceMul, Nat.reduceSub, if_true, Nat.reduceLT, Nat.reduceLeDiff, ite_true, ite_false, Nat.reduceEqDiff, if_false, reduceCtorEq, ne_eq, List.getD, List.getElem?_cons_zero, List.getElem?_cons_succ, Option.getD_some, Option.bind_some, Option.map_some, Option.isSome_some, reduceIte, List.length_append, List.append_assoc, List.cons_append, List.nil_append, Option.some.injEq, forall_const, implies_true, Int.reduceNeg, eq_self, Prod.mk.injEq, List.self_eq_append_right, List.append_nil, exists_eq_left, exists_eq_left', exists_and_left, exists_eq_right, exists_and_right]
  simp only [join_ite]
  subst hv
  unfold Sd.chk
  simp only [apply_ite (AV.int .i64), hpp]
def fsq (ax ay bx «by» : Int) : Int := IntKind.i64.wrap (IntKind.i64.wrap (IntKind.i64.wrap (ax - bx) * IntKind.i64.wrap (ax - bx)) + IntKind.i64.wrap (IntKind.i64.wrap (ay - «by») * IntKind.i64.wrap (ay - «by»)))
theorem fsq_pc (ax ay bx «by» : Int) (H : List Ob) : pcall E 78 [.agg [.int .i64 ax, .int .i64 ay], .agg [.int .i64 bx, .int .i64 «by»]] H = some (.int .i64 (fsq ax ay bx «by»)) := by
  refine pcall_some.2 (call_plain e78 rfl (Nat.le_of_ble_eq_true rfl) rfl ?_)
  simp (config := {maxSteps := 4000000}) only [c78, fsq, SS, bne_self_eq_false, wr_def, obOf, List.all_cons, List.all_nil, List.map_cons, List.map_nil, List.length_cons, List.length_nil, List.take_zero, List.take_succ_cons, List.take_nil, List.drop_zero, List.drop_succ_cons, List.drop_nil, Nat.reduceAdd, Nat.reduceMul, Nat.reduceSub, if_true, Nat.reduceLT, Nat.reduceLeDiff, ite_true, ite_false, Nat.reduceEqDiff, if_false, reduceCtorEq, ne_eq, List.getD, List.getElem?_cons_zero, List.getElem?_cons_succ, Option.getD_some, Option.bind_some, Option.map_some, Option.isSome_some, reduceIte, List.length_append, List.append_assoc, List.cons_append, List.nil_append, Option.some.injEq, forall_const, implies_true, Int.reduceNeg, eq_self, Prod.mk.injEq, List.self_eq_append_right, List.append_nil, exists_eq_left, exists_eq_left', exists_and_left, exists_eq_right, exists_and_right]
def fap (a b : Int) : Int := max (IntKind.i64.wrap (a - b)) (IntKind.i64.wrap (b - a))
theorem fap_pc (a b : Int) (H : List Ob) : pcall E 79 [.int .i64 a, .int .i64 b] H = some (.int .i64 (fap a b)) := by
  refine pcall_some.2 (call_plain e79 rfl (Nat.le_of_ble_eq_true rfl) rfl ?_)
  simp (config := {maxSteps := 4000000}) only [c79, fap, SS, bne_self_eq_false, wr_def, obOf, List.all_cons, List.all_nil, List.map_cons, List.map_nil, List.length_cons, List.length_nil, List.take_zero, List.take_succ_cons, List.take_nil, List.drop_zero, List.drop_succ_cons, List.drop_nil, Nat.reduceAdd, Nat.reduceMul, Nat.reduceSub, if_true, Nat.reduceLT, Nat.reduceLeDiff, ite_true, ite_false, Nat.reduceEqDiff, if_false, reduceCtorEq, ne_eq, List.getD, List.getElem?_cons_zero, List.getElem?_cons_succ, Option.getD_some, Option.bind_some, Option.map_some, Option.isSome_some, reduceIte, List.length_append, List.append_assoc, List.cons_append, List.nil_append, Option.some.injEq, forall_const, implies_true, Int.reduceNeg, eq_self, Prod.mk.injEq, List.self_eq_append_right, List.append_nil, exists_eq_left, exists_eq_left', exists_and_left, exists_eq_right, exists_and_right]
def alk (band : Int) (a b : Sd) : Bool := (a.t == b.t) && decide (0 ≤ a.k) && (a.k == b.k) && decide (fsq a.x a.y b.x b.y ≤ IntKind.i64.wrap (IntKind.i64.wrap (a.e + b.e) * IntKind.i64.wrap (a.e + b.e))) && decide (fap a.h b.h ≤ band)
end Go.Proofs.Ytaekgifbehoipaa.So
/- Spots that are alike; copies of spots. Conditions stand in each lemma. -/
namespace Go.Proofs.Ytaekgifbehoipaa.So
open Go Go.Proofs.Ytaekgifbehoipaa.Eva Go.Proofs.Ytaekgifbehoipaa.CodeAll Go.Proofs.Ytaekgifbehoipaa.Fl
set_option linter.unusedVariables false
set_option linter.unusedSimpArgs false
set_option maxRecDepth 10000
set_option maxHeartbeats 4000000

theorem schk_pc' (s : Sd) (H : List Ob) : pcall E 73 [.agg s.c] H = some (.int .i64 s.chk) := schk_pc s.t s.x s.y s.h s.k s.e H
theorem alike_pc {a b : Sd} {band : Int} (h1 : a.chk = 0) (h2 : b.chk = 0) (h3 : 0 ≤ band) (h4 : band ≤ 60000) (H : List Ob) : pcall E 38 [.agg a.c, .agg b.c, .int .i64 band] H = some (.tup [.bool (alk band a b), .int .i64 0]) := by
  refine pcall_some.2 (call_plain e38 rfl (Nat.le_of_ble_eq_true rfl) rfl ?_)
  have n0 : ((0 : Int) != 0) = false := rfl
  have q1 : decide (band < 0) = false := decide_eq_false (by omega)
  have q2 : decide (60000 < band) = false := decide_eq_false (by omega)
  simp (config := {maxSteps := 4000000}) only [c38, Sd.c, SS, bne_self_eq_false, wr_def, obOf, List.all_cons, List.all_nil, List.map_cons, List.map_nil, List.length_cons, List.length_nil, List.take_zero, List.take_succ_cons, List.take_nil, List.drop_zero, List.drop_succ_cons, List.drop_nil, Nat.reduceAdd, Nat.reduceMul, Nat.reduceSub, if_true, Nat.reduceLT, Nat.reduceLeDiff, ite_true, ite_false, Nat.reduceEqDiff, if_false, reduceCtorEq, ne_eq, List.getD, List.getElem?_cons_zero, List.getElem?_cons_succ, Option.getD_some, Option.bind_some, Option.map_some, Option.isSome_some, reduceIte, List.length_append, List.append_assoc, List.cons_append, List.nil_append, Option.some.injEq, forall_const, implies_true, Int.reduceNeg, eq_self, Prod.mk.injEq, List.self_eq_append_right, List.append_nil, exists_eq_left, exists_eq_left', exists_and_left, exists_eq_right, exists_and_right]
  refine W_loop (fun k f1 h1 => ∃ j : Nat, k = 2 - j ∧ j ≤ 2 ∧ f1 2 = .int .i64 band ∧ f1 3 = .ptr H.length 0 0 ∧ f1 4 = .ptr (H.length + 1) 0 0 ∧ f1 14 = .agg (a.c ++ b.c) ∧ f1 15 = .int .i64 (j : Int) ∧ rdObj h1 H.length 0 = some ⟨a.c, 0, 0, true, true⟩ ∧ rdObj h1 (H.length + 1) 0 = some ⟨b.c, 0, 0, true, true⟩) (by simp) 2 ⟨0, rfl, by omega, rfl, rfl, rfl, rfl, rfl, by simp [rdObj, Sd.c], by simp [rdObj, Sd.c]⟩ ?_
  rintro k f1 g1 hn1 ht ⟨j, rfl, hj, e2, e3, e4, e14, e15, R1, R2⟩
  by_cases hj2 : j < 2
  · have b3 : decide ((j : Int) < 2) = true := decide_eq_true (by omega)
    have wj : IntKind.i64.wrap ((j : Int) + 1) = ((j + 1 : Nat) : Int) := by rw [wrap64 (by omega) (by omega)]; omega
    obtain ⟨u, hu, hck⟩ : ∃ u : Sd, ixaA 2 6 true (.agg (a.c ++ b.c)) (.int .i64 (j : Int)) = some (.agg u.c) ∧ u.chk = 0 := by
      by_cases h : j = 0
      · subst h; exact ⟨a, rfl, h1⟩
      · have : j = 1 := by omega
        subst this; exact ⟨b, rfl, h2⟩
    have hc := fun H => schk_pc' u H
    rw [hck] at hc
    simp only [Sd.c, List.cons_append, List.nil_append] at hu hc e14
    simp (config := {maxSteps := 4000000}) only [e2, e3, e4, e14, e15, b3, wj, hu, hc, n0, hn1, SS, bne_self_eq_false, wr_def, obOf, List.all_cons, List.all_nil, List.map_cons, List.map_nil, List.length_cons, List.length_nil, List.take_zero, List.take_succ_cons, List.take_nil, List.drop_zero, List.drop_succ_cons, List.drop_nil, Nat.reduceAdd, Nat.reduceMul, Nat.reduceSub, if_true, Nat.reduceLT, Nat.reduceLeDiff, ite_true, ite_false, Nat.reduceEqDiff, if_false, reduceCtorEq, ne_eq, List.getD, List.getElem?_cons_zero, List.getElem?_cons_succ, Option.getD_some, Option.bind_some, Option.map_some, Option.isSome_some, reduceIte, List.length_append, List.append_assoc, List.cons_append, List.nil_append, Option.some.injEq, forall_const, implies_true, Int.reduceNeg, eq_self, Prod.mk.injEq, List.self_eq_append_right, List.append_nil, exists_eq_left, exists_eq_left', exists_and_left, exists_eq_right, exists_and_right]
    exact ⟨_, by omega, j + 1, rfl, by omega, rfl, rfl, rd_keep R1, rd_keep R2⟩
  have b3 : decide ((j : Int) < 2) = false := decide_eq_false (by omega)
  have R1' := fun o => rd_keep (l := o) R1
  have R2' := fun o => rd_keep (l := o) R2
  have f1' := fun H => fsq_pc a.x a.y b.x b.y H
  have f2' := fun H => fap_pc a.h b.h H
  unfold alk
  simp only [Sd.c] at R1 R2 R1' R2'
  cases c1 : (a.t == b.t)
  · simp (config := {maxSteps := 8000000}) only [e2, e3, e4, e14, e15, b3, q1, q2, R1, R2, c1, hn1, SS, bne_self_eq_false, wr_def, obOf, List.all_cons, List.all_nil, List.map_cons, List.map_nil, List.length_cons, List.length_nil, List.take_zero, List.take_succ_cons, List.take_nil, List.drop_zero, List.drop_succ_cons, List.drop_nil, Nat.reduceAdd, Nat.reduceMul, Nat.reduceSub, if_true, Nat.reduceLT, Nat.reduceLeDiff, ite_true, ite_false, Nat.reduceEqDiff, if_false, reduceCtorEq, ne_eq, List.getD, List.getElem?_cons_zero, List.getElem?_cons_succ, Option.getD_some, Option.bind_some, Option.map_some, Option.isSome_some, reduceIte, List.length_append, List.append_assoc, List.cons_append, List.nil_append, Option.some.injEq, forall_const, implies_true, Int.reduceNeg, eq_self, Prod.mk.injEq, List.self_eq_append_right, List.append_nil, exists_eq_left, exists_eq_left', exists_and_left, exists_eq_right, exists_and_right]
  cases c2 : decide (0 ≤ a.k)
  · simp (config := {maxSteps := 8000000}) only [e2, e3, e4, e14, e15, b3, q1, q2, R1, R2, c1, c2, hn1, SS, bne_self_eq_false, wr_def, obOf, List.all_cons, List.all_nil, List.map_cons, List.map_nil, List.length_cons, List.length_nil, List.take_zero, List.take_succ_cons, List.take_nil, List.drop_zero, List.drop_succ_cons, List.drop_nil, Nat.reduceAdd, Nat.reduceMul, Nat.reduceSub, if_true, Nat.reduceLT, Nat.reduceLeDiff, ite_true, ite_false, Nat.reduceEqDiff, if_false, reduceCtorEq, ne_eq, List.getD, List.getElem?_cons_zero, List.getElem?_cons_succ, Option.getD_some, Option.bind_some, Option.map_some, Option.isSome_some, reduceIte, List.length_append, List.append_assoc, List.cons_append, List.nil_append, Option.some.injEq, forall_const, implies_true, Int.reduceNeg, eq_self, Prod.mk.injEq, List.self_eq_append_right, List.append_nil, exists_eq_left, exists_eq_left', exists_and_left, exists_eq_right, exists_and_right]
  cases c3 : (a.k == b.k)
  · simp (config := {maxSteps := 8000000}) only [e2, e3, e4, e14, e15, b3, q1, q2, R1, R2, c1, c2, c3, hn1, SS, bne_self_eq_false, wr_def, obOf, List.all_cons, List.all_nil, List.map_cons, List.map_nil, List.length_cons, List.length_nil, List.take_zero, List.take_succ_cons, List.take_nil, List.drop_zero, List.drop_succ_cons, List.drop_nil, Nat.reduceAdd, Nat.reduceMul, Nat.reduceSub, if_true, Nat.reduceLT, Nat.reduceLeDiff, ite_true, ite_false, Nat.reduceEqDiff, if_false, reduceCtorEq, ne_eq, List.getD, List.getElem?_cons_zero, List.getElem?_cons_succ, Option.getD_some, Option.bind_some, Option.map_some, Option.isSome_some, reduceIte, List.length_append, List.append_assoc, List.cons_append, List.nil_append, Option.some.injEq, forall_const, implies_true, Int.reduceNeg, eq_self, Prod.mk.injEq, List.self_eq_append_right, List.append_nil, exists_eq_left, exists_eq_left', exists_and_left, exists_eq_right, exists_and_right]
  cases c4 : decide (fsq a.x a.y b.x b.y ≤ IntKind.i64.wrap (IntKind.i64.wrap (a.e + b.e) * IntKind.i64.wrap (a.e + b.e)))
  · simp (config := {maxSteps := 8000000}) only [e2, e3, e4, e14, e15, b3, q1, q2, R1, R2, c1, c2, c3, f1', c4, hn1, SS, bne_self_eq_false, wr_def, obOf, List.all_cons, List.all_nil, List.map_cons, List.map_nil, List.length_cons, List.length_nil, List.take_zero, List.take_succ_cons, List.take_nil, List.drop_zero, List.drop_succ_cons, List.drop_nil, Nat.reduceAdd, Nat.reduceMul, Nat.reduceSub, if_true, Nat.reduceLT, Nat.reduceLeDiff, ite_true, ite_false, Nat.reduceEqDiff, if_false, reduceCtorEq, ne_eq, List.getD, List.getElem?_cons_zero, List.getElem?_cons_succ, Option.getD_some, Option.bind_some, Option.map_some, Option.isSome_some, reduceIte, List.length_append, List.append_assoc, List.cons_append, List.nil_append, Option.some.injEq, forall_const, implies_true, Int.reduceNeg, eq_self, Prod.mk.injEq, List.self_eq_append_right, List.append_nil, exists_eq_left, exists_eq_left', exists_and_left, exists_eq_right, exists_and_right]
  · simp (config := {maxSteps := 8000000}) only [e2, e3, e4, e14, e15, b3, q1, q2, R1, R2, c1, c2, c3, f1', c4, f2', hn1, SS, bne_self_eq_false, wr_def, obOf, List.all_cons, List.all_nil, List.map_cons, List.map_nil, List.length_cons, List.length_nil, List.take_zero, List.take_succ_cons, List.take_nil, List.drop_zero, List.drop_succ_cons, List.drop_nil, Nat.reduceAdd, Nat.reduceMul, Nat.reduceSub, if_true, Nat.reduceLT, Nat.reduceLeDiff, ite_true, ite_false, Nat.reduceEqDiff, if_false, reduceCtorEq, ne_eq, List.getD, List.getElem?_cons_zero, List.getElem?_cons_succ, Option.getD_some, Option.bind_some, Option.map_some, Option.isSome_some, reduceIte, List.length_append, List.append_assoc, List.cons_append, List.nil_append, Option.some.injEq, forall_const, implies_true, Int.reduceNeg, eq_self, Prod.mk.injEq, List.self_eq_append_right, List.append_nil, exists_eq_left, exists_eq_left', exists_and_left, exists_eq_right, exists_and_right]
/-- slices.Clone over Sd. -/
theorem clone_Sd {h : List Ob} {V : AV} {xs : List Sd} (hs : SlL h V Sd.c 6 xs) (hf : FgL h V) (hb : xs.length ≤ 100000) :
    ∃ W o, ncall E 37 [V] h = some (W, o) ∧ ((W = .sl true 0 0 0 0 0 ∧ o = [] ∧ xs = []) ∨ (W = .sl false h.length 0 6 0 xs.length ∧ o = [⟨flat Sd.c xs, 0, 6, true, true⟩])) := by
  obtain ⟨b, hb1, hb2⟩ := hs.eqn
  cases b
  · refine ⟨.sl false h.length 0 6 0 xs.length, [⟨flat Sd.c xs, 0, 6, true, true⟩], ncall_some.2 ?_, Or.inr ⟨rfl, rfl⟩⟩
    have key : wc E h.length c37.nt c37.code (fun e f h' => exOk e = true ∧ ∃ ep, rvq c37.nt f h' c37.res = some [.sl false h.length ep 6 0 xs.length] ∧ rdObj h' h.length ep = some ⟨flat Sd.c xs, ep, 6, true, true⟩) (ofL [V]) h := by
      simp (config := {maxSteps := 4000000}) only [c37, hb1, SS, bne_self_eq_false, wr_def, obOf, List.all_cons, List.all_nil, List.map_cons, List.map_nil, List.length_cons, List.length_nil, List.take_zero, List.take_succ_cons, List.take_nil, List.drop_zero, List.drop_succ_cons, List.drop_nil, Nat.reduceAdd, Nat.reduceMul, Nat.reduceSub, if_true, Nat.reduceLT, Nat.reduceLeDiff, ite_true, ite_false, Nat.reduceEqDiff, if_false, reduceCtorEq, ne_eq, List.getD, List.getElem?_cons_zero, List.getElem?_cons_succ, Option.getD_some, Option.bind_some, Option.map_some, Option.isSome_some, reduceIte, List.length_append, List.append_assoc, List.cons_append, List.nil_append, Option.some.injEq, forall_const, implies_true, Int.reduceNeg, eq_self, Prod.mk.injEq, List.self_eq_append_right, List.append_nil, exists_eq_left, exists_eq_left', exists_and_left, exists_eq_right, exists_and_right]
      have hcont := fun a b => cont_sl (a := a) (b := b) (SlL.keep hs [⟨[], 0, 6, true, true⟩]) (hf.keep hs _)
      unfold appK
      by_cases hz : xs.length = 0
      · have hx : xs = [] := List.length_eq_zero_iff.1 hz
        subst hx
        have ha : aapp 6 48 ⟨h ++ [⟨[], 0, 6, true, true⟩], h.length, h.length⟩ (.sl false h.length 0 6 0 0) V = some (.sl false h.length 0 6 0 0, ⟨h ++ [⟨[], 0, 6, true, true⟩], h.length, h.length⟩) := by
          simp only [aapp, hcont, Option.bind_some, List.length_nil, if_true]
        simp only [appOk, appV, appH, ha]
        refine ⟨⟨trivial, trivial, by simp, by simp⟩, 0, ?_, ?_⟩
        · simp (config := {maxSteps := 4000000}) only [c37, SS, bne_self_eq_false, wr_def, obOf, List.all_cons, List.all_nil, List.map_cons, List.map_nil, List.length_cons, List.length_nil, List.take_zero, List.take_succ_cons, List.take_nil, List.drop_zero, List.drop_succ_cons, List.drop_nil, Nat.reduceAdd, Nat.reduceMul, Nat.reduceSub, if_true, Nat.reduceLT, Nat.reduceLeDiff, ite_true, ite_false, Nat.reduceEqDiff, if_false, reduceCtorEq, ne_eq, List.getD, List.getElem?_cons_zero, List.getElem?_cons_succ, Option.getD_some, Option.bind_some, Option.map_some, Option.isSome_some, reduceIte, List.length_append, List.append_assoc, List.cons_append, List.nil_append, Option.some.injEq, forall_const, implies_true, Int.reduceNeg, eq_self, Prod.mk.injEq, List.self_eq_append_right, List.append_nil, exists_eq_left, exists_eq_left', exists_and_left, exists_eq_right, exists_and_right]
        · simp [rdObj, flat]
      · have ha : aapp 6 48 ⟨h ++ [⟨[], 0, 6, true, true⟩], h.length, h.length⟩ (.sl false h.length 0 6 0 0) V = some (.sl false h.length 1 6 0 xs.length, ⟨h ++ [⟨flat Sd.c xs, 1, 6, true, true⟩], h.length, h.length⟩) := by
          have hr : rdObj (h ++ [(⟨[], 0, 6, true, true⟩ : Ob)]) h.length 0 = some ⟨[], 0, 6, true, true⟩ := by simp [rdObj]
          simp only [aapp, hcont, Option.bind_some, if_neg hz, hr]
          rw [if_pos ⟨trivial, by unfold appLim; omega⟩, if_pos ⟨trivial, by simp⟩]
          simp
        simp only [appOk, appV, appH, ha]
        refine ⟨⟨trivial, trivial, by simp, by simp⟩, 1, ?_, ?_⟩
        · simp (config := {maxSteps := 4000000}) only [c37, SS, bne_self_eq_false, wr_def, obOf, List.all_cons, List.all_nil, List.map_cons, List.map_nil, List.length_cons, List.length_nil, List.take_zero, List.take_succ_cons, List.take_nil, List.drop_zero, List.drop_succ_cons, List.drop_nil, Nat.reduceAdd, Nat.reduceMul, Nat.reduceSub, if_true, Nat.reduceLT, Nat.reduceLeDiff, ite_true, ite_false, Nat.reduceEqDiff, if_false, reduceCtorEq, ne_eq, List.getD, List.getElem?_cons_zero, List.getElem?_cons_succ, Option.getD_some, Option.bind_some, Option.map_some, Option.isSome_some, reduceIte, List.length_append, List.append_assoc, List.cons_append, List.nil_append, Option.some.injEq, forall_const, implies_true, Int.reduceNeg, eq_self, Prod.mk.injEq, List.self_eq_append_right, List.append_nil, exists_eq_left, exists_eq_left', exists_and_left, exists_eq_right, exists_and_right]
        · simp [rdObj]
    obtain ⟨e, f', h', k1, k2, ⟨k3, ep, k4, k5⟩, k6⟩ := call_wc e37 rfl (Nat.le_of_ble_eq_true rfl) key
    rw [k6 _ k3 k4]
    have := fin_ob (n := c37.nt) (f := f') (k := xs.length) k5 (Nat.le_refl _)
    simp only [mkRes, this, k2]
  · refine ⟨.sl true 0 0 0 0 0, [], ncall_some.2 ?_, Or.inl ⟨rfl, rfl, hb2 rfl⟩⟩
    have key : wc E h.length c37.nt c37.code (fun e f h' => exOk e = true ∧ rvq c37.nt f h' c37.res = some [.sl true 0 0 0 0 0]) (ofL [V]) h := by
      simp (config := {maxSteps := 4000000}) only [c37, hb1, SS, bne_self_eq_false, wr_def, obOf, List.all_cons, List.all_nil, List.map_cons, List.map_nil, List.length_cons, List.length_nil, List.take_zero, List.take_succ_cons, List.take_nil, List.drop_zero, List.drop_succ_cons, List.drop_nil, Nat.reduceAdd, Nat.reduceMul, Nat.reduceSub, if_true, Nat.reduceLT, Nat.reduceLeDiff, ite_true, ite_false, Nat.reduceEqDiff, if_false, reduceCtorEq, ne_eq, List.getD, List.getElem?_cons_zero, List.getElem?_cons_succ, Option.getD_some, Option.bind_some, Option.map_some, Option.isSome_some, reduceIte, List.length_append, List.append_assoc, List.cons_append, List.nil_append, Option.some.injEq, forall_const, implies_true, Int.reduceNeg, eq_self, Prod.mk.injEq, List.self_eq_append_right, List.append_nil, exists_eq_left, exists_eq_left', exists_and_left, exists_eq_right, exists_and_right]
    obtain ⟨e, f', h', k1, k2, ⟨k3, k4⟩, k6⟩ := call_wc e37 rfl (Nat.le_of_ble_eq_true rfl) key
    rw [k6 _ k3 k4, mkRes1, fin_ni, k2, List.append_nil]

/-- IndexFunc and ContainsFunc over Sd. -/
theorem ixf_Sd {H : List Ob} {V : AV} {ks : List Sd} {g : Nat} {caps : List AV} {p : Sd → Bool} (hs : SlL H V Sd.c 6 ks) (hbig : ks.length ≤ 1125899906842624) (hf : ∀ x k, k ∈ ks → pcall E g ([.agg k.c] ++ caps) (H ++ x) = some (.bool (p k))) :
    ecall E 110 [V, .fn g caps] H = some (.int .i64 (ixGo p ks 0), H, H.length, H.length) := by
  refine call_plain e110 rfl (Nat.le_of_ble_eq_true rfl) rfl ?_
  generalize hR : ixGo p ks 0 = R
  have hlen := hs.len
  simp (config := {maxSteps := 4000000}) only [c110, hlen, SS, bne_self_eq_false, wr_def, obOf, List.all_cons, List.all_nil, List.map_cons, List.map_nil, List.length_cons, List.length_nil, List.take_zero, List.take_succ_cons, List.take_nil, List.drop_zero, List.drop_succ_cons, List.drop_nil, Nat.reduceAdd, Nat.reduceMul, Nat.reduceSub, if_true, Nat.reduceLT, Nat.reduceLeDiff, ite_true, ite_false, Nat.reduceEqDiff, if_false, reduceCtorEq, ne_eq, List.getD, List.getElem?_cons_zero, List.getElem?_cons_succ, Option.getD_some, Option.bind_some, Option.map_some, Option.isSome_some, reduceIte, List.length_append, List.append_assoc, List.cons_append, List.nil_append, Option.some.injEq, forall_const, implies_true, Int.reduceNeg, eq_self, Prod.mk.injEq, List.self_eq_append_right, List.append_nil, exists_eq_left, exists_eq_left', exists_and_left, exists_eq_right, exists_and_right]
  refine W_loop (fun q f1 h1 => ∃ j : Nat, q = ks.length - j ∧ j ≤ ks.length ∧ f1 0 = V ∧ f1 1 = .fn g caps ∧ f1 7 = .int .i64 ks.length ∧ f1 8 = .int .i64 j ∧ ixGo p (ks.drop j) j = R) (Nat.le_refl _) ks.length ⟨0, rfl, Nat.zero_le _, rfl, rfl, rfl, rfl, hR⟩ ?_
  rintro q f1 h1 hn1 ht ⟨j, rfl, hj, e0, e1, e7, e8, hgo⟩
  rw [List.take_length] at ht
  have hH := take_eq ht
  generalize h1.drop H.length = y at hH
  subst hH
  by_cases hjl : j < ks.length
  · have hjl' : decide ((j : Int) < (ks.length : Int)) = true := by simpa using hjl
    obtain ⟨k, hk⟩ : ∃ k, ks[j]? = some k := ⟨_, List.getElem?_eq_getElem hjl⟩
    have hd : ks.drop j = k :: ks.drop (j + 1) := by
      rw [List.drop_eq_getElem_cons hjl]; congr 1
      rw [List.getElem?_eq_getElem hjl] at hk; simpa using hk
    have hwj : IntKind.i64.wrap ((j : Int) + 1) = ((j + 1 : Nat) : Int) := by rw [wrap64 (by omega) (by omega)]; omega
    have hok : idxOk 6 V (.int .i64 (j : Int)) := hs.ok (by omega) (by omega)
    have hld := (hs.keep y).ldn (i := (j : Int)) (kk := .i64) (x := k) (by omega) (by simpa using hk)
    have hp := hf y k (List.mem_of_getElem? hk)
    rw [hd] at hgo
    simp only [ixGo] at hgo
    simp only [Sd.c, getC_zero, List.cons_append, List.nil_append] at hld hp
    simp (config := {maxSteps := 4000000}) only [e0, e1, e7, e8, hjl', hwj, hok, isPtr_idx hok, hld, hp, pcallV_fn, SS, bne_self_eq_false, wr_def, obOf, List.all_cons, List.all_nil, List.map_cons, List.map_nil, List.length_cons, List.length_nil, List.take_zero, List.take_succ_cons, List.take_nil, List.drop_zero, List.drop_succ_cons, List.drop_nil, Nat.reduceAdd, Nat.reduceMul, Nat.reduceSub, if_true, Nat.reduceLT, Nat.reduceLeDiff, ite_true, ite_false, Nat.reduceEqDiff, if_false, reduceCtorEq, ne_eq, List.getD, List.getElem?_cons_zero, List.getElem?_cons_succ, Option.getD_some, Option.bind_some, Option.map_some, Option.isSome_some, reduceIte, List.length_append, List.append_assoc, List.cons_append, List.nil_append, Option.some.injEq, forall_const, implies_true, Int.reduceNeg, eq_self, Prod.mk.injEq, List.self_eq_append_right, List.append_nil, exists_eq_left, exists_eq_left', exists_and_left, exists_eq_right, exists_and_right]
    refine ⟨fun k1 => ?_, fun k1 => ?_⟩
    · rw [if_pos k1] at hgo; subst hgo; rfl
    · rw [if_neg (by simpa using k1)] at hgo
      exact ⟨_, by omega, j + 1, rfl, by omega, rfl, hgo⟩
  · have hjl' : decide ((j : Int) < (ks.length : Int)) = false := by simpa using hjl
    have hd : ks.drop j = [] := List.drop_eq_nil_of_le (by omega)
    rw [hd] at hgo
    simp only [ixGo] at hgo
    subst hgo
    simp (config := {maxSteps := 8000000}) only [e0, e1, e7, e8, hjl', SS, bne_self_eq_false, wr_def, obOf, List.all_cons, List.all_nil, List.map_cons, List.map_nil, List.length_cons, List.length_nil, List.take_zero, List.take_succ_cons, List.take_nil, List.drop_zero, List.drop_succ_cons, List.drop_nil, Nat.reduceAdd, Nat.reduceMul, Nat.reduceSub, if_true, Nat.reduceLT, Nat.reduceLeDiff, ite_true, ite_false, Nat.reduceEqDiff, if_false, reduceCtorEq, ne_eq, List.getD, List.getElem?_cons_zero, List.getElem?_cons_succ, Option.getD_some, Option.bind_some, Option.map_some, Option.isSome_some, reduceIte, List.length_append, List.append_assoc, List.cons_append, List.nil_append, Option.some.injEq, forall_const, implies_true, Int.reduceNeg, eq_self, Prod.mk.injEq, List.self_eq_append_right, List.append_nil, exists_eq_left, exists_eq_left', exists_and_left, exists_eq_right, exists_and_right]
theorem ctf_Sd {H : List Ob} {V : AV} {ks : List Sd} {g : Nat} {caps : List AV} {p : Sd → Bool} (hs : SlL H V Sd.c 6 ks) (hbig : ks.length ≤ 1125899906842624) (hf : ∀ x k, k ∈ ks → pcall E g ([.agg k.c] ++ caps) (H ++ x) = some (.bool (p k))) :
    pcall E 76 [V, .fn g caps] H = some (.bool (ks.any p)) := by
  refine pcall_some.2 (call_plain e76 rfl (Nat.le_of_ble_eq_true rfl) rfl ?_)
  have h1 := pcall_some.2 (ixf_Sd hs hbig hf)
  simp (config := {maxSteps := 4000000}) only [c76, h1, SS, bne_self_eq_false, wr_def, obOf, List.all_cons, List.all_nil, List.map_cons, List.map_nil, List.length_cons, List.length_nil, List.take_zero, List.take_succ_cons, List.take_nil, List.drop_zero, List.drop_succ_cons, List.drop_nil, Nat.reduceAdd, Nat.reduceMul, Nat.reduceSub, if_true, Nat.reduceLT, Nat.reduceLeDiff, ite_true, ite_false, Nat.reduceEqDiff, if_false, reduceCtorEq, ne_eq, List.getD, List.getElem?_cons_zero, List.getElem?_cons_succ, Option.getD_some, Option.bind_some, Option.map_some, Option.isSome_some, reduceIte, List.length_append, List.append_assoc, List.cons_append, List.nil_append, Option.some.injEq, forall_const, implies_true, Int.reduceNeg, eq_self, Prod.mk.injEq, List.self_eq_append_right, List.append_nil, exists_eq_left, exists_eq_left', exists_and_left, exists_eq_right, exists_and_right]
  exact congrArg AV.bool (ixGo_any p ks 0)

/-- Spots without those that are alike to an earlier one. -/
def ddup (band : Int) : List Sd → List Sd → List Sd
  | out, [] => out
  | out, s :: r => ddup band (if out.any (fun k => alk band k s) = true then out else out ++ [s]) r
end Go.Proofs.Ytaekgifbehoipaa.So
