/- Products of two numbers digit by digit, and their order. Conditions stand in each lemma. -/
import Derived.Test.YtpehhlfbnkakpaaRtG
namespace Go.Proofs.Ytpehhlfbnkakpaa.Fl
open Go Go.Proofs.Ytpehhlfbnkakpaa.Eva Go.Proofs.Ytpehhlfbnkakpaa.CodeAll Go.Proofs.Ytpehhlfbnkakpaa.Dg
set_option linter.unusedVariables false
set_option linter.unusedSimpArgs false
set_option maxRecDepth 10000
set_option maxHeartbeats 4000000

def DP (a b : Int) (cs : List AV) : Prop := ∃ l : List Int, cs = l.map gI ∧ l.length = 9 ∧ (∀ d ∈ l, 0 ≤ d ∧ d ≤ 65535) ∧ dval l = (a.natAbs : Int) * (b.natAbs : Int)

theorem out4 (n sz : Nat) : outV n sz 4 = .sl false n 0 sz 0 4 := rfl
theorem outO4 (sz : Nat) (cs : List AV) : outO sz 4 cs = [⟨cs, 0, sz, true, true⟩] := rfl
theorem out9 (n sz : Nat) : outV n sz 9 = .sl false n 0 sz 0 9 := rfl
theorem outO9 (sz : Nat) (cs : List AV) : outO sz 9 cs = [⟨cs, 0, sz, true, true⟩] := rfl
def z9 : List Int := [0, 0, 0, 0, 0, 0, 0, 0, 0]

theorem product_ex {a b : Int} (ha : I64 a) (hb : I64 b) (H : List Ob) : ∃ cs, DP a b cs ∧ ecall E 85 [.int .i64 a, .int .i64 b] H = some (outV H.length 1 9, H ++ outO 1 9 cs, H.length, H.length) := by
  refine call_list1_ex e85 rfl (Nat.le_of_ble_eq_true rfl) ?_
  have l1 := fun H => ncall_some.2 (limbs_run ha H)
  have l2 := fun H => ncall_some.2 (limbs_run hb H)
  simp only [out4, outO4] at l1 l2
  have hx0 : lmb a ≠ [] := by simp [lmb]
  have lxa : (lmb a).length = 4 := rfl
  have lxb : (lmb b).length = 4 := rfl
  have bxa := lmb_bd a
  have bxb := lmb_bd b
  have vxa := lmb_val ha.1 ha.2
  have vxb := lmb_val hb.1 hb.2
  have ax : ∀ o, Arr H.length (H ++ (⟨(lmb a).map gI, 0, 1, true, true⟩ :: o)) (.sl false H.length 0 1 0 4) gI (lmb a) := fun o => ⟨_, 0, rfl, by simp [rdObj], Nat.le_refl _⟩
  have ay : ∀ A o, Arr H.length (H ++ (A :: ⟨(lmb b).map gI, 0, 1, true, true⟩ :: o)) (.sl false (H.length + 1) 0 1 0 4) gI (lmb b) := fun A o => ⟨_, 0, rfl, by simp [rdObj], by omega⟩
  have ao : ∀ A B o, Arr H.length (H ++ (A :: B :: ⟨z9.map gI, 0, 1, true, true⟩ :: o)) (.sl false (H.length + 2) 0 1 0 9) gI z9 := fun A B o => ⟨_, 0, rfl, by simp [rdObj], by omega⟩
  have zr : zrep 9 [AV.int .i64 0] = z9.map gI := rfl
  generalize lmb a = x at *
  generalize lmb b = y at *
  simp (config := {maxSteps := 4000000}) only [c85, rg_calln, ncallV_fn, l1, l2, SS, bne_self_eq_false, wr_def, obOf, List.all_cons, List.all_nil, List.map_cons, List.map_nil, List.length_cons, List.length_nil, List.take_zero, List.take_succ_cons, List.take_nil, List.drop_zero, List.drop_succ_cons, List.drop_nil, Nat.reduceAdd, Nat.reduceMul, Nat.reduceSub, if_true, Nat.reduceLT, Nat.reduceLeDiff, ite_true, ite_false, Nat.reduceEqDiff, if_false, reduceCtorEq, ne_eq, List.getD, List.getElem?_cons_zero, List.getElem?_cons_succ, Option.getD_some, Option.bind_some, Option.map_some, Option.isSome_some, reduceIte, List.length_append, List.append_assoc, List.cons_append, List.nil_append, Option.some.injEq, forall_const, implies_true, Int.reduceNeg, eq_self, Prod.mk.injEq, List.self_eq_append_right, List.append_nil, exists_eq_left, exists_eq_left', exists_and_left, exists_eq_right, exists_and_right]
  refine ⟨by decide, by decide, by decide, ?_⟩
  have C0 : (65535 : Int) * 65535 = 4294836225 := by decide
  -- the partial products
  refine W.mono (Q := fun e f1 h1 => e = .ex 0 ∧ f1 7 = .sl false (H.length + 2) 0 1 0 9 ∧ ∃ o : List Int, Arr H.length h1 (.sl false (H.length + 2) 0 1 0 9) gI o ∧ (∀ d ∈ o, 0 ≤ d ∧ d ≤ 68717379600) ∧ dval o = dval x * dval y) (W_loop (fun q f1 h1 => ∃ i : Nat, q = 4 - i ∧ i ≤ 4 ∧ f1 5 = .sl false H.length 0 1 0 4 ∧ f1 6 = .sl false (H.length + 1) 0 1 0 4 ∧ f1 7 = .sl false (H.length + 2) 0 1 0 9 ∧ f1 18 = .int .i64 4 ∧ f1 19 = .int .i64 (i : Int) ∧ Arr H.length h1 (.sl false H.length 0 1 0 4) gI x ∧ Arr H.length h1 (.sl false (H.length + 1) 0 1 0 4) gI y ∧
    ∃ o : List Int, Arr H.length h1 (.sl false (H.length + 2) 0 1 0 9) gI o ∧ (∀ d ∈ o, 0 ≤ d ∧ d ≤ 4 * (i : Int) * 4294836225) ∧ dval o = dval (x.take i) * dval y) (by simp) 4 ⟨0, rfl, by omega, rfl, rfl, rfl, rfl, rfl, ax _, ay _ _, z9, ?_, ?_, ?_⟩ ?_) ?_
  · exact ao _ _ []
  · decide
  · simp [dval, z9]
  · rintro q f1 h1 hn1 ht ⟨i, rfl, hi, e5, e6, e7, e18, e19, hX, hY, o, hO, hob, hov⟩
    have sx : ∀ id, idOf (.sl false H.length 0 1 0 4) id → ¬ idOf (.sl false (H.length + 2) 0 1 0 9) id := by rintro id ⟨_, rfl⟩ ⟨_, h⟩; omega
    have sy : ∀ id, idOf (.sl false (H.length + 1) 0 1 0 4) id → ¬ idOf (.sl false (H.length + 2) 0 1 0 9) id := by rintro id ⟨_, rfl⟩ ⟨_, h⟩; omega
    have ol : ∀ {h o}, Arr H.length h (.sl false (H.length + 2) 0 1 0 9) gI o → o.length = 9 := by
      rintro h o ⟨id, ep, e, _⟩
      simp only [AV.sl.injEq] at e
      omega
    generalize hvx : AV.sl false H.length 0 1 0 4 = vx at *
    generalize hvy : AV.sl false (H.length + 1) 0 1 0 4 = vy at *
    generalize hvo : AV.sl false (H.length + 2) 0 1 0 9 = vo at *
    by_cases hi4 : i < 4
    · have hc : decide ((i : Int) < 4) = true := decide_eq_true (by omega)
      have hyl := hY.len
      rw [lxb] at hyl
      simp (config := {maxSteps := 4000000}) only [e5, e6, e7, e18, e19, hc, hyl, SS, bne_self_eq_false, wr_def, obOf, List.all_cons, List.all_nil, List.map_cons, List.map_nil, List.length_cons, List.length_nil, List.take_zero, List.take_succ_cons, List.take_nil, List.drop_zero, List.drop_succ_cons, List.drop_nil, Nat.reduceAdd, Nat.reduceMul, Nat.reduceSub, if_true, Nat.reduceLT, Nat.reduceLeDiff, ite_true, ite_false, Nat.reduceEqDiff, if_false, reduceCtorEq, ne_eq, List.getD, List.getElem?_cons_zero, List.getElem?_cons_succ, Option.getD_some, Option.bind_some, Option.map_some, Option.isSome_some, reduceIte, List.length_append, List.append_assoc, List.cons_append, List.nil_append, Option.some.injEq, forall_const, implies_true, Int.reduceNeg, eq_self, Prod.mk.injEq, List.self_eq_append_right, List.append_nil, exists_eq_left, exists_eq_left', exists_and_left, exists_eq_right, exists_and_right]
      obtain ⟨xi, hxi⟩ : ∃ d, x[i]? = some d := ⟨_, List.getElem?_eq_getElem (by omega)⟩
      obtain ⟨xb1, xb2⟩ := bxa xi (List.mem_of_getElem? hxi)
      refine W_loop (fun q f2 h2 => ∃ k : Nat, q = 4 - k ∧ k ≤ 4 ∧ f2 5 = vx ∧ f2 6 = vy ∧ f2 7 = vo ∧ f2 18 = .int .i64 4 ∧ f2 19 = .int .i64 (i : Int) ∧ f2 8 = .int .i64 (i : Int) ∧ f2 23 = .int .i64 4 ∧ f2 24 = .int .i64 (k : Int) ∧ Arr H.length h2 vx gI x ∧ Arr H.length h2 vy gI y ∧
        ∃ o : List Int, Arr H.length h2 vo gI o ∧ (∀ d ∈ o, 0 ≤ d ∧ d ≤ (4 * (i : Int) + (k : Int)) * 4294836225) ∧ dval o = dval (x.take i) * dval y + xi * dpw i * dval (y.take k)) hn1 4 ⟨0, rfl, by omega, by simp only [e5, SS, bne_self_eq_false, wr_def, obOf, List.all_cons, List.all_nil, List.map_cons, List.map_nil, List.length_cons, List.length_nil, List.take_zero, List.take_succ_cons, List.take_nil, List.drop_zero, List.drop_succ_cons, List.drop_nil, Nat.reduceAdd, Nat.reduceMul, Nat.reduceSub, if_true, Nat.reduceLT, Nat.reduceLeDiff, ite_true, ite_false, Nat.reduceEqDiff, if_false, reduceCtorEq, ne_eq, List.getD, List.getElem?_cons_zero, List.getElem?_cons_succ, Option.getD_some, Option.bind_some, Option.map_some, Option.isSome_some, reduceIte, List.length_append, List.append_assoc, List.cons_append, List.nil_append, Option.some.injEq, forall_const, implies_true, Int.reduceNeg, eq_self, Prod.mk.injEq, List.self_eq_append_right, List.append_nil, exists_eq_left, exists_eq_left', exists_and_left, exists_eq_right, exists_and_right], by simp only [e6, SS, bne_self_eq_false, wr_def, obOf, List.all_cons, List.all_nil, List.map_cons, List.map_nil, List.length_cons, List.length_nil, List.take_zero, List.take_succ_cons, List.take_nil, List.drop_zero, List.drop_succ_cons, List.drop_nil, Nat.reduceAdd, Nat.reduceMul, Nat.reduceSub, if_true, Nat.reduceLT, Nat.reduceLeDiff, ite_true, ite_false, Nat.reduceEqDiff, if_false, reduceCtorEq, ne_eq, List.getD, List.getElem?_cons_zero, List.getElem?_cons_succ, Option.getD_some, Option.bind_some, Option.map_some, Option.isSome_some, reduceIte, List.length_append, List.append_assoc, List.cons_append, List.nil_append, Option.some.injEq, forall_const, implies_true, Int.reduceNeg, eq_self, Prod.mk.injEq, List.self_eq_append_right, List.append_nil, exists_eq_left, exists_eq_left', exists_and_left, exists_eq_right, exists_and_right], by simp only [e7, SS, bne_self_eq_false, wr_def, obOf, List.all_cons, List.all_nil, List.map_cons, List.map_nil, List.length_cons, List.length_nil, List.take_zero, List.take_succ_cons, List.take_nil, List.drop_zero, List.drop_succ_cons, List.drop_nil, Nat.reduceAdd, Nat.reduceMul, Nat.reduceSub, if_true, Nat.reduceLT, Nat.reduceLeDiff, ite_true, ite_false, Nat.reduceEqDiff, if_false, reduceCtorEq, ne_eq, List.getD, List.getElem?_cons_zero, List.getElem?_cons_succ, Option.getD_some, Option.bind_some, Option.map_some, Option.isSome_some, reduceIte, List.length_append, List.append_assoc, List.cons_append, List.nil_append, Option.some.injEq, forall_const, implies_true, Int.reduceNeg, eq_self, Prod.mk.injEq, List.self_eq_append_right, List.append_nil, exists_eq_left, exists_eq_left', exists_and_left, exists_eq_right, exists_and_right], by simp only [e18, SS, bne_self_eq_false, wr_def, obOf, List.all_cons, List.all_nil, List.map_cons, List.map_nil, List.length_cons, List.length_nil, List.take_zero, List.take_succ_cons, List.take_nil, List.drop_zero, List.drop_succ_cons, List.drop_nil, Nat.reduceAdd, Nat.reduceMul, Nat.reduceSub, if_true, Nat.reduceLT, Nat.reduceLeDiff, ite_true, ite_false, Nat.reduceEqDiff, if_false, reduceCtorEq, ne_eq, List.getD, List.getElem?_cons_zero, List.getElem?_cons_succ, Option.getD_some, Option.bind_some, Option.map_some, Option.isSome_some, reduceIte, List.length_append, List.append_assoc, List.cons_append, List.nil_append, Option.some.injEq, forall_const, implies_true, Int.reduceNeg, eq_self, Prod.mk.injEq, List.self_eq_append_right, List.append_nil, exists_eq_left, exists_eq_left', exists_and_left, exists_eq_right, exists_and_right], by simp only [e19, SS, bne_self_eq_false, wr_def, obOf, List.all_cons, List.all_nil, List.map_cons, List.map_nil, List.length_cons, List.length_nil, List.take_zero, List.take_succ_cons, List.take_nil, List.drop_zero, List.drop_succ_cons, List.drop_nil, Nat.reduceAdd, Nat.reduceMul, Nat.reduceSub, if_true, Nat.reduceLT, Nat.reduceLeDiff, ite_true, ite_false, Nat.reduceEqDiff, if_false, reduceCtorEq, ne_eq, List.getD, List.getElem?_cons_zero, List.getElem?_cons_succ, Option.getD_some, Option.bind_some, Option.map_some, Option.isSome_some, reduceIte, List.length_append, List.append_assoc, List.cons_append, List.nil_append, Option.some.injEq, forall_const, implies_true, Int.reduceNeg, eq_self, Prod.mk.injEq, List.self_eq_append_right, List.append_nil, exists_eq_left, exists_eq_left', exists_and_left, exists_eq_right, exists_and_right], rfl, rfl, rfl, hX, hY, o, hO, by simpa using hob, by simp [dval, hov]⟩ ?_
      clear hX hY hO hob hov e5 e6 e7 e18 e19 hyl
      rintro q f2 h2 hn2 ht2 ⟨k, rfl, hk, e5, e6, e7, e18, e19, e8, e23, e24, hX, hY, o, hO, hob, hov⟩
      by_cases hk4 : k < 4
      · have hc2 : decide ((k : Int) < 4) = true := decide_eq_true (by omega)
        obtain ⟨yk, hyk⟩ : ∃ d, y[k]? = some d := ⟨_, List.getElem?_eq_getElem (by omega)⟩
        obtain ⟨yb1, yb2⟩ := bxb yk (List.mem_of_getElem? hyk)
        obtain ⟨d, hd⟩ : ∃ d, o[i + k]? = some d := ⟨_, List.getElem?_eq_getElem (by rw [ol hO]; omega)⟩
        obtain ⟨db1, db2⟩ := hob d (List.mem_of_getElem? hd)
        have hik : IntKind.i64.wrap ((i : Int) + (k : Int)) = ((i + k : Nat) : Int) := by rw [wrap64 (by omega) (by omega)]; omega
        have hk1 : IntKind.i64.wrap ((k : Int) + 1) = ((k + 1 : Nat) : Int) := by rw [wrap64 (by omega) (by omega)]; omega
        have o1 := hO.ok (kk := .i64) (i := ((i + k : Nat) : Int)) (by omega) (by rw [ol hO]; omega)
        have o2 := hX.ok (kk := .i64) (i := (i : Int)) (by omega) (by omega)
        have o3 := hY.ok (kk := .i64) (i := (k : Int)) (by omega) (by omega)
        have d1 := hO.ld (kk := .i64) (i := ((i + k : Nat) : Int)) (by omega) hd
        have d2 := hX.ld (kk := .i64) (i := (i : Int)) (by omega) hxi
        have d3 := hY.ld (kk := .i64) (i := (k : Int)) (by omega) hyk
        simp only [gI] at d1 d2 d3
        have m1 : 0 ≤ xi * yk := Int.mul_nonneg xb1 yb1
        have m2 : xi * yk ≤ 65535 * 65535 := Int.mul_le_mul xb2 yb2 yb1 (by omega)
        have w1 : IntKind.i64.wrap (xi * yk) = xi * yk := wrap64 (by omega) (by omega)
        have w2 : IntKind.i64.wrap (d + xi * yk) = d + xi * yk := wrap64 (by omega) (by omega)
        have s1 := hO.stOk (kk := .i64) (i := ((i + k : Nat) : Int)) (d + xi * yk) (by omega) (by rw [ol hO]; omega)
        obtain ⟨s2, s3, s4⟩ := hO.stH (kk := .i64) (i := ((i + k : Nat) : Int)) (d + xi * yk) (by omega) (by rw [ol hO]; omega)
        simp only [gI] at s1
        rw [Int.toNat_natCast] at s2
        have hX' := hX.mono (fun id ep ob hid ho => s3 id ep ob (sx id hid) ho)
        have hY' := hY.mono (fun id ep ob hid ho => s3 id ep ob (sy id hid) ho)
        have hval : dval (o.set (i + k) (d + xi * yk)) = dval (x.take i) * dval y + xi * dpw i * dval (y.take (k + 1)) := by
          rw [dval_set _ hd, dval_take hyk, dpw_add]
          exact part_step hov rfl
        have hbd : ∀ e ∈ o.set (i + k) (d + xi * yk), 0 ≤ e ∧ e ≤ (4 * (i : Int) + ((k + 1 : Nat) : Int)) * 4294836225 := by
          intro e he
          rcases List.mem_or_eq_of_mem_set he with he | rfl
          · have := hob e he; omega
          · omega
        simp (config := {maxSteps := 4000000}) only [e5, e6, e7, e18, e19, e8, e23, e24, hc2, hik, hk1, o1, o2, o3, isPtr_idx o1, isPtr_idx o2, isPtr_idx o3, d1, d2, d3, w1, w2, s1, SS, bne_self_eq_false, wr_def, obOf, List.all_cons, List.all_nil, List.map_cons, List.map_nil, List.length_cons, List.length_nil, List.take_zero, List.take_succ_cons, List.take_nil, List.drop_zero, List.drop_succ_cons, List.drop_nil, Nat.reduceAdd, Nat.reduceMul, Nat.reduceSub, if_true, Nat.reduceLT, Nat.reduceLeDiff, ite_true, ite_false, Nat.reduceEqDiff, if_false, reduceCtorEq, ne_eq, List.getD, List.getElem?_cons_zero, List.getElem?_cons_succ, Option.getD_some, Option.bind_some, Option.map_some, Option.isSome_some, reduceIte, List.length_append, List.append_assoc, List.cons_append, List.nil_append, Option.some.injEq, forall_const, implies_true, Int.reduceNeg, eq_self, Prod.mk.injEq, List.self_eq_append_right, List.append_nil, exists_eq_left, exists_eq_left', exists_and_left, exists_eq_right, exists_and_right]
        exact ⟨_, by omega, k + 1, rfl, by omega, rfl, hX', hY', _, s2, hbd, hval⟩
      · have hc2 : decide ((k : Int) < 4) = false := decide_eq_false (by omega)
        have hk' : k = 4 := by omega
        subst hk'
        have hi1 : IntKind.i64.wrap ((i : Int) + 1) = ((i + 1 : Nat) : Int) := by rw [wrap64 (by omega) (by omega)]; omega
        have hval : dval o = dval (x.take (i + 1)) * dval y := by
          rw [hov, dval_take hxi, List.take_of_length_le (l := y) (by omega)]
          grind
        have hbd : ∀ e ∈ o, 0 ≤ e ∧ e ≤ 4 * ((i + 1 : Nat) : Int) * 4294836225 := fun e he => by have := hob e he; omega
        simp (config := {maxSteps := 4000000}) only [e5, e6, e7, e18, e19, e8, e23, e24, hc2, hi1, SS, bne_self_eq_false, wr_def, obOf, List.all_cons, List.all_nil, List.map_cons, List.map_nil, List.length_cons, List.length_nil, List.take_zero, List.take_succ_cons, List.take_nil, List.drop_zero, List.drop_succ_cons, List.drop_nil, Nat.reduceAdd, Nat.reduceMul, Nat.reduceSub, if_true, Nat.reduceLT, Nat.reduceLeDiff, ite_true, ite_false, Nat.reduceEqDiff, if_false, reduceCtorEq, ne_eq, List.getD, List.getElem?_cons_zero, List.getElem?_cons_succ, Option.getD_some, Option.bind_some, Option.map_some, Option.isSome_some, reduceIte, List.length_append, List.append_assoc, List.cons_append, List.nil_append, Option.some.injEq, forall_const, implies_true, Int.reduceNeg, eq_self, Prod.mk.injEq, List.self_eq_append_right, List.append_nil, exists_eq_left, exists_eq_left', exists_and_left, exists_eq_right, exists_and_right]
        exact ⟨_, by omega, i + 1, rfl, by omega, rfl, hX, hY, _, hO, hbd, hval⟩
    · have hc : decide ((i : Int) < 4) = false := decide_eq_false (by omega)
      have hi' : i = 4 := by omega
      subst hi'
      rw [List.take_of_length_le (by omega)] at hov
      simp (config := {maxSteps := 4000000}) only [e5, e6, e7, e18, e19, hc, SS, bne_self_eq_false, wr_def, obOf, List.all_cons, List.all_nil, List.map_cons, List.map_nil, List.length_cons, List.length_nil, List.take_zero, List.take_succ_cons, List.take_nil, List.drop_zero, List.drop_succ_cons, List.drop_nil, Nat.reduceAdd, Nat.reduceMul, Nat.reduceSub, if_true, Nat.reduceLT, Nat.reduceLeDiff, ite_true, ite_false, Nat.reduceEqDiff, if_false, reduceCtorEq, ne_eq, List.getD, List.getElem?_cons_zero, List.getElem?_cons_succ, Option.getD_some, Option.bind_some, Option.map_some, Option.isSome_some, reduceIte, List.length_append, List.append_assoc, List.cons_append, List.nil_append, Option.some.injEq, forall_const, implies_true, Int.reduceNeg, eq_self, Prod.mk.injEq, List.self_eq_append_right, List.append_nil, exists_eq_left, exists_eq_left', exists_and_left, exists_eq_right, exists_and_right]
      exact ⟨o, hO, fun d hd => by have := hob d hd; omega, hov⟩
  rintro e f1 h1 hn1 ht ⟨rfl, e7, o, hO, hob, hov⟩
  have hT : 0 ≤ dval x * dval y ∧ dval x * dval y < dpw 9 := by
    rw [vxa, vxb]
    have b1 : (a.natAbs : Int) ≤ 9223372036854775808 := by unfold I64 at ha; omega
    have b2 : (b.natAbs : Int) ≤ 9223372036854775808 := by unfold I64 at hb; omega
    refine ⟨Int.mul_nonneg (by omega) (by omega), Int.lt_of_le_of_lt (Int.mul_le_mul b1 b2 (by omega) (by omega)) (by decide)⟩
  have hlen := hO.len
  have ol : ∀ {h o}, Arr H.length h (.sl false (H.length + 2) 0 1 0 9) gI o → o.length = 9 := by
    rintro h o ⟨id, ep, e, _⟩
    simp only [AV.sl.injEq] at e
    omega
  rw [ol hO] at hlen
  generalize hvo : AV.sl false (H.length + 2) 0 1 0 9 = vo at *
  simp (config := {maxSteps := 4000000}) only [e7, hlen, SS, bne_self_eq_false, wr_def, obOf, List.all_cons, List.all_nil, List.map_cons, List.map_nil, List.length_cons, List.length_nil, List.take_zero, List.take_succ_cons, List.take_nil, List.drop_zero, List.drop_succ_cons, List.drop_nil, Nat.reduceAdd, Nat.reduceMul, Nat.reduceSub, if_true, Nat.reduceLT, Nat.reduceLeDiff, ite_true, ite_false, Nat.reduceEqDiff, if_false, reduceCtorEq, ne_eq, List.getD, List.getElem?_cons_zero, List.getElem?_cons_succ, Option.getD_some, Option.bind_some, Option.map_some, Option.isSome_some, reduceIte, List.length_append, List.append_assoc, List.cons_append, List.nil_append, Option.some.injEq, forall_const, implies_true, Int.reduceNeg, eq_self, Prod.mk.injEq, List.self_eq_append_right, List.append_nil, exists_eq_left, exists_eq_left', exists_and_left, exists_eq_right, exists_and_right]
  refine W_loop (fun q f2 h2 => ∃ k : Nat, q = 9 - k ∧ k ≤ 9 ∧ f2 7 = vo ∧ f2 47 = .int .i64 9 ∧ f2 48 = .int .i64 (k : Int) ∧
    ∃ (l : List Int) (r : Int), f2 10 = .int .i64 r ∧ 0 ≤ r ∧ r ≤ 1099511627776 ∧ Arr H.length h2 vo gI l ∧ (∀ d ∈ l, 0 ≤ d ∧ d ≤ 68717379600) ∧ (∀ d ∈ l.take k, d ≤ 65535) ∧ dval l + r * dpw k = dval x * dval y) (by simpa using hn1) 9 ⟨0, rfl, by omega, by simp only [e7, SS, bne_self_eq_false, wr_def, obOf, List.all_cons, List.all_nil, List.map_cons, List.map_nil, List.length_cons, List.length_nil, List.take_zero, List.take_succ_cons, List.take_nil, List.drop_zero, List.drop_succ_cons, List.drop_nil, Nat.reduceAdd, Nat.reduceMul, Nat.reduceSub, if_true, Nat.reduceLT, Nat.reduceLeDiff, ite_true, ite_false, Nat.reduceEqDiff, if_false, reduceCtorEq, ne_eq, List.getD, List.getElem?_cons_zero, List.getElem?_cons_succ, Option.getD_some, Option.bind_some, Option.map_some, Option.isSome_some, reduceIte, List.length_append, List.append_assoc, List.cons_append, List.nil_append, Option.some.injEq, forall_const, implies_true, Int.reduceNeg, eq_self, Prod.mk.injEq, List.self_eq_append_right, List.append_nil, exists_eq_left, exists_eq_left', exists_and_left, exists_eq_right, exists_and_right], rfl, rfl, o, 0, rfl, by omega, by omega, hO, hob, by simp, by simp [hov]⟩ ?_
  clear hO hob hov hlen e7
  rintro q f2 h2 hn2 ht2 ⟨k, rfl, hk, e7, e47, e48, l, r, e10, r0, r1, hO, hob, htk, hov⟩
  have hl9 := ol hO
  by_cases hk9 : k < 9
  · have hc : decide ((k : Int) < 9) = true := decide_eq_true (by omega)
    obtain ⟨d, hd⟩ : ∃ d, l[k]? = some d := ⟨_, List.getElem?_eq_getElem (by omega)⟩
    obtain ⟨db1, db2⟩ := hob d (List.mem_of_getElem? hd)
    have hk1 : IntKind.i64.wrap ((k : Int) + 1) = ((k + 1 : Nat) : Int) := by rw [wrap64 (by omega) (by omega)]; omega
    have o1 := hO.ok (kk := .i64) (i := (k : Int)) (by omega) (by omega)
    have d1 := hO.ld (kk := .i64) (i := (k : Int)) (by omega) hd
    simp only [gI] at d1
    have w1 : IntKind.i64.wrap (r + d) = r + d := wrap64 (by omega) (by omega)
    generalize hs : r + d = s at *
    have t1 : s.tmod 65536 = s % 65536 := Int.tmod_eq_emod_of_nonneg (by omega)
    have t2 : IntKind.i64.wrap (s.tdiv 65536) = s / 65536 := by rw [Int.tdiv_eq_ediv_of_nonneg (by omega), wrap64 (by omega) (by omega)]
    have s1 := hO.stOk (kk := .i64) (i := (k : Int)) (s % 65536) (by omega) (by omega)
    obtain ⟨s2, s3, s4⟩ := hO.stH (kk := .i64) (i := (k : Int)) (s % 65536) (by omega) (by omega)
    simp only [gI] at s1
    rw [Int.toNat_natCast] at s2
    have hval : dval (l.set k (s % 65536)) + s / 65536 * dpw (k + 1) = dval x * dval y := by
      rw [dval_set _ hd, ← hov]
      simp only [dpw]
      have e1 : s = 65536 * (s / 65536) + s % 65536 := (Int.mul_ediv_add_emod s 65536).symm
      generalize s / 65536 = u at *
      generalize s % 65536 = v at *
      generalize dpw k = P at *
      have e2 : d = 65536 * u + v - r := by omega
      subst e2
      grind
    have htk' : ∀ e ∈ (l.set k (s % 65536)).take (k + 1), e ≤ 65535 := by
      intro e he
      rw [List.take_add_one, List.take_set_of_le (Nat.le_refl _), List.getElem?_set_self (by omega), List.mem_append] at he
      rcases he with he | he
      · exact htk e he
      · simp at he; omega
    have hob' : ∀ e ∈ l.set k (s % 65536), 0 ≤ e ∧ e ≤ 68717379600 := by
      intro e he
      rcases List.mem_or_eq_of_mem_set he with he | rfl
      · exact hob e he
      · omega
    simp (config := {maxSteps := 4000000}) only [e7, e47, e48, e10, hc, hk1, o1, isPtr_idx o1, d1, w1, hs, abin_rem _ _ _ (show (65536 : Int) ≠ 0 by decide), abin_quo _ _ _ (show (65536 : Int) ≠ 0 by decide), t1, t2, s1, SS, bne_self_eq_false, wr_def, obOf, List.all_cons, List.all_nil, List.map_cons, List.map_nil, List.length_cons, List.length_nil, List.take_zero, List.take_succ_cons, List.take_nil, List.drop_zero, List.drop_succ_cons, List.drop_nil, Nat.reduceAdd, Nat.reduceMul, Nat.reduceSub, if_true, Nat.reduceLT, Nat.reduceLeDiff, ite_true, ite_false, Nat.reduceEqDiff, if_false, reduceCtorEq, ne_eq, List.getD, List.getElem?_cons_zero, List.getElem?_cons_succ, Option.getD_some, Option.bind_some, Option.map_some, Option.isSome_some, reduceIte, List.length_append, List.append_assoc, List.cons_append, List.nil_append, Option.some.injEq, forall_const, implies_true, Int.reduceNeg, eq_self, Prod.mk.injEq, List.self_eq_append_right, List.append_nil, exists_eq_left, exists_eq_left', exists_and_left, exists_eq_right, exists_and_right]
    exact ⟨_, by omega, k + 1, rfl, by omega, rfl, _, _, rfl, by omega, by omega, s2, hob', htk', hval⟩
  · have hc : decide ((k : Int) < 9) = false := decide_eq_false (by omega)
    have hk' : k = 9 := by omega
    subst hk'
    rw [List.take_of_length_le (by omega)] at htk
    have hb : ∀ d ∈ l, 0 ≤ d ∧ d ≤ 65535 := fun d hd => ⟨(hob d hd).1, htk d hd⟩
    have hr0 : r = 0 := by
      have h9 := (dval_bd hb).1
      have hp := dpw_pos 9
      refine Classical.byContradiction fun hne => ?_
      have : 1 * dpw 9 ≤ r * dpw 9 := Int.mul_le_mul_of_nonneg_right (by omega) (by omega)
      omega
    subst hr0
    rw [vxa, vxb, Int.zero_mul, Int.add_zero] at hov
    have hI := hO.isl (by omega)
    rw [hl9] at hI
    simp (config := {maxSteps := 4000000}) only [e7, e47, e48, e10, hc, SS, bne_self_eq_false, wr_def, obOf, List.all_cons, List.all_nil, List.map_cons, List.map_nil, List.length_cons, List.length_nil, List.take_zero, List.take_succ_cons, List.take_nil, List.drop_zero, List.drop_succ_cons, List.drop_nil, Nat.reduceAdd, Nat.reduceMul, Nat.reduceSub, if_true, Nat.reduceLT, Nat.reduceLeDiff, ite_true, ite_false, Nat.reduceEqDiff, if_false, reduceCtorEq, ne_eq, List.getD, List.getElem?_cons_zero, List.getElem?_cons_succ, Option.getD_some, Option.bind_some, Option.map_some, Option.isSome_some, reduceIte, List.length_append, List.append_assoc, List.cons_append, List.nil_append, Option.some.injEq, forall_const, implies_true, Int.reduceNeg, eq_self, Prod.mk.injEq, List.self_eq_append_right, List.append_nil, exists_eq_left, exists_eq_left', exists_and_left, exists_eq_right, exists_and_right]
    exact ⟨_, rfl, _, hI, l, rfl, hl9, hb, hov⟩
end Go.Proofs.Ytpehhlfbnkakpaa.Fl
