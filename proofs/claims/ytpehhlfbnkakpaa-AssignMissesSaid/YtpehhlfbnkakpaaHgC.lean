/- The least sum: what total of the package assign answers. Conditions stand in each lemma. -/
import Derived.Test.YtpehhlfbnkakpaaHgB
namespace Go.Proofs.Ytpehhlfbnkakpaa.Hg
open Go Go.Proofs.Ytpehhlfbnkakpaa.Eva Go.Proofs.Ytpehhlfbnkakpaa.CodeAll
set_option linter.unusedVariables false
set_option linter.unusedSimpArgs false
set_option maxRecDepth 10000
set_option maxHeartbeats 4000000

theorem call_exP {E : Nat → Option CF} {g : Nat} {cf : CF} (hE : E g = some cf) {args : List AV} (hn : args.length = cf.np) (hnt : args.length ≤ cf.nt) {h : List Ob} {P : AV → Prop} (hp : ∀ v, P v → plainV v = true)
    (hw : wc E h.length cf.nt cf.code (fun e f h' => exOk e = true ∧ ∃ v, (rvq cf.nt f h' cf.res).map mkRes = some v ∧ P v) (ofL args) h) : ∃ v, P v ∧ ecall E g args h = some (v, h, h.length, h.length) := by
  obtain ⟨e, f', h', k1, k2, ⟨k3, v, k4, k5⟩, k6⟩ := call_wc hE hn hnt hw
  obtain ⟨vs, hv, rfl⟩ := Option.map_eq_some_iff.1 k4
  refine ⟨_, k5, ?_⟩
  rw [k6 vs k3 hv]
  have hp := hp _ k5
  unfold fin
  simp only [Nat.lt_irrefl, if_false, refs_plain _ hp, dd, pickObjs, ren_plain _ _ hp, List.append_nil, k2]
theorem sc_sl (nl : Bool) (id ep sz off len : Nat) : (AV.sl nl id ep sz off len).scalar = false := Eq.trans rfl rfl
theorem least0 {M : Nat → Nat → Int} {C : Nat} : Least M 0 C 0 := ⟨⟨fun _ => 0, ⟨fun i h => by omega, fun i j h => by omega⟩, rfl⟩, fun _ _ => Int.le_refl _⟩
theorem total_ex {H : List Ob} {vc : AV} {rw : Nat → AV} {R C : Nat} {M : Nat → Nat → Int} (hM : ∀ i k, 0 ≤ M i k ∧ M i k ≤ 1125899906842624) (mx : Mx H vc rw R C M) (hRC : R ≤ C) (hC : C ≤ 64) :
    ∃ T, Least M R C T ∧ ecall E 88 [vc] H = some (.int .i64 T, H, H.length, H.length) := by
  have key : ∃ v, (∃ T, Least M R C T ∧ v = .int .i64 T) ∧ ecall E 88 [vc] H = some (v, H, H.length, H.length) := by
    refine call_exP e88 rfl (Nat.le_of_ble_eq_true rfl) (by rintro v ⟨T, -, rfl⟩; rfl) ?_
    have hlen := mx.len
    by_cases hR0 : R = 0
    · subst hR0
      have hc : (((0 : Nat) : Int) == 0) = true := rfl
      simp (config := {maxSteps := 8000000}) only [c88, hlen, hc, SS, bne_self_eq_false, wr_def, obOf, List.all_cons, List.all_nil, List.map_cons, List.map_nil, List.length_cons, List.length_nil, List.take_zero, List.take_succ_cons, List.take_nil, List.drop_zero, List.drop_succ_cons, List.drop_nil, Nat.reduceAdd, Nat.reduceMul, Nat.reduceSub, if_true, Nat.reduceLT, Nat.reduceLeDiff, ite_true, ite_false, Nat.reduceEqDiff, if_false, reduceCtorEq, ne_eq, List.getD, List.getElem?_cons_zero, List.getElem?_cons_succ, Option.getD_some, Option.bind_some, Option.map_some, Option.isSome_some, reduceIte, List.length_append, List.append_assoc, List.cons_append, List.nil_append, Option.some.injEq, forall_const, implies_true, Int.reduceNeg, eq_self, Prod.mk.injEq, List.self_eq_append_right, List.append_nil, exists_eq_left, exists_eq_left', exists_and_left, exists_eq_right, exists_and_right]
      exact ⟨0, least0, rfl⟩
    have hc : ((R : Int) == 0) = false := by rw [beq_eq_false_iff_ne]; omega
    have o1 : idxOk 1 vc (.int .i64 0) := mx.ok 0 (by omega)
    have d1 : ∀ y, ld1A (H ++ y) (idxV 1 vc (.int .i64 0)) = some (rw 0) := fun y => mx.ld y 0 (by omega)
    have l1 := mx.rlen 0 (by omega)
    have w1 : IntKind.i64.wrap ((R : Int) + 1) = ((R + 1 : Nat) : Int) := by rw [wrap64 (by omega) (by omega)]; omega
    have w2 : IntKind.i64.wrap ((C : Int) + 1) = ((C + 1 : Nat) : Int) := by rw [wrap64 (by omega) (by omega)]; omega
    have hcel := mx.cells
    have htup := mx.tup
    simp (config := {maxSteps := 8000000}) only [c88, hlen, hc, o1, isPtr_idx o1, d1, l1, w1, w2, hcel, htup, sc_sl, Int.toNat_natCast, SS, bne_self_eq_false, wr_def, obOf, List.all_cons, List.all_nil, List.map_cons, List.map_nil, List.length_cons, List.length_nil, List.take_zero, List.take_succ_cons, List.take_nil, List.drop_zero, List.drop_succ_cons, List.drop_nil, Nat.reduceAdd, Nat.reduceMul, Nat.reduceSub, if_true, Nat.reduceLT, Nat.reduceLeDiff, ite_true, ite_false, Nat.reduceEqDiff, if_false, reduceCtorEq, ne_eq, List.getD, List.getElem?_cons_zero, List.getElem?_cons_succ, Option.getD_some, Option.bind_some, Option.map_some, Option.isSome_some, reduceIte, List.length_append, List.append_assoc, List.cons_append, List.nil_append, Option.some.injEq, forall_const, implies_true, Int.reduceNeg, eq_self, Prod.mk.injEq, List.self_eq_append_right, List.append_nil, exists_eq_left, exists_eq_left', exists_and_left, exists_eq_right, exists_and_right]
    have hap : ∀ b n, b ≤ 8 → n ≤ 64 → (n + 1) * b ≤ appLim := fun b n hb hn => by
      have : (n + 1) * b ≤ 65 * 8 := Nat.mul_le_mul (by omega) hb
      unfold appLim; omega
    refine ⟨by omega, by omega, hap 8 R (by omega) (by omega), by omega, by omega, hap 8 C (by omega) hC, by omega, by omega, hap 8 C (by omega) hC, ?_⟩
    have hs0 : Hs H.length (H ++ [⟨zrep (R + 1) [.int .i64 0], 0, 1, true, true⟩, ⟨zrep (C + 1) [.int .i64 0], 0, 1, true, true⟩, ⟨zrep (C + 1) [.int .i64 0], 0, 1, true, true⟩, ⟨[vc, .sl false H.length 0 1 0 (R + 1), .sl false (H.length + 1) 0 1 0 (C + 1), .sl false (H.length + 2) 0 1 0 (C + 1)], 0, 0, true, false⟩]) (H.length + 3) vc (.sl false H.length 0 1 0 (R + 1)) (.sl false (H.length + 1) 0 1 0 (C + 1)) (.sl false (H.length + 2) 0 1 0 (C + 1)) R C (fun _ => 0) (fun _ => 0) (fun _ => 0) := by
      refine ⟨by simp [rdObj], ?_, ?_, ?_⟩
      · exact FA.new (g := gI) (n0 := H.length) (n := R + 1) (H := H) (z := (0 : Int)) (Nat.le_refl _) _
      · have := FA.new (g := gI) (n0 := H.length) (n := C + 1) (H := H ++ [⟨zrep (R + 1) [.int .i64 0], 0, 1, true, true⟩]) (z := (0 : Int)) (by simp) [⟨zrep (C + 1) [.int .i64 0], 0, 1, true, true⟩, ⟨[vc, .sl false H.length 0 1 0 (R + 1), .sl false (H.length + 1) 0 1 0 (C + 1), .sl false (H.length + 2) 0 1 0 (C + 1)], 0, 0, true, false⟩]
        rw [List.append_assoc, List.length_append] at this
        exact this
      · have := FA.new (g := gN) (n0 := H.length) (n := C + 1) (H := H ++ [⟨zrep (R + 1) [.int .i64 0], 0, 1, true, true⟩, ⟨zrep (C + 1) [.int .i64 0], 0, 1, true, true⟩]) (z := (0 : Nat)) (by simp) [⟨[vc, .sl false H.length 0 1 0 (R + 1), .sl false (H.length + 1) 0 1 0 (C + 1), .sl false (H.length + 2) 0 1 0 (C + 1)], 0, 0, true, false⟩]
        rw [List.append_assoc, List.length_append] at this
        exact this
    obtain ⟨cl0, cs0, c1, c2, c3⟩ : ∃ cl0 : Nat → Nat, cl0 (H.length + 3) = 0 ∧ (∀ id, idOf (.sl false H.length 0 1 0 (R + 1)) id → cl0 id = 1) ∧ (∀ id, idOf (.sl false (H.length + 1) 0 1 0 (C + 1)) id → cl0 id = 2) ∧ (∀ id, idOf (.sl false (H.length + 2) 0 1 0 (C + 1)) id → cl0 id = 3) := by
      refine ⟨fun id => if id = H.length + 3 then 0 else id - H.length + 1, by simp, ?_, ?_, ?_⟩ <;> rintro id ⟨_, rfl⟩ <;> dsimp only <;> rw [if_neg (by omega)] <;> omega
    have hoff : ∃ oid, H.length + 2 = oid := ⟨_, rfl⟩
    obtain ⟨oid, hoid⟩ := hoff
    rw [hoid] at hs0 c3
    rw [hoid]
    generalize AV.sl false H.length 0 1 0 (R + 1) = vr at *
    generalize AV.sl false (H.length + 1) 0 1 0 (C + 1) = vk at *
    generalize hsid : H.length + 3 = sid at *
    have hlen0 : H.length ≤ (H ++ [(⟨zrep (R + 1) [.int .i64 0], 0, 1, true, true⟩ : Ob), ⟨zrep (C + 1) [.int .i64 0], 0, 1, true, true⟩, ⟨zrep (C + 1) [.int .i64 0], 0, 1, true, true⟩, ⟨[vc, vr, vk, .sl false oid 0 1 0 (C + 1)], 0, 0, true, false⟩]).length := by simp
    generalize [(⟨zrep (R + 1) [.int .i64 0], 0, 1, true, true⟩ : Ob), ⟨zrep (C + 1) [.int .i64 0], 0, 1, true, true⟩, ⟨zrep (C + 1) [.int .i64 0], 0, 1, true, true⟩, ⟨[vc, vr, vk, .sl false oid 0 1 0 (C + 1)], 0, 0, true, false⟩] = y0 at *
    -- the rows are added
    refine W.mono (Q := fun e f1 h1 => e = .ex 0 ∧ f1 0 = vc ∧ f1 3 = .ptr sid 0 0 ∧ ∃ u v fo, Base M C R u v fo ∧ Hs H.length h1 sid vc vr vk (.sl false oid 0 1 0 (C + 1)) R C u v fo)
      (W_loopW (fun q f1 h1 => ∃ i : Nat, q = R - i ∧ i ≤ R ∧ f1 0 = vc ∧ f1 3 = .ptr sid 0 0 ∧ f1 31 = .int .i64 (R : Int) ∧ f1 32 = .int .i64 (i : Int) ∧ ∃ u v fo, Base M C i u v fo ∧ Hs H.length h1 sid vc vr vk (.sl false oid 0 1 0 (C + 1)) R C u v fo) hlen0 R
        ⟨0, rfl, by omega, rfl, rfl, rfl, rfl, _, _, _, Base.init, hs0⟩ ?_) ?_
    · clear hs0 hlen0
      rintro q f1 h1 hn1 ht ⟨i, rfl, hi, e0, e3, e31, e32, u, v, fo, B, A⟩
      have hw1 : IntKind.i64.wrap ((i : Int) + 1) = ((i + 1 : Nat) : Int) := by rw [wrap64 (by omega) (by omega)]; omega
      by_cases hiR : i < R
      · have hc : decide ((i : Int) < (R : Int)) = true := decide_eq_true (by omega)
        rw [List.take_left] at ht
        have hH := take_eq ht
        generalize h1.drop H.length = x at hH
        subst hH
        obtain ⟨h2, wl, wa, k1, k2, k3, k4, k5, u', v', fo', B', A'⟩ := add_mut hM mx hiR hRC hC B A cs0 c1 c2 c3
        refine W_seqI (wc_sound _ _ _ _ hn1 ?_)
        simp (config := {maxSteps := 8000000}) only [e0, e3, e31, e32, hc, SS, bne_self_eq_false, wr_def, obOf, List.all_cons, List.all_nil, List.map_cons, List.map_nil, List.length_cons, List.length_nil, List.take_zero, List.take_succ_cons, List.take_nil, List.drop_zero, List.drop_succ_cons, List.drop_nil, Nat.reduceAdd, Nat.reduceMul, Nat.reduceSub, if_true, Nat.reduceLT, Nat.reduceLeDiff, ite_true, ite_false, Nat.reduceEqDiff, if_false, reduceCtorEq, ne_eq, List.getD, List.getElem?_cons_zero, List.getElem?_cons_succ, Option.getD_some, Option.bind_some, Option.map_some, Option.isSome_some, reduceIte, List.length_append, List.append_assoc, List.cons_append, List.nil_append, Option.some.injEq, forall_const, implies_true, Int.reduceNeg, eq_self, Prod.mk.injEq, List.self_eq_append_right, List.append_nil, exists_eq_left, exists_eq_left', exists_and_left, exists_eq_right, exists_and_right]
        refine W_seqI (wc_sound _ _ _ _ hn1 ?_)
        simp (config := {maxSteps := 8000000}) only [e0, e3, e31, e32, hc, SS, bne_self_eq_false, wr_def, obOf, List.all_cons, List.all_nil, List.map_cons, List.map_nil, List.length_cons, List.length_nil, List.take_zero, List.take_succ_cons, List.take_nil, List.drop_zero, List.drop_succ_cons, List.drop_nil, Nat.reduceAdd, Nat.reduceMul, Nat.reduceSub, if_true, Nat.reduceLT, Nat.reduceLeDiff, ite_true, ite_false, Nat.reduceEqDiff, if_false, reduceCtorEq, ne_eq, List.getD, List.getElem?_cons_zero, List.getElem?_cons_succ, Option.getD_some, Option.bind_some, Option.map_some, Option.isSome_some, reduceIte, List.length_append, List.append_assoc, List.cons_append, List.nil_append, Option.some.injEq, forall_const, implies_true, Int.reduceNeg, eq_self, Prod.mk.injEq, List.self_eq_append_right, List.append_nil, exists_eq_left, exists_eq_left', exists_and_left, exists_eq_right, exists_and_right]
        refine W_seqI (W_blkI (W_seqI (wc_sound _ _ _ _ hn1 ?_)))
        simp (config := {maxSteps := 8000000}) only [e0, e3, e31, e32, hc, SS, bne_self_eq_false, wr_def, obOf, List.all_cons, List.all_nil, List.map_cons, List.map_nil, List.length_cons, List.length_nil, List.take_zero, List.take_succ_cons, List.take_nil, List.drop_zero, List.drop_succ_cons, List.drop_nil, Nat.reduceAdd, Nat.reduceMul, Nat.reduceSub, if_true, Nat.reduceLT, Nat.reduceLeDiff, ite_true, ite_false, Nat.reduceEqDiff, if_false, reduceCtorEq, ne_eq, List.getD, List.getElem?_cons_zero, List.getElem?_cons_succ, Option.getD_some, Option.bind_some, Option.map_some, Option.isSome_some, reduceIte, List.length_append, List.append_assoc, List.cons_append, List.nil_append, Option.some.injEq, forall_const, implies_true, Int.reduceNeg, eq_self, Prod.mk.injEq, List.self_eq_append_right, List.append_nil, exists_eq_left, exists_eq_left', exists_and_left, exists_eq_right, exists_and_right]
        refine W_regI (RG_cut (K1 := fun f' h' => f' 0 = vc ∧ f' 3 = .ptr sid 0 0 ∧ f' 31 = .int .i64 (R : Int) ∧ f' 32 = .int .i64 (i : Int) ∧ f' 35 = .ptr sid 0 0 ∧ f' 37 = .int .i64 ((i + 1 : Nat) : Int) ∧ h' = H ++ x) 3 (RG_of hn1 ?_) ?_)
        · simp (config := {maxSteps := 8000000}) only [e0, e3, e31, e32, hw1, SS, bne_self_eq_false, wr_def, obOf, List.all_cons, List.all_nil, List.map_cons, List.map_nil, List.length_cons, List.length_nil, List.take_zero, List.take_succ_cons, List.take_nil, List.drop_zero, List.drop_succ_cons, List.drop_nil, Nat.reduceAdd, Nat.reduceMul, Nat.reduceSub, if_true, Nat.reduceLT, Nat.reduceLeDiff, ite_true, ite_false, Nat.reduceEqDiff, if_false, reduceCtorEq, ne_eq, List.getD, List.getElem?_cons_zero, List.getElem?_cons_succ, Option.getD_some, Option.bind_some, Option.map_some, Option.isSome_some, reduceIte, List.length_append, List.append_assoc, List.cons_append, List.nil_append, Option.some.injEq, forall_const, implies_true, Int.reduceNeg, eq_self, Prod.mk.injEq, List.self_eq_append_right, List.append_nil, exists_eq_left, exists_eq_left', exists_and_left, exists_eq_right, exists_and_right]
        rintro f3 h3 hn3 ht3 ⟨e0, e3, e31, e32, e35, e37, rfl⟩
        simp (config := {maxSteps := 8000000}) only [SS, bne_self_eq_false, wr_def, obOf, List.all_cons, List.all_nil, List.map_cons, List.map_nil, List.length_cons, List.length_nil, List.take_zero, List.take_succ_cons, List.take_nil, List.drop_zero, List.drop_succ_cons, List.drop_nil, Nat.reduceAdd, Nat.reduceMul, Nat.reduceSub, if_true, Nat.reduceLT, Nat.reduceLeDiff, ite_true, ite_false, Nat.reduceEqDiff, if_false, reduceCtorEq, ne_eq, List.getD, List.getElem?_cons_zero, List.getElem?_cons_succ, Option.getD_some, Option.bind_some, Option.map_some, Option.isSome_some, reduceIte, List.length_append, List.append_assoc, List.cons_append, List.nil_append, Option.some.injEq, forall_const, implies_true, Int.reduceNeg, eq_self, Prod.mk.injEq, List.self_eq_append_right, List.append_nil, exists_eq_left, exists_eq_left', exists_and_left, exists_eq_right, exists_and_right]
        have hn2 : H.length ≤ h2.length := by simp at k5; omega
        have hargs : List.map (ev 65 f3) [.t 35, .t 37] ++ [] = [.ptr sid 0 0, .int .i64 ((i + 1 : Nat) : Int)] := by
          simp only [e35, e37, SS, bne_self_eq_false, wr_def, obOf, List.all_cons, List.all_nil, List.map_cons, List.map_nil, List.length_cons, List.length_nil, List.take_zero, List.take_succ_cons, List.take_nil, List.drop_zero, List.drop_succ_cons, List.drop_nil, Nat.reduceAdd, Nat.reduceMul, Nat.reduceSub, if_true, Nat.reduceLT, Nat.reduceLeDiff, ite_true, ite_false, Nat.reduceEqDiff, if_false, reduceCtorEq, ne_eq, List.getD, List.getElem?_cons_zero, List.getElem?_cons_succ, Option.getD_some, Option.bind_some, Option.map_some, Option.isSome_some, reduceIte, List.length_append, List.append_assoc, List.cons_append, List.nil_append, Option.some.injEq, forall_const, implies_true, Int.reduceNeg, eq_self, Prod.mk.injEq, List.self_eq_append_right, List.append_nil, exists_eq_left, exists_eq_left', exists_and_left, exists_eq_right, exists_and_right]
        refine RG_call (n := 65) (k := 116) (caps := []) (v := .tup []) (h2 := h2) (wl := wl) (wa := wa) (by simp only [SS, bne_self_eq_false, wr_def, obOf, List.all_cons, List.all_nil, List.map_cons, List.map_nil, List.length_cons, List.length_nil, List.take_zero, List.take_succ_cons, List.take_nil, List.drop_zero, List.drop_succ_cons, List.drop_nil, Nat.reduceAdd, Nat.reduceMul, Nat.reduceSub, if_true, Nat.reduceLT, Nat.reduceLeDiff, ite_true, ite_false, Nat.reduceEqDiff, if_false, reduceCtorEq, ne_eq, List.getD, List.getElem?_cons_zero, List.getElem?_cons_succ, Option.getD_some, Option.bind_some, Option.map_some, Option.isSome_some, reduceIte, List.length_append, List.append_assoc, List.cons_append, List.nil_append, Option.some.injEq, forall_const, implies_true, Int.reduceNeg, eq_self, Prod.mk.injEq, List.self_eq_append_right, List.append_nil, exists_eq_left, exists_eq_left', exists_and_left, exists_eq_right, exists_and_right]) (by rw [hargs]; exact k1) k2 k3 hn2 (by rw [k4]; simp) (fun h => by cases h) (RG_of hn2 ?_)
        simp (config := {maxSteps := 8000000}) only [e0, e3, e31, e32, e35, e37, SS, bne_self_eq_false, wr_def, obOf, List.all_cons, List.all_nil, List.map_cons, List.map_nil, List.length_cons, List.length_nil, List.take_zero, List.take_succ_cons, List.take_nil, List.drop_zero, List.drop_succ_cons, List.drop_nil, Nat.reduceAdd, Nat.reduceMul, Nat.reduceSub, if_true, Nat.reduceLT, Nat.reduceLeDiff, ite_true, ite_false, Nat.reduceEqDiff, if_false, reduceCtorEq, ne_eq, List.getD, List.getElem?_cons_zero, List.getElem?_cons_succ, Option.getD_some, Option.bind_some, Option.map_some, Option.isSome_some, reduceIte, List.length_append, List.append_assoc, List.cons_append, List.nil_append, Option.some.injEq, forall_const, implies_true, Int.reduceNeg, eq_self, Prod.mk.injEq, List.self_eq_append_right, List.append_nil, exists_eq_left, exists_eq_left', exists_and_left, exists_eq_right, exists_and_right]
        refine wc_sound _ _ _ _ hn2 ?_
        simp (config := {maxSteps := 8000000}) only [e0, e3, e31, e32, e35, e37, hw1, SS, bne_self_eq_false, wr_def, obOf, List.all_cons, List.all_nil, List.map_cons, List.map_nil, List.length_cons, List.length_nil, List.take_zero, List.take_succ_cons, List.take_nil, List.drop_zero, List.drop_succ_cons, List.drop_nil, Nat.reduceAdd, Nat.reduceMul, Nat.reduceSub, if_true, Nat.reduceLT, Nat.reduceLeDiff, ite_true, ite_false, Nat.reduceEqDiff, if_false, reduceCtorEq, ne_eq, List.getD, List.getElem?_cons_zero, List.getElem?_cons_succ, Option.getD_some, Option.bind_some, Option.map_some, Option.isSome_some, reduceIte, List.length_append, List.append_assoc, List.cons_append, List.nil_append, Option.some.injEq, forall_const, implies_true, Int.reduceNeg, eq_self, Prod.mk.injEq, List.self_eq_append_right, List.append_nil, exists_eq_left, exists_eq_left', exists_and_left, exists_eq_right, exists_and_right]
        exact ⟨_, by omega, i + 1, rfl, by omega, rfl, _, _, _, B', A'⟩
      · have hc : decide ((i : Int) < (R : Int)) = false := decide_eq_false (by omega)
        refine wc_sound _ _ _ _ hn1 ?_
        simp (config := {maxSteps := 8000000}) only [e0, e3, e31, e32, hc, SS, bne_self_eq_false, wr_def, obOf, List.all_cons, List.all_nil, List.map_cons, List.map_nil, List.length_cons, List.length_nil, List.take_zero, List.take_succ_cons, List.take_nil, List.drop_zero, List.drop_succ_cons, List.drop_nil, Nat.reduceAdd, Nat.reduceMul, Nat.reduceSub, if_true, Nat.reduceLT, Nat.reduceLeDiff, ite_true, ite_false, Nat.reduceEqDiff, if_false, reduceCtorEq, ne_eq, List.getD, List.getElem?_cons_zero, List.getElem?_cons_succ, Option.getD_some, Option.bind_some, Option.map_some, Option.isSome_some, reduceIte, List.length_append, List.append_assoc, List.cons_append, List.nil_append, Option.some.injEq, forall_const, implies_true, Int.reduceNeg, eq_self, Prod.mk.injEq, List.self_eq_append_right, List.append_nil, exists_eq_left, exists_eq_left', exists_and_left, exists_eq_right, exists_and_right]
        have : i = R := by omega
        subst this
        exact ⟨_, _, _, B, A⟩
    rintro e f1 h1 hn1 ht ⟨rfl, e0, e3, u, v, fo, B, A⟩
    have hLeast := B.least
    have hs := A.s
    have hsl : slcA 1 (some 1) none (.sl false oid 0 1 0 (C + 1)) = some (.sl false oid 0 1 1 C) := by
      simp only [slcA, Option.getD_some, Option.getD_none]
      rw [if_pos ⟨by omega, by omega, by omega, Or.inr trivial⟩]
      simp
    have hln : lenvA false (.sl false oid 0 1 1 C) = some (.int .i64 (C : Int)) := rfl
    simp (config := {maxSteps := 8000000}) only [e0, e3, hs, hsl, hln, SS, bne_self_eq_false, wr_def, obOf, List.all_cons, List.all_nil, List.map_cons, List.map_nil, List.length_cons, List.length_nil, List.take_zero, List.take_succ_cons, List.take_nil, List.drop_zero, List.drop_succ_cons, List.drop_nil, Nat.reduceAdd, Nat.reduceMul, Nat.reduceSub, if_true, Nat.reduceLT, Nat.reduceLeDiff, ite_true, ite_false, Nat.reduceEqDiff, if_false, reduceCtorEq, ne_eq, List.getD, List.getElem?_cons_zero, List.getElem?_cons_succ, Option.getD_some, Option.bind_some, Option.map_some, Option.isSome_some, reduceIte, List.length_append, List.append_assoc, List.cons_append, List.nil_append, Option.some.injEq, forall_const, implies_true, Int.reduceNeg, eq_self, Prod.mk.injEq, List.self_eq_append_right, List.append_nil, exists_eq_left, exists_eq_left', exists_and_left, exists_eq_right, exists_and_right]
    have htl := fun {k : Nat} (hk : k < C) => A.off.tail hk
    generalize AV.sl false oid 0 1 1 C = vt at *
    refine W_loop (fun q f1 h1 => ∃ k : Nat, q = C - k ∧ k ≤ C ∧ f1 0 = vc ∧ f1 44 = vt ∧ f1 45 = .int .i64 (C : Int) ∧ f1 46 = .int .i64 (k : Int) ∧ (∀ {k : Nat}, k < C → idxOk 1 vt (.int .i64 (k : Int)) ∧ ld1A h1 (idxV 1 vt (.int .i64 (k : Int))) = some (gN (fo (k + 1)))) ∧ ∃ s : Int, f1 5 = .int .i64 s ∧ 0 ≤ s ∧ s ≤ (k : Int) * 1125899906842624 ∧ s = sumN k (fun k => if 0 < fo (k + 1) then M (fo (k + 1) - 1) k else 0)) hn1 C
      ⟨0, rfl, by omega, by simp only [e0, SS, bne_self_eq_false, wr_def, obOf, List.all_cons, List.all_nil, List.map_cons, List.map_nil, List.length_cons, List.length_nil, List.take_zero, List.take_succ_cons, List.take_nil, List.drop_zero, List.drop_succ_cons, List.drop_nil, Nat.reduceAdd, Nat.reduceMul, Nat.reduceSub, if_true, Nat.reduceLT, Nat.reduceLeDiff, ite_true, ite_false, Nat.reduceEqDiff, if_false, reduceCtorEq, ne_eq, List.getD, List.getElem?_cons_zero, List.getElem?_cons_succ, Option.getD_some, Option.bind_some, Option.map_some, Option.isSome_some, reduceIte, List.length_append, List.append_assoc, List.cons_append, List.nil_append, Option.some.injEq, forall_const, implies_true, Int.reduceNeg, eq_self, Prod.mk.injEq, List.self_eq_append_right, List.append_nil, exists_eq_left, exists_eq_left', exists_and_left, exists_eq_right, exists_and_right], by simp only [SS, bne_self_eq_false, wr_def, obOf, List.all_cons, List.all_nil, List.map_cons, List.map_nil, List.length_cons, List.length_nil, List.take_zero, List.take_succ_cons, List.take_nil, List.drop_zero, List.drop_succ_cons, List.drop_nil, Nat.reduceAdd, Nat.reduceMul, Nat.reduceSub, if_true, Nat.reduceLT, Nat.reduceLeDiff, ite_true, ite_false, Nat.reduceEqDiff, if_false, reduceCtorEq, ne_eq, List.getD, List.getElem?_cons_zero, List.getElem?_cons_succ, Option.getD_some, Option.bind_some, Option.map_some, Option.isSome_some, reduceIte, List.length_append, List.append_assoc, List.cons_append, List.nil_append, Option.some.injEq, forall_const, implies_true, Int.reduceNeg, eq_self, Prod.mk.injEq, List.self_eq_append_right, List.append_nil, exists_eq_left, exists_eq_left', exists_and_left, exists_eq_right, exists_and_right], by simp only [SS, bne_self_eq_false, wr_def, obOf, List.all_cons, List.all_nil, List.map_cons, List.map_nil, List.length_cons, List.length_nil, List.take_zero, List.take_succ_cons, List.take_nil, List.drop_zero, List.drop_succ_cons, List.drop_nil, Nat.reduceAdd, Nat.reduceMul, Nat.reduceSub, if_true, Nat.reduceLT, Nat.reduceLeDiff, ite_true, ite_false, Nat.reduceEqDiff, if_false, reduceCtorEq, ne_eq, List.getD, List.getElem?_cons_zero, List.getElem?_cons_succ, Option.getD_some, Option.bind_some, Option.map_some, Option.isSome_some, reduceIte, List.length_append, List.append_assoc, List.cons_append, List.nil_append, Option.some.injEq, forall_const, implies_true, Int.reduceNeg, eq_self, Prod.mk.injEq, List.self_eq_append_right, List.append_nil, exists_eq_left, exists_eq_left', exists_and_left, exists_eq_right, exists_and_right], rfl, htl, 0, by simp only [SS, bne_self_eq_false, wr_def, obOf, List.all_cons, List.all_nil, List.map_cons, List.map_nil, List.length_cons, List.length_nil, List.take_zero, List.take_succ_cons, List.take_nil, List.drop_zero, List.drop_succ_cons, List.drop_nil, Nat.reduceAdd, Nat.reduceMul, Nat.reduceSub, if_true, Nat.reduceLT, Nat.reduceLeDiff, ite_true, ite_false, Nat.reduceEqDiff, if_false, reduceCtorEq, ne_eq, List.getD, List.getElem?_cons_zero, List.getElem?_cons_succ, Option.getD_some, Option.bind_some, Option.map_some, Option.isSome_some, reduceIte, List.length_append, List.append_assoc, List.cons_append, List.nil_append, Option.some.injEq, forall_const, implies_true, Int.reduceNeg, eq_self, Prod.mk.injEq, List.self_eq_append_right, List.append_nil, exists_eq_left, exists_eq_left', exists_and_left, exists_eq_right, exists_and_right], by omega, by omega, rfl⟩ ?_
    clear e0 e3 hs htl
    rintro q f2 h2 hn2 ht2 ⟨k, rfl, hk, e0, e44, e45, e46, htl, s, e5, s0, s1, hsum⟩
    have hw1 : IntKind.i64.wrap ((k : Int) + 1) = ((k + 1 : Nat) : Int) := by rw [wrap64 (by omega) (by omega)]; omega
    by_cases hkC : k < C
    · have hc : decide ((k : Int) < (C : Int)) = true := decide_eq_true (by omega)
      obtain ⟨o1, d1⟩ := htl hkC
      simp only [gN] at d1
      have hS : sumN (k + 1) (fun k => if 0 < fo (k + 1) then M (fo (k + 1) - 1) k else 0) = s + (if 0 < fo (k + 1) then M (fo (k + 1) - 1) k else 0) := by simp only [sumN]; rw [hsum]
      have hfr := B.ofr (k + 1) (by omega) (by omega)
      have hb := hM (fo (k + 1) - 1) k
      by_cases hp : 0 < fo (k + 1)
      · rw [if_pos hp] at hS
        have hc2 : decide ((0 : Int) < (fo (k + 1) : Int)) = true := decide_eq_true (by omega)
        have hH2 : h2 = H ++ h2.drop H.length := take_eq (by rw [ht2, ht]; simp)
        generalize h2.drop H.length = z at hH2
        subst hH2
        have oc := mx.ok (fo (k + 1) - 1) (by omega)
        have dc := mx.ld z (fo (k + 1) - 1) (by omega)
        have or := mx.rok (fo (k + 1) - 1) k (by omega) hkC
        have dr := mx.rld z (fo (k + 1) - 1) k (by omega) hkC
        have wi : IntKind.i64.wrap ((fo (k + 1) : Int) - 1) = ((fo (k + 1) - 1 : Nat) : Int) := by rw [wrap64 (by omega) (by omega)]; omega
        have ws : IntKind.i64.wrap (s + M (fo (k + 1) - 1) k) = s + M (fo (k + 1) - 1) k := wrap64 (by omega) (by omega)
        simp (config := {maxSteps := 8000000}) only [e0, e44, e45, e46, e5, hc, hw1, o1, isPtr_idx o1, d1, hc2, oc, isPtr_idx oc, dc, or, isPtr_idx or, dr, wi, ws, SS, bne_self_eq_false, wr_def, obOf, List.all_cons, List.all_nil, List.map_cons, List.map_nil, List.length_cons, List.length_nil, List.take_zero, List.take_succ_cons, List.take_nil, List.drop_zero, List.drop_succ_cons, List.drop_nil, Nat.reduceAdd, Nat.reduceMul, Nat.reduceSub, if_true, Nat.reduceLT, Nat.reduceLeDiff, ite_true, ite_false, Nat.reduceEqDiff, if_false, reduceCtorEq, ne_eq, List.getD, List.getElem?_cons_zero, List.getElem?_cons_succ, Option.getD_some, Option.bind_some, Option.map_some, Option.isSome_some, reduceIte, List.length_append, List.append_assoc, List.cons_append, List.nil_append, Option.some.injEq, forall_const, implies_true, Int.reduceNeg, eq_self, Prod.mk.injEq, List.self_eq_append_right, List.append_nil, exists_eq_left, exists_eq_left', exists_and_left, exists_eq_right, exists_and_right]
        exact ⟨_, by omega, k + 1, rfl, by omega, rfl, htl, _, rfl, by omega, by omega, hS.symm⟩
      · rw [if_neg hp] at hS
        have hc2 : decide ((0 : Int) < (fo (k + 1) : Int)) = false := decide_eq_false (by omega)
        simp (config := {maxSteps := 8000000}) only [e0, e44, e45, e46, e5, hc, hw1, o1, isPtr_idx o1, d1, hc2, SS, bne_self_eq_false, wr_def, obOf, List.all_cons, List.all_nil, List.map_cons, List.map_nil, List.length_cons, List.length_nil, List.take_zero, List.take_succ_cons, List.take_nil, List.drop_zero, List.drop_succ_cons, List.drop_nil, Nat.reduceAdd, Nat.reduceMul, Nat.reduceSub, if_true, Nat.reduceLT, Nat.reduceLeDiff, ite_true, ite_false, Nat.reduceEqDiff, if_false, reduceCtorEq, ne_eq, List.getD, List.getElem?_cons_zero, List.getElem?_cons_succ, Option.getD_some, Option.bind_some, Option.map_some, Option.isSome_some, reduceIte, List.length_append, List.append_assoc, List.cons_append, List.nil_append, Option.some.injEq, forall_const, implies_true, Int.reduceNeg, eq_self, Prod.mk.injEq, List.self_eq_append_right, List.append_nil, exists_eq_left, exists_eq_left', exists_and_left, exists_eq_right, exists_and_right]
        exact ⟨_, by omega, k + 1, rfl, by omega, rfl, htl, s, rfl, by omega, by omega, by rw [hS]; omega⟩
    · have hc : decide ((k : Int) < (C : Int)) = false := decide_eq_false (by omega)
      have : k = C := by omega
      subst this
      rw [← hsum] at hLeast
      simp (config := {maxSteps := 8000000}) only [e0, e44, e45, e46, e5, hc, SS, bne_self_eq_false, wr_def, obOf, List.all_cons, List.all_nil, List.map_cons, List.map_nil, List.length_cons, List.length_nil, List.take_zero, List.take_succ_cons, List.take_nil, List.drop_zero, List.drop_succ_cons, List.drop_nil, Nat.reduceAdd, Nat.reduceMul, Nat.reduceSub, if_true, Nat.reduceLT, Nat.reduceLeDiff, ite_true, ite_false, Nat.reduceEqDiff, if_false, reduceCtorEq, ne_eq, List.getD, List.getElem?_cons_zero, List.getElem?_cons_succ, Option.getD_some, Option.bind_some, Option.map_some, Option.isSome_some, reduceIte, List.length_append, List.append_assoc, List.cons_append, List.nil_append, Option.some.injEq, forall_const, implies_true, Int.reduceNeg, eq_self, Prod.mk.injEq, List.self_eq_append_right, List.append_nil, exists_eq_left, exists_eq_left', exists_and_left, exists_eq_right, exists_and_right]
      exact ⟨s, hLeast, rfl⟩
  obtain ⟨v, ⟨T, hT, rfl⟩, hv⟩ := key
  exact ⟨T, hT, hv⟩
end Go.Proofs.Ytpehhlfbnkakpaa.Hg
