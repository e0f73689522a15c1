/- One more row is assigned: what add of the solver does. Conditions stand in each lemma. -/
import Derived.Test.YtpehhlfbnkakpaaHgA
namespace Go.Proofs.Ytpehhlfbnkakpaa.Hg
open Go Go.Proofs.Ytpehhlfbnkakpaa.Eva Go.Proofs.Ytpehhlfbnkakpaa.CodeAll
set_option linter.unusedVariables false
set_option linter.unusedSimpArgs false
set_option maxRecDepth 10000
set_option maxHeartbeats 4000000

/-- How many columns are not done. -/
def cnt (done : Nat → Bool) : Nat → Nat
  | 0 => 0
  | n + 1 => cnt done n + (if done n then 0 else 1)
theorem cnt_upd {done : Nat → Bool} {a : Nat} (h : done a = false) : ∀ {n : Nat}, a < n → cnt (upd done a true) n + 1 = cnt done n
  | 0, hn => by omega
  | n + 1, hn => by
    simp only [cnt]
    by_cases e : a = n
    · subst e
      have : ∀ m, m ≤ a → cnt (upd done a true) m = cnt done m := by
        intro m
        induction m with
        | zero => intro _; rfl
        | succ m ih => intro hm; simp only [cnt]; rw [ih (by omega), upd_ne (by omega)]
      rw [this a (Nat.le_refl _), upd_same, h]; rfl
    · have := cnt_upd h (n := n) (by omega)
      rw [upd_ne (fun h => e h.symm)]; omega
theorem FA.new {α : Type} {g : α → AV} [Sc g] {n0 n : Nat} {H : List Ob} {z : α} (hn : n0 ≤ H.length) (o : List Ob) : FA n0 (H ++ (⟨zrep n [g z], 0, 1, true, [g z].all AV.scalar⟩ :: o)) (.sl false H.length 0 1 0 n) g n (fun _ => z) := by
  refine ⟨H.length, 0, by rw [arrF_len], ?_, hn⟩
  have : (g z).scalar = true := Sc.sc z
  simp [rdObj, zrep, ← arrF_rep, this]
theorem add_mut {H x : List Ob} {sid : Nat} {cl0 : Nat → Nat} {vc vr vk vo : AV} {rw : Nat → AV} {R C r : Nat} {M : Nat → Nat → Int} {u v : Nat → Int} {fo : Nat → Nat} (hM : ∀ i k, 0 ≤ M i k ∧ M i k ≤ 1125899906842624) (mx : Mx H vc rw R C M) (hr : r < R) (hRC : R ≤ C) (hC : C ≤ 64)
    (B : Base M C r u v fo) (A : Hs H.length (H ++ x) sid vc vr vk vo R C u v fo) (cs0 : cl0 sid = 0) (c1 : ∀ id, idOf vr id → cl0 id = 1) (c2 : ∀ id, idOf vk id → cl0 id = 2) (c3 : ∀ id, idOf vo id → cl0 id = 3) :
    ∃ h2 wl wa, ecall E 116 [.ptr sid 0 0, .int .i64 ((r + 1 : Nat) : Int)] (H ++ x) = some (.tup [], h2, wl, wa) ∧ H.length ≤ wl ∧ H.length ≤ wa ∧ h2.take H.length = H ∧ (H ++ x).length ≤ h2.length ∧ ∃ u' v' fo', Base M C (r + 1) u' v' fo' ∧ Hs H.length h2 sid vc vr vk vo R C u' v' fo' := by
  have key : wc E H.length c116.nt c116.code (fun e f h' => exOk e = true ∧ (rvq c116.nt f h' c116.res).map mkRes = some (.tup []) ∧ (H ++ x).length ≤ h'.length ∧ ∃ u' v' fo', Base M C (r + 1) u' v' fo' ∧ Hs H.length h' sid vc vr vk vo R C u' v' fo') (ofL [.ptr sid 0 0, .int .i64 ((r + 1 : Nat) : Int)]) (H ++ x) := by
    have hlk := A.cols.len
    have hs := A.s
    have hsl := rd_lt hs
    simp (config := {maxSteps := 8000000}) only [c116, hs, hlk, Int.toNat_natCast, SS, bne_self_eq_false, wr_def, obOf, List.all_cons, List.all_nil, List.map_cons, List.map_nil, List.length_cons, List.length_nil, List.take_zero, List.take_succ_cons, List.take_nil, List.drop_zero, List.drop_succ_cons, List.drop_nil, Nat.reduceAdd, Nat.reduceMul, Nat.reduceSub, if_true, Nat.reduceLT, Nat.reduceLeDiff, ite_true, ite_false, Nat.reduceEqDiff, if_false, reduceCtorEq, ne_eq, List.getD, List.getElem?_cons_zero, List.getElem?_cons_succ, Option.getD_some, Option.bind_some, Option.map_some, Option.isSome_some, reduceIte, List.length_append, List.append_assoc, List.cons_append, List.nil_append, Option.some.injEq, forall_const, implies_true, Int.reduceNeg, eq_self, Prod.mk.injEq, List.self_eq_append_right, List.append_nil, exists_eq_left, exists_eq_left', exists_and_left, exists_eq_right, exists_and_right]
    have hap : ∀ b, b ≤ 8 → (C + 1) * b ≤ appLim := fun b hb => by
      have : (C + 1) * b ≤ 65 * 8 := Nat.mul_le_mul (by omega) hb
      unfold appLim; omega
    refine ⟨by omega, by omega, hap 8 (by omega), by omega, by omega, hap 8 (by omega), by omega, by omega, hap 1 (by omega), ?_⟩
    -- the three new objects
    have hp0 : Hp H.length (H ++ (x ++ [⟨zrep (C + 1) [.int .i64 0], 0, 1, true, true⟩, ⟨zrep (C + 1) [.int .i64 0], 0, 1, true, true⟩, ⟨zrep (C + 1) [.bool false], 0, 1, true, true⟩])) sid vc vr vk vo (.sl false (H.length + x.length) 0 1 0 (C + 1)) (.sl false (H.length + (x.length + 1)) 0 1 0 (C + 1)) (.sl false (H.length + (x.length + 1) + 1) 0 1 0 (C + 1)) R C u v fo (fun _ => 0) (fun _ => 0) (fun _ => false) := by
      refine ⟨?_, ?_, ?_, ?_⟩
      · rw [← List.append_assoc]; exact A.mono fun id ep o ho => rd_keep ho
      · have := FA.new (g := gI) (n0 := H.length) (n := C + 1) (H := H ++ x) (z := (0 : Int)) (by simp) [⟨zrep (C + 1) [.int .i64 0], 0, 1, true, true⟩, ⟨zrep (C + 1) [.bool false], 0, 1, true, true⟩]
        rw [List.append_assoc, List.length_append] at this
        exact this
      · have := FA.new (g := gN) (n0 := H.length) (n := C + 1) (H := H ++ (x ++ [⟨zrep (C + 1) [.int .i64 0], 0, 1, true, true⟩])) (z := (0 : Nat)) (by simp) [⟨zrep (C + 1) [.bool false], 0, 1, true, true⟩]
        rw [List.append_assoc, List.append_assoc, List.length_append, List.length_append] at this
        exact this
      · have := FA.new (g := gB) (n0 := H.length) (n := C + 1) (H := H ++ (x ++ [⟨zrep (C + 1) [.int .i64 0], 0, 1, true, true⟩, ⟨zrep (C + 1) [.int .i64 0], 0, 1, true, true⟩])) (z := false) (by simp) []
        rw [List.append_assoc, List.append_assoc, List.length_append, List.length_append] at this
        exact this
    have hS : ∃ cl, Sp H.length cl sid vr vk vo (.sl false (H.length + x.length) 0 1 0 (C + 1)) (.sl false (H.length + (x.length + 1)) 0 1 0 (C + 1)) (.sl false (H.length + (x.length + 1) + 1) 0 1 0 (C + 1)) := by
      rw [List.length_append] at hsl
      refine ⟨fun id => if id < H.length + x.length then cl0 id else 4 + (id - (H.length + x.length)), ?_, fun id hi => ?_, fun id hi => ?_, fun id hi => ?_, fun id hi => ?_, fun id hi => ?_, fun id hi => ?_⟩
      · rw [if_pos hsl]; exact cs0
      · have := A.rows.lt hi; rw [List.length_append] at this; rw [if_pos this]; exact c1 _ hi
      · have := A.cols.lt hi; rw [List.length_append] at this; rw [if_pos this]; exact c2 _ hi
      · have := A.off.lt hi; rw [List.length_append] at this; rw [if_pos this]; exact c3 _ hi
      · obtain ⟨_, rfl⟩ := hi; rw [if_neg (by omega)]; omega
      · obtain ⟨_, rfl⟩ := hi; rw [if_neg (by omega)]; omega
      · obtain ⟨_, rfl⟩ := hi; rw [if_neg (by omega)]; omega
    obtain ⟨cl, S⟩ := hS
    generalize AV.sl false (H.length + x.length) 0 1 0 (C + 1) = vl at *
    generalize AV.sl false (H.length + (x.length + 1)) 0 1 0 (C + 1) = vw at *
    generalize AV.sl false (H.length + (x.length + 1) + 1) 0 1 0 (C + 1) = vd at *
    have h0 : ∃ z, x ++ [⟨zrep (C + 1) [.int .i64 0], 0, 1, true, true⟩, ⟨zrep (C + 1) [.int .i64 0], 0, 1, true, true⟩, ⟨zrep (C + 1) [.bool false], 0, 1, true, true⟩] = z ∧ x.length ≤ z.length := ⟨_, rfl, by simp⟩
    obtain ⟨z, hz, hzl⟩ := h0
    rw [hz] at hp0
    have hll := hp0.lst.len
    simp (config := {maxSteps := 8000000}) only [hz, hll, SS, bne_self_eq_false, wr_def, obOf, List.all_cons, List.all_nil, List.map_cons, List.map_nil, List.length_cons, List.length_nil, List.take_zero, List.take_succ_cons, List.take_nil, List.drop_zero, List.drop_succ_cons, List.drop_nil, Nat.reduceAdd, Nat.reduceMul, Nat.reduceSub, if_true, Nat.reduceLT, Nat.reduceLeDiff, ite_true, ite_false, Nat.reduceEqDiff, if_false, reduceCtorEq, ne_eq, List.getD, List.getElem?_cons_zero, List.getElem?_cons_succ, Option.getD_some, Option.bind_some, Option.map_some, Option.isSome_some, reduceIte, List.length_append, List.append_assoc, List.cons_append, List.nil_append, Option.some.injEq, forall_const, implies_true, Int.reduceNeg, eq_self, Prod.mk.injEq, List.self_eq_append_right, List.append_nil, exists_eq_left, exists_eq_left', exists_and_left, exists_eq_right, exists_and_right]
    clear hlk hs hsl hll hap A
    -- the first loop
    refine W.mono (Q := fun e f1 h1 => e = .ex 0 ∧ f1 0 = .ptr sid 0 0 ∧ f1 1 = .int .i64 ((r + 1 : Nat) : Int) ∧ f1 4 = .int .i64 ((C + 1 : Nat) : Int) ∧ f1 5 = vl ∧ f1 6 = vw ∧ f1 7 = vd ∧ H.length + x.length ≤ h1.length ∧ ∃ least, (∀ k, k < C + 1 → least k = 4503599627370496) ∧ Hp H.length h1 sid vc vr vk vo vl vw vd R C u v fo least (fun _ => 0) (fun _ => false))
      (W_loop (fun q f1 h1 => ∃ m : Nat, q = C + 1 - m ∧ m ≤ C + 1 ∧ f1 0 = .ptr sid 0 0 ∧ f1 1 = .int .i64 ((r + 1 : Nat) : Int) ∧ f1 4 = .int .i64 ((C + 1 : Nat) : Int) ∧ f1 5 = vl ∧ f1 6 = vw ∧ f1 7 = vd ∧ f1 28 = .int .i64 ((C + 1 : Nat) : Int) ∧ f1 29 = .int .i64 (m : Int) ∧ H.length + x.length ≤ h1.length ∧ ∃ least, (∀ k, k < m → least k = 4503599627370496) ∧ Hp H.length h1 sid vc vr vk vo vl vw vd R C u v fo least (fun _ => 0) (fun _ => false)) (by simp) (C + 1)
        ⟨0, rfl, by omega, rfl, rfl, rfl, rfl, rfl, rfl, rfl, rfl, by simp; omega, _, fun k hk => by omega, hp0⟩ ?_) ?_
    · rintro q f1 h1 hn1 ht ⟨m, rfl, hm, e0, e1, e4, e5, e6, e7, e28, e29, hln, least, hl, hp⟩
      by_cases hmc : m < C + 1
      · have hc : decide ((m : Int) < ((C + 1 : Nat) : Int)) = true := decide_eq_true (by omega)
        have hw1 : IntKind.i64.wrap ((m : Int) + 1) = ((m + 1 : Nat) : Int) := by rw [wrap64 (by omega) (by omega)]; omega
        have o1 := hp.lst.ok hmc
        have s1 := hp.lst.stOk hmc (4503599627370496 : Int)
        obtain ⟨p1, p2, -⟩ := hp.stLst S hmc (4503599627370496 : Int)
        simp only [gI] at s1
        simp (config := {maxSteps := 8000000}) only [e0, e1, e4, e5, e6, e7, e28, e29, hc, hw1, o1, isPtr_idx o1, s1, SS, bne_self_eq_false, wr_def, obOf, List.all_cons, List.all_nil, List.map_cons, List.map_nil, List.length_cons, List.length_nil, List.take_zero, List.take_succ_cons, List.take_nil, List.drop_zero, List.drop_succ_cons, List.drop_nil, Nat.reduceAdd, Nat.reduceMul, Nat.reduceSub, if_true, Nat.reduceLT, Nat.reduceLeDiff, ite_true, ite_false, Nat.reduceEqDiff, if_false, reduceCtorEq, ne_eq, List.getD, List.getElem?_cons_zero, List.getElem?_cons_succ, Option.getD_some, Option.bind_some, Option.map_some, Option.isSome_some, reduceIte, List.length_append, List.append_assoc, List.cons_append, List.nil_append, Option.some.injEq, forall_const, implies_true, Int.reduceNeg, eq_self, Prod.mk.injEq, List.self_eq_append_right, List.append_nil, exists_eq_left, exists_eq_left', exists_and_left, exists_eq_right, exists_and_right]
        refine ⟨_, by omega, m + 1, rfl, by omega, rfl, by rw [p2]; exact hln, _, fun k hk => ?_, p1⟩
        by_cases e : k = m
        · subst e; exact upd_same
        · rw [upd_ne e]; exact hl k (by omega)
      · have hc : decide ((m : Int) < ((C + 1 : Nat) : Int)) = false := decide_eq_false (by omega)
        simp (config := {maxSteps := 8000000}) only [e0, e1, e4, e5, e6, e7, e28, e29, hc, SS, bne_self_eq_false, wr_def, obOf, List.all_cons, List.all_nil, List.map_cons, List.map_nil, List.length_cons, List.length_nil, List.take_zero, List.take_succ_cons, List.take_nil, List.drop_zero, List.drop_succ_cons, List.drop_nil, Nat.reduceAdd, Nat.reduceMul, Nat.reduceSub, if_true, Nat.reduceLT, Nat.reduceLeDiff, ite_true, ite_false, Nat.reduceEqDiff, if_false, reduceCtorEq, ne_eq, List.getD, List.getElem?_cons_zero, List.getElem?_cons_succ, Option.getD_some, Option.bind_some, Option.map_some, Option.isSome_some, reduceIte, List.length_append, List.append_assoc, List.cons_append, List.nil_append, Option.some.injEq, forall_const, implies_true, Int.reduceNeg, eq_self, Prod.mk.injEq, List.self_eq_append_right, List.append_nil, exists_eq_left, exists_eq_left', exists_and_left, exists_eq_right, exists_and_right]
        exact ⟨hln, least, fun k hk => hl k (by omega), hp⟩
    clear hp0 hz hzl
    rintro e f1 h1 hn1 ht ⟨rfl, e0, e1, e4, e5, e6, e7, hln, least, hl, hp⟩
    have o1 : idxOk 1 vo (.int .i64 0) := hp.hs.off.ok (i := 0) (by omega)
    have s1 : stOk H.length 1 h1 (idxV 1 vo (.int .i64 0)) (.int .i64 ((r + 1 : Nat) : Int)) := hp.hs.off.stOk (i := 0) (by omega) (r + 1)
    obtain ⟨p1, p2, p5⟩ := hp.stOf S (i := 0) (by omega) (r + 1)
    have hs := hp.hs.s
    simp (config := {maxSteps := 8000000}) only [e0, e1, e4, e5, e6, e7, hs, o1, isPtr_idx o1, s1, SS, bne_self_eq_false, wr_def, obOf, List.all_cons, List.all_nil, List.map_cons, List.map_nil, List.length_cons, List.length_nil, List.take_zero, List.take_succ_cons, List.take_nil, List.drop_zero, List.drop_succ_cons, List.drop_nil, Nat.reduceAdd, Nat.reduceMul, Nat.reduceSub, if_true, Nat.reduceLT, Nat.reduceLeDiff, ite_true, ite_false, Nat.reduceEqDiff, if_false, reduceCtorEq, ne_eq, List.getD, List.getElem?_cons_zero, List.getElem?_cons_succ, Option.getD_some, Option.bind_some, Option.map_some, Option.isSome_some, reduceIte, List.length_append, List.append_assoc, List.cons_append, List.nil_append, Option.some.injEq, forall_const, implies_true, Int.reduceNeg, eq_self, Prod.mk.injEq, List.self_eq_append_right, List.append_nil, exists_eq_left, exists_eq_left', exists_and_left, exists_eq_right, exists_and_right]
    have hph0 : Ph M C r u v (upd fo 0 (r + 1)) least (fun _ => 0) (fun _ => false) 0 [] := B.start hM (upd fo 0 (r + 1)) upd_same (fun k hk => upd_ne (by omega)) least (fun k _ h => hl k (by omega)) _ _ (fun _ => rfl)
    have hlen1 : H.length + x.length ≤ (stH h1 (idxV 1 vo (.int .i64 0)) (.int .i64 ((r + 1 : Nat) : Int))).length := by
      have p2' : (stH h1 (idxV 1 vo (.int .i64 0)) (.int .i64 ((r + 1 : Nat) : Int))).length = h1.length := p2
      omega
    have p1' : Hp H.length (stH h1 (idxV 1 vo (.int .i64 0)) (.int .i64 ((r + 1 : Nat) : Int))) sid vc vr vk vo vl vw vd R C u v (upd fo 0 (r + 1)) least (fun _ => 0) (fun _ => false) := p1
    have hAt : (stH h1 (idxV 1 vo (.int .i64 0)) (.int .i64 ((r + 1 : Nat) : Int))).take H.length = H := p5.trans (ht.trans (by simp))
    clear p1 p2 p5 hp hl
    generalize hh1 : stH h1 (idxV 1 vo (.int .i64 0)) (.int .i64 ((r + 1 : Nat) : Int)) = hA at *
    have hrC : r < C := by omega
    clear o1 s1 hs
    refine W.mono (Q := fun e f1 h1 => e = .ex 2 ∧ ∃ a : Nat, f1 0 = .ptr sid 0 0 ∧ f1 6 = vw ∧ f1 9 = .int .i64 (a : Int) ∧ H.length + x.length ≤ h1.length ∧ ∃ u v fo least way done l, Ph M C r u v fo least way done a l ∧ fo a = 0 ∧ Hp H.length h1 sid vc vr vk vo vl vw vd R C u v fo least way done)
      (W_loop (fun q f1 h1 => ∃ a : Nat, f1 0 = .ptr sid 0 0 ∧ f1 4 = .int .i64 ((C + 1 : Nat) : Int) ∧ f1 5 = vl ∧ f1 6 = vw ∧ f1 7 = vd ∧ f1 9 = .int .i64 (a : Int) ∧ H.length + x.length ≤ h1.length ∧ ∃ u v fo least way done l, q = cnt done (C + 1) ∧ Ph M C r u v fo least way done a l ∧ fo a ≠ 0 ∧ Hp H.length h1 sid vc vr vk vo vl vw vd R C u v fo least way done) (by omega) (cnt (fun _ => false) (C + 1))
        ⟨0, by simp only [e0, SS, bne_self_eq_false, wr_def, obOf, List.all_cons, List.all_nil, List.map_cons, List.map_nil, List.length_cons, List.length_nil, List.take_zero, List.take_succ_cons, List.take_nil, List.drop_zero, List.drop_succ_cons, List.drop_nil, Nat.reduceAdd, Nat.reduceMul, Nat.reduceSub, if_true, Nat.reduceLT, Nat.reduceLeDiff, ite_true, ite_false, Nat.reduceEqDiff, if_false, reduceCtorEq, ne_eq, List.getD, List.getElem?_cons_zero, List.getElem?_cons_succ, Option.getD_some, Option.bind_some, Option.map_some, Option.isSome_some, reduceIte, List.length_append, List.append_assoc, List.cons_append, List.nil_append, Option.some.injEq, forall_const, implies_true, Int.reduceNeg, eq_self, Prod.mk.injEq, List.self_eq_append_right, List.append_nil, exists_eq_left, exists_eq_left', exists_and_left, exists_eq_right, exists_and_right], by simp only [e4, SS, bne_self_eq_false, wr_def, obOf, List.all_cons, List.all_nil, List.map_cons, List.map_nil, List.length_cons, List.length_nil, List.take_zero, List.take_succ_cons, List.take_nil, List.drop_zero, List.drop_succ_cons, List.drop_nil, Nat.reduceAdd, Nat.reduceMul, Nat.reduceSub, if_true, Nat.reduceLT, Nat.reduceLeDiff, ite_true, ite_false, Nat.reduceEqDiff, if_false, reduceCtorEq, ne_eq, List.getD, List.getElem?_cons_zero, List.getElem?_cons_succ, Option.getD_some, Option.bind_some, Option.map_some, Option.isSome_some, reduceIte, List.length_append, List.append_assoc, List.cons_append, List.nil_append, Option.some.injEq, forall_const, implies_true, Int.reduceNeg, eq_self, Prod.mk.injEq, List.self_eq_append_right, List.append_nil, exists_eq_left, exists_eq_left', exists_and_left, exists_eq_right, exists_and_right], by simp only [e5, SS, bne_self_eq_false, wr_def, obOf, List.all_cons, List.all_nil, List.map_cons, List.map_nil, List.length_cons, List.length_nil, List.take_zero, List.take_succ_cons, List.take_nil, List.drop_zero, List.drop_succ_cons, List.drop_nil, Nat.reduceAdd, Nat.reduceMul, Nat.reduceSub, if_true, Nat.reduceLT, Nat.reduceLeDiff, ite_true, ite_false, Nat.reduceEqDiff, if_false, reduceCtorEq, ne_eq, List.getD, List.getElem?_cons_zero, List.getElem?_cons_succ, Option.getD_some, Option.bind_some, Option.map_some, Option.isSome_some, reduceIte, List.length_append, List.append_assoc, List.cons_append, List.nil_append, Option.some.injEq, forall_const, implies_true, Int.reduceNeg, eq_self, Prod.mk.injEq, List.self_eq_append_right, List.append_nil, exists_eq_left, exists_eq_left', exists_and_left, exists_eq_right, exists_and_right], by simp only [e6, SS, bne_self_eq_false, wr_def, obOf, List.all_cons, List.all_nil, List.map_cons, List.map_nil, List.length_cons, List.length_nil, List.take_zero, List.take_succ_cons, List.take_nil, List.drop_zero, List.drop_succ_cons, List.drop_nil, Nat.reduceAdd, Nat.reduceMul, Nat.reduceSub, if_true, Nat.reduceLT, Nat.reduceLeDiff, ite_true, ite_false, Nat.reduceEqDiff, if_false, reduceCtorEq, ne_eq, List.getD, List.getElem?_cons_zero, List.getElem?_cons_succ, Option.getD_some, Option.bind_some, Option.map_some, Option.isSome_some, reduceIte, List.length_append, List.append_assoc, List.cons_append, List.nil_append, Option.some.injEq, forall_const, implies_true, Int.reduceNeg, eq_self, Prod.mk.injEq, List.self_eq_append_right, List.append_nil, exists_eq_left, exists_eq_left', exists_and_left, exists_eq_right, exists_and_right], by simp only [e7, SS, bne_self_eq_false, wr_def, obOf, List.all_cons, List.all_nil, List.map_cons, List.map_nil, List.length_cons, List.length_nil, List.take_zero, List.take_succ_cons, List.take_nil, List.drop_zero, List.drop_succ_cons, List.drop_nil, Nat.reduceAdd, Nat.reduceMul, Nat.reduceSub, if_true, Nat.reduceLT, Nat.reduceLeDiff, ite_true, ite_false, Nat.reduceEqDiff, if_false, reduceCtorEq, ne_eq, List.getD, List.getElem?_cons_zero, List.getElem?_cons_succ, Option.getD_some, Option.bind_some, Option.map_some, Option.isSome_some, reduceIte, List.length_append, List.append_assoc, List.cons_append, List.nil_append, Option.some.injEq, forall_const, implies_true, Int.reduceNeg, eq_self, Prod.mk.injEq, List.self_eq_append_right, List.append_nil, exists_eq_left, exists_eq_left', exists_and_left, exists_eq_right, exists_and_right], rfl, hlen1, u, v, upd fo 0 (r + 1), least, fun _ => 0, fun _ => false, [], rfl, hph0, by rw [upd_same]; omega, p1'⟩ ?_) ?_
    · clear hph0 p1' hlen1 hh1 e0 e1 e4 e5 e6 e7 hln B
      clear u v fo least
      rintro q f1 h1 hn1 ht ⟨a, e0, e4, e5, e6, e7, e9, hln, u, v, fo, least, way, done, l, rfl, P, ha, hp⟩
      have haC : a ≤ C := P.inC a (by simp)
      have hda : done a = false := by
        have := P.trl.head_not
        rw [← P.dn] at this; simpa using this
      have hcnt := cnt_upd hda (n := C + 1) (by omega)
      have o1 := hp.don.ok (i := a) (by omega)
      have s1 := hp.don.stOk (i := a) (by omega) true
      obtain ⟨p1, p2, p5⟩ := hp.stDon S (i := a) (by omega) true
      have hBt := p5.trans (ht.trans hAt)
      have hs := p1.hs.s
      have o2 := hp.hs.off.ok (i := a) (by omega)
      have d2 := p1.hs.off.ld (i := a) (by omega)
      simp only [gN] at d2
      simp only [gB] at s1
      simp (config := {maxSteps := 8000000}) only [e0, e4, e5, e6, e7, e9, o1, isPtr_idx o1, s1, hs, o2, isPtr_idx o2, d2, SS, bne_self_eq_false, wr_def, obOf, List.all_cons, List.all_nil, List.map_cons, List.map_nil, List.length_cons, List.length_nil, List.take_zero, List.take_succ_cons, List.take_nil, List.drop_zero, List.drop_succ_cons, List.drop_nil, Nat.reduceAdd, Nat.reduceMul, Nat.reduceSub, if_true, Nat.reduceLT, Nat.reduceLeDiff, ite_true, ite_false, Nat.reduceEqDiff, if_false, reduceCtorEq, ne_eq, List.getD, List.getElem?_cons_zero, List.getElem?_cons_succ, Option.getD_some, Option.bind_some, Option.map_some, Option.isSome_some, reduceIte, List.length_append, List.append_assoc, List.cons_append, List.nil_append, Option.some.injEq, forall_const, implies_true, Int.reduceNeg, eq_self, Prod.mk.injEq, List.self_eq_append_right, List.append_nil, exists_eq_left, exists_eq_left', exists_and_left, exists_eq_right, exists_and_right]
      clear hp hs d2 s1
      have hln2 : H.length + x.length ≤ (stH h1 (idxV 1 vd (.int .i64 (a : Int))) (.bool true)).length := by rw [p2]; exact hln
      clear p2 p5 hln
      generalize stH h1 (idxV 1 vd (.int .i64 (a : Int))) (.bool true) = hB at *
      -- the search
      refine W.mono (Q := fun e f1 h1 => e = .ex 4 ∧ ∃ (δ : Int) (nx : Nat), f1 0 = .ptr sid 0 0 ∧ f1 4 = .int .i64 ((C + 1 : Nat) : Int) ∧ f1 5 = vl ∧ f1 6 = vw ∧ f1 7 = vd ∧ f1 11 = .int .i64 δ ∧ f1 12 = .int .i64 (nx : Int) ∧ H.length + x.length ≤ h1.length ∧ ∃ least' way', Scn M u v least way (upd done a true) (fo a) a (C + 1) least' way' δ nx ∧ Hp H.length h1 sid vc vr vk vo vl vw vd R C u v fo least' way' (upd done a true))
        (W_loop (fun q f1 h1 => ∃ (m : Nat) (δ : Int) (nx : Nat), q = C + 1 - m ∧ 1 ≤ m ∧ m ≤ C + 1 ∧ f1 0 = .ptr sid 0 0 ∧ f1 4 = .int .i64 ((C + 1 : Nat) : Int) ∧ f1 5 = vl ∧ f1 6 = vw ∧ f1 7 = vd ∧ f1 9 = .int .i64 (a : Int) ∧ f1 10 = .int .i64 (fo a : Int) ∧ f1 11 = .int .i64 δ ∧ f1 12 = .int .i64 (nx : Int) ∧ f1 13 = .int .i64 (m : Int) ∧ H.length + x.length ≤ h1.length ∧ ∃ least' way', Scn M u v least way (upd done a true) (fo a) a m least' way' δ nx ∧ Hp H.length h1 sid vc vr vk vo vl vw vd R C u v fo least' way' (upd done a true)) (by omega) C
          ⟨1, _, 0, by omega, by omega, by omega, by simp only [e0, SS, bne_self_eq_false, wr_def, obOf, List.all_cons, List.all_nil, List.map_cons, List.map_nil, List.length_cons, List.length_nil, List.take_zero, List.take_succ_cons, List.take_nil, List.drop_zero, List.drop_succ_cons, List.drop_nil, Nat.reduceAdd, Nat.reduceMul, Nat.reduceSub, if_true, Nat.reduceLT, Nat.reduceLeDiff, ite_true, ite_false, Nat.reduceEqDiff, if_false, reduceCtorEq, ne_eq, List.getD, List.getElem?_cons_zero, List.getElem?_cons_succ, Option.getD_some, Option.bind_some, Option.map_some, Option.isSome_some, reduceIte, List.length_append, List.append_assoc, List.cons_append, List.nil_append, Option.some.injEq, forall_const, implies_true, Int.reduceNeg, eq_self, Prod.mk.injEq, List.self_eq_append_right, List.append_nil, exists_eq_left, exists_eq_left', exists_and_left, exists_eq_right, exists_and_right], by simp only [e4, SS, bne_self_eq_false, wr_def, obOf, List.all_cons, List.all_nil, List.map_cons, List.map_nil, List.length_cons, List.length_nil, List.take_zero, List.take_succ_cons, List.take_nil, List.drop_zero, List.drop_succ_cons, List.drop_nil, Nat.reduceAdd, Nat.reduceMul, Nat.reduceSub, if_true, Nat.reduceLT, Nat.reduceLeDiff, ite_true, ite_false, Nat.reduceEqDiff, if_false, reduceCtorEq, ne_eq, List.getD, List.getElem?_cons_zero, List.getElem?_cons_succ, Option.getD_some, Option.bind_some, Option.map_some, Option.isSome_some, reduceIte, List.length_append, List.append_assoc, List.cons_append, List.nil_append, Option.some.injEq, forall_const, implies_true, Int.reduceNeg, eq_self, Prod.mk.injEq, List.self_eq_append_right, List.append_nil, exists_eq_left, exists_eq_left', exists_and_left, exists_eq_right, exists_and_right], by simp only [e5, SS, bne_self_eq_false, wr_def, obOf, List.all_cons, List.all_nil, List.map_cons, List.map_nil, List.length_cons, List.length_nil, List.take_zero, List.take_succ_cons, List.take_nil, List.drop_zero, List.drop_succ_cons, List.drop_nil, Nat.reduceAdd, Nat.reduceMul, Nat.reduceSub, if_true, Nat.reduceLT, Nat.reduceLeDiff, ite_true, ite_false, Nat.reduceEqDiff, if_false, reduceCtorEq, ne_eq, List.getD, List.getElem?_cons_zero, List.getElem?_cons_succ, Option.getD_some, Option.bind_some, Option.map_some, Option.isSome_some, reduceIte, List.length_append, List.append_assoc, List.cons_append, List.nil_append, Option.some.injEq, forall_const, implies_true, Int.reduceNeg, eq_self, Prod.mk.injEq, List.self_eq_append_right, List.append_nil, exists_eq_left, exists_eq_left', exists_and_left, exists_eq_right, exists_and_right], by simp only [e6, SS, bne_self_eq_false, wr_def, obOf, List.all_cons, List.all_nil, List.map_cons, List.map_nil, List.length_cons, List.length_nil, List.take_zero, List.take_succ_cons, List.take_nil, List.drop_zero, List.drop_succ_cons, List.drop_nil, Nat.reduceAdd, Nat.reduceMul, Nat.reduceSub, if_true, Nat.reduceLT, Nat.reduceLeDiff, ite_true, ite_false, Nat.reduceEqDiff, if_false, reduceCtorEq, ne_eq, List.getD, List.getElem?_cons_zero, List.getElem?_cons_succ, Option.getD_some, Option.bind_some, Option.map_some, Option.isSome_some, reduceIte, List.length_append, List.append_assoc, List.cons_append, List.nil_append, Option.some.injEq, forall_const, implies_true, Int.reduceNeg, eq_self, Prod.mk.injEq, List.self_eq_append_right, List.append_nil, exists_eq_left, exists_eq_left', exists_and_left, exists_eq_right, exists_and_right], by simp only [e7, SS, bne_self_eq_false, wr_def, obOf, List.all_cons, List.all_nil, List.map_cons, List.map_nil, List.length_cons, List.length_nil, List.take_zero, List.take_succ_cons, List.take_nil, List.drop_zero, List.drop_succ_cons, List.drop_nil, Nat.reduceAdd, Nat.reduceMul, Nat.reduceSub, if_true, Nat.reduceLT, Nat.reduceLeDiff, ite_true, ite_false, Nat.reduceEqDiff, if_false, reduceCtorEq, ne_eq, List.getD, List.getElem?_cons_zero, List.getElem?_cons_succ, Option.getD_some, Option.bind_some, Option.map_some, Option.isSome_some, reduceIte, List.length_append, List.append_assoc, List.cons_append, List.nil_append, Option.some.injEq, forall_const, implies_true, Int.reduceNeg, eq_self, Prod.mk.injEq, List.self_eq_append_right, List.append_nil, exists_eq_left, exists_eq_left', exists_and_left, exists_eq_right, exists_and_right], by simp only [e9, SS, bne_self_eq_false, wr_def, obOf, List.all_cons, List.all_nil, List.map_cons, List.map_nil, List.length_cons, List.length_nil, List.take_zero, List.take_succ_cons, List.take_nil, List.drop_zero, List.drop_succ_cons, List.drop_nil, Nat.reduceAdd, Nat.reduceMul, Nat.reduceSub, if_true, Nat.reduceLT, Nat.reduceLeDiff, ite_true, ite_false, Nat.reduceEqDiff, if_false, reduceCtorEq, ne_eq, List.getD, List.getElem?_cons_zero, List.getElem?_cons_succ, Option.getD_some, Option.bind_some, Option.map_some, Option.isSome_some, reduceIte, List.length_append, List.append_assoc, List.cons_append, List.nil_append, Option.some.injEq, forall_const, implies_true, Int.reduceNeg, eq_self, Prod.mk.injEq, List.self_eq_append_right, List.append_nil, exists_eq_left, exists_eq_left', exists_and_left, exists_eq_right, exists_and_right], rfl, rfl, rfl, rfl, hln2, least, way, Scn.init, p1⟩ ?_) ?_
      · clear p1 hln2 e0 e4 e5 e6 e7 e9 o1 o2
        rintro q f1 h1 hn1 ht1 ⟨m, δ, nx, rfl, hm1, hm, e0, e4, e5, e6, e7, e9, e10, e11, e12, e13, hln, least', way', Sc, hp⟩
        have htH : h1.take H.length = H := by
          rw [ht1]; exact hBt
        have hH := take_eq htH
        generalize h1.drop H.length = z at hH
        subst hH
        rw [List.length_append] at hln
        have hw1 : IntKind.i64.wrap ((m : Int) + 1) = ((m + 1 : Nat) : Int) := by rw [wrap64 (by omega) (by omega)]; omega
        by_cases hmc : m < C + 1
        · have hc : decide ((m : Int) < ((C + 1 : Nat) : Int)) = true := decide_eq_true (by omega)
          have o1 := hp.don.ok hmc
          have d1 := hp.don.ld hmc
          simp only [gB] at d1
          cases hSm : upd done a true m
          · rw [hSm] at d1
            -- not done
            have hs := hp.hs.s
            have hR : fo a ≤ R := by have := P.ofN a haC; omega
            have oc := mx.ok (fo a - 1) (by omega)
            have dc := mx.ld z (fo a - 1) (by omega)
            have or := mx.rok (fo a - 1) (m - 1) (by omega) (by omega)
            have dr := mx.rld z (fo a - 1) (m - 1) (by omega) (by omega)
            have ou := hp.hs.rows.ok (i := fo a) (by omega)
            have du := hp.hs.rows.ld (i := fo a) (by omega)
            have ov := hp.hs.cols.ok hmc
            have dv := hp.hs.cols.ld hmc
            have ol := hp.lst.ok hmc
            have dl := hp.lst.ld hmc
            have ow := hp.wy.ok hmc
            have wi : IntKind.i64.wrap ((fo a : Int) - 1) = ((fo a - 1 : Nat) : Int) := by rw [wrap64 (by omega) (by omega)]; omega
            have wm : IntKind.i64.wrap ((m : Int) - 1) = ((m - 1 : Nat) : Int) := by rw [wrap64 (by omega) (by omega)]; omega
            have bM := hM (fo a - 1) (m - 1)
            have bu := P.uN hrC hM (fo a)
            have bu0 := P.upos (fo a)
            have bv := P.vN hrC hM m hm1 (by omega)
            have bv0 := P.vneg m hm1 (by omega)
            have w1 : IntKind.i64.wrap (M (fo a - 1) (m - 1) - u (fo a)) = M (fo a - 1) (m - 1) - u (fo a) := wrap64 (by omega) (by omega)
            have w2 : IntKind.i64.wrap (M (fo a - 1) (m - 1) - u (fo a) - v m) = sl M u v (fo a) m := wrap64 (by omega) (by omega)
            simp only [gI] at du dv dl
            by_cases hc1 : sl M u v (fo a) m < least' m
            · have hd1 : decide (sl M u v (fo a) m < least' m) = true := decide_eq_true hc1
              have s1 := hp.lst.stOk hmc (sl M u v (fo a) m)
              obtain ⟨p1, p2, -⟩ := hp.stLst S hmc (sl M u v (fo a) m)
              have s2 := p1.wy.stOk hmc a
              obtain ⟨p3, p4, -⟩ := p1.stWay S hmc a
              have dl2 := p3.lst.ld hmc
              rw [upd_same] at dl2
              simp only [gI, gN] at s1 s2 dl2
              by_cases hc2 : sl M u v (fo a) m < δ
              · have hd2 : decide (sl M u v (fo a) m < δ) = true := decide_eq_true hc2
                simp (config := {maxSteps := 8000000}) only [e0, e4, e5, e6, e7, e9, e10, e11, e12, e13, hc, hw1, o1, isPtr_idx o1, d1, hs, oc, isPtr_idx oc, dc, or, isPtr_idx or, dr, ou, isPtr_idx ou, du, ov, isPtr_idx ov, dv, ol, isPtr_idx ol, dl, ow, isPtr_idx ow, wi, wm, w1, w2, hd1, s1, s2, dl2, hd2, SS, bne_self_eq_false, wr_def, obOf, List.all_cons, List.all_nil, List.map_cons, List.map_nil, List.length_cons, List.length_nil, List.take_zero, List.take_succ_cons, List.take_nil, List.drop_zero, List.drop_succ_cons, List.drop_nil, Nat.reduceAdd, Nat.reduceMul, Nat.reduceSub, if_true, Nat.reduceLT, Nat.reduceLeDiff, ite_true, ite_false, Nat.reduceEqDiff, if_false, reduceCtorEq, ne_eq, List.getD, List.getElem?_cons_zero, List.getElem?_cons_succ, Option.getD_some, Option.bind_some, Option.map_some, Option.isSome_some, reduceIte, List.length_append, List.append_assoc, List.cons_append, List.nil_append, Option.some.injEq, forall_const, implies_true, Int.reduceNeg, eq_self, Prod.mk.injEq, List.self_eq_append_right, List.append_nil, exists_eq_left, exists_eq_left', exists_and_left, exists_eq_right, exists_and_right]
                exact ⟨_, by omega, m + 1, rfl, by omega, by omega, _, rfl, m, rfl, rfl, by rw [p4, p2, List.length_append]; exact hln, _, _, Sc.step hm1 hSm (Or.inl ⟨hc1, rfl, rfl⟩) (Or.inl ⟨by rw [upd_same]; exact hc2, upd_same.symm, rfl⟩), p3⟩
              · have hd2 : decide (sl M u v (fo a) m < δ) = false := decide_eq_false hc2
                simp (config := {maxSteps := 8000000}) only [e0, e4, e5, e6, e7, e9, e10, e11, e12, e13, hc, hw1, o1, isPtr_idx o1, d1, hs, oc, isPtr_idx oc, dc, or, isPtr_idx or, dr, ou, isPtr_idx ou, du, ov, isPtr_idx ov, dv, ol, isPtr_idx ol, dl, ow, isPtr_idx ow, wi, wm, w1, w2, hd1, s1, s2, dl2, hd2, SS, bne_self_eq_false, wr_def, obOf, List.all_cons, List.all_nil, List.map_cons, List.map_nil, List.length_cons, List.length_nil, List.take_zero, List.take_succ_cons, List.take_nil, List.drop_zero, List.drop_succ_cons, List.drop_nil, Nat.reduceAdd, Nat.reduceMul, Nat.reduceSub, if_true, Nat.reduceLT, Nat.reduceLeDiff, ite_true, ite_false, Nat.reduceEqDiff, if_false, reduceCtorEq, ne_eq, List.getD, List.getElem?_cons_zero, List.getElem?_cons_succ, Option.getD_some, Option.bind_some, Option.map_some, Option.isSome_some, reduceIte, List.length_append, List.append_assoc, List.cons_append, List.nil_append, Option.some.injEq, forall_const, implies_true, Int.reduceNeg, eq_self, Prod.mk.injEq, List.self_eq_append_right, List.append_nil, exists_eq_left, exists_eq_left', exists_and_left, exists_eq_right, exists_and_right]
                exact ⟨_, by omega, m + 1, rfl, by omega, by omega, _, rfl, nx, rfl, rfl, by rw [p4, p2, List.length_append]; exact hln, _, _, Sc.step hm1 hSm (Or.inl ⟨hc1, rfl, rfl⟩) (Or.inr ⟨by rw [upd_same]; omega, rfl, rfl⟩), p3⟩
            · have hd1 : decide (sl M u v (fo a) m < least' m) = false := decide_eq_false hc1
              by_cases hc2 : least' m < δ
              · have hd2 : decide (least' m < δ) = true := decide_eq_true hc2
                simp (config := {maxSteps := 8000000}) only [e0, e4, e5, e6, e7, e9, e10, e11, e12, e13, hc, hw1, o1, isPtr_idx o1, d1, hs, oc, isPtr_idx oc, dc, or, isPtr_idx or, dr, ou, isPtr_idx ou, du, ov, isPtr_idx ov, dv, ol, isPtr_idx ol, dl, ow, isPtr_idx ow, wi, wm, w1, w2, hd1, hd2, SS, bne_self_eq_false, wr_def, obOf, List.all_cons, List.all_nil, List.map_cons, List.map_nil, List.length_cons, List.length_nil, List.take_zero, List.take_succ_cons, List.take_nil, List.drop_zero, List.drop_succ_cons, List.drop_nil, Nat.reduceAdd, Nat.reduceMul, Nat.reduceSub, if_true, Nat.reduceLT, Nat.reduceLeDiff, ite_true, ite_false, Nat.reduceEqDiff, if_false, reduceCtorEq, ne_eq, List.getD, List.getElem?_cons_zero, List.getElem?_cons_succ, Option.getD_some, Option.bind_some, Option.map_some, Option.isSome_some, reduceIte, List.length_append, List.append_assoc, List.cons_append, List.nil_append, Option.some.injEq, forall_const, implies_true, Int.reduceNeg, eq_self, Prod.mk.injEq, List.self_eq_append_right, List.append_nil, exists_eq_left, exists_eq_left', exists_and_left, exists_eq_right, exists_and_right]
                exact ⟨_, by omega, m + 1, rfl, by omega, by omega, _, rfl, m, rfl, rfl, hln, _, _, Sc.step hm1 hSm (Or.inr ⟨by omega, rfl, rfl⟩) (Or.inl ⟨hc2, rfl, rfl⟩), hp⟩
              · have hd2 : decide (least' m < δ) = false := decide_eq_false hc2
                simp (config := {maxSteps := 8000000}) only [e0, e4, e5, e6, e7, e9, e10, e11, e12, e13, hc, hw1, o1, isPtr_idx o1, d1, hs, oc, isPtr_idx oc, dc, or, isPtr_idx or, dr, ou, isPtr_idx ou, du, ov, isPtr_idx ov, dv, ol, isPtr_idx ol, dl, ow, isPtr_idx ow, wi, wm, w1, w2, hd1, hd2, SS, bne_self_eq_false, wr_def, obOf, List.all_cons, List.all_nil, List.map_cons, List.map_nil, List.length_cons, List.length_nil, List.take_zero, List.take_succ_cons, List.take_nil, List.drop_zero, List.drop_succ_cons, List.drop_nil, Nat.reduceAdd, Nat.reduceMul, Nat.reduceSub, if_true, Nat.reduceLT, Nat.reduceLeDiff, ite_true, ite_false, Nat.reduceEqDiff, if_false, reduceCtorEq, ne_eq, List.getD, List.getElem?_cons_zero, List.getElem?_cons_succ, Option.getD_some, Option.bind_some, Option.map_some, Option.isSome_some, reduceIte, List.length_append, List.append_assoc, List.cons_append, List.nil_append, Option.some.injEq, forall_const, implies_true, Int.reduceNeg, eq_self, Prod.mk.injEq, List.self_eq_append_right, List.append_nil, exists_eq_left, exists_eq_left', exists_and_left, exists_eq_right, exists_and_right]
                exact ⟨_, by omega, m + 1, rfl, by omega, by omega, _, rfl, nx, rfl, rfl, hln, _, _, Sc.step hm1 hSm (Or.inr ⟨by omega, rfl, rfl⟩) (Or.inr ⟨by omega, rfl, rfl⟩), hp⟩
          · rw [hSm] at d1
            simp (config := {maxSteps := 8000000}) only [e0, e4, e5, e6, e7, e9, e10, e11, e12, e13, hc, hw1, o1, isPtr_idx o1, d1, SS, bne_self_eq_false, wr_def, obOf, List.all_cons, List.all_nil, List.map_cons, List.map_nil, List.length_cons, List.length_nil, List.take_zero, List.take_succ_cons, List.take_nil, List.drop_zero, List.drop_succ_cons, List.drop_nil, Nat.reduceAdd, Nat.reduceMul, Nat.reduceSub, if_true, Nat.reduceLT, Nat.reduceLeDiff, ite_true, ite_false, Nat.reduceEqDiff, if_false, reduceCtorEq, ne_eq, List.getD, List.getElem?_cons_zero, List.getElem?_cons_succ, Option.getD_some, Option.bind_some, Option.map_some, Option.isSome_some, reduceIte, List.length_append, List.append_assoc, List.cons_append, List.nil_append, Option.some.injEq, forall_const, implies_true, Int.reduceNeg, eq_self, Prod.mk.injEq, List.self_eq_append_right, List.append_nil, exists_eq_left, exists_eq_left', exists_and_left, exists_eq_right, exists_and_right]
            exact ⟨_, by omega, m + 1, rfl, by omega, by omega, _, rfl, nx, rfl, rfl, hln, _, _, Sc.skip hSm, hp⟩
        · have hc : decide ((m : Int) < ((C + 1 : Nat) : Int)) = false := decide_eq_false (by omega)
          simp (config := {maxSteps := 8000000}) only [e0, e4, e5, e6, e7, e9, e10, e11, e12, e13, hc, SS, bne_self_eq_false, wr_def, obOf, List.all_cons, List.all_nil, List.map_cons, List.map_nil, List.length_cons, List.length_nil, List.take_zero, List.take_succ_cons, List.take_nil, List.drop_zero, List.drop_succ_cons, List.drop_nil, Nat.reduceAdd, Nat.reduceMul, Nat.reduceSub, if_true, Nat.reduceLT, Nat.reduceLeDiff, ite_true, ite_false, Nat.reduceEqDiff, if_false, reduceCtorEq, ne_eq, List.getD, List.getElem?_cons_zero, List.getElem?_cons_succ, Option.getD_some, Option.bind_some, Option.map_some, Option.isSome_some, reduceIte, List.length_append, List.append_assoc, List.cons_append, List.nil_append, Option.some.injEq, forall_const, implies_true, Int.reduceNeg, eq_self, Prod.mk.injEq, List.self_eq_append_right, List.append_nil, exists_eq_left, exists_eq_left', exists_and_left, exists_eq_right, exists_and_right]
          have : m = C + 1 := by omega
          subst this
          exact ⟨_, rfl, nx, rfl, hln, _, _, Sc, hp⟩
      · clear p1 hln2 e0 e4 e5 e6 e7 e9 o1 o2
        rintro e f1 h1 hn1 ht1 ⟨rfl, δ, nx, e0, e4, e5, e6, e7, e11, e12, hln, least', way', Sc, hp⟩
        obtain ⟨n1, n2, n3, n4, n5, n6⟩ := P.next hrC hM ha Sc
        have hv0 := P.v0
        have hr64 : (r : Int) * 1125899906842624 ≤ 64 * 1125899906842624 := Int.mul_le_mul_of_nonneg_right (by omega) (by omega)
        have h1t : h1.take H.length = H := ht1.trans hBt
        clear ht1 hBt
        simp (config := {maxSteps := 8000000}) only [e0, e4, e5, e6, e7, e11, e12, SS, bne_self_eq_false, wr_def, obOf, List.all_cons, List.all_nil, List.map_cons, List.map_nil, List.length_cons, List.length_nil, List.take_zero, List.take_succ_cons, List.take_nil, List.drop_zero, List.drop_succ_cons, List.drop_nil, Nat.reduceAdd, Nat.reduceMul, Nat.reduceSub, if_true, Nat.reduceLT, Nat.reduceLeDiff, ite_true, ite_false, Nat.reduceEqDiff, if_false, reduceCtorEq, ne_eq, List.getD, List.getElem?_cons_zero, List.getElem?_cons_succ, Option.getD_some, Option.bind_some, Option.map_some, Option.isSome_some, reduceIte, List.length_append, List.append_assoc, List.cons_append, List.nil_append, Option.some.injEq, forall_const, implies_true, Int.reduceNeg, eq_self, Prod.mk.injEq, List.self_eq_append_right, List.append_nil, exists_eq_left, exists_eq_left', exists_and_left, exists_eq_right, exists_and_right]
        refine W.mono (Q := fun e f1 h1 => e = .ex 6 ∧ f1 0 = .ptr sid 0 0 ∧ f1 4 = .int .i64 ((C + 1 : Nat) : Int) ∧ f1 5 = vl ∧ f1 6 = vw ∧ f1 7 = vd ∧ f1 12 = .int .i64 (nx : Int) ∧ H.length + x.length ≤ h1.length ∧ ∃ u' v' least'', Shf (upd done a true) fo δ u v least' (C + 1) u' v' least'' ∧ Hp H.length h1 sid vc vr vk vo vl vw vd R C u' v' fo least'' way' (upd done a true))
          (W_loop (fun q f1 h1 => ∃ m : Nat, q = C + 1 - m ∧ m ≤ C + 1 ∧ f1 0 = .ptr sid 0 0 ∧ f1 4 = .int .i64 ((C + 1 : Nat) : Int) ∧ f1 5 = vl ∧ f1 6 = vw ∧ f1 7 = vd ∧ f1 11 = .int .i64 δ ∧ f1 12 = .int .i64 (nx : Int) ∧ f1 114 = .int .i64 ((C + 1 : Nat) : Int) ∧ f1 115 = .int .i64 (m : Int) ∧ H.length + x.length ≤ h1.length ∧ ∃ u' v' least'', Shf (upd done a true) fo δ u v least' m u' v' least'' ∧ Hp H.length h1 sid vc vr vk vo vl vw vd R C u' v' fo least'' way' (upd done a true)) (by omega) (C + 1)
            ⟨0, by omega, by omega, by simp only [e0, SS, bne_self_eq_false, wr_def, obOf, List.all_cons, List.all_nil, List.map_cons, List.map_nil, List.length_cons, List.length_nil, List.take_zero, List.take_succ_cons, List.take_nil, List.drop_zero, List.drop_succ_cons, List.drop_nil, Nat.reduceAdd, Nat.reduceMul, Nat.reduceSub, if_true, Nat.reduceLT, Nat.reduceLeDiff, ite_true, ite_false, Nat.reduceEqDiff, if_false, reduceCtorEq, ne_eq, List.getD, List.getElem?_cons_zero, List.getElem?_cons_succ, Option.getD_some, Option.bind_some, Option.map_some, Option.isSome_some, reduceIte, List.length_append, List.append_assoc, List.cons_append, List.nil_append, Option.some.injEq, forall_const, implies_true, Int.reduceNeg, eq_self, Prod.mk.injEq, List.self_eq_append_right, List.append_nil, exists_eq_left, exists_eq_left', exists_and_left, exists_eq_right, exists_and_right], by simp only [e4, SS, bne_self_eq_false, wr_def, obOf, List.all_cons, List.all_nil, List.map_cons, List.map_nil, List.length_cons, List.length_nil, List.take_zero, List.take_succ_cons, List.take_nil, List.drop_zero, List.drop_succ_cons, List.drop_nil, Nat.reduceAdd, Nat.reduceMul, Nat.reduceSub, if_true, Nat.reduceLT, Nat.reduceLeDiff, ite_true, ite_false, Nat.reduceEqDiff, if_false, reduceCtorEq, ne_eq, List.getD, List.getElem?_cons_zero, List.getElem?_cons_succ, Option.getD_some, Option.bind_some, Option.map_some, Option.isSome_some, reduceIte, List.length_append, List.append_assoc, List.cons_append, List.nil_append, Option.some.injEq, forall_const, implies_true, Int.reduceNeg, eq_self, Prod.mk.injEq, List.self_eq_append_right, List.append_nil, exists_eq_left, exists_eq_left', exists_and_left, exists_eq_right, exists_and_right], by simp only [e5, SS, bne_self_eq_false, wr_def, obOf, List.all_cons, List.all_nil, List.map_cons, List.map_nil, List.length_cons, List.length_nil, List.take_zero, List.take_succ_cons, List.take_nil, List.drop_zero, List.drop_succ_cons, List.drop_nil, Nat.reduceAdd, Nat.reduceMul, Nat.reduceSub, if_true, Nat.reduceLT, Nat.reduceLeDiff, ite_true, ite_false, Nat.reduceEqDiff, if_false, reduceCtorEq, ne_eq, List.getD, List.getElem?_cons_zero, List.getElem?_cons_succ, Option.getD_some, Option.bind_some, Option.map_some, Option.isSome_some, reduceIte, List.length_append, List.append_assoc, List.cons_append, List.nil_append, Option.some.injEq, forall_const, implies_true, Int.reduceNeg, eq_self, Prod.mk.injEq, List.self_eq_append_right, List.append_nil, exists_eq_left, exists_eq_left', exists_and_left, exists_eq_right, exists_and_right], by simp only [e6, SS, bne_self_eq_false, wr_def, obOf, List.all_cons, List.all_nil, List.map_cons, List.map_nil, List.length_cons, List.length_nil, List.take_zero, List.take_succ_cons, List.take_nil, List.drop_zero, List.drop_succ_cons, List.drop_nil, Nat.reduceAdd, Nat.reduceMul, Nat.reduceSub, if_true, Nat.reduceLT, Nat.reduceLeDiff, ite_true, ite_false, Nat.reduceEqDiff, if_false, reduceCtorEq, ne_eq, List.getD, List.getElem?_cons_zero, List.getElem?_cons_succ, Option.getD_some, Option.bind_some, Option.map_some, Option.isSome_some, reduceIte, List.length_append, List.append_assoc, List.cons_append, List.nil_append, Option.some.injEq, forall_const, implies_true, Int.reduceNeg, eq_self, Prod.mk.injEq, List.self_eq_append_right, List.append_nil, exists_eq_left, exists_eq_left', exists_and_left, exists_eq_right, exists_and_right], by simp only [e7, SS, bne_self_eq_false, wr_def, obOf, List.all_cons, List.all_nil, List.map_cons, List.map_nil, List.length_cons, List.length_nil, List.take_zero, List.take_succ_cons, List.take_nil, List.drop_zero, List.drop_succ_cons, List.drop_nil, Nat.reduceAdd, Nat.reduceMul, Nat.reduceSub, if_true, Nat.reduceLT, Nat.reduceLeDiff, ite_true, ite_false, Nat.reduceEqDiff, if_false, reduceCtorEq, ne_eq, List.getD, List.getElem?_cons_zero, List.getElem?_cons_succ, Option.getD_some, Option.bind_some, Option.map_some, Option.isSome_some, reduceIte, List.length_append, List.append_assoc, List.cons_append, List.nil_append, Option.some.injEq, forall_const, implies_true, Int.reduceNeg, eq_self, Prod.mk.injEq, List.self_eq_append_right, List.append_nil, exists_eq_left, exists_eq_left', exists_and_left, exists_eq_right, exists_and_right], by simp only [e11, SS, bne_self_eq_false, wr_def, obOf, List.all_cons, List.all_nil, List.map_cons, List.map_nil, List.length_cons, List.length_nil, List.take_zero, List.take_succ_cons, List.take_nil, List.drop_zero, List.drop_succ_cons, List.drop_nil, Nat.reduceAdd, Nat.reduceMul, Nat.reduceSub, if_true, Nat.reduceLT, Nat.reduceLeDiff, ite_true, ite_false, Nat.reduceEqDiff, if_false, reduceCtorEq, ne_eq, List.getD, List.getElem?_cons_zero, List.getElem?_cons_succ, Option.getD_some, Option.bind_some, Option.map_some, Option.isSome_some, reduceIte, List.length_append, List.append_assoc, List.cons_append, List.nil_append, Option.some.injEq, forall_const, implies_true, Int.reduceNeg, eq_self, Prod.mk.injEq, List.self_eq_append_right, List.append_nil, exists_eq_left, exists_eq_left', exists_and_left, exists_eq_right, exists_and_right], by simp only [e12, SS, bne_self_eq_false, wr_def, obOf, List.all_cons, List.all_nil, List.map_cons, List.map_nil, List.length_cons, List.length_nil, List.take_zero, List.take_succ_cons, List.take_nil, List.drop_zero, List.drop_succ_cons, List.drop_nil, Nat.reduceAdd, Nat.reduceMul, Nat.reduceSub, if_true, Nat.reduceLT, Nat.reduceLeDiff, ite_true, ite_false, Nat.reduceEqDiff, if_false, reduceCtorEq, ne_eq, List.getD, List.getElem?_cons_zero, List.getElem?_cons_succ, Option.getD_some, Option.bind_some, Option.map_some, Option.isSome_some, reduceIte, List.length_append, List.append_assoc, List.cons_append, List.nil_append, Option.some.injEq, forall_const, implies_true, Int.reduceNeg, eq_self, Prod.mk.injEq, List.self_eq_append_right, List.append_nil, exists_eq_left, exists_eq_left', exists_and_left, exists_eq_right, exists_and_right], rfl, rfl, hln, u, v, least', Shf.init, hp⟩ ?_) ?_
        · clear hp e0 e4 e5 e6 e7 e11 e12 hln
          rintro q f1 h2 hn2 ht2 ⟨m, rfl, hm, e0, e4, e5, e6, e7, e11, e12, e114, e115, hln, u', v', least'', Sh, hp⟩
          have hw1 : IntKind.i64.wrap ((m : Int) + 1) = ((m + 1 : Nat) : Int) := by rw [wrap64 (by omega) (by omega)]; omega
          by_cases hmc : m < C + 1
          · have hc : decide ((m : Int) < ((C + 1 : Nat) : Int)) = true := decide_eq_true (by omega)
            have o1 := hp.don.ok hmc
            have d1 := hp.don.ld hmc
            simp only [gB] at d1
            cases hSm : upd done a true m
            · rw [hSm] at d1
              have hmn := (P.nmem m).1 hSm
              have hm0 : m ≠ 0 := fun e => hmn (by rw [e]; exact P.trl.zero)
              obtain ⟨g1, g2, g3⟩ := P.found hrC hM Sc m (by omega) (by omega) hmn
              have g4 := P.slN hrC hM (fo (way' m)) m (by omega) (by omega)
              have g5 := Sc.mn m (by omega) hmc hSm
              have ol := hp.lst.ok hmc
              have dl := hp.lst.ld hmc
              have el := Sh.l2 m (Or.inl (Nat.le_refl _))
              have w1 : IntKind.i64.wrap (least'' m - δ) = least'' m - δ := wrap64 (by omega) (by omega)
              have s1 := hp.lst.stOk hmc (least'' m - δ)
              obtain ⟨p1, p2, -⟩ := hp.stLst S hmc (least'' m - δ)
              simp only [gI] at dl s1
              simp (config := {maxSteps := 8000000}) only [e0, e4, e5, e6, e7, e11, e12, e114, e115, hc, hw1, o1, isPtr_idx o1, d1, ol, isPtr_idx ol, dl, w1, s1, SS, bne_self_eq_false, wr_def, obOf, List.all_cons, List.all_nil, List.map_cons, List.map_nil, List.length_cons, List.length_nil, List.take_zero, List.take_succ_cons, List.take_nil, List.drop_zero, List.drop_succ_cons, List.drop_nil, Nat.reduceAdd, Nat.reduceMul, Nat.reduceSub, if_true, Nat.reduceLT, Nat.reduceLeDiff, ite_true, ite_false, Nat.reduceEqDiff, if_false, reduceCtorEq, ne_eq, List.getD, List.getElem?_cons_zero, List.getElem?_cons_succ, Option.getD_some, Option.bind_some, Option.map_some, Option.isSome_some, reduceIte, List.length_append, List.append_assoc, List.cons_append, List.nil_append, Option.some.injEq, forall_const, implies_true, Int.reduceNeg, eq_self, Prod.mk.injEq, List.self_eq_append_right, List.append_nil, exists_eq_left, exists_eq_left', exists_and_left, exists_eq_right, exists_and_right]
              exact ⟨_, by omega, m + 1, rfl, by omega, rfl, by rw [p2]; exact hln, _, _, _, Sh.out hSm, p1⟩
            · rw [hSm] at d1
              have hmn := (P.mem m).1 hSm
              have hs := hp.hs.s
              have hfm := P.ofN m (by omega)
              have hf0 := P.occ' ha m hmn
              have oo := hp.hs.off.ok hmc
              have do' := hp.hs.off.ld hmc
              have ou := hp.hs.rows.ok (i := fo m) (by omega)
              have du := hp.hs.rows.ld (i := fo m) (by omega)
              have hi : ∀ k, k < m → upd done a true k = true → fo k ≠ fo m := fun k hk hSk e => by
                have := P.inj0 k m (by omega) (by omega) e (P.occ' ha k ((P.mem k).1 hSk)); omega
              have eu := Sh.u2 (fo m) hi
              have ev' := Sh.v2 m (Or.inl (Nat.le_refl _))
              have bu := P.uN hrC hM (fo m)
              have bu0 := P.upos (fo m)
              have bu1 := P.upos (r + 1)
              have bu2 := P.uN hrC hM (r + 1)
              have bv : -(66 * 1125899906842624) ≤ v m ∧ v m ≤ 0 := by
                by_cases h0 : m = 0
                · subst h0; omega
                · have := P.vN hrC hM m (by omega) (by omega); have := P.vneg m (by omega) (by omega); omega
              have w1 : IntKind.i64.wrap (u' (fo m) + δ) = u' (fo m) + δ := wrap64 (by omega) (by omega)
              have w2 : IntKind.i64.wrap (v' m - δ) = v' m - δ := wrap64 (by omega) (by omega)
              have s1 := hp.hs.rows.stOk (i := fo m) (by omega) (u' (fo m) + δ)
              obtain ⟨p1, p2, -⟩ := hp.stRows S (i := fo m) (by omega) (u' (fo m) + δ)
              have hs2 := p1.hs.s
              have ov := p1.hs.cols.ok hmc
              have dv := p1.hs.cols.ld hmc
              have s2 := p1.hs.cols.stOk hmc (v' m - δ)
              obtain ⟨p3, p4, -⟩ := p1.stCols S hmc (v' m - δ)
              simp only [gI, gN] at do' du s1 dv s2
              simp (config := {maxSteps := 8000000}) only [e0, e4, e5, e6, e7, e11, e12, e114, e115, hc, hw1, o1, isPtr_idx o1, d1, hs, oo, isPtr_idx oo, do', ou, isPtr_idx ou, du, w1, s1, hs2, ov, isPtr_idx ov, dv, w2, s2, SS, bne_self_eq_false, wr_def, obOf, List.all_cons, List.all_nil, List.map_cons, List.map_nil, List.length_cons, List.length_nil, List.take_zero, List.take_succ_cons, List.take_nil, List.drop_zero, List.drop_succ_cons, List.drop_nil, Nat.reduceAdd, Nat.reduceMul, Nat.reduceSub, if_true, Nat.reduceLT, Nat.reduceLeDiff, ite_true, ite_false, Nat.reduceEqDiff, if_false, reduceCtorEq, ne_eq, List.getD, List.getElem?_cons_zero, List.getElem?_cons_succ, Option.getD_some, Option.bind_some, Option.map_some, Option.isSome_some, reduceIte, List.length_append, List.append_assoc, List.cons_append, List.nil_append, Option.some.injEq, forall_const, implies_true, Int.reduceNeg, eq_self, Prod.mk.injEq, List.self_eq_append_right, List.append_nil, exists_eq_left, exists_eq_left', exists_and_left, exists_eq_right, exists_and_right]
              exact ⟨_, by omega, m + 1, rfl, by omega, rfl, by rw [p4, p2]; exact hln, _, _, _, Sh.inn hSm hi, p3⟩
          · have hc : decide ((m : Int) < ((C + 1 : Nat) : Int)) = false := decide_eq_false (by omega)
            simp (config := {maxSteps := 8000000}) only [e0, e4, e5, e6, e7, e11, e12, e114, e115, hc, SS, bne_self_eq_false, wr_def, obOf, List.all_cons, List.all_nil, List.map_cons, List.map_nil, List.length_cons, List.length_nil, List.take_zero, List.take_succ_cons, List.take_nil, List.drop_zero, List.drop_succ_cons, List.drop_nil, Nat.reduceAdd, Nat.reduceMul, Nat.reduceSub, if_true, Nat.reduceLT, Nat.reduceLeDiff, ite_true, ite_false, Nat.reduceEqDiff, if_false, reduceCtorEq, ne_eq, List.getD, List.getElem?_cons_zero, List.getElem?_cons_succ, Option.getD_some, Option.bind_some, Option.map_some, Option.isSome_some, reduceIte, List.length_append, List.append_assoc, List.cons_append, List.nil_append, Option.some.injEq, forall_const, implies_true, Int.reduceNeg, eq_self, Prod.mk.injEq, List.self_eq_append_right, List.append_nil, exists_eq_left, exists_eq_left', exists_and_left, exists_eq_right, exists_and_right]
            have : m = C + 1 := by omega
            subst this
            exact ⟨hln, _, _, _, Sh, hp⟩
        · clear hp e0 e4 e5 e6 e7 e11 e12 hln
          rintro e f1 h2 hn2 ht2 ⟨rfl, e0, e4, e5, e6, e7, e12, hln, u', v', least'', Sh, hp⟩
          have P' := P.step hrC hM ha Sc Sh
          have hs := hp.hs.s
          have oo := hp.hs.off.ok (i := nx) (by omega)
          have do' := hp.hs.off.ld (i := nx) (by omega)
          simp only [gN] at do'
          by_cases hz : fo nx = 0
          · have hc : ((fo nx : Int) == 0) = true := by rw [hz]; rfl
            simp (config := {maxSteps := 8000000}) only [e0, e4, e5, e6, e7, e12, hs, oo, isPtr_idx oo, do', hc, SS, bne_self_eq_false, wr_def, obOf, List.all_cons, List.all_nil, List.map_cons, List.map_nil, List.length_cons, List.length_nil, List.take_zero, List.take_succ_cons, List.take_nil, List.drop_zero, List.drop_succ_cons, List.drop_nil, Nat.reduceAdd, Nat.reduceMul, Nat.reduceSub, if_true, Nat.reduceLT, Nat.reduceLeDiff, ite_true, ite_false, Nat.reduceEqDiff, if_false, reduceCtorEq, ne_eq, List.getD, List.getElem?_cons_zero, List.getElem?_cons_succ, Option.getD_some, Option.bind_some, Option.map_some, Option.isSome_some, reduceIte, List.length_append, List.append_assoc, List.cons_append, List.nil_append, Option.some.injEq, forall_const, implies_true, Int.reduceNeg, eq_self, Prod.mk.injEq, List.self_eq_append_right, List.append_nil, exists_eq_left, exists_eq_left', exists_and_left, exists_eq_right, exists_and_right]
            exact ⟨nx, rfl, hln, _, _, _, _, _, _, ⟨_, P'⟩, hz, hp⟩
          · have hc : ((fo nx : Int) == 0) = false := by
              rw [beq_eq_false_iff_ne]; omega
            simp (config := {maxSteps := 8000000}) only [e0, e4, e5, e6, e7, e12, hs, oo, isPtr_idx oo, do', hc, SS, bne_self_eq_false, wr_def, obOf, List.all_cons, List.all_nil, List.map_cons, List.map_nil, List.length_cons, List.length_nil, List.take_zero, List.take_succ_cons, List.take_nil, List.drop_zero, List.drop_succ_cons, List.drop_nil, Nat.reduceAdd, Nat.reduceMul, Nat.reduceSub, if_true, Nat.reduceLT, Nat.reduceLeDiff, ite_true, ite_false, Nat.reduceEqDiff, if_false, reduceCtorEq, ne_eq, List.getD, List.getElem?_cons_zero, List.getElem?_cons_succ, Option.getD_some, Option.bind_some, Option.map_some, Option.isSome_some, reduceIte, List.length_append, List.append_assoc, List.cons_append, List.nil_append, Option.some.injEq, forall_const, implies_true, Int.reduceNeg, eq_self, Prod.mk.injEq, List.self_eq_append_right, List.append_nil, exists_eq_left, exists_eq_left', exists_and_left, exists_eq_right, exists_and_right]
            exact ⟨_, by omega, nx, rfl, hln, _, _, _, _, _, _, rfl, ⟨_, P'⟩, hz, hp⟩
    · clear hph0 p1' hlen1 hh1 e0 e1 e4 e5 e6 e7 hln
      clear hAt hn1 B
      clear u v fo least
      rintro e f1 h1 hn1 ht ⟨rfl, a, e0, e6, e9, hln, u, v, fo, least, way, done, l, P, ha, hp⟩
      have K0 := P.back ha
      simp (config := {maxSteps := 8000000}) only [e0, e6, e9, SS, bne_self_eq_false, wr_def, obOf, List.all_cons, List.all_nil, List.map_cons, List.map_nil, List.length_cons, List.length_nil, List.take_zero, List.take_succ_cons, List.take_nil, List.drop_zero, List.drop_succ_cons, List.drop_nil, Nat.reduceAdd, Nat.reduceMul, Nat.reduceSub, if_true, Nat.reduceLT, Nat.reduceLeDiff, ite_true, ite_false, Nat.reduceEqDiff, if_false, reduceCtorEq, ne_eq, List.getD, List.getElem?_cons_zero, List.getElem?_cons_succ, Option.getD_some, Option.bind_some, Option.map_some, Option.isSome_some, reduceIte, List.length_append, List.append_assoc, List.cons_append, List.nil_append, Option.some.injEq, forall_const, implies_true, Int.reduceNeg, eq_self, Prod.mk.injEq, List.self_eq_append_right, List.append_nil, exists_eq_left, exists_eq_left', exists_and_left, exists_eq_right, exists_and_right]
      refine W_loop (fun q f1 h1 => ∃ a : Nat, f1 0 = .ptr sid 0 0 ∧ f1 6 = vw ∧ f1 9 = .int .i64 (a : Int) ∧ H.length + x.length ≤ h1.length ∧ ∃ b fo', q = b.length ∧ Bk M C r u v way fo' a b ∧ Hp H.length h1 sid vc vr vk vo vl vw vd R C u v fo' least way done) (by omega) l.length ⟨a, by simp only [e0, SS, bne_self_eq_false, wr_def, obOf, List.all_cons, List.all_nil, List.map_cons, List.map_nil, List.length_cons, List.length_nil, List.take_zero, List.take_succ_cons, List.take_nil, List.drop_zero, List.drop_succ_cons, List.drop_nil, Nat.reduceAdd, Nat.reduceMul, Nat.reduceSub, if_true, Nat.reduceLT, Nat.reduceLeDiff, ite_true, ite_false, Nat.reduceEqDiff, if_false, reduceCtorEq, ne_eq, List.getD, List.getElem?_cons_zero, List.getElem?_cons_succ, Option.getD_some, Option.bind_some, Option.map_some, Option.isSome_some, reduceIte, List.length_append, List.append_assoc, List.cons_append, List.nil_append, Option.some.injEq, forall_const, implies_true, Int.reduceNeg, eq_self, Prod.mk.injEq, List.self_eq_append_right, List.append_nil, exists_eq_left, exists_eq_left', exists_and_left, exists_eq_right, exists_and_right], by simp only [e6, SS, bne_self_eq_false, wr_def, obOf, List.all_cons, List.all_nil, List.map_cons, List.map_nil, List.length_cons, List.length_nil, List.take_zero, List.take_succ_cons, List.take_nil, List.drop_zero, List.drop_succ_cons, List.drop_nil, Nat.reduceAdd, Nat.reduceMul, Nat.reduceSub, if_true, Nat.reduceLT, Nat.reduceLeDiff, ite_true, ite_false, Nat.reduceEqDiff, if_false, reduceCtorEq, ne_eq, List.getD, List.getElem?_cons_zero, List.getElem?_cons_succ, Option.getD_some, Option.bind_some, Option.map_some, Option.isSome_some, reduceIte, List.length_append, List.append_assoc, List.cons_append, List.nil_append, Option.some.injEq, forall_const, implies_true, Int.reduceNeg, eq_self, Prod.mk.injEq, List.self_eq_append_right, List.append_nil, exists_eq_left, exists_eq_left', exists_and_left, exists_eq_right, exists_and_right], by simp only [e9, SS, bne_self_eq_false, wr_def, obOf, List.all_cons, List.all_nil, List.map_cons, List.map_nil, List.length_cons, List.length_nil, List.take_zero, List.take_succ_cons, List.take_nil, List.drop_zero, List.drop_succ_cons, List.drop_nil, Nat.reduceAdd, Nat.reduceMul, Nat.reduceSub, if_true, Nat.reduceLT, Nat.reduceLeDiff, ite_true, ite_false, Nat.reduceEqDiff, if_false, reduceCtorEq, ne_eq, List.getD, List.getElem?_cons_zero, List.getElem?_cons_succ, Option.getD_some, Option.bind_some, Option.map_some, Option.isSome_some, reduceIte, List.length_append, List.append_assoc, List.cons_append, List.nil_append, Option.some.injEq, forall_const, implies_true, Int.reduceNeg, eq_self, Prod.mk.injEq, List.self_eq_append_right, List.append_nil, exists_eq_left, exists_eq_left', exists_and_left, exists_eq_right, exists_and_right], hln, l, fo, rfl, K0, hp⟩ ?_
      clear hp e0 e6 e9 hln K0
      rintro q f1 h2 hn2 ht2 ⟨a', e0, e6, e9, hln, b, fo', rfl, K, hp⟩
      by_cases ha0 : a' = 0
      · subst ha0
        have hc : (((0 : Nat) : Int) != 0) = false := rfl
        have KB := K.fin P hrC hM
        simp (config := {maxSteps := 8000000}) only [e0, e6, e9, hc, SS, bne_self_eq_false, wr_def, obOf, List.all_cons, List.all_nil, List.map_cons, List.map_nil, List.length_cons, List.length_nil, List.take_zero, List.take_succ_cons, List.take_nil, List.drop_zero, List.drop_succ_cons, List.drop_nil, Nat.reduceAdd, Nat.reduceMul, Nat.reduceSub, if_true, Nat.reduceLT, Nat.reduceLeDiff, ite_true, ite_false, Nat.reduceEqDiff, if_false, reduceCtorEq, ne_eq, List.getD, List.getElem?_cons_zero, List.getElem?_cons_succ, Option.getD_some, Option.bind_some, Option.map_some, Option.isSome_some, reduceIte, List.length_append, List.append_assoc, List.cons_append, List.nil_append, Option.some.injEq, forall_const, implies_true, Int.reduceNeg, eq_self, Prod.mk.injEq, List.self_eq_append_right, List.append_nil, exists_eq_left, exists_eq_left', exists_and_left, exists_eq_right, exists_and_right]
        exact ⟨rfl, hln, _, _, _, KB, hp.hs⟩
      · have hc : ((a' : Int) != 0) = true := by rw [bne_iff_ne]; omega
        have haC := K.inC a' (by simp)
        have hwC := K.inC (way a') (List.mem_cons_of_mem _ (K.tr.head_way ha0))
        obtain ⟨b', hlt, K'⟩ := K.step ha0
        have hs := hp.hs.s
        have oo := hp.hs.off.ok (i := a') (by omega)
        have ow := hp.wy.ok (i := a') (by omega)
        have dw := hp.wy.ld (i := a') (by omega)
        have oo2 := hp.hs.off.ok (i := way a') (by omega)
        have do2 := hp.hs.off.ld (i := way a') (by omega)
        have s1 := hp.hs.off.stOk (i := a') (by omega) (fo' (way a'))
        obtain ⟨p1, p2, -⟩ := hp.stOf S (i := a') (by omega) (fo' (way a'))
        have dw2 := p1.wy.ld (i := a') (by omega)
        simp only [gN] at dw do2 s1 dw2
        simp (config := {maxSteps := 8000000}) only [e0, e6, e9, hc, hs, oo, isPtr_idx oo, ow, isPtr_idx ow, dw, oo2, isPtr_idx oo2, do2, s1, dw2, SS, bne_self_eq_false, wr_def, obOf, List.all_cons, List.all_nil, List.map_cons, List.map_nil, List.length_cons, List.length_nil, List.take_zero, List.take_succ_cons, List.take_nil, List.drop_zero, List.drop_succ_cons, List.drop_nil, Nat.reduceAdd, Nat.reduceMul, Nat.reduceSub, if_true, Nat.reduceLT, Nat.reduceLeDiff, ite_true, ite_false, Nat.reduceEqDiff, if_false, reduceCtorEq, ne_eq, List.getD, List.getElem?_cons_zero, List.getElem?_cons_succ, Option.getD_some, Option.bind_some, Option.map_some, Option.isSome_some, reduceIte, List.length_append, List.append_assoc, List.cons_append, List.nil_append, Option.some.injEq, forall_const, implies_true, Int.reduceNeg, eq_self, Prod.mk.injEq, List.self_eq_append_right, List.append_nil, exists_eq_left, exists_eq_left', exists_and_left, exists_eq_right, exists_and_right]
        exact ⟨_, hlt, way a', rfl, by rw [p2]; exact hln, b', rfl, _, K', p1⟩
  obtain ⟨h', h2, wl, wa, k1, k2, k3, k4, k5, k6, u', v', fo', B', A'⟩ := call_mut (P := fun h' => ∃ u' v' fo', Base M C (r + 1) u' v' fo' ∧ Hs H.length h' sid vc vr vk vo R C u' v' fo') (v := .tup []) e116 rfl (Nat.le_of_ble_eq_true rfl) rfl (by simp) key
  refine ⟨h2, wl, wa, k1, k2, k3, by rw [k4]; simp, k5, u', v', fo', B', ?_⟩
  have hm : ∀ id ep o, id < (H ++ x).length → rdObj h' id ep = some o → rdObj h2 id ep = some o := fun id ep o hid ho => rd_take k6 hid ho
  exact ⟨hm _ _ _ (rd_lt A.s) A'.s, A'.rows.mono fun id ep o hid => hm id ep o (A.rows.lt hid), A'.cols.mono fun id ep o hid => hm id ep o (A.cols.lt hid), A'.off.mono fun id ep o hid => hm id ep o (A.off.lt hid)⟩
end Go.Proofs.Ytpehhlfbnkakpaa.Hg
