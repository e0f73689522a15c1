/- What Estimate of the package bias answers. Conditions stand in each lemma. -/
import Derived.Test.YtaekgifbehoipaaZBiasExactc
import Derived.Test.YtaekgifbehoipaaZBiasExacta
namespace Go.Proofs.Ytaekgifbehoipaa.So
open Go Go.Proofs.Ytaekgifbehoipaa.Eva Go.Proofs.Ytaekgifbehoipaa.CodeAll Go.Proofs.Ytaekgifbehoipaa.Fl
set_option linter.unusedVariables false
set_option linter.unusedSimpArgs false
set_option maxRecDepth 10000
set_option maxHeartbeats 4000000

def dR (z : Pt × Pt) : Int := IntKind.i64.wrap (z.2.d - z.1.d)
def dA (z : Pt × Pt) : Int := adiff z.1.a z.2.a
def dT (z : Pt × Pt) : Int := IntKind.i64.wrap (z.2.t - z.1.t)
theorem rchk_pc' (p : Pt) (H : List Ob) : pcall E 35 [.agg p.c] H = some (.int .i64 p.chk) := rchk_pc p.r p.t p.d p.a p.h p.k H
def oZ3 : Ob := ⟨[.int .i64 0, .int .i64 0, .int .i64 0], 0, 0, true, true⟩
/-- What Estimate answers, by what its rows' middles are. -/
def EsP (zs : List (Pt × Pt)) (w : AV) : Prop := (zs = [] ∧ w = .tup [.agg [.int .i64 0, .int .i64 0, .int .i64 0], .int .i64 8]) ∨
  ∃ r a t : Int, IsMed (zs.map dR) r ∧ IsMed (zs.map dA) a ∧ IsMed (zs.map dT) t ∧ ((Bo.chk ⟨r, a, t⟩ = 0 ∧ w = .tup [.agg [.int .i64 r, .int .i64 a, .int .i64 t], .int .i64 0]) ∨ (Bo.chk ⟨r, a, t⟩ ≠ 0 ∧ w = .tup [.agg [.int .i64 0, .int .i64 0, .int .i64 0], .int .i64 (Bo.chk ⟨r, a, t⟩)]))
theorem est_ex {H : List Ob} {V W : AV} {ts ss : List Pt} (hs : SlL H V Pt.c 6 ts) (hx : SlL H W Pt.c 6 ss) (hl : ts.length = ss.length) (hb : ss.length ≤ 256) (hc1 : ∀ p ∈ ts, p.chk = 0) (hc2 : ∀ p ∈ ss, p.chk = 0) :
    ∃ w, EsP (ts.zip ss) w ∧ pcall E 33 [V, W] H = some w := by
  have hl1 := hs.len
  have hl2 := hx.len
  have b0 : decide ((256 : Int) < (ts.length : Int)) = false := decide_eq_false (by omega)
  have b1 : decide ((256 : Int) < (ss.length : Int)) = false := decide_eq_false (by omega)
  have n0 : ((0 : Int) != 0) = false := rfl
  have b2 : ((ts.length : Int) != (ss.length : Int)) = false := by rw [hl]; simp
  have key : ∃ w, EsP (ts.zip ss) w ∧ ecall E 33 [V, W] H = some (w, H, H.length, H.length) := by
    refine so_ex e33 rfl (Nat.le_of_ble_eq_true rfl) (by rintro _ (⟨_, rfl⟩ | ⟨r, a, t, _, _, _, ⟨_, rfl⟩ | ⟨_, rfl⟩⟩) <;> rfl) ?_
    simp (config := {maxSteps := 4000000}) only [c33, hl1, hl2, b0, b1, hs.cells, hx.cells, hs.isTup, hx.isTup, SS, bne_self_eq_false, wr_def, obOf, List.all_cons, List.all_nil, List.map_cons, List.map_nil, List.length_cons, List.length_nil, List.take_zero, List.take_succ_cons, List.take_nil, List.drop_zero, List.drop_succ_cons, List.drop_nil, Nat.reduceAdd, Nat.reduceMul, Nat.reduceSub, if_true, Nat.reduceLT, Nat.reduceLeDiff, ite_true, ite_false, Nat.reduceEqDiff, if_false, reduceCtorEq, ne_eq, List.getD, List.getElem?_cons_zero, List.getElem?_cons_succ, Option.getD_some, Option.bind_some, Option.map_some, Option.isSome_some, reduceIte, List.length_append, List.append_assoc, List.cons_append, List.nil_append, Option.some.injEq, forall_const, implies_true, Int.reduceNeg, eq_self, Prod.mk.injEq, List.self_eq_append_right, List.append_nil, exists_eq_left, exists_eq_left', exists_and_left, exists_eq_right, exists_and_right]
    -- both are checked
    refine Eva.W.mono (Q := fun ex f1 h1 => ex = .ex 0 ∧ f1 0 = V ∧ f1 1 = W ∧ f1 4 = .ptr H.length 0 0 ∧ SlL h1 V Pt.c 6 ts ∧ SlL h1 W Pt.c 6 ss ∧ rdObj h1 H.length 0 = some oZ3)
      (W_loop (fun k f1 h1 => ∃ j : Nat, k = 2 - j ∧ j ≤ 2 ∧ f1 0 = V ∧ f1 1 = W ∧ f1 4 = .ptr H.length 0 0 ∧ f1 29 = .agg [V, W] ∧ f1 30 = .int .i64 (j : Int) ∧ SlL h1 V Pt.c 6 ts ∧ SlL h1 W Pt.c 6 ss ∧ rdObj h1 H.length 0 = some oZ3) (by simp) 2 ⟨0, rfl, by omega, rfl, rfl, rfl, rfl, rfl, hs.keep _, hx.keep _, rd_last (o := oZ3)⟩ ?_) ?_
    · rintro k f1 h1 hn1 ht ⟨j, rfl, hj, e0, e1, e4, e29, e30, S1, S2, R⟩
      by_cases hj2 : j < 2
      rotate_left
      · have b3 : decide ((j : Int) < 2) = false := decide_eq_false (by omega)
        simp (config := {maxSteps := 4000000}) only [e0, e1, e4, e29, e30, b3, SS, bne_self_eq_false, wr_def, obOf, List.all_cons, List.all_nil, List.map_cons, List.map_nil, List.length_cons, List.length_nil, List.take_zero, List.take_succ_cons, List.take_nil, List.drop_zero, List.drop_succ_cons, List.drop_nil, Nat.reduceAdd, Nat.reduceMul, Nat.reduceSub, if_true, Nat.reduceLT, Nat.reduceLeDiff, ite_true, ite_false, Nat.reduceEqDiff, if_false, reduceCtorEq, ne_eq, List.getD, List.getElem?_cons_zero, List.getElem?_cons_succ, Option.getD_some, Option.bind_some, Option.map_some, Option.isSome_some, reduceIte, List.length_append, List.append_assoc, List.cons_append, List.nil_append, Option.some.injEq, forall_const, implies_true, Int.reduceNeg, eq_self, Prod.mk.injEq, List.self_eq_append_right, List.append_nil, exists_eq_left, exists_eq_left', exists_and_left, exists_eq_right, exists_and_right]
        exact ⟨S1, S2, R⟩
      have b3 : decide ((j : Int) < 2) = true := decide_eq_true (by omega)
      have wj : IntKind.i64.wrap ((j : Int) + 1) = ((j + 1 : Nat) : Int) := by rw [wrap64 (by omega) (by omega)]; omega
      obtain ⟨U, us, hU, SU, hcU, hlU⟩ : ∃ U us, ixaA 2 1 false (.agg [V, W]) (.int .i64 (j : Int)) = some U ∧ SlL h1 U Pt.c 6 us ∧ (∀ p ∈ us, p.chk = 0) ∧ us.length ≤ 256 := by
        by_cases h : j = 0
        · subst h; exact ⟨V, ts, ixaA_0 1 1 .i64 V [W], S1, hc1, by omega⟩
        · have : j = 1 := by omega
          subst this; exact ⟨W, ss, ixaA_1 0 .i64 V W [], S2, hc2, hb⟩
      have lU := SU.len
      simp (config := {maxSteps := 4000000}) only [e0, e1, e4, e29, e30, b3, hU, lU, SS, bne_self_eq_false, wr_def, obOf, List.all_cons, List.all_nil, List.map_cons, List.map_nil, List.length_cons, List.length_nil, List.take_zero, List.take_succ_cons, List.take_nil, List.drop_zero, List.drop_succ_cons, List.drop_nil, Nat.reduceAdd, Nat.reduceMul, Nat.reduceSub, if_true, Nat.reduceLT, Nat.reduceLeDiff, ite_true, ite_false, Nat.reduceEqDiff, if_false, reduceCtorEq, ne_eq, List.getD, List.getElem?_cons_zero, List.getElem?_cons_succ, Option.getD_some, Option.bind_some, Option.map_some, Option.isSome_some, reduceIte, List.length_append, List.append_assoc, List.cons_append, List.nil_append, Option.some.injEq, forall_const, implies_true, Int.reduceNeg, eq_self, Prod.mk.injEq, List.self_eq_append_right, List.append_nil, exists_eq_left, exists_eq_left', exists_and_left, exists_eq_right, exists_and_right]
      refine W_loop (fun k f2 h2 => ∃ i : Nat, k = us.length - i ∧ i ≤ us.length ∧ f2 0 = V ∧ f2 1 = W ∧ f2 4 = .ptr H.length 0 0 ∧ f2 29 = .agg [V, W] ∧ f2 30 = .int .i64 (j : Int) ∧ f2 33 = U ∧ f2 34 = .int .i64 (us.length : Int) ∧ f2 35 = .int .i64 (i : Int) ∧ SlL h2 V Pt.c 6 ts ∧ SlL h2 W Pt.c 6 ss ∧ SlL h2 U Pt.c 6 us ∧ rdObj h2 H.length 0 = some oZ3) hn1 us.length ⟨0, rfl, by omega, by simp only [e0, SS, bne_self_eq_false, wr_def, obOf, List.all_cons, List.all_nil, List.map_cons, List.map_nil, List.length_cons, List.length_nil, List.take_zero, List.take_succ_cons, List.take_nil, List.drop_zero, List.drop_succ_cons, List.drop_nil, Nat.reduceAdd, Nat.reduceMul, Nat.reduceSub, if_true, Nat.reduceLT, Nat.reduceLeDiff, ite_true, ite_false, Nat.reduceEqDiff, if_false, reduceCtorEq, ne_eq, List.getD, List.getElem?_cons_zero, List.getElem?_cons_succ, Option.getD_some, Option.bind_some, Option.map_some, Option.isSome_some, reduceIte, List.length_append, List.append_assoc, List.cons_append, List.nil_append, Option.some.injEq, forall_const, implies_true, Int.reduceNeg, eq_self, Prod.mk.injEq, List.self_eq_append_right, List.append_nil, exists_eq_left, exists_eq_left', exists_and_left, exists_eq_right, exists_and_right], by simp only [e1, SS, bne_self_eq_false, wr_def, obOf, List.all_cons, List.all_nil, List.map_cons, List.map_nil, List.length_cons, List.length_nil, List.take_zero, List.take_succ_cons, List.take_nil, List.drop_zero, List.drop_succ_cons, List.drop_nil, Nat.reduceAdd, Nat.reduceMul, Nat.reduceSub, if_true, Nat.reduceLT, Nat.reduceLeDiff, ite_true, ite_false, Nat.reduceEqDiff, if_false, reduceCtorEq, ne_eq, List.getD, List.getElem?_cons_zero, List.getElem?_cons_succ, Option.getD_some, Option.bind_some, Option.map_some, Option.isSome_some, reduceIte, List.length_append, List.append_assoc, List.cons_append, List.nil_append, Option.some.injEq, forall_const, implies_true, Int.reduceNeg, eq_self, Prod.mk.injEq, List.self_eq_append_right, List.append_nil, exists_eq_left, exists_eq_left', exists_and_left, exists_eq_right, exists_and_right], by simp only [e4, SS, bne_self_eq_false, wr_def, obOf, List.all_cons, List.all_nil, List.map_cons, List.map_nil, List.length_cons, List.length_nil, List.take_zero, List.take_succ_cons, List.take_nil, List.drop_zero, List.drop_succ_cons, List.drop_nil, Nat.reduceAdd, Nat.reduceMul, Nat.reduceSub, if_true, Nat.reduceLT, Nat.reduceLeDiff, ite_true, ite_false, Nat.reduceEqDiff, if_false, reduceCtorEq, ne_eq, List.getD, List.getElem?_cons_zero, List.getElem?_cons_succ, Option.getD_some, Option.bind_some, Option.map_some, Option.isSome_some, reduceIte, List.length_append, List.append_assoc, List.cons_append, List.nil_append, Option.some.injEq, forall_const, implies_true, Int.reduceNeg, eq_self, Prod.mk.injEq, List.self_eq_append_right, List.append_nil, exists_eq_left, exists_eq_left', exists_and_left, exists_eq_right, exists_and_right], by simp only [e29, SS, bne_self_eq_false, wr_def, obOf, List.all_cons, List.all_nil, List.map_cons, List.map_nil, List.length_cons, List.length_nil, List.take_zero, List.take_succ_cons, List.take_nil, List.drop_zero, List.drop_succ_cons, List.drop_nil, Nat.reduceAdd, Nat.reduceMul, Nat.reduceSub, if_true, Nat.reduceLT, Nat.reduceLeDiff, ite_true, ite_false, Nat.reduceEqDiff, if_false, reduceCtorEq, ne_eq, List.getD, List.getElem?_cons_zero, List.getElem?_cons_succ, Option.getD_some, Option.bind_some, Option.map_some, Option.isSome_some, reduceIte, List.length_append, List.append_assoc, List.cons_append, List.nil_append, Option.some.injEq, forall_const, implies_true, Int.reduceNeg, eq_self, Prod.mk.injEq, List.self_eq_append_right, List.append_nil, exists_eq_left, exists_eq_left', exists_and_left, exists_eq_right, exists_and_right], by simp only [e30, SS, bne_self_eq_false, wr_def, obOf, List.all_cons, List.all_nil, List.map_cons, List.map_nil, List.length_cons, List.length_nil, List.take_zero, List.take_succ_cons, List.take_nil, List.drop_zero, List.drop_succ_cons, List.drop_nil, Nat.reduceAdd, Nat.reduceMul, Nat.reduceSub, if_true, Nat.reduceLT, Nat.reduceLeDiff, ite_true, ite_false, Nat.reduceEqDiff, if_false, reduceCtorEq, ne_eq, List.getD, List.getElem?_cons_zero, List.getElem?_cons_succ, Option.getD_some, Option.bind_some, Option.map_some, Option.isSome_some, reduceIte, List.length_append, List.append_assoc, List.cons_append, List.nil_append, Option.some.injEq, forall_const, implies_true, Int.reduceNeg, eq_self, Prod.mk.injEq, List.self_eq_append_right, List.append_nil, exists_eq_left, exists_eq_left', exists_and_left, exists_eq_right, exists_and_right], by simp only [SS, bne_self_eq_false, wr_def, obOf, List.all_cons, List.all_nil, List.map_cons, List.map_nil, List.length_cons, List.length_nil, List.take_zero, List.take_succ_cons, List.take_nil, List.drop_zero, List.drop_succ_cons, List.drop_nil, Nat.reduceAdd, Nat.reduceMul, Nat.reduceSub, if_true, Nat.reduceLT, Nat.reduceLeDiff, ite_true, ite_false, Nat.reduceEqDiff, if_false, reduceCtorEq, ne_eq, List.getD, List.getElem?_cons_zero, List.getElem?_cons_succ, Option.getD_some, Option.bind_some, Option.map_some, Option.isSome_some, reduceIte, List.length_append, List.append_assoc, List.cons_append, List.nil_append, Option.some.injEq, forall_const, implies_true, Int.reduceNeg, eq_self, Prod.mk.injEq, List.self_eq_append_right, List.append_nil, exists_eq_left, exists_eq_left', exists_and_left, exists_eq_right, exists_and_right], rfl, rfl, S1, S2, SU, R⟩ ?_
      clear e0 e1 e4 e29 e30 S1 S2 SU R
      rintro k f2 h2 hn2 ht2 ⟨i, rfl, hi, e0, e1, e4, e29, e30, e33, e34, e35, S1, S2, SU, R⟩
      by_cases hil : i < us.length
      · have b4 : decide ((i : Int) < (us.length : Int)) = true := decide_eq_true (by omega)
        have wi : IntKind.i64.wrap ((i : Int) + 1) = ((i + 1 : Nat) : Int) := by rw [wrap64 (by omega) (by omega)]; omega
        obtain ⟨p, hp⟩ : ∃ p, us[i]? = some p := ⟨_, List.getElem?_eq_getElem hil⟩
        have ok : idxOk 6 U (.int .i64 (i : Int)) := SU.ok (by omega) (by omega)
        have ld : ldnA 6 h2 (idxV 6 U (.int .i64 (i : Int))) = some (.agg p.c) := SU.ldn (x := p) (by omega) (by simpa using hp)
        have hck := fun H => rchk_pc' p H
        rw [hcU p (List.mem_of_getElem? hp)] at hck
        simp only [Pt.c] at ld hck
        simp (config := {maxSteps := 4000000}) only [e0, e1, e4, e29, e30, e33, e34, e35, b4, wi, ok, isPtr_idx ok, ld, hck, n0, hn2, SS, bne_self_eq_false, wr_def, obOf, List.all_cons, List.all_nil, List.map_cons, List.map_nil, List.length_cons, List.length_nil, List.take_zero, List.take_succ_cons, List.take_nil, List.drop_zero, List.drop_succ_cons, List.drop_nil, Nat.reduceAdd, Nat.reduceMul, Nat.reduceSub, if_true, Nat.reduceLT, Nat.reduceLeDiff, ite_true, ite_false, Nat.reduceEqDiff, if_false, reduceCtorEq, ne_eq, List.getD, List.getElem?_cons_zero, List.getElem?_cons_succ, Option.getD_some, Option.bind_some, Option.map_some, Option.isSome_some, reduceIte, List.length_append, List.append_assoc, List.cons_append, List.nil_append, Option.some.injEq, forall_const, implies_true, Int.reduceNeg, eq_self, Prod.mk.injEq, List.self_eq_append_right, List.append_nil, exists_eq_left, exists_eq_left', exists_and_left, exists_eq_right, exists_and_right]
        exact ⟨_, by omega, i + 1, rfl, by omega, rfl, S1.keep _, S2.keep _, SU.keep _, rd_keep R⟩
      · have b4 : decide ((i : Int) < (us.length : Int)) = false := decide_eq_false (by omega)
        simp (config := {maxSteps := 4000000}) only [e0, e1, e4, e29, e30, e33, e34, e35, b4, wj, SS, bne_self_eq_false, wr_def, obOf, List.all_cons, List.all_nil, List.map_cons, List.map_nil, List.length_cons, List.length_nil, List.take_zero, List.take_succ_cons, List.take_nil, List.drop_zero, List.drop_succ_cons, List.drop_nil, Nat.reduceAdd, Nat.reduceMul, Nat.reduceSub, if_true, Nat.reduceLT, Nat.reduceLeDiff, ite_true, ite_false, Nat.reduceEqDiff, if_false, reduceCtorEq, ne_eq, List.getD, List.getElem?_cons_zero, List.getElem?_cons_succ, Option.getD_some, Option.bind_some, Option.map_some, Option.isSome_some, reduceIte, List.length_append, List.append_assoc, List.cons_append, List.nil_append, Option.some.injEq, forall_const, implies_true, Int.reduceNeg, eq_self, Prod.mk.injEq, List.self_eq_append_right, List.append_nil, exists_eq_left, exists_eq_left', exists_and_left, exists_eq_right, exists_and_right]
        exact ⟨_, by omega, j + 1, rfl, by omega, rfl, S1, S2, R⟩
    rintro ex f1 h1 hn1 ht ⟨rfl, e0, e1, e4, S1, S2, R⟩
    simp only [oZ3] at R
    by_cases hz : ss.length = 0
    · have b3 : ((ss.length : Int) == 0) = true := by rw [beq_iff_eq]; omega
      have hzs : ts.zip ss = [] := List.length_eq_zero_iff.1 (by rw [List.length_zip]; omega)
      simp (config := {maxSteps := 4000000}) only [e0, e1, e4, hl1, hl2, b2, b3, R, rd_put_same R, hn1, Nat.le_refl, SS, bne_self_eq_false, wr_def, obOf, List.all_cons, List.all_nil, List.map_cons, List.map_nil, List.length_cons, List.length_nil, List.take_zero, List.take_succ_cons, List.take_nil, List.drop_zero, List.drop_succ_cons, List.drop_nil, Nat.reduceAdd, Nat.reduceMul, Nat.reduceSub, if_true, Nat.reduceLT, Nat.reduceLeDiff, ite_true, ite_false, Nat.reduceEqDiff, if_false, reduceCtorEq, ne_eq, List.getD, List.getElem?_cons_zero, List.getElem?_cons_succ, Option.getD_some, Option.bind_some, Option.map_some, Option.isSome_some, reduceIte, List.length_append, List.append_assoc, List.cons_append, List.nil_append, Option.some.injEq, forall_const, implies_true, Int.reduceNeg, eq_self, Prod.mk.injEq, List.self_eq_append_right, List.append_nil, exists_eq_left, exists_eq_left', exists_and_left, exists_eq_right, exists_and_right]
      exact Or.inl ⟨hzs, rfl⟩
    have b3 : ((ss.length : Int) == 0) = false := by rw [beq_eq_false_iff_ne]; omega
    simp (config := {maxSteps := 4000000}) only [e0, e1, e4, hl1, hl2, b2, b3, SS, bne_self_eq_false, wr_def, obOf, List.all_cons, List.all_nil, List.map_cons, List.map_nil, List.length_cons, List.length_nil, List.take_zero, List.take_succ_cons, List.take_nil, List.drop_zero, List.drop_succ_cons, List.drop_nil, Nat.reduceAdd, Nat.reduceMul, Nat.reduceSub, if_true, Nat.reduceLT, Nat.reduceLeDiff, ite_true, ite_false, Nat.reduceEqDiff, if_false, reduceCtorEq, ne_eq, List.getD, List.getElem?_cons_zero, List.getElem?_cons_succ, Option.getD_some, Option.bind_some, Option.map_some, Option.isSome_some, reduceIte, List.length_append, List.append_assoc, List.cons_append, List.nil_append, Option.some.injEq, forall_const, implies_true, Int.reduceNeg, eq_self, Prod.mk.injEq, List.self_eq_append_right, List.append_nil, exists_eq_left, exists_eq_left', exists_and_left, exists_eq_right, exists_and_right]
    obtain ⟨zs, hzs⟩ : ∃ zs, ts.zip ss = zs := ⟨_, rfl⟩
    have hzl : zs.length = ss.length := by rw [← hzs, List.length_zip]; omega
    rw [hzs]
    -- the rows are built
    refine Eva.W.mono (Q := fun ex f2 h2 => ex = .ex 4 ∧ f2 4 = .ptr H.length 0 0 ∧ rdObj h2 H.length 0 = some oZ3 ∧ IsL H.length h2 (f2 11) 1 true (flat intC (zs.map dR)) ss.length ∧ IsL H.length h2 (f2 12) 1 true (flat intC (zs.map dA)) ss.length ∧ IsL H.length h2 (f2 13) 1 true (flat intC (zs.map dT)) ss.length ∧ (∀ id, idOf (f2 11) id → ¬ idOf (f2 12) id ∧ ¬ idOf (f2 13) id ∧ id ≠ H.length) ∧ (∀ id, idOf (f2 12) id → ¬ idOf (f2 13) id ∧ id ≠ H.length) ∧ (∀ id, idOf (f2 13) id → id ≠ H.length))
      (W_loop (fun k f2 h2 => ∃ j : Nat, k = ss.length - j ∧ j ≤ ss.length ∧ f2 0 = V ∧ f2 4 = .ptr H.length 0 0 ∧ f2 57 = W ∧ f2 58 = .int .i64 (ss.length : Int) ∧ f2 59 = .int .i64 (j : Int) ∧ SlL h2 V Pt.c 6 ts ∧ SlL h2 W Pt.c 6 ss ∧ rdObj h2 H.length 0 = some oZ3 ∧ IsL H.length h2 (f2 11) 1 true (flat intC ((zs.take j).map dR)) j ∧ IsL H.length h2 (f2 12) 1 true (flat intC ((zs.take j).map dA)) j ∧ IsL H.length h2 (f2 13) 1 true (flat intC ((zs.take j).map dT)) j ∧ (∀ id, idOf (f2 11) id → ¬ idOf (f2 12) id ∧ ¬ idOf (f2 13) id ∧ id ≠ H.length) ∧ (∀ id, idOf (f2 12) id → ¬ idOf (f2 13) id ∧ id ≠ H.length) ∧ (∀ id, idOf (f2 13) id → id ≠ H.length)) hn1 ss.length ⟨0, rfl, by omega, by simp only [e0, SS, bne_self_eq_false, wr_def, obOf, List.all_cons, List.all_nil, List.map_cons, List.map_nil, List.length_cons, List.length_nil, List.take_zero, List.take_succ_cons, List.take_nil, List.drop_zero, List.drop_succ_cons, List.drop_nil, Nat.reduceAdd, Nat.reduceMul, Nat.reduceSub, if_true, Nat.reduceLT, Nat.reduceLeDiff, ite_true, ite_false, Nat.reduceEqDiff, if_false, reduceCtorEq, ne_eq, List.getD, List.getElem?_cons_zero, List.getElem?_cons_succ, Option.getD_some, Option.bind_some, Option.map_some, Option.isSome_some, reduceIte, List.length_append, List.append_assoc, List.cons_append, List.nil_append, Option.some.injEq, forall_const, implies_true, Int.reduceNeg, eq_self, Prod.mk.injEq, List.self_eq_append_right, List.append_nil, exists_eq_left, exists_eq_left', exists_and_left, exists_eq_right, exists_and_right], by simp only [e4, SS, bne_self_eq_false, wr_def, obOf, List.all_cons, List.all_nil, List.map_cons, List.map_nil, List.length_cons, List.length_nil, List.take_zero, List.take_succ_cons, List.take_nil, List.drop_zero, List.drop_succ_cons, List.drop_nil, Nat.reduceAdd, Nat.reduceMul, Nat.reduceSub, if_true, Nat.reduceLT, Nat.reduceLeDiff, ite_true, ite_false, Nat.reduceEqDiff, if_false, reduceCtorEq, ne_eq, List.getD, List.getElem?_cons_zero, List.getElem?_cons_succ, Option.getD_some, Option.bind_some, Option.map_some, Option.isSome_some, reduceIte, List.length_append, List.append_assoc, List.cons_append, List.nil_append, Option.some.injEq, forall_const, implies_true, Int.reduceNeg, eq_self, Prod.mk.injEq, List.self_eq_append_right, List.append_nil, exists_eq_left, exists_eq_left', exists_and_left, exists_eq_right, exists_and_right], by simp only [SS, bne_self_eq_false, wr_def, obOf, List.all_cons, List.all_nil, List.map_cons, List.map_nil, List.length_cons, List.length_nil, List.take_zero, List.take_succ_cons, List.take_nil, List.drop_zero, List.drop_succ_cons, List.drop_nil, Nat.reduceAdd, Nat.reduceMul, Nat.reduceSub, if_true, Nat.reduceLT, Nat.reduceLeDiff, ite_true, ite_false, Nat.reduceEqDiff, if_false, reduceCtorEq, ne_eq, List.getD, List.getElem?_cons_zero, List.getElem?_cons_succ, Option.getD_some, Option.bind_some, Option.map_some, Option.isSome_some, reduceIte, List.length_append, List.append_assoc, List.cons_append, List.nil_append, Option.some.injEq, forall_const, implies_true, Int.reduceNeg, eq_self, Prod.mk.injEq, List.self_eq_append_right, List.append_nil, exists_eq_left, exists_eq_left', exists_and_left, exists_eq_right, exists_and_right], rfl, rfl, S1, S2, R, IsL.nil, IsL.nil, IsL.nil, fun id h => absurd h idOf_nil, fun id h => absurd h idOf_nil, fun id h => absurd h idOf_nil⟩ ?_) ?_
    · clear e0 e1 e4 S1 S2 R
      rintro k f2 h2 hn2 ht2 ⟨j, rfl, hj, e0, e4, e57, e58, e59, S1, S2, R, L1, L2, L3, D1, D2, D3⟩
      generalize e11 : f2 11 = v1 at *
      generalize e12 : f2 12 = v2 at *
      generalize e13 : f2 13 = v3 at *
      by_cases hjl : j < ss.length
      rotate_left
      · have b4 : decide ((j : Int) < (ss.length : Int)) = false := decide_eq_false (by omega)
        have hjE : j = zs.length := by omega
        subst hjE
        rw [List.take_length] at L1 L2 L3
        rw [hzl] at L1 L2 L3
        simp (config := {maxSteps := 4000000}) only [e0, e4, e11, e12, e13, e57, e58, e59, b4, SS, bne_self_eq_false, wr_def, obOf, List.all_cons, List.all_nil, List.map_cons, List.map_nil, List.length_cons, List.length_nil, List.take_zero, List.take_succ_cons, List.take_nil, List.drop_zero, List.drop_succ_cons, List.drop_nil, Nat.reduceAdd, Nat.reduceMul, Nat.reduceSub, if_true, Nat.reduceLT, Nat.reduceLeDiff, ite_true, ite_false, Nat.reduceEqDiff, if_false, reduceCtorEq, ne_eq, List.getD, List.getElem?_cons_zero, List.getElem?_cons_succ, Option.getD_some, Option.bind_some, Option.map_some, Option.isSome_some, reduceIte, List.length_append, List.append_assoc, List.cons_append, List.nil_append, Option.some.injEq, forall_const, implies_true, Int.reduceNeg, eq_self, Prod.mk.injEq, List.self_eq_append_right, List.append_nil, exists_eq_left, exists_eq_left', exists_and_left, exists_eq_right, exists_and_right]
        exact ⟨R, L1, L2, L3, D1, D2, D3⟩
      have b4 : decide ((j : Int) < (ss.length : Int)) = true := decide_eq_true (by omega)
      have wj : IntKind.i64.wrap ((j : Int) + 1) = ((j + 1 : Nat) : Int) := by rw [wrap64 (by omega) (by omega)]; omega
      obtain ⟨s, hs'⟩ : ∃ p, ss[j]? = some p := ⟨_, List.getElem?_eq_getElem hjl⟩
      obtain ⟨t, ht'⟩ : ∃ p, ts[j]? = some p := ⟨_, List.getElem?_eq_getElem (by omega)⟩
      have hz : zs[j]? = some (t, s) := by rw [← hzs, List.getElem?_zip_eq_some]; exact ⟨ht', hs'⟩
      have ok1 : idxOk 6 W (.int .i64 (j : Int)) := S2.ok (by omega) (by omega)
      have ld1 : ldnA 6 h2 (idxV 6 W (.int .i64 (j : Int))) = some (.agg s.c) := S2.ldn (x := s) (by omega) (by simpa using hs')
      have ok2 : idxOk 6 V (.int .i64 (j : Int)) := S1.ok (by omega) (by omega)
      have ldt : ∀ (h : List Ob), SlL h V Pt.c 6 ts → ∀ i, i < 6 → ld1A h (fadA i (idxV 6 V (.int .i64 (j : Int)))) = getC t.c i := fun h S i hi => S.ldc (x := t) (by omega) (by simpa using ht') hi
      have q2 := ldt _ (S1.keep [⟨s.c, 0, 0, true, true⟩]) 2 (by decide)
      have l2 := L1.keep [⟨s.c, 0, 0, true, true⟩]
      have hV : ∀ id, idOf V id → id < H.length := fun id h => hs.idlt h
      have nx : ∀ (f : Pt × Pt → Int), flat intC ((zs.take (j + 1)).map f) = flat intC ((zs.take j).map f) ++ [.int .i64 (f (t, s))] := fun f => by
        rw [List.take_add_one, hz]; simp [flat, intC]
      have lt1 : ∀ id, idOf v1 id → id < h2.length := fun id h => L1.idlt h
      have lt2 : ∀ id, idOf v2 id → id < h2.length := fun id h => L2.idlt h
      have lt3 : ∀ id, idOf v3 id → id < h2.length := fun id h => L3.idlt h
      have ge1 : ∀ id, idOf v1 id → H.length ≤ id := fun id h => L1.idge h
      have ge2 : ∀ id, idOf v2 id → H.length ≤ id := fun id h => L2.idge h
      have ge3 : ∀ id, idOf v3 id → H.length ≤ id := fun id h => L3.idge h
      have hHl := rd_lt R
      simp only [Pt.c] at ld1 q2
      simp (config := {maxSteps := 4000000}) only [e0, e4, e11, e12, e13, e57, e58, e59, b4, ok1, isPtr_idx ok1, ld1, ok2, isPtr_idx ok2, q2, isPtr_fad, fad_fad, hn2, getC, SS, bne_self_eq_false, wr_def, obOf, List.all_cons, List.all_nil, List.map_cons, List.map_nil, List.length_cons, List.length_nil, List.take_zero, List.take_succ_cons, List.take_nil, List.drop_zero, List.drop_succ_cons, List.drop_nil, Nat.reduceAdd, Nat.reduceMul, Nat.reduceSub, if_true, Nat.reduceLT, Nat.reduceLeDiff, ite_true, ite_false, Nat.reduceEqDiff, if_false, reduceCtorEq, ne_eq, List.getD, List.getElem?_cons_zero, List.getElem?_cons_succ, Option.getD_some, Option.bind_some, Option.map_some, Option.isSome_some, reduceIte, List.length_append, List.append_assoc, List.cons_append, List.nil_append, Option.some.injEq, forall_const, implies_true, Int.reduceNeg, eq_self, Prod.mk.injEq, List.self_eq_append_right, List.append_nil, exists_eq_left, exists_eq_left', exists_and_left, exists_eq_right, exists_and_right]
      refine appK_at (c := [.int .i64 (dR (t, s))]) (rw' := true) (fl' := true) (L1.keep _) (by simp [rdObj, dR]) (by rw [flat_len (k := 1) (fun _ => rfl), List.length_map, List.length_take]; omega) rfl (by unfold appLim; omega) (by simp; omega) (fun v1' g1 L1' fr1 len1 id1 => ?_)
      have keep1 : ∀ id ep o, rdObj h2 id ep = some o → ¬ idOf v1 id → rdObj g1 id ep = some o := fun id ep o ho hne => fr1 id ep o (rd_keep ho) hne
      simp only [List.length_append, List.length_cons, List.length_nil] at len1 id1
      have A1 : SlL g1 V Pt.c 6 ts := S1.mono fun id ep o hid ho => keep1 id ep o ho (fun h => by have := ge1 id h; have := hV id hid; omega)
      have B1 : SlL g1 W Pt.c 6 ss := S2.mono fun id ep o hid ho => keep1 id ep o ho (fun h => by have := ge1 id h; have := hx.idlt hid; omega)
      have R1 := keep1 _ _ _ R (fun h => (D1 _ h).2.2 rfl)
      have r15 : rdObj g1 h2.length 0 = some ⟨s.c, 0, 0, true, true⟩ := fr1 _ _ _ (by simp [rdObj, Pt.c]) (fun h => by have := lt1 _ h; omega)
      have M2 := L2.mono fun id ep o hid ho => keep1 id ep o ho (fun h => (D1 id h).1 hid)
      have M3 := L3.mono fun id ep o hid ho => keep1 id ep o ho (fun h => (D1 id h).2.1 hid)
      have q3 := ldt _ A1 3 (by decide)
      have had := fun H => adiff_pc t.a s.a H
      have r15' := r15
      simp only [Pt.c] at r15' q3
      have hn3 : H.length ≤ g1.length := by omega
      simp (config := {maxSteps := 4000000}) only [e0, e4, e11, e12, e13, e57, e58, e59, ok2, isPtr_idx ok2, q3, r15', had, isPtr_fad, fad_fad, hn3, getC, SS, bne_self_eq_false, wr_def, obOf, List.all_cons, List.all_nil, List.map_cons, List.map_nil, List.length_cons, List.length_nil, List.take_zero, List.take_succ_cons, List.take_nil, List.drop_zero, List.drop_succ_cons, List.drop_nil, Nat.reduceAdd, Nat.reduceMul, Nat.reduceSub, if_true, Nat.reduceLT, Nat.reduceLeDiff, ite_true, ite_false, Nat.reduceEqDiff, if_false, reduceCtorEq, ne_eq, List.getD, List.getElem?_cons_zero, List.getElem?_cons_succ, Option.getD_some, Option.bind_some, Option.map_some, Option.isSome_some, reduceIte, List.length_append, List.append_assoc, List.cons_append, List.nil_append, Option.some.injEq, forall_const, implies_true, Int.reduceNeg, eq_self, Prod.mk.injEq, List.self_eq_append_right, List.append_nil, exists_eq_left, exists_eq_left', exists_and_left, exists_eq_right, exists_and_right]
      refine appK_at (c := [.int .i64 (dA (t, s))]) (rw' := true) (fl' := true) (M2.keep _) (by simp [rdObj, dA]) (by rw [flat_len (k := 1) (fun _ => rfl), List.length_map, List.length_take]; omega) rfl (by unfold appLim; omega) (by simp; omega) (fun v2' g2 L2' fr2 len2 id2 => ?_)
      have keep2 : ∀ id ep o, rdObj g1 id ep = some o → ¬ idOf v2 id → rdObj g2 id ep = some o := fun id ep o ho hne => fr2 id ep o (rd_keep ho) hne
      simp only [List.length_append, List.length_cons, List.length_nil] at len2 id2
      have lt1' : ∀ id, idOf v1' id → id < g1.length := fun id h => L1'.idlt h
      have A2 : SlL g2 V Pt.c 6 ts := A1.mono fun id ep o hid ho => keep2 id ep o ho (fun h => by have := ge2 id h; have := hV id hid; omega)
      have B2 : SlL g2 W Pt.c 6 ss := B1.mono fun id ep o hid ho => keep2 id ep o ho (fun h => by have := ge2 id h; have := hx.idlt hid; omega)
      have R2 := keep2 _ _ _ R1 (fun h => (D2 _ h).2 rfl)
      have r25 := keep2 _ _ _ r15 (fun h => by have := lt2 _ h; omega)
      have s12 : ∀ id, idOf v1' id → ¬ idOf v2 id ∧ ¬ idOf v3 id ∧ id ≠ H.length := fun id h => by
        rcases id1 with h1 | h1
        · have := idOf_inj h h1
          exact ⟨fun h => by have := lt2 _ h; omega, fun h => by have := lt3 _ h; omega, by omega⟩
        · exact D1 id (h1 id h)
      have N1 := L1'.mono fun id ep o hid ho => keep2 id ep o ho (s12 id hid).1
      have N3 := M3.mono fun id ep o hid ho => keep2 id ep o ho (fun h => (D2 id h).1 hid)
      have q4 := ldt _ A2 1 (by decide)
      have r25' := r25
      simp only [Pt.c] at r25' q4
      have hn4 : H.length ≤ g2.length := by omega
      simp (config := {maxSteps := 4000000}) only [e0, e4, e11, e12, e13, e57, e58, e59, ok2, isPtr_idx ok2, q4, r25', isPtr_fad, fad_fad, hn4, getC, SS, bne_self_eq_false, wr_def, obOf, List.all_cons, List.all_nil, List.map_cons, List.map_nil, List.length_cons, List.length_nil, List.take_zero, List.take_succ_cons, List.take_nil, List.drop_zero, List.drop_succ_cons, List.drop_nil, Nat.reduceAdd, Nat.reduceMul, Nat.reduceSub, if_true, Nat.reduceLT, Nat.reduceLeDiff, ite_true, ite_false, Nat.reduceEqDiff, if_false, reduceCtorEq, ne_eq, List.getD, List.getElem?_cons_zero, List.getElem?_cons_succ, Option.getD_some, Option.bind_some, Option.map_some, Option.isSome_some, reduceIte, List.length_append, List.append_assoc, List.cons_append, List.nil_append, Option.some.injEq, forall_const, implies_true, Int.reduceNeg, eq_self, Prod.mk.injEq, List.self_eq_append_right, List.append_nil, exists_eq_left, exists_eq_left', exists_and_left, exists_eq_right, exists_and_right]
      refine appK_at (c := [.int .i64 (dT (t, s))]) (rw' := true) (fl' := true) (N3.keep _) (by simp [rdObj, dT]) (by rw [flat_len (k := 1) (fun _ => rfl), List.length_map, List.length_take]; omega) rfl (by unfold appLim; omega) (by simp; omega) (fun v3' g3 L3' fr3 len3 id3 => ?_)
      have keep3 : ∀ id ep o, rdObj g2 id ep = some o → ¬ idOf v3 id → rdObj g3 id ep = some o := fun id ep o ho hne => fr3 id ep o (rd_keep ho) hne
      simp only [List.length_append, List.length_cons, List.length_nil] at len3 id3
      have lt2' : ∀ id, idOf v2' id → id < g2.length := fun id h => L2'.idlt h
      have s23 : ∀ id, idOf v2' id → ¬ idOf v1' id ∧ ¬ idOf v3 id ∧ id ≠ H.length := fun id h => by
        rcases id2 with h1 | h1
        · have := idOf_inj h h1
          exact ⟨fun h => by have := lt1' _ h; omega, fun h => by have := lt3 _ h; omega, by omega⟩
        · have := h1 id h
          exact ⟨fun h => (s12 id h).1 this, (D2 id this).1, (D2 id this).2⟩
      have s3 : ∀ id, idOf v3' id → ¬ idOf v1' id ∧ ¬ idOf v2' id ∧ id ≠ H.length := fun id h => by
        rcases id3 with h1 | h1
        · have := idOf_inj h h1
          exact ⟨fun h => by have := lt1' _ h; omega, fun h => by have := lt2' _ h; omega, by omega⟩
        · have := h1 id h
          exact ⟨fun h => (s12 id h).2.1 this, fun h => (s23 id h).2.1 this, D3 id this⟩
      have hn5 : H.length ≤ g3.length := by omega
      simp (config := {maxSteps := 4000000}) only [e0, e4, e11, e12, e13, e57, e58, e59, wj, hn5, SS, bne_self_eq_false, wr_def, obOf, List.all_cons, List.all_nil, List.map_cons, List.map_nil, List.length_cons, List.length_nil, List.take_zero, List.take_succ_cons, List.take_nil, List.drop_zero, List.drop_succ_cons, List.drop_nil, Nat.reduceAdd, Nat.reduceMul, Nat.reduceSub, if_true, Nat.reduceLT, Nat.reduceLeDiff, ite_true, ite_false, Nat.reduceEqDiff, if_false, reduceCtorEq, ne_eq, List.getD, List.getElem?_cons_zero, List.getElem?_cons_succ, Option.getD_some, Option.bind_some, Option.map_some, Option.isSome_some, reduceIte, List.length_append, List.append_assoc, List.cons_append, List.nil_append, Option.some.injEq, forall_const, implies_true, Int.reduceNeg, eq_self, Prod.mk.injEq, List.self_eq_append_right, List.append_nil, exists_eq_left, exists_eq_left', exists_and_left, exists_eq_right, exists_and_right]
      simp only [Bool.and_self, ite_self] at N1 L2' L3'
      refine ⟨_, by omega, j + 1, rfl, by omega, rfl, A2.mono fun id ep o hid ho => keep3 id ep o ho (fun h => by have := ge3 id h; have := hV id hid; omega), B2.mono fun id ep o hid ho => keep3 id ep o ho (fun h => by have := ge3 id h; have := hx.idlt hid; omega), keep3 _ _ _ R2 (fun h => D3 _ h rfl), ?_, ?_, ?_, fun id h => ⟨fun h2 => (s23 id h2).1 h, fun h2 => (s3 id h2).1 h, (s12 id h).2.2⟩, fun id h => ⟨fun h2 => (s3 id h2).2.1 h, (s23 id h).2.2⟩, fun id h => (s3 id h).2.2⟩
      · rw [nx dR]; exact N1.mono fun id ep o hid ho => keep3 id ep o ho (s12 id hid).2.1
      · rw [nx dA]; exact L2'.mono fun id ep o hid ho => keep3 id ep o ho (s23 id hid).2.1
      · rw [nx dT]; exact L3'
    clear e0 e1 e4 S1 S2 R
    rintro ex f2 h2 hn2 ht2 ⟨rfl, e4, R, L1, L2, L3, D1, D2, D3⟩
    generalize e11 : f2 11 = v1 at *
    generalize e12 : f2 12 = v2 at *
    generalize e13 : f2 13 = v3 at *
    have F1 := fs_isl (n0 := H.length) (c := intC) (sz := 1) (xs := zs.map dR) (0 : Int) (by rw [List.length_map, hzl]; exact L1)
    have F2 := fs_isl (n0 := H.length) (c := intC) (sz := 1) (xs := zs.map dA) (0 : Int) (by rw [List.length_map, hzl]; exact L2)
    have F3 := fs_isl (n0 := H.length) (c := intC) (sz := 1) (xs := zs.map dT) (0 : Int) (by rw [List.length_map, hzl]; exact L3)
    obtain ⟨r1, k1, g1, m1, l1, G1, K1, x1, rfl, M1⟩ := mid_m F1 hn2 (by rw [List.length_map]; omega) (by rw [List.length_map]; omega)
    obtain ⟨r2, k2, g2, m2, l2, G2, K2, x2, rfl, M2⟩ := mid_m (F2.mono fun id ep o hid ho => K1.2 id ep o (fun h => (D1 id h).1 hid) ho) l1 (by rw [List.length_map]; omega) (by rw [List.length_map]; omega)
    obtain ⟨r3, k3, g3, m3, l3, G3, K3, x3, rfl, M3⟩ := mid_m ((F3.mono fun id ep o hid ho => K1.2 id ep o (fun h => (D1 id h).2.1 hid) ho).mono fun id ep o hid ho => K2.2 id ep o (fun h => (D2 id h).1 hid) ho) l2 (by rw [List.length_map]; omega) (by rw [List.length_map]; omega)
    rw [← arr_list] at M1 M2 M3
    have R3 := K3.2 _ _ _ (fun h => D3 _ h rfl) (K2.2 _ _ _ (fun h => (D2 _ h).2 rfl) (K1.2 _ _ _ (fun h => (D1 _ h).2.2 rfl) R))
    simp only [oZ3] at R3
    have hck := fun H => bchk_pc x1 x2 x3 H
    have R4 := fun o => rd_keep (l := o) R3
    by_cases hc : Bo.chk ⟨x1, x2, x3⟩ = 0
    · rw [hc] at hck
      simp (config := {maxSteps := 4000000}) only [e4, e11, e12, e13, rg_callm, mcallV_fn, m1, m2, m3, l3, hck, n0, R4, rd_put_same (R4 _), Nat.le_refl, SS, bne_self_eq_false, wr_def, obOf, List.all_cons, List.all_nil, List.map_cons, List.map_nil, List.length_cons, List.length_nil, List.take_zero, List.take_succ_cons, List.take_nil, List.drop_zero, List.drop_succ_cons, List.drop_nil, Nat.reduceAdd, Nat.reduceMul, Nat.reduceSub, if_true, Nat.reduceLT, Nat.reduceLeDiff, ite_true, ite_false, Nat.reduceEqDiff, if_false, reduceCtorEq, ne_eq, List.getD, List.getElem?_cons_zero, List.getElem?_cons_succ, Option.getD_some, Option.bind_some, Option.map_some, Option.isSome_some, reduceIte, List.length_append, List.append_assoc, List.cons_append, List.nil_append, Option.some.injEq, forall_const, implies_true, Int.reduceNeg, eq_self, Prod.mk.injEq, List.self_eq_append_right, List.append_nil, exists_eq_left, exists_eq_left', exists_and_left, exists_eq_right, exists_and_right]
      exact Or.inr ⟨x1, x2, x3, M1, M2, M3, Or.inl ⟨hc, rfl⟩⟩
    · have b4 : (Bo.chk ⟨x1, x2, x3⟩ != 0) = true := bne_iff_ne.2 hc
      obtain ⟨q, hq⟩ : ∃ q, Bo.chk ⟨x1, x2, x3⟩ = q := ⟨_, rfl⟩
      rw [hq] at hck b4
      simp (config := {maxSteps := 4000000}) only [e4, e11, e12, e13, rg_callm, mcallV_fn, m1, m2, m3, l3, hck, b4, R4, rd_put_same (R4 _), Nat.le_refl, SS, bne_self_eq_false, wr_def, obOf, List.all_cons, List.all_nil, List.map_cons, List.map_nil, List.length_cons, List.length_nil, List.take_zero, List.take_succ_cons, List.take_nil, List.drop_zero, List.drop_succ_cons, List.drop_nil, Nat.reduceAdd, Nat.reduceMul, Nat.reduceSub, if_true, Nat.reduceLT, Nat.reduceLeDiff, ite_true, ite_false, Nat.reduceEqDiff, if_false, reduceCtorEq, ne_eq, List.getD, List.getElem?_cons_zero, List.getElem?_cons_succ, Option.getD_some, Option.bind_some, Option.map_some, Option.isSome_some, reduceIte, List.length_append, List.append_assoc, List.cons_append, List.nil_append, Option.some.injEq, forall_const, implies_true, Int.reduceNeg, eq_self, Prod.mk.injEq, List.self_eq_append_right, List.append_nil, exists_eq_left, exists_eq_left', exists_and_left, exists_eq_right, exists_and_right]
      exact Or.inr ⟨x1, x2, x3, M1, M2, M3, Or.inr ⟨hc, by rw [hq]⟩⟩
  obtain ⟨w, h1, h2⟩ := key
  exact ⟨w, h1, pcall_some.2 h2⟩
end Go.Proofs.Ytaekgifbehoipaa.So
/- The law BiasExact over what comes in as told. Conditions stand in each lemma. -/
namespace Go.Proofs.Ytaekgifbehoipaa.So
open Go Go.Proofs.Ytaekgifbehoipaa.Eva Go.Proofs.Ytaekgifbehoipaa.CodeAll Go.Proofs.Ytaekgifbehoipaa.Fl
set_option linter.unusedVariables false
set_option linter.unusedSimpArgs false
set_option maxRecDepth 10000
set_option maxHeartbeats 4000000

theorem pt_ok {p : Pt} (h : p.chk = 0) : 0 ≤ p.t ∧ p.t ≤ 200000 ∧ 0 ≤ p.d ∧ p.d ≤ 2000000 ∧ 0 ≤ p.a ∧ p.a ≤ 4095 := by
  unfold Pt.chk at h
  split at h
  · omega
  · rename_i hc
    simp only [Bool.or_eq_true, decide_eq_true_eq] at hc
    omega
theorem bo_ok {b : Bo} (h : b.chk = 0) : -10000 ≤ b.r ∧ b.r ≤ 10000 ∧ -2047 ≤ b.a ∧ b.a ≤ 2048 ∧ -1000 ≤ b.t ∧ b.t ≤ 1000 := by
  unfold Bo.chk at h
  split at h
  · omega
  · rename_i hc
    simp only [Bool.or_eq_true, decide_eq_true_eq] at hc
    omega
theorem mv_d {p : Pt} {b : Bo} (h1 : p.chk = 0) (h2 : b.chk = 0) : dR (p, p.mv b) = b.r ∧ dA (p, p.mv b) = b.a ∧ dT (p, p.mv b) = b.t := by
  have := pt_ok h1
  have := bo_ok h2
  have e1 : (p.mv b).d = p.d + b.r := by
    show IntKind.i64.wrap (p.d + IntKind.i64.wrap (1 * b.r)) = _
    rw [Int.one_mul, wrap64 (x := b.r) (by omega) (by omega), wrap64 (by omega) (by omega)]
  have e2 : (p.mv b).t = p.t + b.t := by
    show IntKind.i64.wrap (p.t + IntKind.i64.wrap (1 * b.t)) = _
    rw [Int.one_mul, wrap64 (x := b.t) (by omega) (by omega), wrap64 (by omega) (by omega)]
  have e3 : (p.mv b).a = (p.a + b.a) % 4096 := by
    show IntKind.i64.wrap (p.a + IntKind.i64.wrap (1 * b.a)) % 4096 = _
    rw [Int.one_mul, wrap64 (x := b.a) (by omega) (by omega), wrap64 (by omega) (by omega)]
  refine ⟨?_, ?_, ?_⟩
  · show IntKind.i64.wrap ((p.mv b).d - p.d) = _
    rw [e1, wrap64 (by omega) (by omega)]; omega
  · show adiff p.a (p.mv b).a = _
    rw [e3]
    unfold adiff
    rw [wrap64 (by omega) (by omega)]
    split <;> omega
  · show IntKind.i64.wrap ((p.mv b).t - p.t) = _
    rw [e2, wrap64 (by omega) (by omega)]; omega
/-- How many plots have the offset. -/
def gd' (b : Bo) (z : Pt × Pt) : Bool := decide (z.2 = z.1.mv b)
theorem med_good {zs : List (Pt × Pt)} {b : Bo} {f : Pt × Pt → Int} {v m : Int} (hf : ∀ z ∈ zs, gd' b z = true → f z = v) (hc : zs.length < 2 * zs.countP (gd' b)) (hm : IsMed (zs.map f) m) : m = v := by
  refine med_most hm ?_
  rw [List.length_map]
  have : (zs.map f).count v = zs.countP (fun z => f z == v) := by rw [List.count, List.countP_map]; rfl
  rw [this]
  have := List.countP_mono_left (l := zs) (p := gd' b) (q := fun z => f z == v) (fun z hz h => by rw [beq_iff_eq]; exact hf z hz h)
  omega
theorem med_one {x m : Int} (h : IsMed [x] m) : m = x := by
  obtain ⟨ys, hp, _, hm⟩ := h
  rw [List.perm_singleton] at hp
  subst hp
  simpa using hm.symm
theorem est_one (H : List Ob) (V W : AV) (hs : SlL H V Pt.c 6 [⟨0, 0, 5, 0, 0, 0⟩]) (hx : SlL H W Pt.c 6 [⟨0, 0, 8, 0, 0, 0⟩]) : pcall E 33 [V, W] H = some (.tup [.agg [.int .i64 3, .int .i64 0, .int .i64 0], .int .i64 0]) := by
  obtain ⟨w, h1, h2⟩ := est_ex hs hx rfl (by decide) (by intro p hp; simp only [List.mem_singleton] at hp; subst hp; decide) (by intro p hp; simp only [List.mem_singleton] at hp; subst hp; decide)
  rcases h1 with ⟨h, _⟩ | ⟨r, a, t, m1, m2, m3, h⟩
  · cases h
  · have e1 : r = 3 := med_one m1
    have e2 : a = 0 := med_one m2
    have e3 : t = 0 := med_one m3
    subst e1; subst e2; subst e3
    rcases h with ⟨_, rfl⟩ | ⟨h, _⟩
    · exact h2
    · exact absurd (by decide) h
end Go.Proofs.Ytaekgifbehoipaa.So
/- The law BiasExact over what comes in as told: its walk. Conditions stand in the lemma. -/
namespace Go.Proofs.Ytaekgifbehoipaa.So
open Go Go.Proofs.Ytaekgifbehoipaa.Eva Go.Proofs.Ytaekgifbehoipaa.CodeAll Go.Proofs.Ytaekgifbehoipaa.Fl
set_option linter.unusedVariables false
set_option linter.unusedSimpArgs false
set_option maxRecDepth 10000
set_option maxHeartbeats 4000000

structure BiS (b : Bo) (ts ss : List Pt) (i bad : Nat) : Prop where
  len : ss.length = i
  c1 : ∀ p ∈ ts.take i, p.chk = 0
  c2 : ∀ p ∈ ss, p.chk = 0
  c3 : i ≠ 0 → b.chk = 0
  c4 : i ≤ ((ts.take i).zip ss).countP (gd' b) + bad
  c5 : bad = 0 ∨ 2 * bad < ts.length
theorem BiS.init {b : Bo} {ts : List Pt} : BiS b ts [] 0 0 := ⟨rfl, by simp, by simp, by simp, by simp, Or.inl rfl⟩
theorem BiS.step {b : Bo} {ts ss : List Pt} {i bad bad' : Nat} {p w : Pt} (S : BiS b ts ss i bad) (hi : i ≤ ts.length) (hp : ts[i]? = some p) (h1 : p.chk = 0) (h2 : w.chk = 0) (h3 : b.chk = 0) (h : (w = p.mv b ∧ bad' = bad) ∨ (bad' = bad + 1 ∧ 2 * (bad + 1) < ts.length)) : BiS b ts (ss ++ [w]) (i + 1) bad' := by
  have e : ts.take (i + 1) = ts.take i ++ [p] := by rw [List.take_add_one, hp]; rfl
  have hz : (ts.take (i + 1)).zip (ss ++ [w]) = (ts.take i).zip ss ++ [(p, w)] := by
    rw [e, List.zip_append (by rw [List.length_take, S.len]; omega)]; rfl
  refine ⟨by rw [List.length_append, S.len]; rfl, fun q hq => ?_, fun q hq => ?_, fun _ => h3, ?_, ?_⟩
  · rw [e, List.mem_append, List.mem_singleton] at hq
    rcases hq with hq | rfl
    · exact S.c1 q hq
    · exact h1
  · rw [List.mem_append, List.mem_singleton] at hq
    rcases hq with hq | rfl
    · exact S.c2 q hq
    · exact h2
  · have := S.c4
    rw [hz, List.countP_append]
    rcases h with ⟨hw, hb⟩ | ⟨hb, _⟩
    · have : [(p, w)].countP (gd' b) = 1 := by simp [gd', hw]
      omega
    · omega
  · have := S.c5
    rcases h with ⟨_, hb⟩ | ⟨hb, _⟩ <;> omega
theorem exact_law {H : List Ob} {V0 X : AV} {ts0 ws : List Pt} (b : Bo) (hs0 : SlL H V0 Pt.c 6 ts0) (hx0 : SlL H X Pt.c 6 ws) (hb0 : ts0.length < 1125899906842624) (hb1 : ws.length < 1125899906842624) :
    ∃ r, ecall E 9 [V0, .agg b.c, X] H = some (.bool true, r) := by
  refine law_W e9 rfl (Nat.le_of_ble_eq_true rfl) ?_
  have n0 : ((0 : Int) != 0) = false := rfl
  have z0 : ((0 : Int) == 0) = true := rfl
  simp only [c9]
  refine W_seqI (Eva.W.mono (Q := fun ex f1 h1 => ex = .nrm ∧ f1 0 = V0 ∧ f1 2 = X ∧ f1 4 = .ptr H.length 0 0 ∧ h1 = H ++ [⟨b.c, 0, 0, true, true⟩]) (wc_sound _ _ _ _ (Nat.le_refl _) ?_) ?_)
  · simp (config := {maxSteps := 4000000}) only [Bo.c, SS, bne_self_eq_false, wr_def, obOf, List.all_cons, List.all_nil, List.map_cons, List.map_nil, List.length_cons, List.length_nil, List.take_zero, List.take_succ_cons, List.take_nil, List.drop_zero, List.drop_succ_cons, List.drop_nil, Nat.reduceAdd, Nat.reduceMul, Nat.reduceSub, if_true, Nat.reduceLT, Nat.reduceLeDiff, ite_true, ite_false, Nat.reduceEqDiff, if_false, reduceCtorEq, ne_eq, List.getD, List.getElem?_cons_zero, List.getElem?_cons_succ, Option.getD_some, Option.bind_some, Option.map_some, Option.isSome_some, reduceIte, List.length_append, List.append_assoc, List.cons_append, List.nil_append, Option.some.injEq, forall_const, implies_true, Int.reduceNeg, eq_self, Prod.mk.injEq, List.self_eq_append_right, List.append_nil, exists_eq_left, exists_eq_left', exists_and_left, exists_eq_right, exists_and_right]
  rintro ex f1 h1 hn1 ht ⟨rfl, e0, e2, e4, rfl⟩
  rw [thenQ_n]
  -- the example
  refine W_seqI (Eva.W.mono (Q := fun ex f1 h1 => ex = .nrm ∧ f1 0 = V0 ∧ f1 2 = X ∧ f1 4 = .ptr H.length 0 0 ∧ SlL h1 V0 Pt.c 6 ts0 ∧ SlL h1 X Pt.c 6 ws ∧ rdObj h1 H.length 0 = some ⟨b.c, 0, 0, true, true⟩) (wc_sound _ _ _ _ hn1 ?_) ?_)
  · have k1 : pcall E 33 [.sl false (H.length + 1) 0 6 0 1, .sl false (H.length + 2) 0 6 0 1] (H ++ [⟨b.c, 0, 0, true, true⟩, ⟨Pt.c ⟨0, 0, 5, 0, 0, 0⟩, 0, 6, true, true⟩, ⟨Pt.c ⟨0, 0, 8, 0, 0, 0⟩, 0, 6, true, true⟩]) = _ :=
      est_one _ _ _ ⟨fun _ => rfl, by decide, rfl, Or.inr ⟨_, 0, 0, ⟨Pt.c ⟨0, 0, 5, 0, 0, 0⟩, 0, 6, true, true⟩, rfl, by simp [rdObj], Nat.le_refl _, rfl⟩⟩ ⟨fun _ => rfl, by decide, rfl, Or.inr ⟨_, 0, 0, ⟨Pt.c ⟨0, 0, 8, 0, 0, 0⟩, 0, 6, true, true⟩, rfl, by simp [rdObj], Nat.le_refl _, rfl⟩⟩
    have d3 : ((3 : Int) != 3) = false := rfl
    simp only [Pt.c, Bo.c] at k1
    simp (config := {maxSteps := 4000000}) only [e0, e2, e4, k1, n0, d3, Bo.c, SS, bne_self_eq_false, wr_def, obOf, List.all_cons, List.all_nil, List.map_cons, List.map_nil, List.length_cons, List.length_nil, List.take_zero, List.take_succ_cons, List.take_nil, List.drop_zero, List.drop_succ_cons, List.drop_nil, Nat.reduceAdd, Nat.reduceMul, Nat.reduceSub, if_true, Nat.reduceLT, Nat.reduceLeDiff, ite_true, ite_false, Nat.reduceEqDiff, if_false, reduceCtorEq, ne_eq, List.getD, List.getElem?_cons_zero, List.getElem?_cons_succ, Option.getD_some, Option.bind_some, Option.map_some, Option.isSome_some, reduceIte, List.length_append, List.append_assoc, List.cons_append, List.nil_append, Option.some.injEq, forall_const, implies_true, Int.reduceNeg, eq_self, Prod.mk.injEq, List.self_eq_append_right, List.append_nil, exists_eq_left, exists_eq_left', exists_and_left, exists_eq_right, exists_and_right]
    exact ⟨hs0.keep _, hx0.keep _⟩
  clear e0 e2 e4
  rintro ex f1 h1 hn1 ht ⟨rfl, e0, e2, e4, S1, S2, R⟩
  rw [thenQ_n]
  -- at most thirty
  refine W_seqI (Eva.W.mono (Q := fun ex f1 h1 => ex = .nrm ∧ f1 2 = X ∧ f1 4 = .ptr H.length 0 0 ∧ SlL h1 X Pt.c 6 ws ∧ rdObj h1 H.length 0 = some ⟨b.c, 0, 0, true, true⟩ ∧ ∃ ts, ts.length ≤ 30 ∧ SlL h1 (f1 0) Pt.c 6 ts) (wc_sound _ _ _ _ hn1 ?_) ?_)
  · have len := S1.len
    by_cases c1 : 30 < ts0.length
    · have b1 : decide ((30 : Int) < (ts0.length : Int)) = true := decide_eq_true (by omega)
      obtain ⟨V, v1, v2, -⟩ := S1.slc (a := none) (b := some (30 : Int)) (lo := 0) (hi := 30) rfl rfl (by omega) (by omega)
      simp (config := {maxSteps := 4000000}) only [e0, e2, e4, len, b1, v1, SS, bne_self_eq_false, wr_def, obOf, List.all_cons, List.all_nil, List.map_cons, List.map_nil, List.length_cons, List.length_nil, List.take_zero, List.take_succ_cons, List.take_nil, List.drop_zero, List.drop_succ_cons, List.drop_nil, Nat.reduceAdd, Nat.reduceMul, Nat.reduceSub, if_true, Nat.reduceLT, Nat.reduceLeDiff, ite_true, ite_false, Nat.reduceEqDiff, if_false, reduceCtorEq, ne_eq, List.getD, List.getElem?_cons_zero, List.getElem?_cons_succ, Option.getD_some, Option.bind_some, Option.map_some, Option.isSome_some, reduceIte, List.length_append, List.append_assoc, List.cons_append, List.nil_append, Option.some.injEq, forall_const, implies_true, Int.reduceNeg, eq_self, Prod.mk.injEq, List.self_eq_append_right, List.append_nil, exists_eq_left, exists_eq_left', exists_and_left, exists_eq_right, exists_and_right]
      exact ⟨S2, R, _, by rw [List.length_take, List.length_drop]; omega, v2⟩
    · have b1 : decide ((30 : Int) < (ts0.length : Int)) = false := decide_eq_false (by omega)
      simp (config := {maxSteps := 4000000}) only [e0, e2, e4, len, b1, SS, bne_self_eq_false, wr_def, obOf, List.all_cons, List.all_nil, List.map_cons, List.map_nil, List.length_cons, List.length_nil, List.take_zero, List.take_succ_cons, List.take_nil, List.drop_zero, List.drop_succ_cons, List.drop_nil, Nat.reduceAdd, Nat.reduceMul, Nat.reduceSub, if_true, Nat.reduceLT, Nat.reduceLeDiff, ite_true, ite_false, Nat.reduceEqDiff, if_false, reduceCtorEq, ne_eq, List.getD, List.getElem?_cons_zero, List.getElem?_cons_succ, Option.getD_some, Option.bind_some, Option.map_some, Option.isSome_some, reduceIte, List.length_append, List.append_assoc, List.cons_append, List.nil_append, Option.some.injEq, forall_const, implies_true, Int.reduceNeg, eq_self, Prod.mk.injEq, List.self_eq_append_right, List.append_nil, exists_eq_left, exists_eq_left', exists_and_left, exists_eq_right, exists_and_right]
      exact ⟨S2, R, ts0, by omega, S1⟩
  clear e0 e2 e4 S1 S2 R
  rintro ex f1 h1 hn1 ht ⟨rfl, e2, e4, S2, R, ts, hl, S1⟩
  rw [thenQ_n]
  generalize e0 : f1 0 = V at *
  have len := S1.len
  have lenw := S2.len
  refine wc_sound _ _ _ _ hn1 ?_
  simp (config := {maxSteps := 4000000}) only [e0, e2, e4, len, SS, bne_self_eq_false, wr_def, obOf, List.all_cons, List.all_nil, List.map_cons, List.map_nil, List.length_cons, List.length_nil, List.take_zero, List.take_succ_cons, List.take_nil, List.drop_zero, List.drop_succ_cons, List.drop_nil, Nat.reduceAdd, Nat.reduceMul, Nat.reduceSub, if_true, Nat.reduceLT, Nat.reduceLeDiff, ite_true, ite_false, Nat.reduceEqDiff, if_false, reduceCtorEq, ne_eq, List.getD, List.getElem?_cons_zero, List.getElem?_cons_succ, Option.getD_some, Option.bind_some, Option.map_some, Option.isSome_some, reduceIte, List.length_append, List.append_assoc, List.cons_append, List.nil_append, Option.some.injEq, forall_const, implies_true, Int.reduceNeg, eq_self, Prod.mk.injEq, List.self_eq_append_right, List.append_nil, exists_eq_left, exists_eq_left', exists_and_left, exists_eq_right, exists_and_right]
  refine Eva.W.mono (Q := fun ex f2 h2 => (ex = .rt ∧ f2 6 = .bool true) ∨ (ex = .ex 0 ∧ f2 0 = V ∧ f2 4 = .ptr H.length 0 0 ∧ rdObj h2 H.length 0 = some ⟨b.c, 0, 0, true, true⟩ ∧ SlL h2 V Pt.c 6 ts ∧ ∃ (bad : Nat) (ss : List Pt), BiS b ts ss ts.length bad ∧ IsL H.length h2 (f2 9) 6 true (flat Pt.c ss) ts.length))
    (W_loop (fun k f2 h2 => ∃ i : Nat, k = ts.length - i ∧ i ≤ ts.length ∧ f2 0 = V ∧ f2 2 = X ∧ f2 4 = .ptr H.length 0 0 ∧ f2 37 = V ∧ f2 38 = .int .i64 (ts.length : Int) ∧ f2 39 = .int .i64 (i : Int) ∧ rdObj h2 H.length 0 = some ⟨b.c, 0, 0, true, true⟩ ∧ SlL h2 V Pt.c 6 ts ∧ SlL h2 X Pt.c 6 ws ∧ (∀ id, idOf (f2 9) id → id ≠ H.length ∧ ¬ idOf V id ∧ ¬ idOf X id) ∧ ∃ bad : Nat, f2 10 = .int .i64 (bad : Int) ∧ ∃ ss, BiS b ts ss i bad ∧ IsL H.length h2 (f2 9) 6 true (flat Pt.c ss) i) hn1 _ ⟨0, rfl, by omega, by simp only [e0, SS, bne_self_eq_false, wr_def, obOf, List.all_cons, List.all_nil, List.map_cons, List.map_nil, List.length_cons, List.length_nil, List.take_zero, List.take_succ_cons, List.take_nil, List.drop_zero, List.drop_succ_cons, List.drop_nil, Nat.reduceAdd, Nat.reduceMul, Nat.reduceSub, if_true, Nat.reduceLT, Nat.reduceLeDiff, ite_true, ite_false, Nat.reduceEqDiff, if_false, reduceCtorEq, ne_eq, List.getD, List.getElem?_cons_zero, List.getElem?_cons_succ, Option.getD_some, Option.bind_some, Option.map_some, Option.isSome_some, reduceIte, List.length_append, List.append_assoc, List.cons_append, List.nil_append, Option.some.injEq, forall_const, implies_true, Int.reduceNeg, eq_self, Prod.mk.injEq, List.self_eq_append_right, List.append_nil, exists_eq_left, exists_eq_left', exists_and_left, exists_eq_right, exists_and_right], by simp only [e2, SS, bne_self_eq_false, wr_def, obOf, List.all_cons, List.all_nil, List.map_cons, List.map_nil, List.length_cons, List.length_nil, List.take_zero, List.take_succ_cons, List.take_nil, List.drop_zero, List.drop_succ_cons, List.drop_nil, Nat.reduceAdd, Nat.reduceMul, Nat.reduceSub, if_true, Nat.reduceLT, Nat.reduceLeDiff, ite_true, ite_false, Nat.reduceEqDiff, if_false, reduceCtorEq, ne_eq, List.getD, List.getElem?_cons_zero, List.getElem?_cons_succ, Option.getD_some, Option.bind_some, Option.map_some, Option.isSome_some, reduceIte, List.length_append, List.append_assoc, List.cons_append, List.nil_append, Option.some.injEq, forall_const, implies_true, Int.reduceNeg, eq_self, Prod.mk.injEq, List.self_eq_append_right, List.append_nil, exists_eq_left, exists_eq_left', exists_and_left, exists_eq_right, exists_and_right], by simp only [e4, SS, bne_self_eq_false, wr_def, obOf, List.all_cons, List.all_nil, List.map_cons, List.map_nil, List.length_cons, List.length_nil, List.take_zero, List.take_succ_cons, List.take_nil, List.drop_zero, List.drop_succ_cons, List.drop_nil, Nat.reduceAdd, Nat.reduceMul, Nat.reduceSub, if_true, Nat.reduceLT, Nat.reduceLeDiff, ite_true, ite_false, Nat.reduceEqDiff, if_false, reduceCtorEq, ne_eq, List.getD, List.getElem?_cons_zero, List.getElem?_cons_succ, Option.getD_some, Option.bind_some, Option.map_some, Option.isSome_some, reduceIte, List.length_append, List.append_assoc, List.cons_append, List.nil_append, Option.some.injEq, forall_const, implies_true, Int.reduceNeg, eq_self, Prod.mk.injEq, List.self_eq_append_right, List.append_nil, exists_eq_left, exists_eq_left', exists_and_left, exists_eq_right, exists_and_right], by simp only [SS, bne_self_eq_false, wr_def, obOf, List.all_cons, List.all_nil, List.map_cons, List.map_nil, List.length_cons, List.length_nil, List.take_zero, List.take_succ_cons, List.take_nil, List.drop_zero, List.drop_succ_cons, List.drop_nil, Nat.reduceAdd, Nat.reduceMul, Nat.reduceSub, if_true, Nat.reduceLT, Nat.reduceLeDiff, ite_true, ite_false, Nat.reduceEqDiff, if_false, reduceCtorEq, ne_eq, List.getD, List.getElem?_cons_zero, List.getElem?_cons_succ, Option.getD_some, Option.bind_some, Option.map_some, Option.isSome_some, reduceIte, List.length_append, List.append_assoc, List.cons_append, List.nil_append, Option.some.injEq, forall_const, implies_true, Int.reduceNeg, eq_self, Prod.mk.injEq, List.self_eq_append_right, List.append_nil, exists_eq_left, exists_eq_left', exists_and_left, exists_eq_right, exists_and_right], rfl, rfl, R, S1, S2, fun id h => absurd h idOf_nil, 0, rfl, [], BiS.init, IsL.nil⟩ ?_) ?_
  · clear e0 e2 e4 S1 S2 R
    rintro k f2 h2 hn2 ht2 ⟨i, rfl, hi, e0, e2, e4, e37, e38, e39, R, S1, S2, D, bad, e10, ss, B, LL⟩
    have hHl := rd_lt R
    generalize e9 : f2 9 = v9 at *
    by_cases hil : i < ts.length
    rotate_left
    · have b4 : decide ((i : Int) < (ts.length : Int)) = false := decide_eq_false (by omega)
      have hiE : i = ts.length := by omega
      subst hiE
      simp (config := {maxSteps := 4000000}) only [e0, e2, e4, e9, e10, e37, e38, e39, b4, SS, bne_self_eq_false, wr_def, obOf, List.all_cons, List.all_nil, List.map_cons, List.map_nil, List.length_cons, List.length_nil, List.take_zero, List.take_succ_cons, List.take_nil, List.drop_zero, List.drop_succ_cons, List.drop_nil, Nat.reduceAdd, Nat.reduceMul, Nat.reduceSub, if_true, Nat.reduceLT, Nat.reduceLeDiff, ite_true, ite_false, Nat.reduceEqDiff, if_false, reduceCtorEq, ne_eq, List.getD, List.getElem?_cons_zero, List.getElem?_cons_succ, Option.getD_some, Option.bind_some, Option.map_some, Option.isSome_some, reduceIte, List.length_append, List.append_assoc, List.cons_append, List.nil_append, Option.some.injEq, forall_const, implies_true, Int.reduceNeg, eq_self, Prod.mk.injEq, List.self_eq_append_right, List.append_nil, exists_eq_left, exists_eq_left', exists_and_left, exists_eq_right, exists_and_right]
      exact Or.inr ⟨R, S1, bad, ss, B, LL⟩
    have b4 : decide ((i : Int) < (ts.length : Int)) = true := decide_eq_true (by omega)
    have wi : IntKind.i64.wrap ((i : Int) + 1) = ((i + 1 : Nat) : Int) := by rw [wrap64 (by omega) (by omega)]; omega
    obtain ⟨p, hp⟩ : ∃ p, ts[i]? = some p := ⟨_, List.getElem?_eq_getElem hil⟩
    have ok1 : idxOk 6 V (.int .i64 (i : Int)) := S1.ok (by omega) (by omega)
    have ld1 : ldnA 6 h2 (idxV 6 V (.int .i64 (i : Int))) = some (.agg p.c) := S1.ldn (x := p) (by omega) (by simpa using hp)
    have hap := fun H => app_pc p b H
    obtain ⟨⟨x, er⟩, hR⟩ : ∃ R, appB p b = R := ⟨_, rfl⟩
    rw [hR] at hap
    have R' := fun o => rd_keep (l := o) R
    simp only [Pt.c, Bo.c] at ld1 hap R'
    by_cases her : er = 0
    rotate_left
    · have b5 : (er != 0) = true := bne_iff_ne.2 her
      simp (config := {maxSteps := 4000000}) only [e0, e2, e4, e9, e10, e37, e38, e39, b4, ok1, isPtr_idx ok1, ld1, R', hap, hn2, b5, SS, bne_self_eq_false, wr_def, obOf, List.all_cons, List.all_nil, List.map_cons, List.map_nil, List.length_cons, List.length_nil, List.take_zero, List.take_succ_cons, List.take_nil, List.drop_zero, List.drop_succ_cons, List.drop_nil, Nat.reduceAdd, Nat.reduceMul, Nat.reduceSub, if_true, Nat.reduceLT, Nat.reduceLeDiff, ite_true, ite_false, Nat.reduceEqDiff, if_false, reduceCtorEq, ne_eq, List.getD, List.getElem?_cons_zero, List.getElem?_cons_succ, Option.getD_some, Option.bind_some, Option.map_some, Option.isSome_some, reduceIte, List.length_append, List.append_assoc, List.cons_append, List.nil_append, Option.some.injEq, forall_const, implies_true, Int.reduceNeg, eq_self, Prod.mk.injEq, List.self_eq_append_right, List.append_nil, exists_eq_left, exists_eq_left', exists_and_left, exists_eq_right, exists_and_right]
      simp
    have b5 : (er != 0) = false := by rw [her]; rfl
    have hb : b.chk = 0 ∧ p.chk = 0 ∧ x.chk = 0 ∧ x = p.mv b := by
      unfold appB at hR
      split at hR
      · rename_i h; simp only [Prod.mk.injEq] at hR; omega
      · rename_i h1
        split at hR
        · rename_i h; simp only [Prod.mk.injEq] at hR; omega
        · rename_i h2
          split at hR
          · simp only [Prod.mk.injEq] at hR; omega
          · rename_i h3
            simp only [Prod.mk.injEq] at hR
            rw [← hR.1]
            exact ⟨by simpa using h1, by simpa using h2, by simpa using h3, rfl⟩
    obtain ⟨hb1', hb2', hb3', rfl⟩ := hb
    have hbad : (bad : Int) < 1125899906842624 := by have := B.c5; omega
    have wb : IntKind.i64.wrap ((bad : Int) + 1) = ((bad + 1 : Nat) : Int) := by rw [wrap64 (by omega) (by omega)]; omega
    have wb2 : IntKind.i64.wrap (2 * ((bad + 1 : Nat) : Int)) = ((2 * (bad + 1) : Nat) : Int) := by rw [wrap64 (by omega) (by omega)]; omega
    have l1 := S1.len
    have l2 := S2.len
    have app : ∀ (w : Pt) (A : List Ob) (bad' : Nat) (P : AV → List Ob → Prop), BiS b ts (ss ++ [w]) (i + 1) bad' →
        (∀ v' h', H.length ≤ h'.length → rdObj h' H.length 0 = some ⟨b.c, 0, 0, true, true⟩ → SlL h' V Pt.c 6 ts → SlL h' X Pt.c 6 ws → (∀ id, idOf v' id → id ≠ H.length ∧ ¬ idOf V id ∧ ¬ idOf X id) → BiS b ts (ss ++ [w]) (i + 1) bad' → IsL H.length h' v' 6 true (flat Pt.c (ss ++ [w])) (i + 1) → P v' h') →
        ∀ m, m = h2.length + A.length → appK H.length 6 48 (h2 ++ (A ++ [⟨w.c, 0, 6, true, true⟩])) v9 (.sl false m 0 6 0 1) P := by
      rintro w A bad' P hB hP m rfl
      have L2 := LL.keep (A ++ [⟨w.c, 0, 6, true, true⟩])
      refine appK_at (c := w.c) (rw' := true) (fl' := true) L2 (by simp [rdObj]) (by rw [flat_len (k := 6) (fun _ => rfl), B.len]) rfl (by unfold appLim; omega) (by simp; omega) (fun v' h' hv' hfr hlen' hidv => ?_)
      have lt9 : ∀ id, idOf v9 id → id < h2.length := fun id h => LL.idlt h
      have kp : ∀ id ep o, rdObj h2 id ep = some o → ¬ idOf v9 id → rdObj h' id ep = some o := fun id ep o ho hne => hfr id ep o (rd_keep ho) hne
      simp only [List.length_append, List.length_cons, List.length_nil] at hlen' hidv
      have nid : ∀ id, idOf v' id → id ≠ H.length ∧ ¬ idOf V id ∧ ¬ idOf X id := fun id h => by
        rcases hidv with h1 | h1
        · have := idOf_inj h h1
          exact ⟨by omega, fun h => by have := S1.idlt h; omega, fun h => by have := S2.idlt h; omega⟩
        · exact D id (h1 id h)
      refine hP v' h' (by omega) (kp _ _ _ R fun h => (D _ h).1 rfl) (S1.mono fun id ep o hid ho => kp id ep o ho fun h => (D id h).2.1 hid) (S2.mono fun id ep o hid ho => kp id ep o ho fun h => (D id h).2.2 hid) nid hB ?_
      have e : flat Pt.c (ss ++ [w]) = flat Pt.c ss ++ w.c := by simp [flat]
      rw [e]
      simp only [Bool.and_self, ite_self] at hv'
      exact hv'
    have EE : True := trivial
    by_cases c1 : i < ws.length
    rotate_left
    · have d1 : decide ((i : Int) < (ws.length : Int)) = false := decide_eq_false (by omega)
      have hB := B.step hi hp hb2' hb3' hb1' (Or.inl ⟨rfl, rfl⟩)
      simp only [Pt.c, Pt.mv] at hap
      simp (config := {maxSteps := 4000000}) only [e0, e2, e4, e9, e10, e37, e38, e39, b4, wi, ok1, isPtr_idx ok1, ld1, R', hap, hn2, b5, l2, d1, SS, bne_self_eq_false, wr_def, obOf, List.all_cons, List.all_nil, List.map_cons, List.map_nil, List.length_cons, List.length_nil, List.take_zero, List.take_succ_cons, List.take_nil, List.drop_zero, List.drop_succ_cons, List.drop_nil, Nat.reduceAdd, Nat.reduceMul, Nat.reduceSub, if_true, Nat.reduceLT, Nat.reduceLeDiff, ite_true, ite_false, Nat.reduceEqDiff, if_false, reduceCtorEq, ne_eq, List.getD, List.getElem?_cons_zero, List.getElem?_cons_succ, Option.getD_some, Option.bind_some, Option.map_some, Option.isSome_some, reduceIte, List.length_append, List.append_assoc, List.cons_append, List.nil_append, Option.some.injEq, forall_const, implies_true, Int.reduceNeg, eq_self, Prod.mk.injEq, List.self_eq_append_right, List.append_nil, exists_eq_left, exists_eq_left', exists_and_left, exists_eq_right, exists_and_right]
      refine app (p.mv b) [_, _] bad _ hB (fun v' h' hh r1 r2 r3 r4 r5 r6 => ?_) _ rfl
      exact ⟨_, by omega, i + 1, rfl, by omega, rfl, r1, r2, r3, r4, bad, rfl, _, r5, r6⟩
    have d1 : decide ((i : Int) < (ws.length : Int)) = true := decide_eq_true (by omega)
    by_cases c2 : 2 * (bad + 1) < ts.length
    rotate_left
    · have d2 : decide (((2 * (bad + 1) : Nat) : Int) < (ts.length : Int)) = false := decide_eq_false (by omega)
      have hB := B.step hi hp hb2' hb3' hb1' (Or.inl ⟨rfl, rfl⟩)
      simp only [Pt.c, Pt.mv] at hap
      simp (config := {maxSteps := 4000000}) only [e0, e2, e4, e9, e10, e37, e38, e39, b4, wi, ok1, isPtr_idx ok1, ld1, R', hap, hn2, b5, l1, l2, d1, d2, wb, wb2, SS, bne_self_eq_false, wr_def, obOf, List.all_cons, List.all_nil, List.map_cons, List.map_nil, List.length_cons, List.length_nil, List.take_zero, List.take_succ_cons, List.take_nil, List.drop_zero, List.drop_succ_cons, List.drop_nil, Nat.reduceAdd, Nat.reduceMul, Nat.reduceSub, if_true, Nat.reduceLT, Nat.reduceLeDiff, ite_true, ite_false, Nat.reduceEqDiff, if_false, reduceCtorEq, ne_eq, List.getD, List.getElem?_cons_zero, List.getElem?_cons_succ, Option.getD_some, Option.bind_some, Option.map_some, Option.isSome_some, reduceIte, List.length_append, List.append_assoc, List.cons_append, List.nil_append, Option.some.injEq, forall_const, implies_true, Int.reduceNeg, eq_self, Prod.mk.injEq, List.self_eq_append_right, List.append_nil, exists_eq_left, exists_eq_left', exists_and_left, exists_eq_right, exists_and_right]
      refine app (p.mv b) [_, _] bad _ hB (fun v' h' hh r1 r2 r3 r4 r5 r6 => ?_) _ rfl
      exact ⟨_, by omega, i + 1, rfl, by omega, rfl, r1, r2, r3, r4, bad, rfl, _, r5, r6⟩
    have d2 : decide (((2 * (bad + 1) : Nat) : Int) < (ts.length : Int)) = true := decide_eq_true (by omega)
    obtain ⟨u, hu⟩ : ∃ u, ws[i]? = some u := ⟨_, List.getElem?_eq_getElem c1⟩
    have ok2 : idxOk 6 X (.int .i64 (i : Int)) := S2.ok (by omega) (by omega)
    have ld2 := fun o => (S2.keep o).ldn (i := (i : Int)) (kk := .i64) (x := u) (by omega) (by simpa using hu)
    have hck := fun H => rchk_pc' u H
    have hn2' : H.length ≤ h2.length + (1 + 1) := by omega
    by_cases c3 : u.chk = 0
    rotate_left
    · have d3 : (u.chk == 0) = false := by rw [beq_eq_false_iff_ne]; exact c3
      have hB := B.step hi hp hb2' hb3' hb1' (Or.inl ⟨rfl, rfl⟩)
      generalize u.chk = uq at *
      simp only [Pt.c, Pt.mv] at hap hck ld2
      simp (config := {maxSteps := 4000000}) only [e0, e2, e4, e9, e10, e37, e38, e39, b4, wi, ok1, isPtr_idx ok1, ld1, R', hap, hn2, b5, l1, l2, d1, d2, wb, wb2, ok2, isPtr_idx ok2, ld2, hck, d3, SS, bne_self_eq_false, wr_def, obOf, List.all_cons, List.all_nil, List.map_cons, List.map_nil, List.length_cons, List.length_nil, List.take_zero, List.take_succ_cons, List.take_nil, List.drop_zero, List.drop_succ_cons, List.drop_nil, Nat.reduceAdd, Nat.reduceMul, Nat.reduceSub, if_true, Nat.reduceLT, Nat.reduceLeDiff, ite_true, ite_false, Nat.reduceEqDiff, if_false, reduceCtorEq, ne_eq, List.getD, List.getElem?_cons_zero, List.getElem?_cons_succ, Option.getD_some, Option.bind_some, Option.map_some, Option.isSome_some, reduceIte, List.length_append, List.append_assoc, List.cons_append, List.nil_append, Option.some.injEq, forall_const, implies_true, Int.reduceNeg, eq_self, Prod.mk.injEq, List.self_eq_append_right, List.append_nil, exists_eq_left, exists_eq_left', exists_and_left, exists_eq_right, exists_and_right]
      refine app (p.mv b) [_, _] bad _ hB (fun v' h' hh r1 r2 r3 r4 r5 r6 => ?_) _ rfl
      exact ⟨_, by omega, i + 1, rfl, by omega, rfl, r1, r2, r3, r4, bad, rfl, _, r5, r6⟩
    · have d3 : ((0 : Int) == 0) = true := rfl
      have hB := B.step hi hp hb2' c3 hb1' (Or.inr ⟨rfl, c2⟩)
      rw [c3] at hck
      simp only [Pt.c, Pt.mv] at hap hck ld2
      simp (config := {maxSteps := 4000000}) only [e0, e2, e4, e9, e10, e37, e38, e39, b4, wi, ok1, isPtr_idx ok1, ld1, R', hap, hn2, b5, l1, l2, d1, d2, wb, wb2, ok2, isPtr_idx ok2, ld2, hck, d3, SS, bne_self_eq_false, wr_def, obOf, List.all_cons, List.all_nil, List.map_cons, List.map_nil, List.length_cons, List.length_nil, List.take_zero, List.take_succ_cons, List.take_nil, List.drop_zero, List.drop_succ_cons, List.drop_nil, Nat.reduceAdd, Nat.reduceMul, Nat.reduceSub, if_true, Nat.reduceLT, Nat.reduceLeDiff, ite_true, ite_false, Nat.reduceEqDiff, if_false, reduceCtorEq, ne_eq, List.getD, List.getElem?_cons_zero, List.getElem?_cons_succ, Option.getD_some, Option.bind_some, Option.map_some, Option.isSome_some, reduceIte, List.length_append, List.append_assoc, List.cons_append, List.nil_append, Option.some.injEq, forall_const, implies_true, Int.reduceNeg, eq_self, Prod.mk.injEq, List.self_eq_append_right, List.append_nil, exists_eq_left, exists_eq_left', exists_and_left, exists_eq_right, exists_and_right]
      refine app u [_, _] (bad + 1) _ hB (fun v' h' hh r1 r2 r3 r4 r5 r6 => ?_) _ rfl
      exact ⟨_, by omega, i + 1, rfl, by omega, rfl, r1, r2, r3, r4, bad + 1, rfl, _, r5, r6⟩
  · clear e0 e2 e4 S1 S2 R
    rintro ex f2 h2 hn2 ht2 (⟨rfl, e6⟩ | ⟨rfl, e0, e4, R, S1, bad, ss, B, LL⟩)
    · simp (config := {maxSteps := 4000000}) only [e6, SS, bne_self_eq_false, wr_def, obOf, List.all_cons, List.all_nil, List.map_cons, List.map_nil, List.length_cons, List.length_nil, List.take_zero, List.take_succ_cons, List.take_nil, List.drop_zero, List.drop_succ_cons, List.drop_nil, Nat.reduceAdd, Nat.reduceMul, Nat.reduceSub, if_true, Nat.reduceLT, Nat.reduceLeDiff, ite_true, ite_false, Nat.reduceEqDiff, if_false, reduceCtorEq, ne_eq, List.getD, List.getElem?_cons_zero, List.getElem?_cons_succ, Option.getD_some, Option.bind_some, Option.map_some, Option.isSome_some, reduceIte, List.length_append, List.append_assoc, List.cons_append, List.nil_append, Option.some.injEq, forall_const, implies_true, Int.reduceNeg, eq_self, Prod.mk.injEq, List.self_eq_append_right, List.append_nil, exists_eq_left, exists_eq_left', exists_and_left, exists_eq_right, exists_and_right]
    generalize e9 : f2 9 = v9 at *
    have hsl := B.len
    have hc1 := B.c1
    rw [List.take_length] at hc1
    have hc4 := B.c4
    rw [List.take_length] at hc4
    have SS' : SlL h2 v9 Pt.c 6 ss := ⟨fun _ => rfl, by decide, by rw [hsl]; exact LL.rd (by rw [flat_len (k := 6) (fun _ => rfl), hsl])⟩
    obtain ⟨w, hw1, hw2⟩ := est_ex S1 SS' (by omega) (by omega) hc1 B.c2
    have l1 := S1.len
    have R' := fun o => rd_keep (l := o) R
    simp only [Bo.c] at R'
    by_cases hz : ts.length = 0
    · have b3 : ((ts.length : Int) == 0) = true := by rw [beq_iff_eq]; omega
      have d8 : ((8 : Int) == 8) = true := rfl
      rcases hw1 with ⟨_, rfl⟩ | ⟨r, a, t, m1, _⟩
      · simp (config := {maxSteps := 4000000}) only [e0, e4, e9, hw2, l1, b3, d8, hn2, R', SS, bne_self_eq_false, wr_def, obOf, List.all_cons, List.all_nil, List.map_cons, List.map_nil, List.length_cons, List.length_nil, List.take_zero, List.take_succ_cons, List.take_nil, List.drop_zero, List.drop_succ_cons, List.drop_nil, Nat.reduceAdd, Nat.reduceMul, Nat.reduceSub, if_true, Nat.reduceLT, Nat.reduceLeDiff, ite_true, ite_false, Nat.reduceEqDiff, if_false, reduceCtorEq, ne_eq, List.getD, List.getElem?_cons_zero, List.getElem?_cons_succ, Option.getD_some, Option.bind_some, Option.map_some, Option.isSome_some, reduceIte, List.length_append, List.append_assoc, List.cons_append, List.nil_append, Option.some.injEq, forall_const, implies_true, Int.reduceNeg, eq_self, Prod.mk.injEq, List.self_eq_append_right, List.append_nil, exists_eq_left, exists_eq_left', exists_and_left, exists_eq_right, exists_and_right]
      · obtain ⟨ys, hp, _, hm⟩ := m1
        have : (ts.zip ss) = [] := List.length_eq_zero_iff.1 (by rw [List.length_zip]; omega)
        rw [this, List.map_nil, List.perm_nil] at hp
        subst hp
        simp at hm
    have b3 : ((ts.length : Int) == 0) = false := by rw [beq_eq_false_iff_ne]; omega
    have hbk := B.c3 hz
    have hzl : (ts.zip ss).length = ts.length := by rw [List.length_zip]; omega
    have hmost : (ts.zip ss).length < 2 * (ts.zip ss).countP (gd' b) := by have := B.c5; omega
    have hgood : ∀ z ∈ ts.zip ss, gd' b z = true → dR z = b.r ∧ dA z = b.a ∧ dT z = b.t := fun z hz hg => by
      obtain ⟨z1, z2⟩ := z
      have h1 := hc1 z1 (List.of_mem_zip hz).1
      simp only [gd', decide_eq_true_eq] at hg
      subst hg
      exact mv_d h1 hbk
    rcases hw1 with ⟨h, _⟩ | ⟨r, a, t, m1, m2, m3, h⟩
    · rw [h] at hzl; simp at hzl; omega
    have e1 : r = b.r := med_good (fun z hz hg => (hgood z hz hg).1) hmost m1
    have e2 : a = b.a := med_good (fun z hz hg => (hgood z hz hg).2.1) hmost m2
    have e3 : t = b.t := med_good (fun z hz hg => (hgood z hz hg).2.2) hmost m3
    subst e1; subst e2; subst e3
    rcases h with ⟨_, rfl⟩ | ⟨h, _⟩
    · have q1 : (b.r == b.r) = true := by simp
      have q2 : (b.a == b.a) = true := by simp
      have q3 : (b.t == b.t) = true := by simp
      simp (config := {maxSteps := 4000000}) only [e0, e4, e9, hw2, l1, b3, z0, hn2, R', q1, q2, q3, SS, bne_self_eq_false, wr_def, obOf, List.all_cons, List.all_nil, List.map_cons, List.map_nil, List.length_cons, List.length_nil, List.take_zero, List.take_succ_cons, List.take_nil, List.drop_zero, List.drop_succ_cons, List.drop_nil, Nat.reduceAdd, Nat.reduceMul, Nat.reduceSub, if_true, Nat.reduceLT, Nat.reduceLeDiff, ite_true, ite_false, Nat.reduceEqDiff, if_false, reduceCtorEq, ne_eq, List.getD, List.getElem?_cons_zero, List.getElem?_cons_succ, Option.getD_some, Option.bind_some, Option.map_some, Option.isSome_some, reduceIte, List.length_append, List.append_assoc, List.cons_append, List.nil_append, Option.some.injEq, forall_const, implies_true, Int.reduceNeg, eq_self, Prod.mk.injEq, List.self_eq_append_right, List.append_nil, exists_eq_left, exists_eq_left', exists_and_left, exists_eq_right, exists_and_right]
      rfl
    · exact absurd hbk h
end Go.Proofs.Ytaekgifbehoipaa.So
