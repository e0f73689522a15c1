/- What Merge of two feeds answers. Conditions stand in each lemma. -/
import Derived.Test.YtaekgifbehoipaaZMosaicOrderc
namespace Go.Proofs.Ytaekgifbehoipaa.Mo
open Go Go.Proofs.Ytaekgifbehoipaa.Eva Go.Proofs.Ytaekgifbehoipaa.CodeAll Go.Proofs.Ytaekgifbehoipaa.Fl Go.Proofs.Ytaekgifbehoipaa.So
set_option linter.unusedVariables false
set_option linter.unusedSimpArgs false
set_option maxRecDepth 10000
set_option maxHeartbeats 4000000

def avc (u : AV) : List AV := [u]
/-- A call that returns the start of a slice that it has built, and a number. -/
theorem call_list_pre {g : Nat} {cf : CF} (hE : E g = some cf) {args : List AV} (hn : args.length = cf.np) (hnt : args.length ≤ cf.nt) {h : List Ob} {P : List Pt → Int → Prop}
    (hw : wc E h.length cf.nt cf.code (fun e f h' => exOk e = true ∧ ∃ v er, rvq cf.nt f h' cf.res = some [v, .int .i64 er] ∧ ∃ xs cs, Pre h.length h' v xs cs ∧ P xs er) (ofL args) h) :
    ∃ xs er cs, P xs er ∧ (xs.length * 6 ≤ cs.length ∧ cs.take (xs.length * 6) = flat Pt.c xs) ∧ ecall E g args h = some (.tup [outV h.length 6 xs.length, .int .i64 er], h ++ outO 6 xs.length cs, h.length, h.length) := by
  obtain ⟨e, f', h', k1, k2, ⟨k3, v, er, k4, xs, cs, k5, hP⟩, k6⟩ := call_wc hE hn hnt hw
  refine ⟨xs, er, cs, hP, k5.2, ?_⟩
  rw [k6 _ k3 k4]
  have := fin_list (n := cf.nt) (f := f') k5.1 [.int .i64 er] rfl
  simp only [mkRes, this, k2]
theorem Pre.nil {n0 : Nat} {h : List Ob} : Pre n0 h (.sl true 0 0 0 0 0) [] [] := ⟨IsL.nil, by simp, rfl⟩
/-- A feed that is taken. -/
def MOk (r : List Pt) : Prop := r.length ≤ 256 ∧ (∀ p ∈ r, p.chk = 0) ∧ ∀ (i : Nat) p q, r[i]? = some p → r[i + 1]? = some q → p.t ≤ q.t
/-- What Merge of two feeds answers. -/
def MgP (l m : List Pt) (xs : List Pt) (e : Int) : Prop :=
  (e ≠ 0 ∧ xs = [] ∧ ¬ (MOk l ∧ MOk m)) ∨ (e = 0 ∧ (l ++ m).length ≤ 512 ∧ (∀ p ∈ l ++ m, p.chk = 0) ∧ ∃ g, (arr (l ++ m).length g).Perm (l ++ m) ∧ (arr (l ++ m).length g).Pairwise (fun x y => pLt y x = false) ∧ xs = ddp g (l ++ m).length)
theorem chk_04 {p : Pt} (h : p.chk ≠ 0) : p.chk = 4 := by
  unfold Pt.chk at h ⊢
  split
  · rfl
  · rename_i hn; rw [if_neg hn] at h; exact absurd rfl h
theorem merge_ex {H : List Ob} {U V W : AV} {l m : List Pt} (hu : SlL H U avc 1 [V, W]) (hs : SlL H V Pt.c 6 l) (ht : SlL H W Pt.c 6 m) (fs : FgL H V) (ft : FgL H W) :
    ∃ xs er cs, MgP l m xs er ∧ (xs.length * 6 ≤ cs.length ∧ cs.take (xs.length * 6) = flat Pt.c xs) ∧ ecall E 41 [U] H = some (.tup [outV H.length 6 xs.length, .int .i64 er], H ++ outO 6 xs.length cs, H.length, H.length) := by
  refine call_list_pre (P := MgP l m) e41 rfl (Nat.le_of_ble_eq_true rfl) ?_
  have len : lenvA false U = some (.int .i64 2) := hu.len
  have n0 : ((0 : Int) != 0) = false := rfl
  have n4 : ((4 : Int) != 0) = true := rfl
  have b0 : decide ((4 : Int) < 2) = false := rfl
  simp (config := {maxSteps := 4000000}) only [c41, len, b0, SS, bne_self_eq_false, wr_def, obOf, List.all_cons, List.all_nil, List.map_cons, List.map_nil, List.length_cons, List.length_nil, List.take_zero, List.take_succ_cons, List.take_nil, List.drop_zero, List.drop_succ_cons, List.drop_nil, Nat.reduceAdd, Nat.reduceMul, Nat.reduceSub, if_true, Nat.reduceLT, Nat.reduceLeDiff, ite_true, ite_false, Nat.reduceEqDiff, if_false, reduceCtorEq, ne_eq, List.getD, List.getElem?_cons_zero, List.getElem?_cons_succ, Option.getD_some, Option.bind_some, Option.map_some, Option.isSome_some, reduceIte, List.length_append, List.append_assoc, List.cons_append, List.nil_append, Option.some.injEq, forall_const, implies_true, Int.reduceNeg, eq_self, Prod.mk.injEq, List.self_eq_append_right, List.append_nil, exists_eq_left, exists_eq_left', exists_and_left, exists_eq_right, exists_and_right]
  refine W_loop (fun q f1 h1 => ∃ i : Nat, q = 2 - i ∧ i ≤ 2 ∧ f1 0 = U ∧ f1 13 = U ∧ f1 14 = .int .i64 2 ∧ f1 15 = .int .i64 (i : Int) ∧ (∀ p ∈ ([l, m].take i).flatten, p.chk = 0) ∧ (([l, m].take i).flatten).length ≤ 256 * i ∧ IsL H.length h1 (f1 4) 6 true (flat Pt.c ([l, m].take i).flatten) (([l, m].take i).flatten).length) (Nat.le_refl _) 2 ⟨0, rfl, by omega, rfl, rfl, rfl, rfl, by simp, by simp, IsL.nil⟩ ?_
  rintro q f1 h1 hn1 ht1 ⟨i, rfl, hi, e0, e13, e14, e15, C, hL, I⟩
  rw [List.take_length] at ht1
  have hH := take_eq ht1
  generalize h1.drop H.length = z at hH
  subst hH
  generalize e4 : f1 4 = vo at *
  by_cases hi2 : i < 2
  rotate_left
  · have b1 : decide ((i : Int) < 2) = false := decide_eq_false (by omega)
    have : i = 2 := by omega
    subst this
    have hfl : ([l, m].take 2).flatten = l ++ m := by simp
    rw [hfl] at C hL I
    generalize hxs : l ++ m = xs at *
    have FsA : Fs H.length (H ++ z) vo Pt.c 6 xs.length (fun i => (xs[i]?).getD ⟨0, 0, 0, 0, 0, 0⟩) := by
      rcases I with ⟨rfl, _, hz⟩ | ⟨id, ep, rfl, h2, h3, h4⟩
      · exact Or.inl ⟨hz, rfl, rfl, rfl, fun id => idOf_nil⟩
      · refine Or.inr ⟨id, ep, rfl, ?_, h3⟩
        rw [← arr_list]; exact h2
    have hnil : xs.length = 0 → vo = .sl true 0 0 0 0 0 := fun hz => by
      rcases I with ⟨rfl, _, _⟩ | ⟨id, ep, rfl, h2, h3, h4⟩
      · rfl
      · exact absurd hz h4
    obtain ⟨h2, g, m2, l2, B2, K2, P2, S2⟩ := KL.sort_m lCtx FsA (by simp) (by omega)
    obtain ⟨r, h3, cs, m3, l3, P3, K3⟩ := compact_m B2 hnil l2 (by omega)
    simp (config := {maxSteps := 4000000}) only [e0, e13, e14, e15, e4, b1, rg_callm, mcallV_fn, m2, m3, SS, bne_self_eq_false, wr_def, obOf, List.all_cons, List.all_nil, List.map_cons, List.map_nil, List.length_cons, List.length_nil, List.take_zero, List.take_succ_cons, List.take_nil, List.drop_zero, List.drop_succ_cons, List.drop_nil, Nat.reduceAdd, Nat.reduceMul, Nat.reduceSub, if_true, Nat.reduceLT, Nat.reduceLeDiff, ite_true, ite_false, Nat.reduceEqDiff, if_false, reduceCtorEq, ne_eq, List.getD, List.getElem?_cons_zero, List.getElem?_cons_succ, Option.getD_some, Option.bind_some, Option.map_some, Option.isSome_some, reduceIte, List.length_append, List.append_assoc, List.cons_append, List.nil_append, Option.some.injEq, forall_const, implies_true, Int.reduceNeg, eq_self, Prod.mk.injEq, List.self_eq_append_right, List.append_nil, exists_eq_left, exists_eq_left', exists_and_left, exists_eq_right, exists_and_right]
    refine ⟨_, _, rfl, _, ⟨cs, P3⟩, Or.inr ⟨rfl, by rw [hxs]; omega, by rw [hxs]; exact C, g, ?_, by rw [hxs]; exact S2, by rw [hxs]⟩⟩
    rw [hxs]
    rw [← arr_list] at P2
    exact P2
  have b1 : decide ((i : Int) < 2) = true := decide_eq_true (by omega)
  have wi : IntKind.i64.wrap ((i : Int) + 1) = ((i + 1 : Nat) : Int) := by rw [wrap64 (by omega) (by omega)]; omega
  obtain ⟨R, r, hR, hr, S, F, hno⟩ : ∃ R r, [V, W][i]? = some R ∧ [l, m][i]? = some r ∧ SlL H R Pt.c 6 r ∧ FgL H R ∧ (MOk l ∧ MOk m → MOk r) := by
    match i, hi2 with
    | 0, _ => exact ⟨V, l, rfl, rfl, hs, fs, fun h => h.1⟩
    | 1, _ => exact ⟨W, m, rfl, rfl, ht, ft, fun h => h.2⟩
  have hok : idxOk 1 U (.int .i64 (i : Int)) := hu.ok (by omega) (by show (i : Int) < 2; omega)
  have hld : ∀ z, ld1A (H ++ z) (idxV 1 U (.int .i64 (i : Int))) = some R := fun z => by rw [(hu.keep z).ld0 (x := R) (by omega) (by rw [Int.toNat_natCast]; exact hR)]; rfl
  have hlr := S.len
  have htake : ([l, m].take (i + 1)).flatten = ([l, m].take i).flatten ++ r := by
    rw [List.take_add_one, hr]; simp
  by_cases hbig : 256 < r.length
  · have b2 : decide ((256 : Int) < (r.length : Int)) = true := decide_eq_true (by omega)
    simp (config := {maxSteps := 4000000}) only [e0, e13, e14, e15, e4, b1, hok, isPtr_idx hok, hld, hlr, b2, SS, bne_self_eq_false, wr_def, obOf, List.all_cons, List.all_nil, List.map_cons, List.map_nil, List.length_cons, List.length_nil, List.take_zero, List.take_succ_cons, List.take_nil, List.drop_zero, List.drop_succ_cons, List.drop_nil, Nat.reduceAdd, Nat.reduceMul, Nat.reduceSub, if_true, Nat.reduceLT, Nat.reduceLeDiff, ite_true, ite_false, Nat.reduceEqDiff, if_false, reduceCtorEq, ne_eq, List.getD, List.getElem?_cons_zero, List.getElem?_cons_succ, Option.getD_some, Option.bind_some, Option.map_some, Option.isSome_some, reduceIte, List.length_append, List.append_assoc, List.cons_append, List.nil_append, Option.some.injEq, forall_const, implies_true, Int.reduceNeg, eq_self, Prod.mk.injEq, List.self_eq_append_right, List.append_nil, exists_eq_left, exists_eq_left', exists_and_left, exists_eq_right, exists_and_right]
    exact ⟨_, _, rfl, [], ⟨[], Pre.nil⟩, Or.inl ⟨by decide, rfl, fun h => by have := (hno h).1; omega⟩⟩
  have b2 : decide ((256 : Int) < (r.length : Int)) = false := decide_eq_false (by omega)
  simp (config := {maxSteps := 4000000}) only [e0, e13, e14, e15, e4, b1, hok, isPtr_idx hok, hld, hlr, b2, SS, bne_self_eq_false, wr_def, obOf, List.all_cons, List.all_nil, List.map_cons, List.map_nil, List.length_cons, List.length_nil, List.take_zero, List.take_succ_cons, List.take_nil, List.drop_zero, List.drop_succ_cons, List.drop_nil, Nat.reduceAdd, Nat.reduceMul, Nat.reduceSub, if_true, Nat.reduceLT, Nat.reduceLeDiff, ite_true, ite_false, Nat.reduceEqDiff, if_false, reduceCtorEq, ne_eq, List.getD, List.getElem?_cons_zero, List.getElem?_cons_succ, Option.getD_some, Option.bind_some, Option.map_some, Option.isSome_some, reduceIte, List.length_append, List.append_assoc, List.cons_append, List.nil_append, Option.some.injEq, forall_const, implies_true, Int.reduceNeg, eq_self, Prod.mk.injEq, List.self_eq_append_right, List.append_nil, exists_eq_left, exists_eq_left', exists_and_left, exists_eq_right, exists_and_right]
  have hr256 : r.length ≤ 256 := by omega
  clear hbig b2
  refine W_loop (fun q f2 h2 => ∃ j : Nat, q = r.length - j ∧ j ≤ r.length ∧ f2 0 = U ∧ f2 4 = vo ∧ f2 6 = R ∧ f2 13 = U ∧ f2 14 = .int .i64 2 ∧ f2 15 = .int .i64 (i : Int) ∧ f2 22 = R ∧ f2 23 = .int .i64 (r.length : Int) ∧ f2 24 = .int .i64 (j : Int) ∧ (∀ (x : Nat) p, x < j → r[x]? = some p → p.chk = 0) ∧ IsL H.length h2 vo 6 true (flat Pt.c ([l, m].take i).flatten) (([l, m].take i).flatten).length) (by simp) _ ⟨0, rfl, Nat.zero_le _, e0, e4, rfl, e13, e14, e15, rfl, rfl, rfl, fun x p h => by omega, I⟩ ?_
  clear e0 e4 e13 e14 e15 I
  rintro q f2 h2 hn2 ht2 ⟨j, rfl, hj, e0, e4, e6, e13, e14, e15, e22, e23, e24, CC, I⟩
  rw [List.take_left] at ht2
  have hH := take_eq ht2
  generalize h2.drop H.length = z2 at hH
  subst hH
  by_cases hjr : j < r.length
  rotate_left
  · have b2 : decide ((j : Int) < (r.length : Int)) = false := decide_eq_false (by omega)
    have hjr' : j = r.length := by omega
    subst hjr'
    simp (config := {maxSteps := 4000000}) only [e0, e4, e6, e13, e14, e15, e22, e23, e24, b2, wi, SS, bne_self_eq_false, wr_def, obOf, List.all_cons, List.all_nil, List.map_cons, List.map_nil, List.length_cons, List.length_nil, List.take_zero, List.take_succ_cons, List.take_nil, List.drop_zero, List.drop_succ_cons, List.drop_nil, Nat.reduceAdd, Nat.reduceMul, Nat.reduceSub, if_true, Nat.reduceLT, Nat.reduceLeDiff, ite_true, ite_false, Nat.reduceEqDiff, if_false, reduceCtorEq, ne_eq, List.getD, List.getElem?_cons_zero, List.getElem?_cons_succ, Option.getD_some, Option.bind_some, Option.map_some, Option.isSome_some, reduceIte, List.length_append, List.append_assoc, List.cons_append, List.nil_append, Option.some.injEq, forall_const, implies_true, Int.reduceNeg, eq_self, Prod.mk.injEq, List.self_eq_append_right, List.append_nil, exists_eq_left, exists_eq_left', exists_and_left, exists_eq_right, exists_and_right]
    have B : Bu H.length (H ++ z2) vo 6 (flat Pt.c ([l, m].take i).flatten) (([l, m].take i).flatten).length := by
      refine ⟨flat_len (k := 6) (fun _ => rfl) _, ?_⟩
      rcases I with ⟨rfl, _, hz⟩ | ⟨id, ep, rfl, g2, g3, g4⟩
      · exact Or.inl ⟨rfl, hz⟩
      · exact Or.inr ⟨id, ep, _, rfl, g2, g3, Or.inr rfl⟩
    refine bu_app B (S.keep z2) (F.keep S z2) (by unfold appLim; omega) (by simp) (fun v' h' B' fr' len' id' hv' => ?_)
    refine ⟨_, by omega, i + 1, rfl, by omega, rfl, ?_, ?_, ?_⟩
    · rw [htake]
      intro p hp
      rcases List.mem_append.1 hp with h | h
      · exact C p h
      · obtain ⟨x, hx, rfl⟩ := List.mem_iff_getElem.1 h
        exact CC x _ hx (List.getElem?_eq_getElem hx)
    · rw [htake, List.length_append]; omega
    · rw [htake, List.length_append]
      have e : flat Pt.c (([l, m].take i).flatten ++ r) = flat Pt.c ([l, m].take i).flatten ++ flat Pt.c r := by simp [flat]
      rw [e]
      by_cases hz : (([l, m].take i).flatten).length + r.length = 0
      · have hr0 : r.length = 0 := by omega
        have := hv' hr0
        subst this
        rcases I with ⟨rfl, hc, h0⟩ | ⟨id, ep, rfl, g2, g3, g4⟩
        · rw [hc, hz, List.length_eq_zero_iff.1 hr0]; exact IsL.nil
        · omega
      · exact B'.isl hz
  have b2 : decide ((j : Int) < (r.length : Int)) = true := decide_eq_true (by omega)
  have wj : IntKind.i64.wrap ((j : Int) + 1) = ((j + 1 : Nat) : Int) := by rw [wrap64 (by omega) (by omega)]; omega
  obtain ⟨p, hp⟩ : ∃ p, r[j]? = some p := ⟨_, List.getElem?_eq_getElem hjr⟩
  have o1 : idxOk 6 R (.int .i64 (j : Int)) := S.ok (by omega) (by omega)
  have d1 : ∀ z, ldnA 6 (H ++ z) (idxV 6 R (.int .i64 (j : Int))) = some (.agg p.c) := fun z => (S.keep z).ldn (x := p) (by omega) (by rw [Int.toNat_natCast]; exact hp)
  have hck := fun H => rchk_pc' p H
  by_cases hc0 : p.chk = 0
  rotate_left
  · rw [chk_04 hc0] at hck
    simp only [Pt.c] at d1 hck
    simp (config := {maxSteps := 4000000}) only [e0, e4, e6, e13, e14, e15, e22, e23, e24, b2, o1, isPtr_idx o1, d1, hck, n4, SS, bne_self_eq_false, wr_def, obOf, List.all_cons, List.all_nil, List.map_cons, List.map_nil, List.length_cons, List.length_nil, List.take_zero, List.take_succ_cons, List.take_nil, List.drop_zero, List.drop_succ_cons, List.drop_nil, Nat.reduceAdd, Nat.reduceMul, Nat.reduceSub, if_true, Nat.reduceLT, Nat.reduceLeDiff, ite_true, ite_false, Nat.reduceEqDiff, if_false, reduceCtorEq, ne_eq, List.getD, List.getElem?_cons_zero, List.getElem?_cons_succ, Option.getD_some, Option.bind_some, Option.map_some, Option.isSome_some, reduceIte, List.length_append, List.append_assoc, List.cons_append, List.nil_append, Option.some.injEq, forall_const, implies_true, Int.reduceNeg, eq_self, Prod.mk.injEq, List.self_eq_append_right, List.append_nil, exists_eq_left, exists_eq_left', exists_and_left, exists_eq_right, exists_and_right]
    exact ⟨_, _, rfl, [], ⟨[], Pre.nil⟩, Or.inl ⟨by decide, rfl, fun h => hc0 ((hno h).2.1 p (List.mem_of_getElem? hp))⟩⟩
  rw [hc0] at hck
  simp only [Pt.c] at d1 hck
  have CC' : ∀ (x : Nat) p, x < j + 1 → r[x]? = some p → p.chk = 0 := fun x p' hx hp' => by
    by_cases h : x < j
    · exact CC x p' h hp'
    · have : x = j := by omega
      subst this
      rw [hp] at hp'
      obtain rfl := Option.some.inj hp'
      exact hc0
  by_cases hj0 : j = 0
  · have b3 : decide ((0 : Int) < (j : Int)) = false := decide_eq_false (by omega)
    simp (config := {maxSteps := 4000000}) only [e0, e4, e6, e13, e14, e15, e22, e23, e24, b2, b3, wj, o1, isPtr_idx o1, d1, hck, n0, SS, bne_self_eq_false, wr_def, obOf, List.all_cons, List.all_nil, List.map_cons, List.map_nil, List.length_cons, List.length_nil, List.take_zero, List.take_succ_cons, List.take_nil, List.drop_zero, List.drop_succ_cons, List.drop_nil, Nat.reduceAdd, Nat.reduceMul, Nat.reduceSub, if_true, Nat.reduceLT, Nat.reduceLeDiff, ite_true, ite_false, Nat.reduceEqDiff, if_false, reduceCtorEq, ne_eq, List.getD, List.getElem?_cons_zero, List.getElem?_cons_succ, Option.getD_some, Option.bind_some, Option.map_some, Option.isSome_some, reduceIte, List.length_append, List.append_assoc, List.cons_append, List.nil_append, Option.some.injEq, forall_const, implies_true, Int.reduceNeg, eq_self, Prod.mk.injEq, List.self_eq_append_right, List.append_nil, exists_eq_left, exists_eq_left', exists_and_left, exists_eq_right, exists_and_right]
    exact ⟨_, by omega, j + 1, rfl, by omega, rfl, CC', I.keep2 _⟩
  have b3 : decide ((0 : Int) < (j : Int)) = true := decide_eq_true (by omega)
  have wm : IntKind.i64.wrap ((j : Int) - 1) = ((j - 1 : Nat) : Int) := by rw [wrap64 (by omega) (by omega)]; omega
  obtain ⟨p', hp'⟩ : ∃ p, r[j - 1]? = some p := ⟨_, List.getElem?_eq_getElem (by omega)⟩
  have o2 : idxOk 6 R (.int .i64 ((j - 1 : Nat) : Int)) := S.ok (by omega) (by omega)
  have d2 : ∀ z, ld1A (H ++ z) (fadA 1 (idxV 6 R (.int .i64 ((j - 1 : Nat) : Int)))) = some (.int .i64 p'.t) := fun z => (S.keep z).ldc (x := p') (j := 1) (by omega) (by rw [Int.toNat_natCast]; exact hp') (by decide)
  by_cases hgt : p.t < p'.t
  · have b4 : decide (p.t < p'.t) = true := decide_eq_true hgt
    simp (config := {maxSteps := 4000000}) only [e0, e4, e6, e13, e14, e15, e22, e23, e24, b2, b3, b4, wj, wm, o1, isPtr_idx o1, o2, isPtr_idx o2, isPtr_fad, d1, d2, hck, n0, SS, bne_self_eq_false, wr_def, obOf, List.all_cons, List.all_nil, List.map_cons, List.map_nil, List.length_cons, List.length_nil, List.take_zero, List.take_succ_cons, List.take_nil, List.drop_zero, List.drop_succ_cons, List.drop_nil, Nat.reduceAdd, Nat.reduceMul, Nat.reduceSub, if_true, Nat.reduceLT, Nat.reduceLeDiff, ite_true, ite_false, Nat.reduceEqDiff, if_false, reduceCtorEq, ne_eq, List.getD, List.getElem?_cons_zero, List.getElem?_cons_succ, Option.getD_some, Option.bind_some, Option.map_some, Option.isSome_some, reduceIte, List.length_append, List.append_assoc, List.cons_append, List.nil_append, Option.some.injEq, forall_const, implies_true, Int.reduceNeg, eq_self, Prod.mk.injEq, List.self_eq_append_right, List.append_nil, exists_eq_left, exists_eq_left', exists_and_left, exists_eq_right, exists_and_right]
    exact ⟨_, _, rfl, [], ⟨[], Pre.nil⟩, Or.inl ⟨by decide, rfl, fun h => by have := (hno h).2.2 (j - 1) p' p hp' (by rw [Nat.sub_add_cancel (by omega)]; exact hp); omega⟩⟩
  · have b4 : decide (p.t < p'.t) = false := decide_eq_false hgt
    simp (config := {maxSteps := 4000000}) only [e0, e4, e6, e13, e14, e15, e22, e23, e24, b2, b3, b4, wj, wm, o1, isPtr_idx o1, o2, isPtr_idx o2, isPtr_fad, d1, d2, hck, n0, SS, bne_self_eq_false, wr_def, obOf, List.all_cons, List.all_nil, List.map_cons, List.map_nil, List.length_cons, List.length_nil, List.take_zero, List.take_succ_cons, List.take_nil, List.drop_zero, List.drop_succ_cons, List.drop_nil, Nat.reduceAdd, Nat.reduceMul, Nat.reduceSub, if_true, Nat.reduceLT, Nat.reduceLeDiff, ite_true, ite_false, Nat.reduceEqDiff, if_false, reduceCtorEq, ne_eq, List.getD, List.getElem?_cons_zero, List.getElem?_cons_succ, Option.getD_some, Option.bind_some, Option.map_some, Option.isSome_some, reduceIte, List.length_append, List.append_assoc, List.cons_append, List.nil_append, Option.some.injEq, forall_const, implies_true, Int.reduceNeg, eq_self, Prod.mk.injEq, List.self_eq_append_right, List.append_nil, exists_eq_left, exists_eq_left', exists_and_left, exists_eq_right, exists_and_right]
    exact ⟨_, by omega, j + 1, rfl, by omega, rfl, CC', I.keep2 _⟩
end Go.Proofs.Ytaekgifbehoipaa.Mo
/- What Window answers. Conditions stand in each lemma. -/
namespace Go.Proofs.Ytaekgifbehoipaa.Mo
open Go Go.Proofs.Ytaekgifbehoipaa.Eva Go.Proofs.Ytaekgifbehoipaa.CodeAll Go.Proofs.Ytaekgifbehoipaa.Fl Go.Proofs.Ytaekgifbehoipaa.So
set_option linter.unusedVariables false
set_option linter.unusedSimpArgs false
set_option maxRecDepth 10000
set_option maxHeartbeats 4000000

def wf (a b : Int) (p : Pt) : Bool := decide (a ≤ p.t) && decide (p.t < b)
theorem window_ex {H : List Ob} {V : AV} {l : List Pt} (a b : Int) (hs : SlL H V Pt.c 6 l) (hc : ∀ p ∈ l, p.chk = 0) (hl : l.length ≤ 1024) :
    ecall E 43 [V, .int .i64 a, .int .i64 b] H = some (.tup [outV H.length 6 (l.filter (wf a b)).length, .int .i64 0], H ++ outO 6 (l.filter (wf a b)).length (flat Pt.c (l.filter (wf a b))), H.length, H.length) := by
  refine call_list e43 rfl (Nat.le_of_ble_eq_true rfl) ?_
  have len := hs.len
  have n0 : ((0 : Int) != 0) = false := rfl
  have b0 : decide ((1024 : Int) < (l.length : Int)) = false := decide_eq_false (by omega)
  simp (config := {maxSteps := 4000000}) only [c43, len, b0, SS, bne_self_eq_false, wr_def, obOf, List.all_cons, List.all_nil, List.map_cons, List.map_nil, List.length_cons, List.length_nil, List.take_zero, List.take_succ_cons, List.take_nil, List.drop_zero, List.drop_succ_cons, List.drop_nil, Nat.reduceAdd, Nat.reduceMul, Nat.reduceSub, if_true, Nat.reduceLT, Nat.reduceLeDiff, ite_true, ite_false, Nat.reduceEqDiff, if_false, reduceCtorEq, ne_eq, List.getD, List.getElem?_cons_zero, List.getElem?_cons_succ, Option.getD_some, Option.bind_some, Option.map_some, Option.isSome_some, reduceIte, List.length_append, List.append_assoc, List.cons_append, List.nil_append, Option.some.injEq, forall_const, implies_true, Int.reduceNeg, eq_self, Prod.mk.injEq, List.self_eq_append_right, List.append_nil, exists_eq_left, exists_eq_left', exists_and_left, exists_eq_right, exists_and_right]
  refine W_loop (fun q f1 h1 => ∃ i : Nat, q = l.length - i ∧ i ≤ l.length ∧ f1 1 = .int .i64 a ∧ f1 2 = .int .i64 b ∧ f1 15 = V ∧ f1 16 = .int .i64 (l.length : Int) ∧ f1 17 = .int .i64 (i : Int) ∧ IsL H.length h1 (f1 8) 6 true (flat Pt.c ((l.take i).filter (wf a b))) ((l.take i).filter (wf a b)).length) (Nat.le_refl _) _ ⟨0, rfl, Nat.zero_le _, rfl, rfl, rfl, rfl, rfl, IsL.nil⟩ ?_
  rintro q f1 h1 hn1 ht1 ⟨i, rfl, hi, e1, e2, e15, e16, e17, I⟩
  rw [List.take_length] at ht1
  have hH := take_eq ht1
  generalize h1.drop H.length = z at hH
  subst hH
  generalize e8 : f1 8 = vo at *
  by_cases hil : i < l.length
  rotate_left
  · have b1 : decide ((i : Int) < (l.length : Int)) = false := decide_eq_false (by omega)
    have : i = l.length := by omega
    subst this
    rw [List.take_length] at I
    simp (config := {maxSteps := 4000000}) only [e1, e2, e8, e15, e16, e17, b1, SS, bne_self_eq_false, wr_def, obOf, List.all_cons, List.all_nil, List.map_cons, List.map_nil, List.length_cons, List.length_nil, List.take_zero, List.take_succ_cons, List.take_nil, List.drop_zero, List.drop_succ_cons, List.drop_nil, Nat.reduceAdd, Nat.reduceMul, Nat.reduceSub, if_true, Nat.reduceLT, Nat.reduceLeDiff, ite_true, ite_false, Nat.reduceEqDiff, if_false, reduceCtorEq, ne_eq, List.getD, List.getElem?_cons_zero, List.getElem?_cons_succ, Option.getD_some, Option.bind_some, Option.map_some, Option.isSome_some, reduceIte, List.length_append, List.append_assoc, List.cons_append, List.nil_append, Option.some.injEq, forall_const, implies_true, Int.reduceNeg, eq_self, Prod.mk.injEq, List.self_eq_append_right, List.append_nil, exists_eq_left, exists_eq_left', exists_and_left, exists_eq_right, exists_and_right]
    exact ⟨_, rfl, I⟩
  have b1 : decide ((i : Int) < (l.length : Int)) = true := decide_eq_true (by omega)
  have wi : IntKind.i64.wrap ((i : Int) + 1) = ((i + 1 : Nat) : Int) := by rw [wrap64 (by omega) (by omega)]; omega
  obtain ⟨p, hp⟩ : ∃ p, l[i]? = some p := ⟨_, List.getElem?_eq_getElem hil⟩
  have o1 : idxOk 6 V (.int .i64 (i : Int)) := hs.ok (by omega) (by omega)
  have d1 : ∀ z, ldnA 6 (H ++ z) (idxV 6 V (.int .i64 (i : Int))) = some (.agg p.c) := fun z => (hs.keep z).ldn (x := p) (by omega) (by rw [Int.toNat_natCast]; exact hp)
  have hck := fun H => rchk_pc' p H
  rw [hc p (List.mem_of_getElem? hp)] at hck
  have hlen : ((l.take i).filter (wf a b)).length ≤ 1024 := Nat.le_trans (List.length_filter_le _ _) (by rw [List.length_take]; omega)
  have ht : (l.take (i + 1)).filter (wf a b) = (l.take i).filter (wf a b) ++ (if wf a b p = true then [p] else []) := by
    rw [List.take_add_one, hp, List.filter_append]
    by_cases h : wf a b p = true <;> simp [h]
  simp only [Pt.c] at d1 hck
  by_cases c1 : a ≤ p.t
  rotate_left
  · have b2 : decide (a ≤ p.t) = false := decide_eq_false c1
    simp (config := {maxSteps := 4000000}) only [e1, e2, e8, e15, e16, e17, b1, b2, wi, o1, isPtr_idx o1, d1, hck, n0, SS, bne_self_eq_false, wr_def, obOf, List.all_cons, List.all_nil, List.map_cons, List.map_nil, List.length_cons, List.length_nil, List.take_zero, List.take_succ_cons, List.take_nil, List.drop_zero, List.drop_succ_cons, List.drop_nil, Nat.reduceAdd, Nat.reduceMul, Nat.reduceSub, if_true, Nat.reduceLT, Nat.reduceLeDiff, ite_true, ite_false, Nat.reduceEqDiff, if_false, reduceCtorEq, ne_eq, List.getD, List.getElem?_cons_zero, List.getElem?_cons_succ, Option.getD_some, Option.bind_some, Option.map_some, Option.isSome_some, reduceIte, List.length_append, List.append_assoc, List.cons_append, List.nil_append, Option.some.injEq, forall_const, implies_true, Int.reduceNeg, eq_self, Prod.mk.injEq, List.self_eq_append_right, List.append_nil, exists_eq_left, exists_eq_left', exists_and_left, exists_eq_right, exists_and_right]
    refine ⟨_, by omega, i + 1, rfl, by omega, rfl, ?_⟩
    rw [ht, if_neg (by simp [wf, c1]), List.append_nil]
    exact I.keep2 _
  have b2 : decide (a ≤ p.t) = true := decide_eq_true c1
  by_cases c2 : p.t < b
  rotate_left
  · have b3 : decide (p.t < b) = false := decide_eq_false c2
    simp (config := {maxSteps := 4000000}) only [e1, e2, e8, e15, e16, e17, b1, b2, b3, wi, o1, isPtr_idx o1, d1, hck, n0, SS, bne_self_eq_false, wr_def, obOf, List.all_cons, List.all_nil, List.map_cons, List.map_nil, List.length_cons, List.length_nil, List.take_zero, List.take_succ_cons, List.take_nil, List.drop_zero, List.drop_succ_cons, List.drop_nil, Nat.reduceAdd, Nat.reduceMul, Nat.reduceSub, if_true, Nat.reduceLT, Nat.reduceLeDiff, ite_true, ite_false, Nat.reduceEqDiff, if_false, reduceCtorEq, ne_eq, List.getD, List.getElem?_cons_zero, List.getElem?_cons_succ, Option.getD_some, Option.bind_some, Option.map_some, Option.isSome_some, reduceIte, List.length_append, List.append_assoc, List.cons_append, List.nil_append, Option.some.injEq, forall_const, implies_true, Int.reduceNeg, eq_self, Prod.mk.injEq, List.self_eq_append_right, List.append_nil, exists_eq_left, exists_eq_left', exists_and_left, exists_eq_right, exists_and_right]
    refine ⟨_, by omega, i + 1, rfl, by omega, rfl, ?_⟩
    rw [ht, if_neg (by simp [wf, c2]), List.append_nil]
    exact I.keep2 _
  have b3 : decide (p.t < b) = true := decide_eq_true c2
  have hio := I.keep2 [⟨p.c, 0, 0, true, true⟩, ⟨p.c, 0, 6, true, true⟩]
  simp only [Pt.c] at hio
  simp (config := {maxSteps := 4000000}) only [e1, e2, e8, e15, e16, e17, b1, b2, b3, wi, o1, isPtr_idx o1, d1, hck, n0, SS, bne_self_eq_false, wr_def, obOf, List.all_cons, List.all_nil, List.map_cons, List.map_nil, List.length_cons, List.length_nil, List.take_zero, List.take_succ_cons, List.take_nil, List.drop_zero, List.drop_succ_cons, List.drop_nil, Nat.reduceAdd, Nat.reduceMul, Nat.reduceSub, if_true, Nat.reduceLT, Nat.reduceLeDiff, ite_true, ite_false, Nat.reduceEqDiff, if_false, reduceCtorEq, ne_eq, List.getD, List.getElem?_cons_zero, List.getElem?_cons_succ, Option.getD_some, Option.bind_some, Option.map_some, Option.isSome_some, reduceIte, List.length_append, List.append_assoc, List.cons_append, List.nil_append, Option.some.injEq, forall_const, implies_true, Int.reduceNeg, eq_self, Prod.mk.injEq, List.self_eq_append_right, List.append_nil, exists_eq_left, exists_eq_left', exists_and_left, exists_eq_right, exists_and_right]
  refine appK_at (c := p.c) (rw' := true) (fl' := true) hio (by simp [rdObj, Pt.c]) (by rw [flat_len (k := 6) (fun _ => rfl)]) rfl (by unfold appLim; omega) (by simp) (fun v' h' hv' hfr hlen' hidv => ?_)
  refine ⟨_, by omega, i + 1, rfl, by omega, rfl, ?_⟩
  rw [ht, if_pos (by simp [wf, c1, c2]), List.length_append]
  have e : flat Pt.c ((l.take i).filter (wf a b) ++ [p]) = flat Pt.c ((l.take i).filter (wf a b)) ++ p.c := by simp [flat]
  rw [e]
  simp only [Bool.and_self, ite_self] at hv'
  exact hv'
end Go.Proofs.Ytaekgifbehoipaa.Mo
/- What Grow, Concat and Equal answer. Conditions stand in each lemma. -/
namespace Go.Proofs.Ytaekgifbehoipaa.Mo
open Go Go.Proofs.Ytaekgifbehoipaa.Eva Go.Proofs.Ytaekgifbehoipaa.CodeAll Go.Proofs.Ytaekgifbehoipaa.Fl Go.Proofs.Ytaekgifbehoipaa.So
set_option linter.unusedVariables false
set_option linter.unusedSimpArgs false
set_option maxRecDepth 10000
set_option maxHeartbeats 4000000

/-- Equal of two slices of Pt that hold the same. -/
theorem eq_Pt {H : List Ob} {V W : AV} {ks : List Pt} (hs : SlL H V Pt.c 6 ks) (ht : SlL H W Pt.c 6 ks) (hbig : ks.length ≤ 1125899906842624) :
    pcall E 44 [V, W] H = some (.bool true) := by
  refine pcall_some.2 (call_plain e44 rfl (Nat.le_of_ble_eq_true rfl) rfl ?_)
  have hlen := hs.len
  have hlen2 := ht.len
  have hb : ((ks.length : Int) != (ks.length : Int)) = false := by simp
  have hbb : ∀ x : Int, (x == x) = true := fun x => by simp
  simp (config := {maxSteps := 4000000}) only [c44, hlen, hlen2, hb, SS, bne_self_eq_false, wr_def, obOf, List.all_cons, List.all_nil, List.map_cons, List.map_nil, List.length_cons, List.length_nil, List.take_zero, List.take_succ_cons, List.take_nil, List.drop_zero, List.drop_succ_cons, List.drop_nil, Nat.reduceAdd, Nat.reduceMul, Nat.reduceSub, if_true, Nat.reduceLT, Nat.reduceLeDiff, ite_true, ite_false, Nat.reduceEqDiff, if_false, reduceCtorEq, ne_eq, List.getD, List.getElem?_cons_zero, List.getElem?_cons_succ, Option.getD_some, Option.bind_some, Option.map_some, Option.isSome_some, reduceIte, List.length_append, List.append_assoc, List.cons_append, List.nil_append, Option.some.injEq, forall_const, implies_true, Int.reduceNeg, eq_self, Prod.mk.injEq, List.self_eq_append_right, List.append_nil, exists_eq_left, exists_eq_left', exists_and_left, exists_eq_right, exists_and_right]
  refine W_loop (fun q f1 h1 => ∃ j : Nat, q = ks.length - j ∧ j ≤ ks.length ∧ f1 0 = V ∧ f1 1 = W ∧ f1 12 = .int .i64 ks.length ∧ f1 13 = .int .i64 j) (Nat.le_refl _) ks.length ⟨0, rfl, Nat.zero_le _, rfl, rfl, rfl, rfl⟩ ?_
  rintro q f1 h1 hn1 ht1 ⟨j, rfl, hj, e0, e1, e12, e13⟩
  rw [List.take_length] at ht1
  have hH := take_eq ht1
  generalize h1.drop H.length = z at hH
  subst hH
  by_cases hjl : j < ks.length
  · have hjl' : decide ((j : Int) < (ks.length : Int)) = true := by simpa using hjl
    have hwj : IntKind.i64.wrap ((j : Int) + 1) = ((j + 1 : Nat) : Int) := by rw [wrap64 (by omega) (by omega)]; omega
    obtain ⟨k, hk⟩ : ∃ k, ks[j]? = some k := ⟨_, List.getElem?_eq_getElem hjl⟩
    have hok : idxOk 6 V (.int .i64 (j : Int)) := hs.ok (by omega) (by omega)
    have hok2 : idxOk 6 W (.int .i64 (j : Int)) := ht.ok (by omega) (by omega)
    have hld : ldnA 6 (H ++ z) (idxV 6 V (.int .i64 (j : Int))) = some (.agg (Pt.c k)) := (hs.keep z).ldn (x := k) (by omega) (by simpa using hk)
    have hld2 : ldnA 6 (H ++ z) (idxV 6 W (.int .i64 (j : Int))) = some (.agg (Pt.c k)) := (ht.keep z).ldn (x := k) (by omega) (by simpa using hk)
    simp only [Pt.c] at hld hld2
    simp (config := {maxSteps := 4000000}) only [e0, e1, e12, e13, hjl', hwj, hok, isPtr_idx hok, hld, hok2, isPtr_idx hok2, hld2, hbb, Bool.xor_self, SS, bne_self_eq_false, wr_def, obOf, List.all_cons, List.all_nil, List.map_cons, List.map_nil, List.length_cons, List.length_nil, List.take_zero, List.take_succ_cons, List.take_nil, List.drop_zero, List.drop_succ_cons, List.drop_nil, Nat.reduceAdd, Nat.reduceMul, Nat.reduceSub, if_true, Nat.reduceLT, Nat.reduceLeDiff, ite_true, ite_false, Nat.reduceEqDiff, if_false, reduceCtorEq, ne_eq, List.getD, List.getElem?_cons_zero, List.getElem?_cons_succ, Option.getD_some, Option.bind_some, Option.map_some, Option.isSome_some, reduceIte, List.length_append, List.append_assoc, List.cons_append, List.nil_append, Option.some.injEq, forall_const, implies_true, Int.reduceNeg, eq_self, Prod.mk.injEq, List.self_eq_append_right, List.append_nil, exists_eq_left, exists_eq_left', exists_and_left, exists_eq_right, exists_and_right]
    exact ⟨_, by omega, j + 1, rfl, by omega, rfl⟩
  · have hjl' : decide ((j : Int) < (ks.length : Int)) = false := by simpa using hjl
    simp (config := {maxSteps := 8000000}) only [e0, e1, e12, e13, hjl', SS, bne_self_eq_false, wr_def, obOf, List.all_cons, List.all_nil, List.map_cons, List.map_nil, List.length_cons, List.length_nil, List.take_zero, List.take_succ_cons, List.take_nil, List.drop_zero, List.drop_succ_cons, List.drop_nil, Nat.reduceAdd, Nat.reduceMul, Nat.reduceSub, if_true, Nat.reduceLT, Nat.reduceLeDiff, ite_true, ite_false, Nat.reduceEqDiff, if_false, reduceCtorEq, ne_eq, List.getD, List.getElem?_cons_zero, List.getElem?_cons_succ, Option.getD_some, Option.bind_some, Option.map_some, Option.isSome_some, reduceIte, List.length_append, List.append_assoc, List.cons_append, List.nil_append, Option.some.injEq, forall_const, implies_true, Int.reduceNeg, eq_self, Prod.mk.injEq, List.self_eq_append_right, List.append_nil, exists_eq_left, exists_eq_left', exists_and_left, exists_eq_right, exists_and_right]

/-- A call that returns a slice of no elements of an object that it has made. -/
theorem call_zero {g : Nat} {cf : CF} (hE : E g = some cf) {args : List AV} (hn : args.length = cf.np) (hnt : args.length ≤ cf.nt) {h : List Ob} {sz : Nat} {cs : List AV}
    (hw : wc E h.length cf.nt cf.code (fun e f h' => exOk e = true ∧ ∃ id ep, rvq cf.nt f h' cf.res = some [.sl false id ep sz 0 0] ∧ rdObj h' id ep = some ⟨cs, ep, sz, true, true⟩ ∧ h.length ≤ id) (ofL args) h) :
    ecall E g args h = some (.sl false h.length 0 sz 0 0, h ++ [⟨cs, 0, sz, true, true⟩], h.length, h.length) := by
  obtain ⟨e, f', h', k1, k2, ⟨k3, id, ep, k4, k5, k7⟩, k6⟩ := call_wc hE hn hnt hw
  rw [k6 _ k3 k4]
  have : fin h.length (.sl false id ep sz 0 0) (stt cf.nt f' h' h.length h.length) = (.sl false h.length 0 sz 0 0, h'.take h.length ++ [⟨cs, 0, sz, true, true⟩], h.length, h.length) := by
    have h5 : ¬ id < h.length := by omega
    have h6 : ¬ (False ∨ id < h.length) := by simp [h5]
    simp only [fin, Nat.lt_irrefl, if_false, refs, refsL, Bool.false_eq_true, if_neg h6, List.append_nil, dd, List.contains_nil, pickObjs, k5, if_true, ren, renL]
    simp [List.idxOf, h5]
  simp only [mkRes, this, k2]
theorem grow0_ex (H : List Ob) : ecall E 86 [.sl true 0 0 0 0 0, .int .i64 0] H = some (outV H.length 6 0, H ++ outO 6 0 [], H.length, H.length) := by
  refine call_list1 e86 rfl (Nat.le_of_ble_eq_true rfl) ?_
  have b0 : decide ((0 : Int) < 0) = false := rfl
  have w0 : IntKind.i64.wrap ((0 : Int) - ((0 : Nat) : Int)) = 0 := by decide
  have w9 : IntKind.i64.wrap ((0 : Int) - 0) = 0 := by decide
  simp (config := {maxSteps := 4000000}) only [c86, b0, w0, w9, SS, bne_self_eq_false, wr_def, obOf, List.all_cons, List.all_nil, List.map_cons, List.map_nil, List.length_cons, List.length_nil, List.take_zero, List.take_succ_cons, List.take_nil, List.drop_zero, List.drop_succ_cons, List.drop_nil, Nat.reduceAdd, Nat.reduceMul, Nat.reduceSub, if_true, Nat.reduceLT, Nat.reduceLeDiff, ite_true, ite_false, Nat.reduceEqDiff, if_false, reduceCtorEq, ne_eq, List.getD, List.getElem?_cons_zero, List.getElem?_cons_succ, Option.getD_some, Option.bind_some, Option.map_some, Option.isSome_some, reduceIte, List.length_append, List.append_assoc, List.cons_append, List.nil_append, Option.some.injEq, forall_const, implies_true, Int.reduceNeg, eq_self, Prod.mk.injEq, List.self_eq_append_right, List.append_nil, exists_eq_left, exists_eq_left', exists_and_left, exists_eq_right, exists_and_right]
  exact ⟨_, rfl, IsL.nil⟩
theorem grow_ex {k : Nat} (h0 : 0 < k) (hk : k ≤ 2048) (H : List Ob) : ecall E 86 [.sl true 0 0 0 0 0, .int .i64 (k : Int)] H = some (.sl false H.length 0 6 0 0, H ++ [⟨zrep k pz, 0, 6, true, true⟩], H.length, H.length) := by
  refine call_zero e86 rfl (Nat.le_of_ble_eq_true rfl) ?_
  have b0 : decide ((k : Int) < 0) = false := decide_eq_false (by omega)
  have b1 : decide ((0 : Int) < (k : Int)) = true := decide_eq_true (by omega)
  have w0 : IntKind.i64.wrap ((0 : Int) - ((0 : Nat) : Int)) = 0 := by decide
  have w1 : IntKind.i64.wrap ((k : Int) - 0) = (k : Int) := by rw [wrap64 (by omega) (by omega)]; omega
  have s1 : slcA 6 none (some 0) (.sl true 0 0 0 0 0) = some (.sl true 0 0 0 0 0) := by simp [slcA]
  have s2 : slcA 6 none (some ((0 : Nat) : Int)) (.sl false H.length 0 6 0 k) = some (.sl false H.length 0 6 0 0) := slc_to (k := 0) (Nat.zero_le _)
  have az := aappz_nil (n0 := H.length) (h := H) (zs := pz) (bytes := 48) (id := 0) (ep := 0) (sz := 0) (off := 0) h0 (by unfold appLim; omega)
  simp (config := {maxSteps := 4000000}) only [c86, b0, b1, w0, w1, s1, rg_appz, SS, bne_self_eq_false, wr_def, obOf, List.all_cons, List.all_nil, List.map_cons, List.map_nil, List.length_cons, List.length_nil, List.take_zero, List.take_succ_cons, List.take_nil, List.drop_zero, List.drop_succ_cons, List.drop_nil, Nat.reduceAdd, Nat.reduceMul, Nat.reduceSub, if_true, Nat.reduceLT, Nat.reduceLeDiff, ite_true, ite_false, Nat.reduceEqDiff, if_false, reduceCtorEq, ne_eq, List.getD, List.getElem?_cons_zero, List.getElem?_cons_succ, Option.getD_some, Option.bind_some, Option.map_some, Option.isSome_some, reduceIte, List.length_append, List.append_assoc, List.cons_append, List.nil_append, Option.some.injEq, forall_const, implies_true, Int.reduceNeg, eq_self, Prod.mk.injEq, List.self_eq_append_right, List.append_nil, exists_eq_left, exists_eq_left', exists_and_left, exists_eq_right, exists_and_right]
  refine ⟨_, _, az, ?_⟩
  have e6 : pz.length = 6 := rfl
  rw [e6, s2]
  refine ⟨rfl, H.length, 0, rfl, ?_, Nat.le_refl _⟩
  have : rdObj (H ++ [⟨zrep k pz, 0, 6, true, pz.all AV.scalar⟩]) H.length 0 = _ := rd_last (o := ⟨zrep k pz, 0, 6, true, pz.all AV.scalar⟩)
  rw [this]
  rfl
theorem concat_ex {H : List Ob} {U V W : AV} {l m : List Pt} (hu : SlL H U avc 1 [V, W]) (hs : SlL H V Pt.c 6 l) (ht : SlL H W Pt.c 6 m) (fs : FgL H V) (ft : FgL H W) (hl : l.length + m.length ≤ 2048) :
    ecall E 45 [U] H = some (outV H.length 6 (l ++ m).length, H ++ outO 6 (l ++ m).length (flat Pt.c (l ++ m)), H.length, H.length) := by
  refine call_list1 e45 rfl (Nat.le_of_ble_eq_true rfl) ?_
  have len : lenvA false U = some (.int .i64 2) := hu.len
  have row : ∀ i : Nat, i < 2 → ∃ R r, [V, W][i]? = some R ∧ [l, m][i]? = some r ∧ SlL H R Pt.c 6 r ∧ FgL H R ∧ r.length ≤ 2048 := fun i hi => by
    match i, hi with
    | 0, _ => exact ⟨V, l, rfl, rfl, hs, fs, by omega⟩
    | 1, _ => exact ⟨W, m, rfl, rfl, ht, ft, by omega⟩
  have hld : ∀ (i : Nat) R, [V, W][i]? = some R → ∀ z, ld1A (H ++ z) (idxV 1 U (.int .i64 (i : Int))) = some R := fun i R hR z => by rw [(hu.keep z).ld0 (x := R) (by omega) (by rw [Int.toNat_natCast]; exact hR)]; rfl
  have hok : ∀ i : Nat, i < 2 → idxOk 1 U (.int .i64 (i : Int)) := fun i hi => hu.ok (by omega) (by show (i : Int) < 2; omega)
  have htake : ∀ (i : Nat) r, [l, m][i]? = some r → ([l, m].take (i + 1)).flatten = ([l, m].take i).flatten ++ r := fun i r hr => by rw [List.take_add_one, hr]; simp
  have hfl : ([l, m].take 2).flatten = l ++ m := by simp
  have hle : ∀ i : Nat, i ≤ 2 → (([l, m].take i).flatten).length ≤ 2048 := fun i hi => by
    match i, hi with
    | 0, _ => simp
    | 1, _ => simp; omega
    | 2, _ => simp; omega
  simp (config := {maxSteps := 4000000}) only [c45, len, SS, bne_self_eq_false, wr_def, obOf, List.all_cons, List.all_nil, List.map_cons, List.map_nil, List.length_cons, List.length_nil, List.take_zero, List.take_succ_cons, List.take_nil, List.drop_zero, List.drop_succ_cons, List.drop_nil, Nat.reduceAdd, Nat.reduceMul, Nat.reduceSub, if_true, Nat.reduceLT, Nat.reduceLeDiff, ite_true, ite_false, Nat.reduceEqDiff, if_false, reduceCtorEq, ne_eq, List.getD, List.getElem?_cons_zero, List.getElem?_cons_succ, Option.getD_some, Option.bind_some, Option.map_some, Option.isSome_some, reduceIte, List.length_append, List.append_assoc, List.cons_append, List.nil_append, Option.some.injEq, forall_const, implies_true, Int.reduceNeg, eq_self, Prod.mk.injEq, List.self_eq_append_right, List.append_nil, exists_eq_left, exists_eq_left', exists_and_left, exists_eq_right, exists_and_right]
  refine W_loop (fun q f1 h1 => ∃ i : Nat, q = 2 - i ∧ i ≤ 2 ∧ f1 0 = U ∧ f1 3 = .int .i64 ((([l, m].take i).flatten).length : Int) ∧ f1 9 = U ∧ f1 10 = .int .i64 2 ∧ f1 11 = .int .i64 (i : Int) ∧ h1 = H) (Nat.le_refl _) 2 ⟨0, rfl, by omega, rfl, rfl, rfl, rfl, rfl, rfl⟩ ?_
  rintro q f1 h1 hn1 ht1 ⟨i, rfl, hi, e0, e3, e9, e10, e11, rfl⟩
  by_cases hi2 : i < 2
  · have b1 : decide ((i : Int) < 2) = true := decide_eq_true (by omega)
    have wi : IntKind.i64.wrap ((i : Int) + 1) = ((i + 1 : Nat) : Int) := by rw [wrap64 (by omega) (by omega)]; omega
    obtain ⟨R, r, hR, hr, S, F, hr2⟩ := row i hi2
    have o1 := hok i hi2
    have d1 := hld i R hR []
    rw [List.append_nil] at d1
    have hlr := S.len
    have hle1 := hle i (by omega)
    have ws : IntKind.i64.wrap (((([l, m].take i).flatten).length : Int) + (r.length : Int)) = ((([l, m].take (i + 1)).flatten).length : Int) := by
      rw [htake i r hr, List.length_append, wrap64 (by omega) (by omega)]; omega
    have b2 : decide (((([l, m].take (i + 1)).flatten).length : Int) < 0) = false := decide_eq_false (by omega)
    generalize hA : (([l, m].take (i + 1)).flatten).length = A at ws b2
    simp (config := {maxSteps := 4000000}) only [e0, e3, e9, e10, e11, b1, wi, o1, isPtr_idx o1, d1, hlr, ws, b2, SS, bne_self_eq_false, wr_def, obOf, List.all_cons, List.all_nil, List.map_cons, List.map_nil, List.length_cons, List.length_nil, List.take_zero, List.take_succ_cons, List.take_nil, List.drop_zero, List.drop_succ_cons, List.drop_nil, Nat.reduceAdd, Nat.reduceMul, Nat.reduceSub, if_true, Nat.reduceLT, Nat.reduceLeDiff, ite_true, ite_false, Nat.reduceEqDiff, if_false, reduceCtorEq, ne_eq, List.getD, List.getElem?_cons_zero, List.getElem?_cons_succ, Option.getD_some, Option.bind_some, Option.map_some, Option.isSome_some, reduceIte, List.length_append, List.append_assoc, List.cons_append, List.nil_append, Option.some.injEq, forall_const, implies_true, Int.reduceNeg, eq_self, Prod.mk.injEq, List.self_eq_append_right, List.append_nil, exists_eq_left, exists_eq_left', exists_and_left, exists_eq_right, exists_and_right]
    exact ⟨_, by omega, i + 1, rfl, by omega, by rw [hA], rfl⟩
  have b1 : decide ((i : Int) < 2) = false := decide_eq_false (by omega)
  have : i = 2 := by omega
  subst this
  rw [hfl] at e3
  have hlm : (l ++ m).length = l.length + m.length := List.length_append
  have gr : ∃ v0 o0, ncall E 86 [.sl true 0 0 0 0 0, .int .i64 ((l ++ m).length : Int)] h1 = some (v0, o0) ∧ Bu h1.length (h1 ++ o0) v0 6 [] 0 ∧ ((l ++ m).length = 0 → v0 = .sl true 0 0 0 0 0) := by
    by_cases hz : (l ++ m).length = 0
    · rw [hz]
      exact ⟨_, _, ncall_some.2 (grow0_ex h1), ⟨rfl, Or.inl ⟨rfl, rfl⟩⟩, fun _ => rfl⟩
    · exact ⟨_, _, ncall_some.2 (grow_ex (k := (l ++ m).length) (by omega) (by omega) h1), ⟨rfl, Or.inr ⟨_, 0, _, rfl, rd_last (o := ⟨zrep (l ++ m).length pz, 0, 6, true, true⟩), Nat.le_refl _, Or.inl rfl⟩⟩, fun h => absurd h hz⟩
  obtain ⟨v0, o0, hg, B0, hv0⟩ := gr
  generalize hT : (l ++ m).length = T at e3 hg hv0
  simp (config := {maxSteps := 4000000}) only [e0, e3, e9, e10, e11, b1, len, rg_calln, ncallV_fn, hg, SS, bne_self_eq_false, wr_def, obOf, List.all_cons, List.all_nil, List.map_cons, List.map_nil, List.length_cons, List.length_nil, List.take_zero, List.take_succ_cons, List.take_nil, List.drop_zero, List.drop_succ_cons, List.drop_nil, Nat.reduceAdd, Nat.reduceMul, Nat.reduceSub, if_true, Nat.reduceLT, Nat.reduceLeDiff, ite_true, ite_false, Nat.reduceEqDiff, if_false, reduceCtorEq, ne_eq, List.getD, List.getElem?_cons_zero, List.getElem?_cons_succ, Option.getD_some, Option.bind_some, Option.map_some, Option.isSome_some, reduceIte, List.length_append, List.append_assoc, List.cons_append, List.nil_append, Option.some.injEq, forall_const, implies_true, Int.reduceNeg, eq_self, Prod.mk.injEq, List.self_eq_append_right, List.append_nil, exists_eq_left, exists_eq_left', exists_and_left, exists_eq_right, exists_and_right]
  refine W_loop (fun q f2 h2 => ∃ i : Nat, q = 2 - i ∧ i ≤ 2 ∧ f2 25 = U ∧ f2 26 = .int .i64 2 ∧ f2 27 = .int .i64 (i : Int) ∧ Bu h1.length h2 (f2 6) 6 (flat Pt.c ([l, m].take i).flatten) (([l, m].take i).flatten).length ∧ (T = 0 → f2 6 = .sl true 0 0 0 0 0)) (by simp) 2 ⟨0, rfl, by omega, rfl, rfl, rfl, B0, hv0⟩ ?_
  rintro q f2 h2 hn2 ht2 ⟨i, rfl, hi, e25, e26, e27, B, hv⟩
  rw [List.take_left] at ht2
  have hH := take_eq ht2
  generalize h2.drop h1.length = z at hH
  subst hH
  generalize e6 : f2 6 = vo at *
  by_cases hi2 : i < 2
  · have b1 : decide ((i : Int) < 2) = true := decide_eq_true (by omega)
    have wi : IntKind.i64.wrap ((i : Int) + 1) = ((i + 1 : Nat) : Int) := by rw [wrap64 (by omega) (by omega)]; omega
    obtain ⟨R, r, hR, hr, S, F, hr2⟩ := row i hi2
    have o1 := hok i hi2
    have d1 := hld i R hR z
    have hle1 := hle i (by omega)
    simp (config := {maxSteps := 4000000}) only [e6, e25, e26, e27, b1, wi, o1, isPtr_idx o1, d1, SS, bne_self_eq_false, wr_def, obOf, List.all_cons, List.all_nil, List.map_cons, List.map_nil, List.length_cons, List.length_nil, List.take_zero, List.take_succ_cons, List.take_nil, List.drop_zero, List.drop_succ_cons, List.drop_nil, Nat.reduceAdd, Nat.reduceMul, Nat.reduceSub, if_true, Nat.reduceLT, Nat.reduceLeDiff, ite_true, ite_false, Nat.reduceEqDiff, if_false, reduceCtorEq, ne_eq, List.getD, List.getElem?_cons_zero, List.getElem?_cons_succ, Option.getD_some, Option.bind_some, Option.map_some, Option.isSome_some, reduceIte, List.length_append, List.append_assoc, List.cons_append, List.nil_append, Option.some.injEq, forall_const, implies_true, Int.reduceNeg, eq_self, Prod.mk.injEq, List.self_eq_append_right, List.append_nil, exists_eq_left, exists_eq_left', exists_and_left, exists_eq_right, exists_and_right]
    refine bu_app B (S.keep z) (F.keep S z) (by unfold appLim; omega) (by simp) (fun v' h' B' fr' len' id' hv' => ?_)
    refine ⟨_, by omega, i + 1, rfl, by omega, rfl, ?_, fun h0 => ?_⟩
    · rw [htake i r hr, List.length_append]
      have e : flat Pt.c (([l, m].take i).flatten ++ r) = flat Pt.c ([l, m].take i).flatten ++ flat Pt.c r := by simp [flat]
      rw [e]; exact B'
    · have hr0 : r.length = 0 := by
        match i, hi2, hr with
        | 0, _, hr => simp at hr; subst hr; omega
        | 1, _, hr => simp at hr; subst hr; omega
      rw [hv' hr0]; exact hv h0
  have b1 : decide ((i : Int) < 2) = false := decide_eq_false (by omega)
  have : i = 2 := by omega
  subst this
  rw [hfl] at B
  simp (config := {maxSteps := 4000000}) only [e6, e25, e26, e27, b1, SS, bne_self_eq_false, wr_def, obOf, List.all_cons, List.all_nil, List.map_cons, List.map_nil, List.length_cons, List.length_nil, List.take_zero, List.take_succ_cons, List.take_nil, List.drop_zero, List.drop_succ_cons, List.drop_nil, Nat.reduceAdd, Nat.reduceMul, Nat.reduceSub, if_true, Nat.reduceLT, Nat.reduceLeDiff, ite_true, ite_false, Nat.reduceEqDiff, if_false, reduceCtorEq, ne_eq, List.getD, List.getElem?_cons_zero, List.getElem?_cons_succ, Option.getD_some, Option.bind_some, Option.map_some, Option.isSome_some, reduceIte, List.length_append, List.append_assoc, List.cons_append, List.nil_append, Option.some.injEq, forall_const, implies_true, Int.reduceNeg, eq_self, Prod.mk.injEq, List.self_eq_append_right, List.append_nil, exists_eq_left, exists_eq_left', exists_and_left, exists_eq_right, exists_and_right]
  refine ⟨_, rfl, ?_⟩
  rw [← List.length_append]
  by_cases hz : (l ++ m).length = 0
  · rw [hv (hT ▸ hz), List.length_eq_zero_iff.1 hz]; exact IsL.nil
  · exact B.isl hz
end Go.Proofs.Ytaekgifbehoipaa.Mo
/- Merge, Window and Concat as calls of a law; plain facts of them. Conditions stand in each lemma. -/
namespace Go.Proofs.Ytaekgifbehoipaa.Mo
open Go Go.Proofs.Ytaekgifbehoipaa.Eva Go.Proofs.Ytaekgifbehoipaa.CodeAll Go.Proofs.Ytaekgifbehoipaa.Fl Go.Proofs.Ytaekgifbehoipaa.So
set_option linter.unusedVariables false
set_option linter.unusedSimpArgs false
set_option maxRecDepth 10000
set_option maxHeartbeats 4000000

theorem out_sl {g gg : List Ob} {xs : List Pt} {cs : List AV} (h1 : xs.length * 6 ≤ cs.length) (h2 : cs.take (xs.length * 6) = flat Pt.c xs) (hg : gg = g ++ outO 6 xs.length cs) :
    SlL gg (outV g.length 6 xs.length) Pt.c 6 xs ∧ FgL gg (outV g.length 6 xs.length) := by
  subst hg
  by_cases hz : xs.length = 0
  · have : xs = [] := List.length_eq_zero_iff.1 hz
    subst this
    exact ⟨⟨fun _ => rfl, by decide, rfl, Or.inl ⟨rfl, Or.inr rfl⟩⟩, fun id ep o hid => absurd hid idOf_nil⟩
  · have e1 : outV g.length 6 xs.length = .sl false g.length 0 6 0 xs.length := by unfold outV; rw [if_neg hz]
    have e2 : outO 6 xs.length cs = [⟨cs, 0, 6, true, true⟩] := by unfold outO; rw [if_neg hz]
    have hr : rdObj (g ++ [⟨cs, 0, 6, true, true⟩]) g.length 0 = some ⟨cs, 0, 6, true, true⟩ := rd_last (o := ⟨cs, 0, 6, true, true⟩)
    rw [e1, e2]
    refine ⟨⟨fun _ => rfl, by decide, flat_len (k := 6) (fun _ => rfl) _, Or.inr ⟨_, 0, 0, _, rfl, hr, by simp only [Nat.zero_add]; exact h1, by rw [List.drop_zero]; exact h2⟩⟩, ?_⟩
    rintro id ep o ⟨_, rfl⟩ ho
    have hx : (g ++ [(⟨cs, 0, 6, true, true⟩ : Ob)])[g.length]? = some ⟨cs, 0, 6, true, true⟩ := by simp
    unfold rdObj at ho
    rw [hx] at ho
    simp only at ho
    split at ho
    · obtain rfl := Option.some.inj ho; rfl
    · cases ho
theorem two_sl {g : List Ob} {V W : AV} : SlL (g ++ [⟨[V, W], 0, 1, true, V.scalar && W.scalar⟩]) (.sl false g.length 0 1 0 2) avc 1 [V, W] :=
  ⟨fun _ => rfl, by decide, rfl, Or.inr ⟨_, 0, 0, ⟨[V, W], 0, 1, true, V.scalar && W.scalar⟩, rfl, by simp [rdObj], Nat.le_refl _, rfl⟩⟩
theorem merge_at {g : List Ob} {V W : AV} {l m : List Pt} (hs : SlL g V Pt.c 6 l) (ht : SlL g W Pt.c 6 m) (fs : FgL g V) (ft : FgL g W) :
    ∃ xs e v o, MgP l m xs e ∧ ncall E 41 [.sl false g.length 0 1 0 2] (g ++ [⟨[V, W], 0, 1, true, V.scalar && W.scalar⟩]) = some (.tup [v, .int .i64 e], o) ∧ lenvA false v = some (.int .i64 (xs.length : Int)) ∧ ∀ gg, gg = g ++ (⟨[V, W], 0, 1, true, V.scalar && W.scalar⟩ :: o) → SlL gg v Pt.c 6 xs ∧ FgL gg v := by
  obtain ⟨xs, e, cs, hP, ⟨h1, h2⟩, hc⟩ := merge_ex two_sl (hs.keep [⟨[V, W], 0, 1, true, V.scalar && W.scalar⟩]) (ht.keep [⟨[V, W], 0, 1, true, V.scalar && W.scalar⟩]) (fs.keep hs _) (ft.keep ht _)
  refine ⟨xs, e, _, _, hP, ncall_some.2 hc, (out_sl h1 h2 rfl).1.len, fun gg hgg => out_sl h1 h2 (by rw [hgg]; simp)⟩
theorem window_at {g : List Ob} {V : AV} {l : List Pt} (a b : Int) (hs : SlL g V Pt.c 6 l) (hc : ∀ p ∈ l, p.chk = 0) (hl : l.length ≤ 1024) :
    ∃ v o, ncall E 43 [V, .int .i64 a, .int .i64 b] g = some (.tup [v, .int .i64 0], o) ∧ ∀ gg, gg = g ++ o → SlL gg v Pt.c 6 (l.filter (wf a b)) ∧ FgL gg v :=
  ⟨_, _, ncall_some.2 (window_ex a b hs hc hl), fun gg hgg => out_sl (by rw [flat_len (k := 6) (fun _ => rfl)]; exact Nat.le_refl _) (by rw [List.take_of_length_le (by rw [flat_len (k := 6) (fun _ => rfl)]; exact Nat.le_refl _)]) hgg⟩
theorem concat_at {g : List Ob} {V W : AV} {l m : List Pt} (hs : SlL g V Pt.c 6 l) (ht : SlL g W Pt.c 6 m) (fs : FgL g V) (ft : FgL g W) (hl : l.length + m.length ≤ 2048) :
    ∃ v o, ecall E 45 [.sl false g.length 0 1 0 2] (g ++ [⟨[V, W], 0, 1, true, V.scalar && W.scalar⟩]) = some (v, (g ++ [⟨[V, W], 0, 1, true, V.scalar && W.scalar⟩]) ++ o, (g ++ [(⟨[V, W], 0, 1, true, V.scalar && W.scalar⟩ : Ob)]).length, (g ++ [(⟨[V, W], 0, 1, true, V.scalar && W.scalar⟩ : Ob)]).length) ∧ SlL ((g ++ [⟨[V, W], 0, 1, true, V.scalar && W.scalar⟩]) ++ o) v Pt.c 6 (l ++ m) :=
  ⟨_, _, concat_ex two_sl (hs.keep _) (ht.keep _) (fs.keep hs _) (ft.keep ht _) hl, (out_sl (by rw [flat_len (k := 6) (fun _ => rfl)]; exact Nat.le_refl _) (by rw [List.take_of_length_le (by rw [flat_len (k := 6) (fun _ => rfl)]; exact Nat.le_refl _)]) rfl).1⟩
def q1 : Pt := ⟨0, 1, 0, 0, 0, 0⟩
def q2 : Pt := ⟨0, 2, 0, 0, 0, 0⟩
theorem mok1 {p : Pt} (h : p.chk = 0) : MOk [p] := ⟨by simp, fun x hx => by rw [List.mem_singleton] at hx; rw [hx]; exact h, fun i a b _ hb => by simp at hb⟩
theorem mg_first {xs : List Pt} {e : Int} (h : MgP [q2] [q1] xs e) : e = 0 ∧ xs = [q1, q2] := by
  rcases h with ⟨_, _, h⟩ | ⟨h0, _, _, g, h1, h2, h3⟩
  · exact absurd ⟨mok1 (by decide), mok1 (by decide)⟩ h
  · refine ⟨h0, ?_⟩
    have hp : (arr 2 g).Perm [q1, q2] := h1.trans (List.Perm.swap _ _ _)
    have e1 : arr 2 g = [q1, q2] := srt_uniq hp h2 (by
      rw [List.pairwise_cons]
      exact ⟨fun x hx => by rw [List.mem_singleton] at hx; rw [hx]; decide, List.pairwise_singleton _ _⟩)
    have e2 : [g 0, g 1] = [q1, q2] := e1
    simp only [List.cons.injEq, and_true] at e2
    have e3 : ddp g 2 = arr 2 g := ddp_all 2 (fun i h0 hi => by
      have : i = 1 := by omega
      subst this
      rw [e2.1, e2.2]; decide)
    rw [h3]
    show ddp g 2 = _
    rw [e3, e1]
theorem mg_same {l m xs ys : List Pt} {e f : Int} (h : MgP l m xs e) (h' : MgP m l ys f) (he : e = 0) (hf : f = 0) : xs = ys := by
  rcases h with ⟨h0, _⟩ | ⟨_, _, _, g, h1, h2, h3⟩
  · exact absurd he h0
  rcases h' with ⟨h0, _⟩ | ⟨_, _, _, g', h1', h2', h3'⟩
  · exact absurd hf h0
  have hl : (m ++ l).length = (l ++ m).length := by simp; omega
  have e1 : arr (l ++ m).length g = arr (l ++ m).length g' := by
    refine srt_uniq (h1.trans ?_) h2 (by rw [← hl]; exact h2')
    have := h1'.symm
    rw [hl] at this
    exact List.perm_append_comm.trans this
  rw [h3, h3', hl]
  exact ddp_ext _ (arr_inj e1)
theorem mg_fac {l m xs : List Pt} {e : Int} (h : MgP l m xs e) (he : e = 0) : xs.length ≤ 512 ∧ (∀ p ∈ xs, p.chk = 0) ∧ xs.Pairwise (fun x y => pLt x y = true) := by
  rcases h with ⟨h0, _⟩ | ⟨_, h4, h5, g, h1, h2, h3⟩
  · exact absurd he h0
  refine ⟨?_, fun p hp => ?_, ?_⟩
  · rw [h3]; exact Nat.le_trans (ddp_len _) h4
  · rw [h3] at hp
    obtain ⟨i, hi, rfl⟩ := ddp_mem hp
    exact h5 _ (h1.mem_iff.1 (List.mem_of_getElem? (arr_get hi)))
  · rw [h3]; exact ddp_strict (arr_srt h2) _ (Nat.le_refl _)
theorem wf_split {xs : List Pt} {u : Int} (h1 : ∀ p ∈ xs, p.chk = 0) (h2 : xs.Pairwise (fun x y => pLt x y = true)) : xs.filter (wf 0 u) ++ xs.filter (wf u 200001) = xs := by
  have e1 : xs.filter (wf 0 u) = xs.filter (fun p => decide (p.t < u)) := List.filter_congr fun p hp => by
    have := chk_time (h1 p hp)
    unfold wf
    rw [decide_eq_true this.1, Bool.true_and]
  have e2 : xs.filter (wf u 200001) = xs.filter (fun p => decide (u ≤ p.t)) := List.filter_congr fun p hp => by
    have := chk_time (h1 p hp)
    unfold wf
    rw [decide_eq_true (show p.t < 200001 by omega), Bool.and_true]
  rw [e1, e2]
  exact split_time xs (h2.imp fun h => lex_time h)
end Go.Proofs.Ytaekgifbehoipaa.Mo
/- The law MosaicOrder over what comes in as told. Conditions stand in the lemma. -/
namespace Go.Proofs.Ytaekgifbehoipaa.Mo
open Go Go.Proofs.Ytaekgifbehoipaa.Eva Go.Proofs.Ytaekgifbehoipaa.CodeAll Go.Proofs.Ytaekgifbehoipaa.Fl Go.Proofs.Ytaekgifbehoipaa.So
set_option linter.unusedVariables false
set_option linter.unusedSimpArgs false
set_option maxRecDepth 10000
set_option maxHeartbeats 4000000

theorem order_law {H : List Ob} {V W : AV} {l m : List Pt} (time : Int) (hs0 : SlL H V Pt.c 6 l) (ht0 : SlL H W Pt.c 6 m) (fs0 : FgL H V) (ft0 : FgL H W) : ∃ r, ecall E 11 [V, W, .int .i64 time] H = some (.bool true, r) := by
  refine law_W e11 rfl (Nat.le_of_ble_eq_true rfl) ?_
  have n0 : ((0 : Int) != 0) = false := rfl
  have z0 : ((0 : Int) == 0) = true := rfl
  have cV := hs0.cells
  have cW := ht0.cells
  have tV := hs0.isTup
  have tW := ht0.isTup
  simp only [c11]
  refine W_seqI (Eva.W.mono (Q := fun ex f1 h1 => ex = .nrm ∧ f1 0 = V ∧ f1 1 = W ∧ f1 2 = .int .i64 time ∧ h1 = H) (wc_sound _ _ _ _ (Nat.le_refl _) ?_) ?_)
  · simp (config := {maxSteps := 4000000}) only [SS, bne_self_eq_false, wr_def, obOf, List.all_cons, List.all_nil, List.map_cons, List.map_nil, List.length_cons, List.length_nil, List.take_zero, List.take_succ_cons, List.take_nil, List.drop_zero, List.drop_succ_cons, List.drop_nil, Nat.reduceAdd, Nat.reduceMul, Nat.reduceSub, if_true, Nat.reduceLT, Nat.reduceLeDiff, ite_true, ite_false, Nat.reduceEqDiff, if_false, reduceCtorEq, ne_eq, List.getD, List.getElem?_cons_zero, List.getElem?_cons_succ, Option.getD_some, Option.bind_some, Option.map_some, Option.isSome_some, reduceIte, List.length_append, List.append_assoc, List.cons_append, List.nil_append, Option.some.injEq, forall_const, implies_true, Int.reduceNeg, eq_self, Prod.mk.injEq, List.self_eq_append_right, List.append_nil, exists_eq_left, exists_eq_left', exists_and_left, exists_eq_right, exists_and_right]
  rintro ex f1 g hn1 ht ⟨rfl, e0, e1, e2, rfl⟩
  rw [thenQ_n]
  -- the example
  refine W_seqI (Eva.W.mono (Q := fun ex f1 h1 => ex = .nrm ∧ f1 0 = V ∧ f1 1 = W ∧ f1 2 = .int .i64 time ∧ SlL h1 V Pt.c 6 l ∧ SlL h1 W Pt.c 6 m ∧ FgL h1 V ∧ FgL h1 W) (wc_sound _ _ _ _ hn1 ?_) ?_)
  · have a1 : SlL (g ++ [⟨q2.c, 0, 6, true, true⟩, ⟨q1.c, 0, 6, true, true⟩]) (.sl false g.length 0 6 0 1) Pt.c 6 [q2] := ⟨fun _ => rfl, by decide, rfl, Or.inr ⟨_, 0, 0, ⟨q2.c, 0, 6, true, true⟩, rfl, by simp [rdObj], Nat.le_refl _, rfl⟩⟩
    have a2 : SlL (g ++ [⟨q2.c, 0, 6, true, true⟩, ⟨q1.c, 0, 6, true, true⟩]) (.sl false (g.length + 1) 0 6 0 1) Pt.c 6 [q1] := ⟨fun _ => rfl, by decide, rfl, Or.inr ⟨_, 0, 0, ⟨q1.c, 0, 6, true, true⟩, rfl, by simp [rdObj], Nat.le_refl _, rfl⟩⟩
    have a3 : FgL (g ++ [⟨q2.c, 0, 6, true, true⟩, ⟨q1.c, 0, 6, true, true⟩]) (.sl false g.length 0 6 0 1) := by
      rintro id ep o ⟨_, rfl⟩ ho
      simp [rdObj] at ho
      obtain ⟨_, rfl⟩ := ho; rfl
    have a4 : FgL (g ++ [⟨q2.c, 0, 6, true, true⟩, ⟨q1.c, 0, 6, true, true⟩]) (.sl false (g.length + 1) 0 6 0 1) := by
      rintro id ep o ⟨_, rfl⟩ ho
      simp [rdObj] at ho
      obtain ⟨_, rfl⟩ := ho; rfl
    obtain ⟨xs, e, v, o, hP, hc, hlen, hg⟩ := merge_at a1 a2 a3 a4
    obtain ⟨rfl, rfl⟩ := mg_first hP
    have e2' : (g ++ [(⟨q2.c, 0, 6, true, true⟩ : Ob), (⟨q1.c, 0, 6, true, true⟩ : Ob)]).length = g.length + 2 := by simp
    rw [e2'] at hc
    obtain ⟨S, F⟩ := hg _ rfl
    have ok : idxOk 6 v (.int .i64 0) := S.ok (by omega) (by decide)
    have ld := S.ldc (kk := .i64) (i := 0) (x := q1) (j := 1) (by omega) rfl (by decide)
    have q21 : (((([q1, q2] : List Pt).length : Nat) : Int) != 2) = false := rfl
    have q11 : ((1 : Int) != 1) = false := rfl
    have q22 : (((2 : Nat) : Int) != 2) = false := rfl
    simp only [q1, q2, Pt.c, getC, List.append_assoc, List.cons_append, List.nil_append] at hc hlen ok ld q21
    simp (config := {maxSteps := 4000000}) only [e0, e1, e2, rg_calln, ncallV_fn, hc, n0, hlen, q21, q22, q11, ok, isPtr_idx ok, isPtr_fad, ld, getC, SS, bne_self_eq_false, wr_def, obOf, List.all_cons, List.all_nil, List.map_cons, List.map_nil, List.length_cons, List.length_nil, List.take_zero, List.take_succ_cons, List.take_nil, List.drop_zero, List.drop_succ_cons, List.drop_nil, Nat.reduceAdd, Nat.reduceMul, Nat.reduceSub, if_true, Nat.reduceLT, Nat.reduceLeDiff, ite_true, ite_false, Nat.reduceEqDiff, if_false, reduceCtorEq, ne_eq, List.getD, List.getElem?_cons_zero, List.getElem?_cons_succ, Option.getD_some, Option.bind_some, Option.map_some, Option.isSome_some, reduceIte, List.length_append, List.append_assoc, List.cons_append, List.nil_append, Option.some.injEq, forall_const, implies_true, Int.reduceNeg, eq_self, Prod.mk.injEq, List.self_eq_append_right, List.append_nil, exists_eq_left, exists_eq_left', exists_and_left, exists_eq_right, exists_and_right]
    exact ⟨hs0.keep _, ht0.keep _, fs0.keep hs0 _, ft0.keep ht0 _⟩
  clear e0 e1 e2 hs0 ht0 fs0 ft0
  rintro ex f1 g1 hn1 ht1 ⟨rfl, e0, e1, e2, S, T, FS, FT⟩
  rw [thenQ_n]
  -- the two orders
  obtain ⟨xs, ex1, vx, ox, hPx, hcx, hlx, hgx⟩ := merge_at S T FS FT
  refine W_seqI (Eva.W.mono (Q := fun ex f1 h1 => ex = .nrm ∧ f1 0 = V ∧ f1 1 = W ∧ f1 2 = .int .i64 time ∧ f1 9 = vx ∧ f1 10 = .int .i64 ex1 ∧ h1 = g1 ++ (⟨[V, W], 0, 1, true, V.scalar && W.scalar⟩ :: ox)) (wc_sound _ _ _ _ hn1 ?_) ?_)
  · simp (config := {maxSteps := 4000000}) only [e0, e1, e2, cV, cW, tV, tW, rg_calln, ncallV_fn, hcx, SS, bne_self_eq_false, wr_def, obOf, List.all_cons, List.all_nil, List.map_cons, List.map_nil, List.length_cons, List.length_nil, List.take_zero, List.take_succ_cons, List.take_nil, List.drop_zero, List.drop_succ_cons, List.drop_nil, Nat.reduceAdd, Nat.reduceMul, Nat.reduceSub, if_true, Nat.reduceLT, Nat.reduceLeDiff, ite_true, ite_false, Nat.reduceEqDiff, if_false, reduceCtorEq, ne_eq, List.getD, List.getElem?_cons_zero, List.getElem?_cons_succ, Option.getD_some, Option.bind_some, Option.map_some, Option.isSome_some, reduceIte, List.length_append, List.append_assoc, List.cons_append, List.nil_append, Option.some.injEq, forall_const, implies_true, Int.reduceNeg, eq_self, Prod.mk.injEq, List.self_eq_append_right, List.append_nil, exists_eq_left, exists_eq_left', exists_and_left, exists_eq_right, exists_and_right]
    omega
  clear e0 e1 e2
  obtain ⟨Sx, Fx⟩ := hgx _ rfl
  have S := S.keep (⟨[V, W], 0, 1, true, V.scalar && W.scalar⟩ :: ox)
  have T := T.keep (⟨[V, W], 0, 1, true, V.scalar && W.scalar⟩ :: ox)
  have FS' : FgL (g1 ++ (⟨[V, W], 0, 1, true, V.scalar && W.scalar⟩ :: ox)) V := FS.keep (by assumption) _
  have FT' : FgL (g1 ++ (⟨[V, W], 0, 1, true, V.scalar && W.scalar⟩ :: ox)) W := FT.keep (by assumption) _
  rintro ex f1 g2 hn2 ht2 ⟨rfl, e0, e1, e2, e9, e10, rfl⟩
  rw [thenQ_n]
  generalize g1 ++ (⟨[V, W], 0, 1, true, V.scalar && W.scalar⟩ :: ox) = g2 at *
  obtain ⟨ys, ey1, vy, oy, hPy, hcy, hly, hgy⟩ := merge_at T S FT' FS'
  refine W_seqI (Eva.W.mono (Q := fun ex f1 h1 => ex = .nrm ∧ f1 2 = .int .i64 time ∧ f1 9 = vx ∧ f1 10 = .int .i64 ex1 ∧ f1 11 = vy ∧ f1 12 = .int .i64 ey1 ∧ h1 = g2 ++ (⟨[W, V], 0, 1, true, W.scalar && V.scalar⟩ :: oy)) (wc_sound _ _ _ _ hn2 ?_) ?_)
  · simp (config := {maxSteps := 4000000}) only [e0, e1, e2, e9, e10, cV, cW, tV, tW, rg_calln, ncallV_fn, hcy, SS, bne_self_eq_false, wr_def, obOf, List.all_cons, List.all_nil, List.map_cons, List.map_nil, List.length_cons, List.length_nil, List.take_zero, List.take_succ_cons, List.take_nil, List.drop_zero, List.drop_succ_cons, List.drop_nil, Nat.reduceAdd, Nat.reduceMul, Nat.reduceSub, if_true, Nat.reduceLT, Nat.reduceLeDiff, ite_true, ite_false, Nat.reduceEqDiff, if_false, reduceCtorEq, ne_eq, List.getD, List.getElem?_cons_zero, List.getElem?_cons_succ, Option.getD_some, Option.bind_some, Option.map_some, Option.isSome_some, reduceIte, List.length_append, List.append_assoc, List.cons_append, List.nil_append, Option.some.injEq, forall_const, implies_true, Int.reduceNeg, eq_self, Prod.mk.injEq, List.self_eq_append_right, List.append_nil, exists_eq_left, exists_eq_left', exists_and_left, exists_eq_right, exists_and_right]
    omega
  clear e0 e1 e2 e9 e10
  obtain ⟨Sy, Fy⟩ := hgy _ rfl
  have Sx := Sx.keep (⟨[W, V], 0, 1, true, W.scalar && V.scalar⟩ :: oy)
  have Fx' : FgL (g2 ++ (⟨[W, V], 0, 1, true, W.scalar && V.scalar⟩ :: oy)) vx := Fx.keep (by assumption) _
  clear S T FS FT FS' FT' hcx hcy hgx hgy
  rintro ex f1 g3 hn3 ht3 ⟨rfl, e2, e9, e10, e11, e12, rfl⟩
  rw [thenQ_n]
  generalize g2 ++ (⟨[W, V], 0, 1, true, W.scalar && V.scalar⟩ :: oy) = g3 at *
  -- errors
  refine W_seqI (Eva.W.mono (Q := fun ex f1 h1 => (ex = .rt ∧ f1 6 = .bool true) ∨ (ex = .nrm ∧ f1 2 = .int .i64 time ∧ f1 9 = vx ∧ f1 11 = vy ∧ ex1 = 0 ∧ ey1 = 0 ∧ SlL h1 vx Pt.c 6 xs ∧ FgL h1 vx ∧ SlL h1 vy Pt.c 6 ys)) (wc_sound _ _ _ _ hn3 ?_) ?_)
  · have hf := fine_pc (H := g3 ++ [⟨[.int .i64 ex1, .int .i64 ey1], 0, 1, true, true⟩]) (V := .sl false g3.length 0 1 0 2) (ks := [ex1, ey1]) ⟨fun _ => rfl, by decide, rfl, Or.inr ⟨_, 0, 0, ⟨[.int .i64 ex1, .int .i64 ey1], 0, 1, true, true⟩, rfl, by simp [rdObj], Nat.le_refl _, rfl⟩⟩ (by simp)
    by_cases c1 : ex1 = 0
    · subst c1
      by_cases c2 : ey1 = 0
      · subst c2
        have hff : (!([0, 0] : List Int).any (fun x => x != 0)) = true := rfl
        rw [hff] at hf
        simp (config := {maxSteps := 4000000}) only [e2, e9, e10, e11, e12, hf, SS, bne_self_eq_false, wr_def, obOf, List.all_cons, List.all_nil, List.map_cons, List.map_nil, List.length_cons, List.length_nil, List.take_zero, List.take_succ_cons, List.take_nil, List.drop_zero, List.drop_succ_cons, List.drop_nil, Nat.reduceAdd, Nat.reduceMul, Nat.reduceSub, if_true, Nat.reduceLT, Nat.reduceLeDiff, ite_true, ite_false, Nat.reduceEqDiff, if_false, reduceCtorEq, ne_eq, List.getD, List.getElem?_cons_zero, List.getElem?_cons_succ, Option.getD_some, Option.bind_some, Option.map_some, Option.isSome_some, reduceIte, List.length_append, List.append_assoc, List.cons_append, List.nil_append, Option.some.injEq, forall_const, implies_true, Int.reduceNeg, eq_self, Prod.mk.injEq, List.self_eq_append_right, List.append_nil, exists_eq_left, exists_eq_left', exists_and_left, exists_eq_right, exists_and_right]
        exact ⟨by omega, Or.inr ⟨Sx.keep _, Fx'.keep Sx _, Sy.keep _⟩⟩
      · have hff : (!([0, ey1] : List Int).any (fun x => x != 0)) = false := by simp [c2]
        rw [hff] at hf
        have b2 : (ey1 == 0) = false := by simpa using c2
        obtain ⟨b3, hb3⟩ : ∃ b, (((xs.length : Nat) : Int) == 0) = b := ⟨_, rfl⟩
        obtain ⟨b4, hb4⟩ : ∃ b, (((ys.length : Nat) : Int) == 0) = b := ⟨_, rfl⟩
        cases b3 <;> cases b4 <;> simp (config := {maxSteps := 4000000}) only [e2, e9, e10, e11, e12, hf, z0, b2, hlx, hly, hb3, hb4, SS, bne_self_eq_false, wr_def, obOf, List.all_cons, List.all_nil, List.map_cons, List.map_nil, List.length_cons, List.length_nil, List.take_zero, List.take_succ_cons, List.take_nil, List.drop_zero, List.drop_succ_cons, List.drop_nil, Nat.reduceAdd, Nat.reduceMul, Nat.reduceSub, if_true, Nat.reduceLT, Nat.reduceLeDiff, ite_true, ite_false, Nat.reduceEqDiff, if_false, reduceCtorEq, ne_eq, List.getD, List.getElem?_cons_zero, List.getElem?_cons_succ, Option.getD_some, Option.bind_some, Option.map_some, Option.isSome_some, reduceIte, List.length_append, List.append_assoc, List.cons_append, List.nil_append, Option.some.injEq, forall_const, implies_true, Int.reduceNeg, eq_self, Prod.mk.injEq, List.self_eq_append_right, List.append_nil, exists_eq_left, exists_eq_left', exists_and_left, exists_eq_right, exists_and_right] <;> exact ⟨by omega, Or.inl trivial⟩
    · have hff : (!([ex1, ey1] : List Int).any (fun x => x != 0)) = false := by simp [c1]
      rw [hff] at hf
      have b1 : (ex1 == 0) = false := by simpa using c1
      have hx0 : xs = [] := by
        rcases hPx with h | h
        · exact h.2.1
        · exact absurd h.1 c1
      subst hx0
      have zl : (((0 : Nat) : Int) == 0) = true := rfl
      by_cases c2 : ey1 = 0
      · subst c2
        obtain ⟨b4, hb4⟩ : ∃ b, (((ys.length : Nat) : Int) == 0) = b := ⟨_, rfl⟩
        cases b4 <;> simp (config := {maxSteps := 4000000}) only [e2, e9, e10, e11, e12, hf, z0, b1, hlx, hly, List.length_nil, zl, hb4, SS, bne_self_eq_false, wr_def, obOf, List.all_cons, List.all_nil, List.map_cons, List.map_nil, List.length_cons, List.length_nil, List.take_zero, List.take_succ_cons, List.take_nil, List.drop_zero, List.drop_succ_cons, List.drop_nil, Nat.reduceAdd, Nat.reduceMul, Nat.reduceSub, if_true, Nat.reduceLT, Nat.reduceLeDiff, ite_true, ite_false, Nat.reduceEqDiff, if_false, reduceCtorEq, ne_eq, List.getD, List.getElem?_cons_zero, List.getElem?_cons_succ, Option.getD_some, Option.bind_some, Option.map_some, Option.isSome_some, reduceIte, List.length_append, List.append_assoc, List.cons_append, List.nil_append, Option.some.injEq, forall_const, implies_true, Int.reduceNeg, eq_self, Prod.mk.injEq, List.self_eq_append_right, List.append_nil, exists_eq_left, exists_eq_left', exists_and_left, exists_eq_right, exists_and_right] <;> exact ⟨by omega, Or.inl trivial⟩
      · have b2 : (ey1 == 0) = false := by simpa using c2
        have hy0 : ys = [] := by
          rcases hPy with h | h
          · exact h.2.1
          · exact absurd h.1 c2
        subst hy0
        simp (config := {maxSteps := 4000000}) only [e2, e9, e10, e11, e12, hf, z0, b1, b2, hlx, hly, List.length_nil, zl, SS, bne_self_eq_false, wr_def, obOf, List.all_cons, List.all_nil, List.map_cons, List.map_nil, List.length_cons, List.length_nil, List.take_zero, List.take_succ_cons, List.take_nil, List.drop_zero, List.drop_succ_cons, List.drop_nil, Nat.reduceAdd, Nat.reduceMul, Nat.reduceSub, if_true, Nat.reduceLT, Nat.reduceLeDiff, ite_true, ite_false, Nat.reduceEqDiff, if_false, reduceCtorEq, ne_eq, List.getD, List.getElem?_cons_zero, List.getElem?_cons_succ, Option.getD_some, Option.bind_some, Option.map_some, Option.isSome_some, reduceIte, List.length_append, List.append_assoc, List.cons_append, List.nil_append, Option.some.injEq, forall_const, implies_true, Int.reduceNeg, eq_self, Prod.mk.injEq, List.self_eq_append_right, List.append_nil, exists_eq_left, exists_eq_left', exists_and_left, exists_eq_right, exists_and_right]
        exact ⟨by omega, Or.inl trivial⟩
  clear e2 e9 e10 e11 e12 Sx Sy Fx Fx' Fy
  rintro ex f1 g4 hn4 ht4 (⟨rfl, e6⟩ | ⟨rfl, e2, e9, e11, rfl, rfl, Sx, Fx, Sy⟩)
  · rw [thenQ_r]
    simp (config := {maxSteps := 4000000}) only [e6, SS, bne_self_eq_false, wr_def, obOf, List.all_cons, List.all_nil, List.map_cons, List.map_nil, List.length_cons, List.length_nil, List.take_zero, List.take_succ_cons, List.take_nil, List.drop_zero, List.drop_succ_cons, List.drop_nil, Nat.reduceAdd, Nat.reduceMul, Nat.reduceSub, if_true, Nat.reduceLT, Nat.reduceLeDiff, ite_true, ite_false, Nat.reduceEqDiff, if_false, reduceCtorEq, ne_eq, List.getD, List.getElem?_cons_zero, List.getElem?_cons_succ, Option.getD_some, Option.bind_some, Option.map_some, Option.isSome_some, reduceIte, List.length_append, List.append_assoc, List.cons_append, List.nil_append, Option.some.injEq, forall_const, implies_true, Int.reduceNeg, eq_self, Prod.mk.injEq, List.self_eq_append_right, List.append_nil, exists_eq_left, exists_eq_left', exists_and_left, exists_eq_right, exists_and_right]
  rw [thenQ_n]
  obtain rfl := mg_same hPx hPy rfl rfl
  obtain ⟨h512, hchk, hst⟩ := mg_fac hPx rfl
  clear hPx hPy
  have hstr : ∀ (i : Nat) p q, xs[i]? = some p → xs[i + 1]? = some q → lexc p.key q.key < 0 := fun i p q hp hq => by
    rw [List.pairwise_iff_getElem] at hst
    obtain ⟨i1, h1⟩ := List.getElem?_eq_some_iff.1 hp
    obtain ⟨i2, h2⟩ := List.getElem?_eq_some_iff.1 hq
    have := hst i (i + 1) i1 i2 (by omega)
    rw [h1, h2] at this
    simpa [pLt] using this
  have lenx := Sx.len
  -- in order
  refine W_seqI (Eva.W.mono (Q := fun ex f1 h1 => ex = .nrm ∧ f1 2 = .int .i64 time ∧ f1 9 = vx ∧ f1 11 = vy ∧ h1 = g4) (wc_sound _ _ _ _ hn4 ?_) ?_)
  · simp (config := {maxSteps := 4000000}) only [e2, e9, e11, SS, bne_self_eq_false, wr_def, obOf, List.all_cons, List.all_nil, List.map_cons, List.map_nil, List.length_cons, List.length_nil, List.take_zero, List.take_succ_cons, List.take_nil, List.drop_zero, List.drop_succ_cons, List.drop_nil, Nat.reduceAdd, Nat.reduceMul, Nat.reduceSub, if_true, Nat.reduceLT, Nat.reduceLeDiff, ite_true, ite_false, Nat.reduceEqDiff, if_false, reduceCtorEq, ne_eq, List.getD, List.getElem?_cons_zero, List.getElem?_cons_succ, Option.getD_some, Option.bind_some, Option.map_some, Option.isSome_some, reduceIte, List.length_append, List.append_assoc, List.cons_append, List.nil_append, Option.some.injEq, forall_const, implies_true, Int.reduceNeg, eq_self, Prod.mk.injEq, List.self_eq_append_right, List.append_nil, exists_eq_left, exists_eq_left', exists_and_left, exists_eq_right, exists_and_right]
    refine W_loop (fun k f2 h2 => ∃ i : Nat, k = xs.length + 1 - i ∧ 1 ≤ i ∧ (i = 1 ∨ i ≤ xs.length) ∧ f2 2 = .int .i64 time ∧ f2 9 = vx ∧ f2 11 = vy ∧ f2 13 = .int .i64 (i : Int) ∧ h2 = g4) hn4 _ ⟨1, rfl, Nat.le_refl _, Or.inl rfl, e2, e9, e11, rfl, rfl⟩ ?_
    clear e2 e9 e11
    rintro k f2 h2 hn5 ht5 ⟨i, rfl, hi1, hi, e2, e9, e11, e13, rfl⟩
    by_cases hix : i < xs.length
    rotate_left
    · have b1 : decide ((i : Int) < (xs.length : Int)) = false := decide_eq_false (by omega)
      simp (config := {maxSteps := 4000000}) only [e2, e9, e11, e13, lenx, b1, SS, bne_self_eq_false, wr_def, obOf, List.all_cons, List.all_nil, List.map_cons, List.map_nil, List.length_cons, List.length_nil, List.take_zero, List.take_succ_cons, List.take_nil, List.drop_zero, List.drop_succ_cons, List.drop_nil, Nat.reduceAdd, Nat.reduceMul, Nat.reduceSub, if_true, Nat.reduceLT, Nat.reduceLeDiff, ite_true, ite_false, Nat.reduceEqDiff, if_false, reduceCtorEq, ne_eq, List.getD, List.getElem?_cons_zero, List.getElem?_cons_succ, Option.getD_some, Option.bind_some, Option.map_some, Option.isSome_some, reduceIte, List.length_append, List.append_assoc, List.cons_append, List.nil_append, Option.some.injEq, forall_const, implies_true, Int.reduceNeg, eq_self, Prod.mk.injEq, List.self_eq_append_right, List.append_nil, exists_eq_left, exists_eq_left', exists_and_left, exists_eq_right, exists_and_right]
    have b1 : decide ((i : Int) < (xs.length : Int)) = true := decide_eq_true (by omega)
    have wi : IntKind.i64.wrap ((i : Int) + 1) = ((i + 1 : Nat) : Int) := by rw [wrap64 (by omega) (by omega)]; omega
    have wm : IntKind.i64.wrap ((i : Int) - 1) = ((i - 1 : Nat) : Int) := by rw [wrap64 (by omega) (by omega)]; omega
    obtain ⟨p, hp⟩ : ∃ p, xs[i - 1]? = some p := ⟨_, List.getElem?_eq_getElem (by omega)⟩
    obtain ⟨q, hq⟩ : ∃ p, xs[i]? = some p := ⟨_, List.getElem?_eq_getElem hix⟩
    have o1 : idxOk 6 vx (.int .i64 ((i - 1 : Nat) : Int)) := Sx.ok (by omega) (by omega)
    have o2 : idxOk 6 vx (.int .i64 (i : Int)) := Sx.ok (by omega) (by omega)
    have d1 : ldnA 6 h2 (idxV 6 vx (.int .i64 ((i - 1 : Nat) : Int))) = some (.agg p.c) := Sx.ldn (x := p) (by omega) (by rw [Int.toNat_natCast]; exact hp)
    have d2 : ldnA 6 h2 (idxV 6 vx (.int .i64 (i : Int))) = some (.agg q.c) := Sx.ldn (x := q) (by omega) (by rw [Int.toNat_natCast]; exact hq)
    have hc := fun H => cmpL_pc p q H
    have hlt := hstr (i - 1) p q hp (by rw [Nat.sub_add_cancel hi1]; exact hq)
    have b2 : decide (0 ≤ lexc p.key q.key) = false := decide_eq_false (by omega)
    generalize lexc p.key q.key = R at hc b2
    simp only [Pt.c] at d1 d2 hc
    simp (config := {maxSteps := 4000000}) only [e2, e9, e11, e13, lenx, b1, b2, wi, wm, o1, isPtr_idx o1, o2, isPtr_idx o2, d1, d2, hc, SS, bne_self_eq_false, wr_def, obOf, List.all_cons, List.all_nil, List.map_cons, List.map_nil, List.length_cons, List.length_nil, List.take_zero, List.take_succ_cons, List.take_nil, List.drop_zero, List.drop_succ_cons, List.drop_nil, Nat.reduceAdd, Nat.reduceMul, Nat.reduceSub, if_true, Nat.reduceLT, Nat.reduceLeDiff, ite_true, ite_false, Nat.reduceEqDiff, if_false, reduceCtorEq, ne_eq, List.getD, List.getElem?_cons_zero, List.getElem?_cons_succ, Option.getD_some, Option.bind_some, Option.map_some, Option.isSome_some, reduceIte, List.length_append, List.append_assoc, List.cons_append, List.nil_append, Option.some.injEq, forall_const, implies_true, Int.reduceNeg, eq_self, Prod.mk.injEq, List.self_eq_append_right, List.append_nil, exists_eq_left, exists_eq_left', exists_and_left, exists_eq_right, exists_and_right]
    exact ⟨hn5, _, by omega, i + 1, rfl, by omega, by omega, rfl⟩
  clear e2 e9 e11
  rintro ex f1 h1 hn5 ht5 ⟨rfl, e2, e9, e11, rfl⟩
  rw [thenQ_n]
  -- the windows
  obtain ⟨v1, o1, hw1, hg1⟩ := window_at 0 time Sx hchk (by omega)
  refine W_seqI (Eva.W.mono (Q := fun ex f1 h2 => ex = .nrm ∧ f1 2 = .int .i64 time ∧ f1 9 = vx ∧ f1 11 = vy ∧ f1 14 = v1 ∧ f1 15 = .int .i64 0 ∧ h2 = h1 ++ o1) (wc_sound _ _ _ _ hn5 ?_) ?_)
  · simp (config := {maxSteps := 4000000}) only [e2, e9, e11, rg_calln, ncallV_fn, hw1, SS, bne_self_eq_false, wr_def, obOf, List.all_cons, List.all_nil, List.map_cons, List.map_nil, List.length_cons, List.length_nil, List.take_zero, List.take_succ_cons, List.take_nil, List.drop_zero, List.drop_succ_cons, List.drop_nil, Nat.reduceAdd, Nat.reduceMul, Nat.reduceSub, if_true, Nat.reduceLT, Nat.reduceLeDiff, ite_true, ite_false, Nat.reduceEqDiff, if_false, reduceCtorEq, ne_eq, List.getD, List.getElem?_cons_zero, List.getElem?_cons_succ, Option.getD_some, Option.bind_some, Option.map_some, Option.isSome_some, reduceIte, List.length_append, List.append_assoc, List.cons_append, List.nil_append, Option.some.injEq, forall_const, implies_true, Int.reduceNeg, eq_self, Prod.mk.injEq, List.self_eq_append_right, List.append_nil, exists_eq_left, exists_eq_left', exists_and_left, exists_eq_right, exists_and_right]
    try omega
  clear e2 e9 e11
  obtain ⟨S1, F1⟩ := hg1 _ rfl
  have Sx1 := Sx.keep o1
  have Sy1 := Sy.keep o1
  rintro ex f1 g5 hn6 ht6 ⟨rfl, e2, e9, e11, e14, e15, rfl⟩
  rw [thenQ_n]
  generalize h1 ++ o1 = g5 at *
  obtain ⟨v2, o2, hw2, hg2⟩ := window_at time 200001 Sx1 hchk (by omega)
  refine W_seqI (Eva.W.mono (Q := fun ex f1 h2 => ex = .nrm ∧ f1 2 = .int .i64 time ∧ f1 9 = vx ∧ f1 11 = vy ∧ f1 14 = v1 ∧ f1 15 = .int .i64 0 ∧ f1 16 = v2 ∧ f1 17 = .int .i64 0 ∧ h2 = g5 ++ o2) (wc_sound _ _ _ _ hn6 ?_) ?_)
  · simp (config := {maxSteps := 4000000}) only [e2, e9, e11, e14, e15, rg_calln, ncallV_fn, hw2, SS, bne_self_eq_false, wr_def, obOf, List.all_cons, List.all_nil, List.map_cons, List.map_nil, List.length_cons, List.length_nil, List.take_zero, List.take_succ_cons, List.take_nil, List.drop_zero, List.drop_succ_cons, List.drop_nil, Nat.reduceAdd, Nat.reduceMul, Nat.reduceSub, if_true, Nat.reduceLT, Nat.reduceLeDiff, ite_true, ite_false, Nat.reduceEqDiff, if_false, reduceCtorEq, ne_eq, List.getD, List.getElem?_cons_zero, List.getElem?_cons_succ, Option.getD_some, Option.bind_some, Option.map_some, Option.isSome_some, reduceIte, List.length_append, List.append_assoc, List.cons_append, List.nil_append, Option.some.injEq, forall_const, implies_true, Int.reduceNeg, eq_self, Prod.mk.injEq, List.self_eq_append_right, List.append_nil, exists_eq_left, exists_eq_left', exists_and_left, exists_eq_right, exists_and_right]
    try omega
  clear e2 e9 e11 e14 e15
  obtain ⟨S2, F2⟩ := hg2 _ rfl
  have Sx2 := Sx1.keep o2
  have Sy2 := Sy1.keep o2
  have F1' : FgL (g5 ++ o2) v1 := F1.keep (by assumption) o2
  have S1' := S1.keep o2
  clear S1 F1 hw1 hw2 hg1 hg2
  rintro ex f1 g6 hn7 ht7 ⟨rfl, e2, e9, e11, e14, e15, e16, e17, rfl⟩
  rw [thenQ_n]
  generalize g5 ++ o2 = g6 at *
  -- the end
  refine W_seqI (Eva.W.mono (Q := fun ex f1 h1 => ex = .nrm ∧ f1 6 = .bool true) ?_ ?_)
  rotate_left
  · rintro ex f1 h1 hn ht ⟨rfl, e6⟩
    rw [thenQ_n]
    refine wc_sound _ _ _ _ hn ?_
    simp (config := {maxSteps := 4000000}) only [e6, SS, bne_self_eq_false, wr_def, obOf, List.all_cons, List.all_nil, List.map_cons, List.map_nil, List.length_cons, List.length_nil, List.take_zero, List.take_succ_cons, List.take_nil, List.drop_zero, List.drop_succ_cons, List.drop_nil, Nat.reduceAdd, Nat.reduceMul, Nat.reduceSub, if_true, Nat.reduceLT, Nat.reduceLeDiff, ite_true, ite_false, Nat.reduceEqDiff, if_false, reduceCtorEq, ne_eq, List.getD, List.getElem?_cons_zero, List.getElem?_cons_succ, Option.getD_some, Option.bind_some, Option.map_some, Option.isSome_some, reduceIte, List.length_append, List.append_assoc, List.cons_append, List.nil_append, Option.some.injEq, forall_const, implies_true, Int.reduceNeg, eq_self, Prod.mk.injEq, List.self_eq_append_right, List.append_nil, exists_eq_left, exists_eq_left', exists_and_left, exists_eq_right, exists_and_right]
  have hf := fine_pc (H := g6 ++ [⟨[.int .i64 0, .int .i64 0], 0, 1, true, true⟩]) (V := .sl false g6.length 0 1 0 2) (ks := [0, 0]) ⟨fun _ => rfl, by decide, rfl, Or.inr ⟨_, 0, 0, ⟨[.int .i64 0, .int .i64 0], 0, 1, true, true⟩, rfl, by simp [rdObj], Nat.le_refl _, rfl⟩⟩ (by simp)
  have hff : (!([0, 0] : List Int).any (fun x => x != 0)) = true := rfl
  rw [hff] at hf
  have heq := eq_Pt Sx2 Sy2 (by omega)
  by_cases t1 : time < 0
  · have b1 : decide (time < 0) = true := decide_eq_true t1
    refine wc_sound _ _ _ _ hn7 ?_
    simp (config := {maxSteps := 8000000}) only [e2, e9, e11, e14, e15, e16, e17, heq, hf, b1, rg_mksg, Bool.true_eq_false, SS, bne_self_eq_false, wr_def, obOf, List.all_cons, List.all_nil, List.map_cons, List.map_nil, List.length_cons, List.length_nil, List.take_zero, List.take_succ_cons, List.take_nil, List.drop_zero, List.drop_succ_cons, List.drop_nil, Nat.reduceAdd, Nat.reduceMul, Nat.reduceSub, if_true, Nat.reduceLT, Nat.reduceLeDiff, ite_true, ite_false, Nat.reduceEqDiff, if_false, reduceCtorEq, ne_eq, List.getD, List.getElem?_cons_zero, List.getElem?_cons_succ, Option.getD_some, Option.bind_some, Option.map_some, Option.isSome_some, reduceIte, List.length_append, List.append_assoc, List.cons_append, List.nil_append, Option.some.injEq, forall_const, implies_true, Int.reduceNeg, eq_self, Prod.mk.injEq, List.self_eq_append_right, List.append_nil, exists_eq_left, exists_eq_left', exists_and_left, exists_eq_right, exists_and_right]
    try omega
  have b1 : decide (time < 0) = false := decide_eq_false t1
  by_cases t2 : 200000 < time
  · have b2 : decide (200000 < time) = true := decide_eq_true t2
    refine wc_sound _ _ _ _ hn7 ?_
    simp (config := {maxSteps := 8000000}) only [e2, e9, e11, e14, e15, e16, e17, heq, hf, b1, b2, rg_mksg, Bool.true_eq_false, SS, bne_self_eq_false, wr_def, obOf, List.all_cons, List.all_nil, List.map_cons, List.map_nil, List.length_cons, List.length_nil, List.take_zero, List.take_succ_cons, List.take_nil, List.drop_zero, List.drop_succ_cons, List.drop_nil, Nat.reduceAdd, Nat.reduceMul, Nat.reduceSub, if_true, Nat.reduceLT, Nat.reduceLeDiff, ite_true, ite_false, Nat.reduceEqDiff, if_false, reduceCtorEq, ne_eq, List.getD, List.getElem?_cons_zero, List.getElem?_cons_succ, Option.getD_some, Option.bind_some, Option.map_some, Option.isSome_some, reduceIte, List.length_append, List.append_assoc, List.cons_append, List.nil_append, Option.some.injEq, forall_const, implies_true, Int.reduceNeg, eq_self, Prod.mk.injEq, List.self_eq_append_right, List.append_nil, exists_eq_left, exists_eq_left', exists_and_left, exists_eq_right, exists_and_right]
    try omega
  have b2 : decide (200000 < time) = false := decide_eq_false t2
  have a1 : SlL (g6 ++ [⟨[.int .i64 0, .int .i64 0], 0, 1, true, true⟩]) v1 Pt.c 6 (xs.filter (wf 0 time)) := S1'.keep _
  have a2 : SlL (g6 ++ [⟨[.int .i64 0, .int .i64 0], 0, 1, true, true⟩]) v2 Pt.c 6 (xs.filter (wf time 200001)) := S2.keep _
  have hl1 : (xs.filter (wf 0 time)).length ≤ 512 := Nat.le_trans (List.length_filter_le _ _) h512
  have hl2 : (xs.filter (wf time 200001)).length ≤ 512 := Nat.le_trans (List.length_filter_le _ _) h512
  obtain ⟨vc, oc, hcc, Sc⟩ := concat_at a1 a2 (F1'.keep S1' _) (F2.keep S2 _) (by omega)
  rw [wf_split hchk hst] at Sc
  refine W_regI (RG_cut (K1 := fun f' h' => f' 9 = vx ∧ f' 114 = .bool true ∧ f' 121 = .bool false ∧ f' 124 = .sl false (g6.length + 1) 0 1 0 2 ∧ h' = g6 ++ [⟨[.int .i64 0, .int .i64 0], 0, 1, true, true⟩] ++ [⟨[v1, v2], 0, 1, true, v1.scalar && v2.scalar⟩]) 20 (RG_of hn7 ?_) ?_)
  · have c1 := S1'.cells
    have c2 := S2.cells
    have t1 := S1'.isTup
    have t2 := S2.isTup
    simp (config := {maxSteps := 8000000}) only [e2, e9, e11, e14, e15, e16, e17, heq, hf, b1, b2, c1, c2, t1, t2, rg_mksg, Bool.true_eq_false, List.take_succ_cons, List.take_zero, SS, bne_self_eq_false, wr_def, obOf, List.all_cons, List.all_nil, List.map_cons, List.map_nil, List.length_cons, List.length_nil, List.take_zero, List.take_succ_cons, List.take_nil, List.drop_zero, List.drop_succ_cons, List.drop_nil, Nat.reduceAdd, Nat.reduceMul, Nat.reduceSub, if_true, Nat.reduceLT, Nat.reduceLeDiff, ite_true, ite_false, Nat.reduceEqDiff, if_false, reduceCtorEq, ne_eq, List.getD, List.getElem?_cons_zero, List.getElem?_cons_succ, Option.getD_some, Option.bind_some, Option.map_some, Option.isSome_some, reduceIte, List.length_append, List.append_assoc, List.cons_append, List.nil_append, Option.some.injEq, forall_const, implies_true, Int.reduceNeg, eq_self, Prod.mk.injEq, List.self_eq_append_right, List.append_nil, exists_eq_left, exists_eq_left', exists_and_left, exists_eq_right, exists_and_right]
    exact hn7
  clear e2 e9 e11 e14 e15 e16 e17
  rintro f3 h3 hn8 ht8 ⟨e9, e114, e121, e124, rfl⟩
  simp (config := {maxSteps := 8000000}) only [List.drop_succ_cons, List.drop_zero, SS, bne_self_eq_false, wr_def, obOf, List.all_cons, List.all_nil, List.map_cons, List.map_nil, List.length_cons, List.length_nil, List.take_zero, List.take_succ_cons, List.take_nil, List.drop_zero, List.drop_succ_cons, List.drop_nil, Nat.reduceAdd, Nat.reduceMul, Nat.reduceSub, if_true, Nat.reduceLT, Nat.reduceLeDiff, ite_true, ite_false, Nat.reduceEqDiff, if_false, reduceCtorEq, ne_eq, List.getD, List.getElem?_cons_zero, List.getElem?_cons_succ, Option.getD_some, Option.bind_some, Option.map_some, Option.isSome_some, reduceIte, List.length_append, List.append_assoc, List.cons_append, List.nil_append, Option.some.injEq, forall_const, implies_true, Int.reduceNeg, eq_self, Prod.mk.injEq, List.self_eq_append_right, List.append_nil, exists_eq_left, exists_eq_left', exists_and_left, exists_eq_right, exists_and_right]
  have e2' : (g6 ++ [(⟨[.int .i64 0, .int .i64 0], 0, 1, true, true⟩ : Ob)]).length = g6.length + 1 := by simp
  rw [e2'] at hcc
  have Sxe := Sx2.keep ([⟨[.int .i64 0, .int .i64 0], 0, 1, true, true⟩, ⟨[v1, v2], 0, 1, true, v1.scalar && v2.scalar⟩] ++ oc)
  simp only [List.append_assoc, List.cons_append, List.nil_append] at hcc Sc hn8 Sxe
  have hG : g6 ++ (⟨[.int .i64 0, .int .i64 0], 0, 1, true, true⟩ :: ⟨[v1, v2], 0, 1, true, v1.scalar && v2.scalar⟩ :: oc) = (g6 ++ [⟨[.int .i64 0, .int .i64 0], 0, 1, true, true⟩, ⟨[v1, v2], 0, 1, true, v1.scalar && v2.scalar⟩]) ++ oc := by simp
  rw [hG] at hcc Sc Sxe
  generalize g6 ++ [(⟨[.int .i64 0, .int .i64 0], 0, 1, true, true⟩ : Ob), (⟨[v1, v2], 0, 1, true, v1.scalar && v2.scalar⟩ : Ob)] = G at *
  have hargs : List.map (ev 130 f3) [.t 124] ++ [] = [.sl false (g6.length + 1) 0 1 0 2] := by
    simp only [e124, SS, bne_self_eq_false, wr_def, obOf, List.all_cons, List.all_nil, List.map_cons, List.map_nil, List.length_cons, List.length_nil, List.take_zero, List.take_succ_cons, List.take_nil, List.drop_zero, List.drop_succ_cons, List.drop_nil, Nat.reduceAdd, Nat.reduceMul, Nat.reduceSub, if_true, Nat.reduceLT, Nat.reduceLeDiff, ite_true, ite_false, Nat.reduceEqDiff, if_false, reduceCtorEq, ne_eq, List.getD, List.getElem?_cons_zero, List.getElem?_cons_succ, Option.getD_some, Option.bind_some, Option.map_some, Option.isSome_some, reduceIte, List.length_append, List.append_assoc, List.cons_append, List.nil_append, Option.some.injEq, forall_const, implies_true, Int.reduceNeg, eq_self, Prod.mk.injEq, List.self_eq_append_right, List.append_nil, exists_eq_left, exists_eq_left', exists_and_left, exists_eq_right, exists_and_right]
  have heq2 := eq_Pt Sc Sxe (by omega)
  have hn9 : g.length ≤ (G ++ oc).length := by rw [List.length_append]; omega
  refine RG_guard_t (by rw [ev_t, e121]; rfl) (RG_call (k := 45) (caps := []) (v := vc) (h2 := G ++ oc) (wl := G.length) (wa := G.length) (by simp only [SS, bne_self_eq_false, wr_def, obOf, List.all_cons, List.all_nil, List.map_cons, List.map_nil, List.length_cons, List.length_nil, List.take_zero, List.take_succ_cons, List.take_nil, List.drop_zero, List.drop_succ_cons, List.drop_nil, Nat.reduceAdd, Nat.reduceMul, Nat.reduceSub, if_true, Nat.reduceLT, Nat.reduceLeDiff, ite_true, ite_false, Nat.reduceEqDiff, if_false, reduceCtorEq, ne_eq, List.getD, List.getElem?_cons_zero, List.getElem?_cons_succ, Option.getD_some, Option.bind_some, Option.map_some, Option.isSome_some, reduceIte, List.length_append, List.append_assoc, List.cons_append, List.nil_append, Option.some.injEq, forall_const, implies_true, Int.reduceNeg, eq_self, Prod.mk.injEq, List.self_eq_append_right, List.append_nil, exists_eq_left, exists_eq_left', exists_and_left, exists_eq_right, exists_and_right]) (by rw [hargs]; exact hcc) hn8 hn8 hn9 (take_app hn8) (fun h => by cases h) (RG_of hn9 ?_))
  simp (config := {maxSteps := 8000000}) only [e9, e114, e121, heq2, SS, bne_self_eq_false, wr_def, obOf, List.all_cons, List.all_nil, List.map_cons, List.map_nil, List.length_cons, List.length_nil, List.take_zero, List.take_succ_cons, List.take_nil, List.drop_zero, List.drop_succ_cons, List.drop_nil, Nat.reduceAdd, Nat.reduceMul, Nat.reduceSub, if_true, Nat.reduceLT, Nat.reduceLeDiff, ite_true, ite_false, Nat.reduceEqDiff, if_false, reduceCtorEq, ne_eq, List.getD, List.getElem?_cons_zero, List.getElem?_cons_succ, Option.getD_some, Option.bind_some, Option.map_some, Option.isSome_some, reduceIte, List.length_append, List.append_assoc, List.cons_append, List.nil_append, Option.some.injEq, forall_const, implies_true, Int.reduceNeg, eq_self, Prod.mk.injEq, List.self_eq_append_right, List.append_nil, exists_eq_left, exists_eq_left', exists_and_left, exists_eq_right, exists_and_right]
end Go.Proofs.Ytaekgifbehoipaa.Mo
