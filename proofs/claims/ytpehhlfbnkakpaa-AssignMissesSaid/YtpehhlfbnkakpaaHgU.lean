/- What the law AssignMisses needs: the greatest number, a test of numbers, and that a great cost of misses leaves nothing out. Conditions stand in each lemma. -/
import Derived.Test.YtpehhlfbnkakpaaHgT
namespace Go.Proofs.Ytpehhlfbnkakpaa.Hg
open Go Go.Proofs.Ytpehhlfbnkakpaa.Eva Go.Proofs.Ytpehhlfbnkakpaa.CodeAll Go.Proofs.Ytpehhlfbnkakpaa.Fl
set_option linter.unusedVariables false
set_option linter.unusedSimpArgs false
set_option maxRecDepth 10000
set_option maxHeartbeats 4000000

theorem call_trueW {E : Nat → Option CF} {g : Nat} {cf : CF} (hE : E g = some cf) {args : List AV} (hn : args.length = cf.np) (hnt : args.length ≤ cf.nt) {h : List Ob}
    (hw : W E h.length cf.nt cf.code (fun e f h => exOk e = true ∧ (rvq cf.nt f h cf.res).map mkRes = some (.bool true)) (ofL args) h) : ∃ r, ecall E g args h = some (.bool true, r) := by
  obtain ⟨e, f', h', k1, k2, k3, k4, k5⟩ := hw
  obtain ⟨vs, hv, hr⟩ := Option.map_eq_some_iff.1 k5
  refine ⟨(h, h.length, h.length), ?_⟩
  rw [ec_call hE hn hnt, k1]
  simp only [retE, Option.bind_some, k4, if_true, rvq_eq, hv, Option.map_some, hr]
  unfold fin
  simp only [Nat.lt_irrefl, if_false, refs_plain h.length (v := .bool true) rfl, dd, pickObjs, ren_plain _ _ (v := .bool true) rfl, List.append_nil, k3, List.take_length]
section
variable {E : Nat → Option CF} {n0 n : Nat} {f : Fr} {h : List Ob}
theorem rg_appg {d : Option Nat} {sz bytes s : Nat} {want : Bool} {x y : Opd} {av : List Opd} {q : Bool} {l : List Ins} {K : Fr → List Ob → Prop} : rg E n0 n (⟨d, .app sz bytes x y, some (s, want), av, q⟩ :: l) K f h =
    ((wnt (ev n f (.t s)) want = true → rg E n0 n (⟨d, .app sz bytes x y, none, av, q⟩ :: l) K f h) ∧ (wnt (ev n f (.t s)) want = false → rg E n0 n l K (updO f d und) h)) := Eq.trans rfl rfl
end

/-- IndexFunc and ContainsFunc over Int. -/
theorem ixf_Int {H : List Ob} {V : AV} {ks : List Int} {g : Nat} {caps : List AV} {p : Int → Bool} (hs : SlL H V intC 1 ks) (hbig : ks.length ≤ 1125899906842624) (hf : ∀ x k, k ∈ ks → pcall E g ([.int .i64 k] ++ caps) (H ++ x) = some (.bool (p k))) :
    ecall E 91 [V, .fn g caps] H = some (.int .i64 (ixGo p ks 0), H, H.length, H.length) := by
  refine call_plain e91 rfl (Nat.le_of_ble_eq_true rfl) rfl ?_
  generalize hR : ixGo p ks 0 = R
  have hlen := hs.len
  simp (config := {maxSteps := 4000000}) only [c91, hlen, SS, bne_self_eq_false, wr_def, obOf, List.all_cons, List.all_nil, List.map_cons, List.map_nil, List.length_cons, List.length_nil, List.take_zero, List.take_succ_cons, List.take_nil, List.drop_zero, List.drop_succ_cons, List.drop_nil, Nat.reduceAdd, Nat.reduceMul, Nat.reduceSub, if_true, Nat.reduceLT, Nat.reduceLeDiff, ite_true, ite_false, Nat.reduceEqDiff, if_false, reduceCtorEq, ne_eq, List.getD, List.getElem?_cons_zero, List.getElem?_cons_succ, Option.getD_some, Option.bind_some, Option.map_some, Option.isSome_some, reduceIte, List.length_append, List.append_assoc, List.cons_append, List.nil_append, Option.some.injEq, forall_const, implies_true, Int.reduceNeg, eq_self, Prod.mk.injEq, List.self_eq_append_right, List.append_nil, exists_eq_left, exists_eq_left', exists_and_left, exists_eq_right, exists_and_right]
  refine W_loop (fun q f1 h1 => ∃ j : Nat, q = ks.length - j ∧ j ≤ ks.length ∧ f1 0 = V ∧ f1 1 = .fn g caps ∧ f1 7 = .int .i64 ks.length ∧ f1 8 = .int .i64 j ∧ ixGo p (ks.drop j) j = R) (Nat.le_refl _) ks.length ⟨0, rfl, Nat.zero_le _, rfl, rfl, rfl, rfl, hR⟩ ?_
  rintro q f1 h1 hn1 ht ⟨j, rfl, hj, e0, e1, e7, e8, hgo⟩
  rw [List.take_length] at ht
  have hH := take_eq ht
  generalize h1.drop H.length = y at hH
  subst hH
  by_cases hjl : j < ks.length
  · have hjl' : decide ((j : Int) < (ks.length : Int)) = true := by simpa using hjl
    obtain ⟨k, hk⟩ : ∃ k, ks[j]? = some k := ⟨_, List.getElem?_eq_getElem hjl⟩
    have hd : ks.drop j = k :: ks.drop (j + 1) := by
      rw [List.drop_eq_getElem_cons hjl]; congr 1
      rw [List.getElem?_eq_getElem hjl] at hk; simpa using hk
    have hwj : IntKind.i64.wrap ((j : Int) + 1) = ((j + 1 : Nat) : Int) := by rw [wrap64 (by omega) (by omega)]; omega
    have hok : idxOk 1 V (.int .i64 (j : Int)) := hs.ok (by omega) (by omega)
    have hld := (hs.keep y).ld0 (i := (j : Int)) (kk := .i64) (x := k) (by omega) (by simpa using hk)
    have hp := hf y k (List.mem_of_getElem? hk)
    rw [hd] at hgo
    simp only [ixGo] at hgo
    simp only [intC, getC_zero, List.cons_append, List.nil_append] at hld hp
    simp (config := {maxSteps := 4000000}) only [e0, e1, e7, e8, hjl', hwj, hok, isPtr_idx hok, hld, hp, pcallV_fn, SS, bne_self_eq_false, wr_def, obOf, List.all_cons, List.all_nil, List.map_cons, List.map_nil, List.length_cons, List.length_nil, List.take_zero, List.take_succ_cons, List.take_nil, List.drop_zero, List.drop_succ_cons, List.drop_nil, Nat.reduceAdd, Nat.reduceMul, Nat.reduceSub, if_true, Nat.reduceLT, Nat.reduceLeDiff, ite_true, ite_false, Nat.reduceEqDiff, if_false, reduceCtorEq, ne_eq, List.getD, List.getElem?_cons_zero, List.getElem?_cons_succ, Option.getD_some, Option.bind_some, Option.map_some, Option.isSome_some, reduceIte, List.length_append, List.append_assoc, List.cons_append, List.nil_append, Option.some.injEq, forall_const, implies_true, Int.reduceNeg, eq_self, Prod.mk.injEq, List.self_eq_append_right, List.append_nil, exists_eq_left, exists_eq_left', exists_and_left, exists_eq_right, exists_and_right]
    refine ⟨fun k1 => ?_, fun k1 => ?_⟩
    · rw [if_pos k1] at hgo; subst hgo; rfl
    · rw [if_neg (by simpa using k1)] at hgo
      exact ⟨_, by omega, j + 1, rfl, by omega, rfl, hgo⟩
  · have hjl' : decide ((j : Int) < (ks.length : Int)) = false := by simpa using hjl
    have hd : ks.drop j = [] := List.drop_eq_nil_of_le (by omega)
    rw [hd] at hgo
    simp only [ixGo] at hgo
    subst hgo
    simp (config := {maxSteps := 8000000}) only [e0, e1, e7, e8, hjl', SS, bne_self_eq_false, wr_def, obOf, List.all_cons, List.all_nil, List.map_cons, List.map_nil, List.length_cons, List.length_nil, List.take_zero, List.take_succ_cons, List.take_nil, List.drop_zero, List.drop_succ_cons, List.drop_nil, Nat.reduceAdd, Nat.reduceMul, Nat.reduceSub, if_true, Nat.reduceLT, Nat.reduceLeDiff, ite_true, ite_false, Nat.reduceEqDiff, if_false, reduceCtorEq, ne_eq, List.getD, List.getElem?_cons_zero, List.getElem?_cons_succ, Option.getD_some, Option.bind_some, Option.map_some, Option.isSome_some, reduceIte, List.length_append, List.append_assoc, List.cons_append, List.nil_append, Option.some.injEq, forall_const, implies_true, Int.reduceNeg, eq_self, Prod.mk.injEq, List.self_eq_append_right, List.append_nil, exists_eq_left, exists_eq_left', exists_and_left, exists_eq_right, exists_and_right]
theorem ctf_Int {H : List Ob} {V : AV} {ks : List Int} {g : Nat} {caps : List AV} {p : Int → Bool} (hs : SlL H V intC 1 ks) (hbig : ks.length ≤ 1125899906842624) (hf : ∀ x k, k ∈ ks → pcall E g ([.int .i64 k] ++ caps) (H ++ x) = some (.bool (p k))) :
    pcall E 51 [V, .fn g caps] H = some (.bool (ks.any p)) := by
  refine pcall_some.2 (call_plain e51 rfl (Nat.le_of_ble_eq_true rfl) rfl ?_)
  have h1 := pcall_some.2 (ixf_Int hs hbig hf)
  simp (config := {maxSteps := 4000000}) only [c51, h1, SS, bne_self_eq_false, wr_def, obOf, List.all_cons, List.all_nil, List.map_cons, List.map_nil, List.length_cons, List.length_nil, List.take_zero, List.take_succ_cons, List.take_nil, List.drop_zero, List.drop_succ_cons, List.drop_nil, Nat.reduceAdd, Nat.reduceMul, Nat.reduceSub, if_true, Nat.reduceLT, Nat.reduceLeDiff, ite_true, ite_false, Nat.reduceEqDiff, if_false, reduceCtorEq, ne_eq, List.getD, List.getElem?_cons_zero, List.getElem?_cons_succ, Option.getD_some, Option.bind_some, Option.map_some, Option.isSome_some, reduceIte, List.length_append, List.append_assoc, List.cons_append, List.nil_append, Option.some.injEq, forall_const, implies_true, Int.reduceNeg, eq_self, Prod.mk.injEq, List.self_eq_append_right, List.append_nil, exists_eq_left, exists_eq_left', exists_and_left, exists_eq_right, exists_and_right]
  exact congrArg AV.bool (ixGo_any p ks 0)


theorem max_ex {H : List Ob} {V : AV} {xs : List Int} (hs : SlL H V intC 1 xs) (h0 : 0 < xs.length) (hb : xs.length ≤ 1000) : ∃ m, pcall E 53 [V] H = some (.int .i64 m) := by
  have key : ∃ v, (∃ m, v = .int .i64 m) ∧ ecall E 53 [V] H = some (v, H, H.length, H.length) := by
    refine call_exP e53 rfl (Nat.le_of_ble_eq_true rfl) (by rintro v ⟨m, rfl⟩; rfl) ?_
    have hlen := hs.len
    have hc0 : decide ((xs.length : Int) < 1) = false := decide_eq_false (by omega)
    obtain ⟨x0, hx0⟩ : ∃ x, xs[0]? = some x := ⟨_, List.getElem?_eq_getElem h0⟩
    have o0 : idxOk 1 V (.int .i64 0) := hs.ok (by omega) (by omega)
    have d0 : ld1A H (idxV 1 V (.int .i64 0)) = some (.int .i64 x0) := by rw [hs.ld0 (x := x0) (by omega) (by simpa using hx0)]; rfl
    simp (config := {maxSteps := 4000000}) only [c53, hlen, hc0, o0, isPtr_idx o0, d0, SS, bne_self_eq_false, wr_def, obOf, List.all_cons, List.all_nil, List.map_cons, List.map_nil, List.length_cons, List.length_nil, List.take_zero, List.take_succ_cons, List.take_nil, List.drop_zero, List.drop_succ_cons, List.drop_nil, Nat.reduceAdd, Nat.reduceMul, Nat.reduceSub, if_true, Nat.reduceLT, Nat.reduceLeDiff, ite_true, ite_false, Nat.reduceEqDiff, if_false, reduceCtorEq, ne_eq, List.getD, List.getElem?_cons_zero, List.getElem?_cons_succ, Option.getD_some, Option.bind_some, Option.map_some, Option.isSome_some, reduceIte, List.length_append, List.append_assoc, List.cons_append, List.nil_append, Option.some.injEq, forall_const, implies_true, Int.reduceNeg, eq_self, Prod.mk.injEq, List.self_eq_append_right, List.append_nil, exists_eq_left, exists_eq_left', exists_and_left, exists_eq_right, exists_and_right]
    refine W_loop (fun q f1 h1 => ∃ i : Nat, q = xs.length - i ∧ 1 ≤ i ∧ i ≤ xs.length ∧ f1 0 = V ∧ f1 4 = .int .i64 (i : Int) ∧ ∃ m, f1 3 = .int .i64 m) (Nat.le_refl _) (xs.length - 1) ⟨1, rfl, by omega, by omega, rfl, rfl, x0, rfl⟩ ?_
    rintro q f1 h1 hn1 ht ⟨i, rfl, hi0, hi, e0, e4, m, e3⟩
    rw [List.take_length] at ht
    have hH := take_eq ht
    generalize h1.drop H.length = z at hH
    subst hH
    by_cases hiR : i < xs.length
    · have hc1 : decide ((i : Int) < (xs.length : Int)) = true := decide_eq_true (by omega)
      have hw1 : IntKind.i64.wrap ((i : Int) + 1) = ((i + 1 : Nat) : Int) := by rw [wrap64 (by omega) (by omega)]; omega
      obtain ⟨x, hx⟩ : ∃ x, xs[i]? = some x := ⟨_, List.getElem?_eq_getElem hiR⟩
      have o1 : idxOk 1 V (.int .i64 (i : Int)) := hs.ok (by omega) (by omega)
      have d1 : ld1A (H ++ z) (idxV 1 V (.int .i64 (i : Int))) = some (.int .i64 x) := by rw [(hs.keep z).ld0 (x := x) (by omega) (by simpa using hx)]; rfl
      simp (config := {maxSteps := 4000000}) only [e0, e3, e4, hlen, hc1, hw1, o1, isPtr_idx o1, d1, SS, bne_self_eq_false, wr_def, obOf, List.all_cons, List.all_nil, List.map_cons, List.map_nil, List.length_cons, List.length_nil, List.take_zero, List.take_succ_cons, List.take_nil, List.drop_zero, List.drop_succ_cons, List.drop_nil, Nat.reduceAdd, Nat.reduceMul, Nat.reduceSub, if_true, Nat.reduceLT, Nat.reduceLeDiff, ite_true, ite_false, Nat.reduceEqDiff, if_false, reduceCtorEq, ne_eq, List.getD, List.getElem?_cons_zero, List.getElem?_cons_succ, Option.getD_some, Option.bind_some, Option.map_some, Option.isSome_some, reduceIte, List.length_append, List.append_assoc, List.cons_append, List.nil_append, Option.some.injEq, forall_const, implies_true, Int.reduceNeg, eq_self, Prod.mk.injEq, List.self_eq_append_right, List.append_nil, exists_eq_left, exists_eq_left', exists_and_left, exists_eq_right, exists_and_right]
      exact ⟨_, by omega, i + 1, rfl, by omega, by omega, rfl, _, rfl⟩
    · have hc1 : decide ((i : Int) < (xs.length : Int)) = false := decide_eq_false (by omega)
      simp (config := {maxSteps := 4000000}) only [e0, e3, e4, hlen, hc1, SS, bne_self_eq_false, wr_def, obOf, List.all_cons, List.all_nil, List.map_cons, List.map_nil, List.length_cons, List.length_nil, List.take_zero, List.take_succ_cons, List.take_nil, List.drop_zero, List.drop_succ_cons, List.drop_nil, Nat.reduceAdd, Nat.reduceMul, Nat.reduceSub, if_true, Nat.reduceLT, Nat.reduceLeDiff, ite_true, ite_false, Nat.reduceEqDiff, if_false, reduceCtorEq, ne_eq, List.getD, List.getElem?_cons_zero, List.getElem?_cons_succ, Option.getD_some, Option.bind_some, Option.map_some, Option.isSome_some, reduceIte, List.length_append, List.append_assoc, List.cons_append, List.nil_append, Option.some.injEq, forall_const, implies_true, Int.reduceNeg, eq_self, Prod.mk.injEq, List.self_eq_append_right, List.append_nil, exists_eq_left, exists_eq_left', exists_and_left, exists_eq_right, exists_and_right]
      exact ⟨_, rfl⟩
  obtain ⟨v, ⟨m, rfl⟩, hv⟩ := key
  exact ⟨m, pcall_some.2 hv⟩

/-- A row that misses has no cheap column that nobody has. -/
theorem no_free {rows : List (List Int)} {n : Nat} {T : Int} {τs : List Int} (hLP : LeastP rows n 1099511627776 T) (hV : Val rows n (fun i => (τs[i]?).getD (-1))) (hc : costOf rows 1099511627776 (fun i => (τs[i]?).getD (-1)) = T) (hl : τs.length = rows.length) {i k : Nat} (hi : i < rows.length) (hk : k < n) (hm : (τs[i]?).getD (-1) < 0) (h0 : 0 ≤ mF rows i k) (h1 : mF rows i k < 1073741824) : (τs.any fun y => (k : Int) == y) = true := by
  rw [List.any_eq_true]
  refine Classical.byContradiction fun hno => ?_
  have hno' : ∀ a, a < rows.length → (τs[a]?).getD (-1) ≠ (k : Int) := fun a ha e => by
    have h9 : τs[a]? = some τs[a] := List.getElem?_eq_getElem (by omega)
    rw [h9] at e
    exact hno ⟨τs[a], List.getElem_mem (by omega), by simpa using e.symm⟩
  have hle := hLP.2 (fun a => if a = i then (k : Int) else (τs[a]?).getD (-1)) ⟨fun a ha => ?_, fun a b ha hb e hp => ?_⟩
  · unfold costOf at hle hc
    have e2 : (fun a => costAt rows 1099511627776 a (if a = i then (k : Int) else (τs[a]?).getD (-1))) = fun a => if a = i then mF rows i k else costAt rows 1099511627776 a ((τs[a]?).getD (-1)) := by
      funext a
      by_cases h : a = i
      · subst h; rw [if_pos rfl, if_pos rfl, costAt, if_neg (by omega)]; simp
      · rw [if_neg h, if_neg h]
    rw [e2, sum_point (f := fun a => costAt rows 1099511627776 a ((τs[a]?).getD (-1))) hi, hc] at hle
    have e3 : costAt rows 1099511627776 i ((τs[i]?).getD (-1)) = 1099511627776 := if_pos hm
    simp only [e3] at hle
    omega
  · by_cases h : a = i
    · subst h
      simp only [if_pos]
      exact Or.inr ⟨by omega, by omega, by simpa using h0⟩
    · simp only [if_neg h]
      exact hV.rng a ha
  · by_cases h : a = i <;> by_cases g : b = i
    · rw [h, g]
    · simp only [if_pos h, if_neg g] at e
      exact absurd e.symm (hno' b hb)
    · simp only [if_neg h, if_pos g] at e
      exact absurd e (hno' a ha)
    · simp only [if_neg h, if_neg g] at e hp
      exact hV.inj a b ha hb e hp
end Go.Proofs.Ytpehhlfbnkakpaa.Hg
