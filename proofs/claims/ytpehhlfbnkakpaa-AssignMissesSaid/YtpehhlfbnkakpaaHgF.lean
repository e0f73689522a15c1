/- What square of the package assign answers. Conditions stand in each lemma. -/
import Derived.Test.YtpehhlfbnkakpaaHgE
namespace Go.Proofs.Ytpehhlfbnkakpaa.Hg
open Go Go.Proofs.Ytpehhlfbnkakpaa.Eva Go.Proofs.Ytpehhlfbnkakpaa.CodeAll Go.Proofs.Ytpehhlfbnkakpaa.Fl
set_option linter.unusedVariables false
set_option linter.unusedSimpArgs false
set_option maxRecDepth 10000
set_option maxHeartbeats 4000000

def fixC (c : Int) : Int := if c < 0 then 1125899906842624 else c
def priv (miss : Int) (i k : Nat) : Int := if k = i then miss else 1125899906842624
def sqRow (R : Nat) (miss : Int) (i : Nat) (r : List Int) : List Int := r.map fixC ++ (List.range R).map (priv miss i)
def gRow (rows : List (List Int)) (j : Nat) : List Int := (rows[j]?).getD []
theorem gRow_eq {rows : List (List Int)} {j : Nat} {r : List Int} (h : rows[j]? = some r) : gRow rows j = r := by simp [gRow, h]
def sqTo (rows : List (List Int)) (miss : Int) (i : Nat) : List (List Int) := (List.range i).map fun j => sqRow rows.length miss j (gRow rows j)
theorem sqTo_succ {rows : List (List Int)} {miss : Int} {i : Nat} {r : List Int} (h : rows[i]? = some r) : sqTo rows miss (i + 1) = sqTo rows miss i ++ [sqRow rows.length miss i r] := by
  simp [sqTo, List.range_succ, gRow_eq h]
def fixTo (r : List Int) (k : Nat) : List Int := (r.take k).map fixC ++ r.drop k
theorem fixTo_len {r : List Int} {k : Nat} : (fixTo r k).length = r.length := by simp [fixTo]; omega
theorem fixTo_get {r : List Int} {k : Nat} {c : Int} (h : r[k]? = some c) : (fixTo r k)[k]? = some c := by
  have hk := (List.getElem?_eq_some_iff.1 h).1
  have hl : ((r.take k).map fixC).length = k := by simp; omega
  rw [fixTo, List.getElem?_append_right (by omega), hl, Nat.sub_self, List.getElem?_drop, Nat.add_zero, h]
theorem fixTo_set {r : List Int} {k : Nat} {c : Int} (h : r[k]? = some c) : (fixTo r k).set k (fixC c) = fixTo r (k + 1) := by
  have hk := (List.getElem?_eq_some_iff.1 h).1
  have hl : ((r.take k).map fixC).length = k := by simp; omega
  have hd : r.drop k = c :: r.drop (k + 1) := by
    rw [List.drop_eq_getElem_cons hk]; congr 1
    rw [List.getElem?_eq_getElem hk] at h; simpa using h
  rw [fixTo, List.set_append_right _ _ (by omega), hl, Nat.sub_self, hd, List.set_cons_zero, fixTo, List.take_add_one, h]
  simp
theorem fixTo_same {r : List Int} {k : Nat} {c : Int} (h : r[k]? = some c) (h0 : ¬ c < 0) : fixTo r k = fixTo r (k + 1) := by
  rw [← fixTo_set h]
  have : fixC c = c := by simp [fixC, h0]
  rw [this]
  apply List.ext_getElem?
  intro j
  rw [List.getElem?_set]
  split
  · rename_i e; subst e
    rw [fixTo_get h]; split <;> simp_all
    rw [fixTo_len] at *; have := (List.getElem?_eq_some_iff.1 h).1; omega
  · rfl
theorem _root_.Go.Proofs.Ytpehhlfbnkakpaa.Eva.Arr.bu {α : Type} {n0 : Nat} {h : List Ob} {v : AV} {g : α → AV} {xs : List α} (A : Arr n0 h v g xs) : Bu n0 h v 1 (xs.map g) xs.length := by
  obtain ⟨id, ep, rfl, h2, h3⟩ := A
  exact ⟨by simp, Or.inr ⟨id, ep, _, rfl, h2, h3, Or.inr rfl⟩⟩
theorem _root_.Go.Proofs.Ytpehhlfbnkakpaa.Eva.Bu.len {n0 : Nat} {h : List Ob} {v : AV} {sz : Nat} {cs : List AV} {k : Nat} (B : Bu n0 h v sz cs k) : lenvA false v = some (.int .i64 k) := by
  obtain ⟨_, ⟨rfl, rfl⟩ | ⟨id, ep, cs', rfl, _⟩⟩ := B <;> rfl
theorem _root_.Go.Proofs.Ytpehhlfbnkakpaa.Eva.Bu.mono {n0 : Nat} {h h' : List Ob} {v : AV} {sz : Nat} {cs : List AV} {k : Nat} (B : Bu n0 h v sz cs k) (hm : ∀ id ep o, idOf v id → rdObj h id ep = some o → rdObj h' id ep = some o) : Bu n0 h' v sz cs k := by
  obtain ⟨hl, ⟨rfl, rfl⟩ | ⟨id, ep, cs', rfl, h2, h3, h4⟩⟩ := B
  · exact ⟨hl, Or.inl ⟨rfl, rfl⟩⟩
  · exact ⟨hl, Or.inr ⟨id, ep, cs', rfl, hm _ _ _ ⟨rfl, rfl⟩ h2, h3, h4⟩⟩
theorem _root_.Go.Proofs.Ytpehhlfbnkakpaa.Eva.Bu.idlt {n0 : Nat} {h : List Ob} {v : AV} {sz : Nat} {cs : List AV} {k : Nat} (B : Bu n0 h v sz cs k) {id : Nat} (hid : idOf v id) : id < h.length := by
  obtain ⟨hl, ⟨rfl, rfl⟩ | ⟨id', ep, cs', rfl, h2, h3, h4⟩⟩ := B
  · exact absurd hid idOf_nil
  · obtain ⟨_, rfl⟩ := hid; exact rd_lt h2
theorem _root_.Go.Proofs.Ytpehhlfbnkakpaa.Eva.Bu.shape {n0 : Nat} {h : List Ob} {v : AV} {sz : Nat} {cs : List AV} {k : Nat} (B : Bu n0 h v sz cs k) : cellsOf v = [v] ∧ v.isTup = false ∧ v.scalar = false := by
  obtain ⟨hl, ⟨rfl, rfl⟩ | ⟨id', ep, cs', rfl, h2, h3, h4⟩⟩ := B <;> exact ⟨rfl, rfl, rfl⟩
theorem fin_nest1 {n0 : Nat} {h : List Ob} {id ep sz k n : Nat} {cs : List AV} {f : Fr} (h2 : rdObj h id ep = some ⟨cs, ep, sz, true, false⟩) (h3 : n0 ≤ id) :
    fin n0 (.sl false id ep sz 0 k) (stt n f h n0 n0) = (.sl false id ep sz 0 k, h, n0, n0) := by
  have h6 : ¬ (False ∨ id < n0) := by simp; omega
  simp only [fin, Nat.lt_irrefl, if_false, refs, refsL, Bool.false_eq_true, if_neg h6, List.append_nil, dd, List.contains_nil, pickObjs, h2]
theorem range_take {α : Type} {R k : Nat} {g : Nat → α} (h : k < R) : (List.range (k + 1)).map g = (List.range k).map g ++ [g k] := by simp [List.range_succ]

theorem square_ex {H : List Ob} {V : AV} {vs : List AV} {rows : List (List Int)} (A : NsL H V vs rows) (hf : ∀ u ∈ vs, FgL H u) {miss : Int} (hok : Ok rows miss) :
    ∃ v vs' y, Wd H.length (H ++ y) v vs' (sqTo rows miss rows.length) ∧ ecall E 89 [V, .int .i64 miss] H = some (v, H ++ y, H.length, H.length) := by
  obtain ⟨hR, ⟨nC, hC⟩, hm0, hm1⟩ := hok
  have key : wc E H.length c89.nt c89.code (fun e f h' => exOk e = true ∧ ∃ v, rvq c89.nt f h' c89.res = some [v] ∧ ∃ vs', Wd H.length h' v vs' (sqTo rows miss rows.length)) (ofL [V, .int .i64 miss]) H := by
    have hlen := A.out.len
    rw [A.len] at hlen
    simp (config := {maxSteps := 8000000}) only [c89, hlen, SS, bne_self_eq_false, wr_def, obOf, List.all_cons, List.all_nil, List.map_cons, List.map_nil, List.length_cons, List.length_nil, List.take_zero, List.take_succ_cons, List.take_nil, List.drop_zero, List.drop_succ_cons, List.drop_nil, Nat.reduceAdd, Nat.reduceMul, Nat.reduceSub, if_true, Nat.reduceLT, Nat.reduceLeDiff, ite_true, ite_false, Nat.reduceEqDiff, if_false, reduceCtorEq, ne_eq, List.getD, List.getElem?_cons_zero, List.getElem?_cons_succ, Option.getD_some, Option.bind_some, Option.map_some, Option.isSome_some, reduceIte, List.length_append, List.append_assoc, List.cons_append, List.nil_append, Option.some.injEq, forall_const, implies_true, Int.reduceNeg, eq_self, Prod.mk.injEq, List.self_eq_append_right, List.append_nil, exists_eq_left, exists_eq_left', exists_and_left, exists_eq_right, exists_and_right]
    refine W_loop (fun q f1 h1 => ∃ i : Nat, q = rows.length - i ∧ i ≤ rows.length ∧ f1 0 = V ∧ f1 1 = .int .i64 miss ∧ f1 13 = V ∧ f1 14 = .int .i64 (rows.length : Int) ∧ f1 15 = .int .i64 (i : Int) ∧ ∃ vs', Wd H.length h1 (f1 5) vs' (sqTo rows miss i)) (Nat.le_refl _) rows.length ⟨0, rfl, by omega, rfl, rfl, rfl, rfl, rfl, [], Wd.nil⟩ ?_
    rintro q f1 h1 hn1 ht ⟨i, rfl, hi, e0, e1, e13, e14, e15, vs', hW⟩
    rw [List.take_length] at ht
    have hH := take_eq ht
    generalize h1.drop H.length = x at hH
    subst hH
    by_cases hiR : i < rows.length
    · have hc1 : decide ((i : Int) < (rows.length : Int)) = true := decide_eq_true (by omega)
      have hw1 : IntKind.i64.wrap ((i : Int) + 1) = ((i + 1 : Nat) : Int) := by rw [wrap64 (by omega) (by omega)]; omega
      obtain ⟨u, r, hr, hu, S, d1, o1⟩ := A.row hiR
      have hrm := List.mem_of_getElem? hr
      obtain ⟨r1, r2, r3⟩ := hC r hrm
      have hfu := hf u (List.mem_of_getElem? hu)
      obtain ⟨W, o, hcl, hW0⟩ := clone_i (S.keep x) (hfu.keep S x) (by omega)
      have hcn := ncall_some.2 hcl
      have hB0 : Bu H.length (H ++ (x ++ o)) W 1 (r.map gI) r.length := by
        rcases hW0 with ⟨rfl, rfl, rfl⟩ | ⟨rfl, rfl⟩
        · exact ⟨rfl, Or.inl ⟨rfl, rfl⟩⟩
        · refine ⟨by simp, Or.inr ⟨_, 0, r.map gI, rfl, ?_, by simp, Or.inr rfl⟩⟩
          rw [← List.append_assoc]; exact rd_last (o := ⟨r.map gI, 0, 1, true, true⟩)
      have hid0 : ∀ id, idOf W id → ¬ InW (f1 5) vs' id := by
        intro id hid hin
        have := hW.lt hin
        rcases hW0 with ⟨rfl, rfl, rfl⟩ | ⟨rfl, rfl⟩
        · exact absurd hid idOf_nil
        · obtain ⟨_, rfl⟩ := hid; omega
      have hlW := hB0.len
      have hW1 := hW.keep o
      rw [List.append_assoc] at hW1
      clear hW0 hcl hW
      simp (config := {maxSteps := 8000000}) only [e0, e1, e13, e14, e15, hc1, o1, isPtr_idx o1, d1, rg_calln, ncallV_fn, hcn, hlW, SS, bne_self_eq_false, wr_def, obOf, List.all_cons, List.all_nil, List.map_cons, List.map_nil, List.length_cons, List.length_nil, List.take_zero, List.take_succ_cons, List.take_nil, List.drop_zero, List.drop_succ_cons, List.drop_nil, Nat.reduceAdd, Nat.reduceMul, Nat.reduceSub, if_true, Nat.reduceLT, Nat.reduceLeDiff, ite_true, ite_false, Nat.reduceEqDiff, if_false, reduceCtorEq, ne_eq, List.getD, List.getElem?_cons_zero, List.getElem?_cons_succ, Option.getD_some, Option.bind_some, Option.map_some, Option.isSome_some, reduceIte, List.length_append, List.append_assoc, List.cons_append, List.nil_append, Option.some.injEq, forall_const, implies_true, Int.reduceNeg, eq_self, Prod.mk.injEq, List.self_eq_append_right, List.append_nil, exists_eq_left, exists_eq_left', exists_and_left, exists_eq_right, exists_and_right]
      clear hcn
      generalize hvo : f1 5 = vo at *
      -- what may not be
      refine Go.Proofs.Ytpehhlfbnkakpaa.Eva.W.mono (Q := fun e f2 h2 => e = .ex 2 ∧ f2 0 = V ∧ f2 1 = .int .i64 miss ∧ f2 5 = vo ∧ f2 6 = .int .i64 (i : Int) ∧ f2 8 = W ∧ f2 13 = V ∧ f2 14 = .int .i64 (rows.length : Int) ∧ f2 15 = .int .i64 (i : Int) ∧ Wd H.length h2 vo vs' (sqTo rows miss i) ∧ Bu H.length h2 W 1 ((fixTo r r.length).map gI) r.length)
        (W_loop (fun q f2 h2 => ∃ k : Nat, q = r.length - k ∧ k ≤ r.length ∧ f2 0 = V ∧ f2 1 = .int .i64 miss ∧ f2 5 = vo ∧ f2 6 = .int .i64 (i : Int) ∧ f2 8 = W ∧ f2 13 = V ∧ f2 14 = .int .i64 (rows.length : Int) ∧ f2 15 = .int .i64 (i : Int) ∧ f2 22 = W ∧ f2 23 = .int .i64 (r.length : Int) ∧ f2 24 = .int .i64 (k : Int) ∧ Wd H.length h2 vo vs' (sqTo rows miss i) ∧ Bu H.length h2 W 1 ((fixTo r k).map gI) r.length) (by simp) r.length
          ⟨0, rfl, by omega, by simp only [e0, SS, bne_self_eq_false, wr_def, obOf, List.all_cons, List.all_nil, List.map_cons, List.map_nil, List.length_cons, List.length_nil, List.take_zero, List.take_succ_cons, List.take_nil, List.drop_zero, List.drop_succ_cons, List.drop_nil, Nat.reduceAdd, Nat.reduceMul, Nat.reduceSub, if_true, Nat.reduceLT, Nat.reduceLeDiff, ite_true, ite_false, Nat.reduceEqDiff, if_false, reduceCtorEq, ne_eq, List.getD, List.getElem?_cons_zero, List.getElem?_cons_succ, Option.getD_some, Option.bind_some, Option.map_some, Option.isSome_some, reduceIte, List.length_append, List.append_assoc, List.cons_append, List.nil_append, Option.some.injEq, forall_const, implies_true, Int.reduceNeg, eq_self, Prod.mk.injEq, List.self_eq_append_right, List.append_nil, exists_eq_left, exists_eq_left', exists_and_left, exists_eq_right, exists_and_right], by simp only [e1, SS, bne_self_eq_false, wr_def, obOf, List.all_cons, List.all_nil, List.map_cons, List.map_nil, List.length_cons, List.length_nil, List.take_zero, List.take_succ_cons, List.take_nil, List.drop_zero, List.drop_succ_cons, List.drop_nil, Nat.reduceAdd, Nat.reduceMul, Nat.reduceSub, if_true, Nat.reduceLT, Nat.reduceLeDiff, ite_true, ite_false, Nat.reduceEqDiff, if_false, reduceCtorEq, ne_eq, List.getD, List.getElem?_cons_zero, List.getElem?_cons_succ, Option.getD_some, Option.bind_some, Option.map_some, Option.isSome_some, reduceIte, List.length_append, List.append_assoc, List.cons_append, List.nil_append, Option.some.injEq, forall_const, implies_true, Int.reduceNeg, eq_self, Prod.mk.injEq, List.self_eq_append_right, List.append_nil, exists_eq_left, exists_eq_left', exists_and_left, exists_eq_right, exists_and_right], by simp only [hvo, SS, bne_self_eq_false, wr_def, obOf, List.all_cons, List.all_nil, List.map_cons, List.map_nil, List.length_cons, List.length_nil, List.take_zero, List.take_succ_cons, List.take_nil, List.drop_zero, List.drop_succ_cons, List.drop_nil, Nat.reduceAdd, Nat.reduceMul, Nat.reduceSub, if_true, Nat.reduceLT, Nat.reduceLeDiff, ite_true, ite_false, Nat.reduceEqDiff, if_false, reduceCtorEq, ne_eq, List.getD, List.getElem?_cons_zero, List.getElem?_cons_succ, Option.getD_some, Option.bind_some, Option.map_some, Option.isSome_some, reduceIte, List.length_append, List.append_assoc, List.cons_append, List.nil_append, Option.some.injEq, forall_const, implies_true, Int.reduceNeg, eq_self, Prod.mk.injEq, List.self_eq_append_right, List.append_nil, exists_eq_left, exists_eq_left', exists_and_left, exists_eq_right, exists_and_right], rfl, rfl, by simp only [e13, SS, bne_self_eq_false, wr_def, obOf, List.all_cons, List.all_nil, List.map_cons, List.map_nil, List.length_cons, List.length_nil, List.take_zero, List.take_succ_cons, List.take_nil, List.drop_zero, List.drop_succ_cons, List.drop_nil, Nat.reduceAdd, Nat.reduceMul, Nat.reduceSub, if_true, Nat.reduceLT, Nat.reduceLeDiff, ite_true, ite_false, Nat.reduceEqDiff, if_false, reduceCtorEq, ne_eq, List.getD, List.getElem?_cons_zero, List.getElem?_cons_succ, Option.getD_some, Option.bind_some, Option.map_some, Option.isSome_some, reduceIte, List.length_append, List.append_assoc, List.cons_append, List.nil_append, Option.some.injEq, forall_const, implies_true, Int.reduceNeg, eq_self, Prod.mk.injEq, List.self_eq_append_right, List.append_nil, exists_eq_left, exists_eq_left', exists_and_left, exists_eq_right, exists_and_right], by simp only [e14, SS, bne_self_eq_false, wr_def, obOf, List.all_cons, List.all_nil, List.map_cons, List.map_nil, List.length_cons, List.length_nil, List.take_zero, List.take_succ_cons, List.take_nil, List.drop_zero, List.drop_succ_cons, List.drop_nil, Nat.reduceAdd, Nat.reduceMul, Nat.reduceSub, if_true, Nat.reduceLT, Nat.reduceLeDiff, ite_true, ite_false, Nat.reduceEqDiff, if_false, reduceCtorEq, ne_eq, List.getD, List.getElem?_cons_zero, List.getElem?_cons_succ, Option.getD_some, Option.bind_some, Option.map_some, Option.isSome_some, reduceIte, List.length_append, List.append_assoc, List.cons_append, List.nil_append, Option.some.injEq, forall_const, implies_true, Int.reduceNeg, eq_self, Prod.mk.injEq, List.self_eq_append_right, List.append_nil, exists_eq_left, exists_eq_left', exists_and_left, exists_eq_right, exists_and_right], by simp only [e15, SS, bne_self_eq_false, wr_def, obOf, List.all_cons, List.all_nil, List.map_cons, List.map_nil, List.length_cons, List.length_nil, List.take_zero, List.take_succ_cons, List.take_nil, List.drop_zero, List.drop_succ_cons, List.drop_nil, Nat.reduceAdd, Nat.reduceMul, Nat.reduceSub, if_true, Nat.reduceLT, Nat.reduceLeDiff, ite_true, ite_false, Nat.reduceEqDiff, if_false, reduceCtorEq, ne_eq, List.getD, List.getElem?_cons_zero, List.getElem?_cons_succ, Option.getD_some, Option.bind_some, Option.map_some, Option.isSome_some, reduceIte, List.length_append, List.append_assoc, List.cons_append, List.nil_append, Option.some.injEq, forall_const, implies_true, Int.reduceNeg, eq_self, Prod.mk.injEq, List.self_eq_append_right, List.append_nil, exists_eq_left, exists_eq_left', exists_and_left, exists_eq_right, exists_and_right], rfl, rfl, rfl, hW1, by simpa [fixTo] using hB0⟩ ?_) ?_
      · clear hW1 hB0 hvo e0 e1 e13 e14 e15
        rintro q f2 h2 hn2 ht2 ⟨k, rfl, hk, e0, e1, e5, e6, e8, e13, e14, e15, e22, e23, e24, hW, hB⟩
        by_cases hkr : k < r.length
        · have hc2 : decide ((k : Int) < (r.length : Int)) = true := decide_eq_true (by omega)
          have hw2 : IntKind.i64.wrap ((k : Int) + 1) = ((k + 1 : Nat) : Int) := by rw [wrap64 (by omega) (by omega)]; omega
          obtain ⟨c, hcc⟩ : ∃ c, r[k]? = some c := ⟨_, List.getElem?_eq_getElem hkr⟩
          have hA : Arr H.length h2 W gI (fixTo r k) := Arr.of_isl (hB.isl (by omega)) fixTo_len.symm (by omega)
          have o2 := hA.ok (kk := .i64) (i := (k : Int)) (by omega) (by rw [fixTo_len]; omega)
          have d2 := hA.ld (kk := .i64) (i := (k : Int)) (by omega) (by rw [Int.toNat_natCast]; exact fixTo_get hcc)
          simp only [gI] at d2
          by_cases hc0 : c < 0
          · have hc3 : decide (c < 0) = true := decide_eq_true hc0
            have s1 := hA.stOk (kk := .i64) (i := (k : Int)) (1125899906842624 : Int) (by omega) (by rw [fixTo_len]; omega)
            obtain ⟨p1, p2, p3⟩ := hA.stH (kk := .i64) (i := (k : Int)) (1125899906842624 : Int) (by omega) (by rw [fixTo_len]; omega)
            have hfx : (1125899906842624 : Int) = fixC c := by simp [fixC, hc0]
            rw [Int.toNat_natCast] at p1
            have p4 := p1.bu
            conv at p4 => arg 5; rw [hfx, fixTo_set hcc]
            rw [List.length_set, fixTo_len] at p4
            simp only [gI] at s1
            simp (config := {maxSteps := 8000000}) only [e0, e1, e5, e6, e8, e13, e14, e15, e22, e23, e24, hc2, hw2, o2, isPtr_idx o2, d2, hc3, s1, SS, bne_self_eq_false, wr_def, obOf, List.all_cons, List.all_nil, List.map_cons, List.map_nil, List.length_cons, List.length_nil, List.take_zero, List.take_succ_cons, List.take_nil, List.drop_zero, List.drop_succ_cons, List.drop_nil, Nat.reduceAdd, Nat.reduceMul, Nat.reduceSub, if_true, Nat.reduceLT, Nat.reduceLeDiff, ite_true, ite_false, Nat.reduceEqDiff, if_false, reduceCtorEq, ne_eq, List.getD, List.getElem?_cons_zero, List.getElem?_cons_succ, Option.getD_some, Option.bind_some, Option.map_some, Option.isSome_some, reduceIte, List.length_append, List.append_assoc, List.cons_append, List.nil_append, Option.some.injEq, forall_const, implies_true, Int.reduceNeg, eq_self, Prod.mk.injEq, List.self_eq_append_right, List.append_nil, exists_eq_left, exists_eq_left', exists_and_left, exists_eq_right, exists_and_right]
            exact ⟨_, by omega, k + 1, rfl, by omega, rfl, hW.mono fun id ep o hid ho => p2 id ep o (fun hx => hid0 id hx hid) ho, p4⟩
          · have hc3 : decide (c < 0) = false := decide_eq_false hc0
            simp (config := {maxSteps := 8000000}) only [e0, e1, e5, e6, e8, e13, e14, e15, e22, e23, e24, hc2, hw2, o2, isPtr_idx o2, d2, hc3, SS, bne_self_eq_false, wr_def, obOf, List.all_cons, List.all_nil, List.map_cons, List.map_nil, List.length_cons, List.length_nil, List.take_zero, List.take_succ_cons, List.take_nil, List.drop_zero, List.drop_succ_cons, List.drop_nil, Nat.reduceAdd, Nat.reduceMul, Nat.reduceSub, if_true, Nat.reduceLT, Nat.reduceLeDiff, ite_true, ite_false, Nat.reduceEqDiff, if_false, reduceCtorEq, ne_eq, List.getD, List.getElem?_cons_zero, List.getElem?_cons_succ, Option.getD_some, Option.bind_some, Option.map_some, Option.isSome_some, reduceIte, List.length_append, List.append_assoc, List.cons_append, List.nil_append, Option.some.injEq, forall_const, implies_true, Int.reduceNeg, eq_self, Prod.mk.injEq, List.self_eq_append_right, List.append_nil, exists_eq_left, exists_eq_left', exists_and_left, exists_eq_right, exists_and_right]
            exact ⟨_, by omega, k + 1, rfl, by omega, rfl, hW, by rw [← fixTo_same hcc hc0]; exact hB⟩
        · have hc2 : decide ((k : Int) < (r.length : Int)) = false := decide_eq_false (by omega)
          have : k = r.length := by omega
          subst this
          simp (config := {maxSteps := 8000000}) only [e0, e1, e5, e6, e8, e13, e14, e15, e22, e23, e24, hc2, SS, bne_self_eq_false, wr_def, obOf, List.all_cons, List.all_nil, List.map_cons, List.map_nil, List.length_cons, List.length_nil, List.take_zero, List.take_succ_cons, List.take_nil, List.drop_zero, List.drop_succ_cons, List.drop_nil, Nat.reduceAdd, Nat.reduceMul, Nat.reduceSub, if_true, Nat.reduceLT, Nat.reduceLeDiff, ite_true, ite_false, Nat.reduceEqDiff, if_false, reduceCtorEq, ne_eq, List.getD, List.getElem?_cons_zero, List.getElem?_cons_succ, Option.getD_some, Option.bind_some, Option.map_some, Option.isSome_some, reduceIte, List.length_append, List.append_assoc, List.cons_append, List.nil_append, Option.some.injEq, forall_const, implies_true, Int.reduceNeg, eq_self, Prod.mk.injEq, List.self_eq_append_right, List.append_nil, exists_eq_left, exists_eq_left', exists_and_left, exists_eq_right, exists_and_right]
          exact ⟨hW, hB⟩
      clear hW1 hB0 hvo e0 e1 e13 e14 e15 hlW
      rintro e f2 h2 hn2 ht2 ⟨rfl, e0, e1, e5, e6, e8, e13, e14, e15, hW, hB⟩
      have hfr : fixTo r r.length = r.map fixC := by simp [fixTo]
      rw [hfr] at hB
      simp (config := {maxSteps := 8000000}) only [e0, e1, e5, e6, e8, e13, e14, e15, hlen, SS, bne_self_eq_false, wr_def, obOf, List.all_cons, List.all_nil, List.map_cons, List.map_nil, List.length_cons, List.length_nil, List.take_zero, List.take_succ_cons, List.take_nil, List.drop_zero, List.drop_succ_cons, List.drop_nil, Nat.reduceAdd, Nat.reduceMul, Nat.reduceSub, if_true, Nat.reduceLT, Nat.reduceLeDiff, ite_true, ite_false, Nat.reduceEqDiff, if_false, reduceCtorEq, ne_eq, List.getD, List.getElem?_cons_zero, List.getElem?_cons_succ, Option.getD_some, Option.bind_some, Option.map_some, Option.isSome_some, reduceIte, List.length_append, List.append_assoc, List.cons_append, List.nil_append, Option.some.injEq, forall_const, implies_true, Int.reduceNeg, eq_self, Prod.mk.injEq, List.self_eq_append_right, List.append_nil, exists_eq_left, exists_eq_left', exists_and_left, exists_eq_right, exists_and_right]
      have ht2' : h2.take H.length = H := by rw [ht2, List.take_left]
      clear ht2
      refine W_loop (fun q f3 h3 => ∃ k : Nat, q = rows.length - k ∧ k ≤ rows.length ∧ f3 0 = V ∧ f3 1 = .int .i64 miss ∧ f3 5 = vo ∧ f3 6 = .int .i64 (i : Int) ∧ f3 13 = V ∧ f3 14 = .int .i64 (rows.length : Int) ∧ f3 15 = .int .i64 (i : Int) ∧ f3 36 = .int .i64 (rows.length : Int) ∧ f3 37 = .int .i64 (k : Int) ∧ Wd H.length h3 vo vs' (sqTo rows miss i) ∧ Bu H.length h3 (f3 8) 1 ((r.map fixC ++ (List.range k).map (priv miss i)).map gI) (r.length + k) ∧ ∀ id, idOf (f3 8) id → ¬ InW vo vs' id) hn2 rows.length
        ⟨0, rfl, by omega, by simp only [e0, SS, bne_self_eq_false, wr_def, obOf, List.all_cons, List.all_nil, List.map_cons, List.map_nil, List.length_cons, List.length_nil, List.take_zero, List.take_succ_cons, List.take_nil, List.drop_zero, List.drop_succ_cons, List.drop_nil, Nat.reduceAdd, Nat.reduceMul, Nat.reduceSub, if_true, Nat.reduceLT, Nat.reduceLeDiff, ite_true, ite_false, Nat.reduceEqDiff, if_false, reduceCtorEq, ne_eq, List.getD, List.getElem?_cons_zero, List.getElem?_cons_succ, Option.getD_some, Option.bind_some, Option.map_some, Option.isSome_some, reduceIte, List.length_append, List.append_assoc, List.cons_append, List.nil_append, Option.some.injEq, forall_const, implies_true, Int.reduceNeg, eq_self, Prod.mk.injEq, List.self_eq_append_right, List.append_nil, exists_eq_left, exists_eq_left', exists_and_left, exists_eq_right, exists_and_right], by simp only [e1, SS, bne_self_eq_false, wr_def, obOf, List.all_cons, List.all_nil, List.map_cons, List.map_nil, List.length_cons, List.length_nil, List.take_zero, List.take_succ_cons, List.take_nil, List.drop_zero, List.drop_succ_cons, List.drop_nil, Nat.reduceAdd, Nat.reduceMul, Nat.reduceSub, if_true, Nat.reduceLT, Nat.reduceLeDiff, ite_true, ite_false, Nat.reduceEqDiff, if_false, reduceCtorEq, ne_eq, List.getD, List.getElem?_cons_zero, List.getElem?_cons_succ, Option.getD_some, Option.bind_some, Option.map_some, Option.isSome_some, reduceIte, List.length_append, List.append_assoc, List.cons_append, List.nil_append, Option.some.injEq, forall_const, implies_true, Int.reduceNeg, eq_self, Prod.mk.injEq, List.self_eq_append_right, List.append_nil, exists_eq_left, exists_eq_left', exists_and_left, exists_eq_right, exists_and_right], by simp only [e5, SS, bne_self_eq_false, wr_def, obOf, List.all_cons, List.all_nil, List.map_cons, List.map_nil, List.length_cons, List.length_nil, List.take_zero, List.take_succ_cons, List.take_nil, List.drop_zero, List.drop_succ_cons, List.drop_nil, Nat.reduceAdd, Nat.reduceMul, Nat.reduceSub, if_true, Nat.reduceLT, Nat.reduceLeDiff, ite_true, ite_false, Nat.reduceEqDiff, if_false, reduceCtorEq, ne_eq, List.getD, List.getElem?_cons_zero, List.getElem?_cons_succ, Option.getD_some, Option.bind_some, Option.map_some, Option.isSome_some, reduceIte, List.length_append, List.append_assoc, List.cons_append, List.nil_append, Option.some.injEq, forall_const, implies_true, Int.reduceNeg, eq_self, Prod.mk.injEq, List.self_eq_append_right, List.append_nil, exists_eq_left, exists_eq_left', exists_and_left, exists_eq_right, exists_and_right], by simp only [e6, SS, bne_self_eq_false, wr_def, obOf, List.all_cons, List.all_nil, List.map_cons, List.map_nil, List.length_cons, List.length_nil, List.take_zero, List.take_succ_cons, List.take_nil, List.drop_zero, List.drop_succ_cons, List.drop_nil, Nat.reduceAdd, Nat.reduceMul, Nat.reduceSub, if_true, Nat.reduceLT, Nat.reduceLeDiff, ite_true, ite_false, Nat.reduceEqDiff, if_false, reduceCtorEq, ne_eq, List.getD, List.getElem?_cons_zero, List.getElem?_cons_succ, Option.getD_some, Option.bind_some, Option.map_some, Option.isSome_some, reduceIte, List.length_append, List.append_assoc, List.cons_append, List.nil_append, Option.some.injEq, forall_const, implies_true, Int.reduceNeg, eq_self, Prod.mk.injEq, List.self_eq_append_right, List.append_nil, exists_eq_left, exists_eq_left', exists_and_left, exists_eq_right, exists_and_right], by simp only [e13, SS, bne_self_eq_false, wr_def, obOf, List.all_cons, List.all_nil, List.map_cons, List.map_nil, List.length_cons, List.length_nil, List.take_zero, List.take_succ_cons, List.take_nil, List.drop_zero, List.drop_succ_cons, List.drop_nil, Nat.reduceAdd, Nat.reduceMul, Nat.reduceSub, if_true, Nat.reduceLT, Nat.reduceLeDiff, ite_true, ite_false, Nat.reduceEqDiff, if_false, reduceCtorEq, ne_eq, List.getD, List.getElem?_cons_zero, List.getElem?_cons_succ, Option.getD_some, Option.bind_some, Option.map_some, Option.isSome_some, reduceIte, List.length_append, List.append_assoc, List.cons_append, List.nil_append, Option.some.injEq, forall_const, implies_true, Int.reduceNeg, eq_self, Prod.mk.injEq, List.self_eq_append_right, List.append_nil, exists_eq_left, exists_eq_left', exists_and_left, exists_eq_right, exists_and_right], by simp only [e14, SS, bne_self_eq_false, wr_def, obOf, List.all_cons, List.all_nil, List.map_cons, List.map_nil, List.length_cons, List.length_nil, List.take_zero, List.take_succ_cons, List.take_nil, List.drop_zero, List.drop_succ_cons, List.drop_nil, Nat.reduceAdd, Nat.reduceMul, Nat.reduceSub, if_true, Nat.reduceLT, Nat.reduceLeDiff, ite_true, ite_false, Nat.reduceEqDiff, if_false, reduceCtorEq, ne_eq, List.getD, List.getElem?_cons_zero, List.getElem?_cons_succ, Option.getD_some, Option.bind_some, Option.map_some, Option.isSome_some, reduceIte, List.length_append, List.append_assoc, List.cons_append, List.nil_append, Option.some.injEq, forall_const, implies_true, Int.reduceNeg, eq_self, Prod.mk.injEq, List.self_eq_append_right, List.append_nil, exists_eq_left, exists_eq_left', exists_and_left, exists_eq_right, exists_and_right], by simp only [e15, SS, bne_self_eq_false, wr_def, obOf, List.all_cons, List.all_nil, List.map_cons, List.map_nil, List.length_cons, List.length_nil, List.take_zero, List.take_succ_cons, List.take_nil, List.drop_zero, List.drop_succ_cons, List.drop_nil, Nat.reduceAdd, Nat.reduceMul, Nat.reduceSub, if_true, Nat.reduceLT, Nat.reduceLeDiff, ite_true, ite_false, Nat.reduceEqDiff, if_false, reduceCtorEq, ne_eq, List.getD, List.getElem?_cons_zero, List.getElem?_cons_succ, Option.getD_some, Option.bind_some, Option.map_some, Option.isSome_some, reduceIte, List.length_append, List.append_assoc, List.cons_append, List.nil_append, Option.some.injEq, forall_const, implies_true, Int.reduceNeg, eq_self, Prod.mk.injEq, List.self_eq_append_right, List.append_nil, exists_eq_left, exists_eq_left', exists_and_left, exists_eq_right, exists_and_right], rfl, rfl, hW, by simpa only [e8, List.range_zero, List.map_nil, List.append_nil, Nat.add_zero, SS, bne_self_eq_false, wr_def, obOf, List.all_cons, List.all_nil, List.map_cons, List.map_nil, List.length_cons, List.length_nil, List.take_zero, List.take_succ_cons, List.take_nil, List.drop_zero, List.drop_succ_cons, List.drop_nil, Nat.reduceAdd, Nat.reduceMul, Nat.reduceSub, if_true, Nat.reduceLT, Nat.reduceLeDiff, ite_true, ite_false, Nat.reduceEqDiff, if_false, reduceCtorEq, ne_eq, List.getD, List.getElem?_cons_zero, List.getElem?_cons_succ, Option.getD_some, Option.bind_some, Option.map_some, Option.isSome_some, reduceIte, List.length_append, List.append_assoc, List.cons_append, List.nil_append, Option.some.injEq, forall_const, implies_true, Int.reduceNeg, eq_self, Prod.mk.injEq, List.self_eq_append_right, List.append_nil, exists_eq_left, exists_eq_left', exists_and_left, exists_eq_right, exists_and_right] using hB, by simpa only [e8, SS, bne_self_eq_false, wr_def, obOf, List.all_cons, List.all_nil, List.map_cons, List.map_nil, List.length_cons, List.length_nil, List.take_zero, List.take_succ_cons, List.take_nil, List.drop_zero, List.drop_succ_cons, List.drop_nil, Nat.reduceAdd, Nat.reduceMul, Nat.reduceSub, if_true, Nat.reduceLT, Nat.reduceLeDiff, ite_true, ite_false, Nat.reduceEqDiff, if_false, reduceCtorEq, ne_eq, List.getD, List.getElem?_cons_zero, List.getElem?_cons_succ, Option.getD_some, Option.bind_some, Option.map_some, Option.isSome_some, reduceIte, List.length_append, List.append_assoc, List.cons_append, List.nil_append, Option.some.injEq, forall_const, implies_true, Int.reduceNeg, eq_self, Prod.mk.injEq, List.self_eq_append_right, List.append_nil, exists_eq_left, exists_eq_left', exists_and_left, exists_eq_right, exists_and_right] using hid0⟩ ?_
      clear e0 e1 e5 e6 e8 e13 e14 e15 hW hB hid0
      rintro q f3 h3 hn3 ht3 ⟨k, rfl, hk, e0, e1, e5, e6, e13, e14, e15, e36, e37, hW, hB, hid⟩
      have hH := take_eq (ht3.trans ht2')
      generalize h3.drop H.length = z at hH
      subst hH
      by_cases hkR : k < rows.length
      · have hc2 : decide ((k : Int) < (rows.length : Int)) = true := decide_eq_true (by omega)
        have hw2 : IntKind.i64.wrap ((k : Int) + 1) = ((k + 1 : Nat) : Int) := by rw [wrap64 (by omega) (by omega)]; omega
        have app : ∀ (P : AV → List Ob → Prop), (∀ v' h', Wd H.length h' vo vs' (sqTo rows miss i) → Bu H.length h' v' 1 ((r.map fixC ++ (List.range (k + 1)).map (priv miss i)).map gI) (r.length + (k + 1)) → (∀ id, idOf v' id → ¬ InW vo vs' id) → P v' h') →
            ∀ m, m = H.length + z.length → appK H.length 1 8 (H ++ (z ++ [⟨[.int .i64 (priv miss i k)], 0, 1, true, true⟩])) (f3 8) (.sl false m 0 1 0 1) P := by
          rintro P hP m rfl
          have hrm' : rdObj (H ++ (z ++ [(⟨[.int .i64 (priv miss i k)], 0, 1, true, true⟩ : Ob)])) (H.length + z.length) 0 = some ⟨[.int .i64 (priv miss i k)], 0, 1, true, true⟩ := by simp [rdObj]
          have hs1 : SlL (H ++ (z ++ [(⟨[.int .i64 (priv miss i k)], 0, 1, true, true⟩ : Ob)])) (.sl false (H.length + z.length) 0 1 0 1) intC 1 [priv miss i k] := ⟨fun _ => rfl, by decide, rfl, Or.inr ⟨_, 0, 0, _, rfl, hrm', by simp, rfl⟩⟩
          have hf1 : FgL (H ++ (z ++ [(⟨[.int .i64 (priv miss i k)], 0, 1, true, true⟩ : Ob)])) (.sl false (H.length + z.length) 0 1 0 1) := by
            rintro id ep ob ⟨_, rfl⟩ ho
            have h8 := rd_lt ho
            unfold rdObj at ho
            simp at ho
            obtain ⟨_, rfl⟩ := ho; rfl
          have hB' : Bu H.length (H ++ (z ++ [(⟨[.int .i64 (priv miss i k)], 0, 1, true, true⟩ : Ob)])) (f3 8) 1 ((r.map fixC ++ (List.range k).map (priv miss i)).map gI) (r.length + k) := hB.mono fun id ep o _ ho => rd_keep2 ho
          refine bu_app hB' hs1 hf1 (by unfold appLim; simp; omega) (by simp) (fun v' h' q1 q2 q3 q4 q5 => ?_)
          have hlz : (H ++ (z ++ [(⟨[.int .i64 (priv miss i k)], 0, 1, true, true⟩ : Ob)])).length = H.length + (z.length + 1) := by simp
          refine hP v' h' (hW.mono fun id ep o hx ho => q2 id ep o (rd_keep2 ho) fun hy => hid id hy hx) ?_ (fun id hx hin => ?_)
          · rw [range_take (Nat.lt_succ_self k)] 
            simpa [flat, intC, gI, Nat.add_assoc] using q1
          · have hlt := hW.lt hin
            rcases q4 with h9 | h9
            · have := idOf_inj h9 hx; rw [hlz] at this; simp at hlt; omega
            · exact hid id (h9 _ hx) hin
        by_cases hki : k = i
        · have hc3 : ((k : Int) == (i : Int)) = true := by rw [hki]; simp
          have hp : priv miss i k = miss := by simp [priv, hki]
          rw [hp] at app
          simp (config := {maxSteps := 8000000}) only [e0, e1, e5, e6, e13, e14, e15, e36, e37, hc2, hw2, hc3, hn3, SS, bne_self_eq_false, wr_def, obOf, List.all_cons, List.all_nil, List.map_cons, List.map_nil, List.length_cons, List.length_nil, List.take_zero, List.take_succ_cons, List.take_nil, List.drop_zero, List.drop_succ_cons, List.drop_nil, Nat.reduceAdd, Nat.reduceMul, Nat.reduceSub, if_true, Nat.reduceLT, Nat.reduceLeDiff, ite_true, ite_false, Nat.reduceEqDiff, if_false, reduceCtorEq, ne_eq, List.getD, List.getElem?_cons_zero, List.getElem?_cons_succ, Option.getD_some, Option.bind_some, Option.map_some, Option.isSome_some, reduceIte, List.length_append, List.append_assoc, List.cons_append, List.nil_append, Option.some.injEq, forall_const, implies_true, Int.reduceNeg, eq_self, Prod.mk.injEq, List.self_eq_append_right, List.append_nil, exists_eq_left, exists_eq_left', exists_and_left, exists_eq_right, exists_and_right]
          exact app _ (fun v' h' a b c => ⟨_, by omega, k + 1, rfl, by omega, rfl, a, b, c⟩) _ rfl
        · have hc3 : ((k : Int) == (i : Int)) = false := by rw [beq_eq_false_iff_ne]; omega
          have hp : priv miss i k = 1125899906842624 := by simp [priv, hki]
          rw [hp] at app
          simp (config := {maxSteps := 8000000}) only [e0, e1, e5, e6, e13, e14, e15, e36, e37, hc2, hw2, hc3, hn3, SS, bne_self_eq_false, wr_def, obOf, List.all_cons, List.all_nil, List.map_cons, List.map_nil, List.length_cons, List.length_nil, List.take_zero, List.take_succ_cons, List.take_nil, List.drop_zero, List.drop_succ_cons, List.drop_nil, Nat.reduceAdd, Nat.reduceMul, Nat.reduceSub, if_true, Nat.reduceLT, Nat.reduceLeDiff, ite_true, ite_false, Nat.reduceEqDiff, if_false, reduceCtorEq, ne_eq, List.getD, List.getElem?_cons_zero, List.getElem?_cons_succ, Option.getD_some, Option.bind_some, Option.map_some, Option.isSome_some, reduceIte, List.length_append, List.append_assoc, List.cons_append, List.nil_append, Option.some.injEq, forall_const, implies_true, Int.reduceNeg, eq_self, Prod.mk.injEq, List.self_eq_append_right, List.append_nil, exists_eq_left, exists_eq_left', exists_and_left, exists_eq_right, exists_and_right]
          exact app _ (fun v' h' a b c => ⟨_, by omega, k + 1, rfl, by omega, rfl, a, b, c⟩) _ rfl
      · have hc2 : decide ((k : Int) < (rows.length : Int)) = false := decide_eq_false (by omega)
        have hkE : k = rows.length := by omega
        subst hkE
        have hI := hB.isl (by omega)
        obtain ⟨sh1, sh2, sh3⟩ := hB.shape
        have hrl : (sqRow rows.length miss i r).length = r.length + rows.length := by simp [sqRow]
        simp (config := {maxSteps := 8000000}) only [e0, e1, e5, e6, e13, e14, e15, e36, e37, hc2, hw1, hn3, sh1, sh2, sh3, SS, bne_self_eq_false, wr_def, obOf, List.all_cons, List.all_nil, List.map_cons, List.map_nil, List.length_cons, List.length_nil, List.take_zero, List.take_succ_cons, List.take_nil, List.drop_zero, List.drop_succ_cons, List.drop_nil, Nat.reduceAdd, Nat.reduceMul, Nat.reduceSub, if_true, Nat.reduceLT, Nat.reduceLeDiff, ite_true, ite_false, Nat.reduceEqDiff, if_false, reduceCtorEq, ne_eq, List.getD, List.getElem?_cons_zero, List.getElem?_cons_succ, Option.getD_some, Option.bind_some, Option.map_some, Option.isSome_some, reduceIte, List.length_append, List.append_assoc, List.cons_append, List.nil_append, Option.some.injEq, forall_const, implies_true, Int.reduceNeg, eq_self, Prod.mk.injEq, List.self_eq_append_right, List.append_nil, exists_eq_left, exists_eq_left', exists_and_left, exists_eq_right, exists_and_right]
        refine wd_app (u := f3 8) (r := sqRow rows.length miss i r) (rw' := true) (hW.mono fun _ _ _ _ ho => rd_keep2 ho) ?_ hid (by simp [rdObj]) ?_ (by simp) (fun v' h' a b c => ?_)
        · rw [hrl]
          exact hI.mono fun _ _ _ _ ho => rd_keep2 ho
        · have := hW.len; rw [this]; simp [sqTo]; omega
        · rw [← sqTo_succ hr] at a
          exact ⟨_, by omega, i + 1, rfl, by omega, rfl, _, a⟩
    · have hc1 : decide ((i : Int) < (rows.length : Int)) = false := decide_eq_false (by omega)
      have hiE : i = rows.length := by omega
      subst hiE
      simp (config := {maxSteps := 8000000}) only [e0, e1, e13, e14, e15, hc1, SS, bne_self_eq_false, wr_def, obOf, List.all_cons, List.all_nil, List.map_cons, List.map_nil, List.length_cons, List.length_nil, List.take_zero, List.take_succ_cons, List.take_nil, List.drop_zero, List.drop_succ_cons, List.drop_nil, Nat.reduceAdd, Nat.reduceMul, Nat.reduceSub, if_true, Nat.reduceLT, Nat.reduceLeDiff, ite_true, ite_false, Nat.reduceEqDiff, if_false, reduceCtorEq, ne_eq, List.getD, List.getElem?_cons_zero, List.getElem?_cons_succ, Option.getD_some, Option.bind_some, Option.map_some, Option.isSome_some, reduceIte, List.length_append, List.append_assoc, List.cons_append, List.nil_append, Option.some.injEq, forall_const, implies_true, Int.reduceNeg, eq_self, Prod.mk.injEq, List.self_eq_append_right, List.append_nil, exists_eq_left, exists_eq_left', exists_and_left, exists_eq_right, exists_and_right]
      exact ⟨_, rfl, vs', hW⟩
  obtain ⟨ex, f', h', k1, k2, ⟨k3, v, k4, vs', k5⟩, k6⟩ := call_wc e89 rfl (Nat.le_of_ble_eq_true rfl) key
  have hh : h' = H ++ h'.drop H.length := take_eq k2
  have hE := k6 _ k3 k4
  simp only [mkRes] at hE
  rcases k5.isl with ⟨rfl, hvs, _⟩ | ⟨id, ep, rfl, h2, h3, h4⟩
  · refine ⟨.sl true 0 0 0 0 0, vs', [], ?_, ?_⟩
    · have hl := k5.len
      rw [hvs] at hl
      simp only [List.length_nil] at hl
      rw [hvs, List.length_eq_zero_iff.1 hl.symm]; exact Wd.nil
    · rw [hE, fin_ni, k2, List.append_nil]
  · refine ⟨_, vs', h'.drop H.length, by rw [← hh]; exact k5, ?_⟩
    rw [hE, fin_nest1 h2 h3, ← hh]
end Go.Proofs.Ytpehhlfbnkakpaa.Hg
