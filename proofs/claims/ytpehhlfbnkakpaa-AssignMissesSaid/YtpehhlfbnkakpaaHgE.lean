/- slices.Clone of whole numbers; slices of slices that are built. Conditions stand in each lemma. -/
import Derived.Test.YtpehhlfbnkakpaaHgD
namespace Go.Proofs.Ytpehhlfbnkakpaa.Hg
open Go Go.Proofs.Ytpehhlfbnkakpaa.Eva Go.Proofs.Ytpehhlfbnkakpaa.CodeAll Go.Proofs.Ytpehhlfbnkakpaa.Fl
set_option linter.unusedVariables false
set_option linter.unusedSimpArgs false
set_option maxRecDepth 10000
set_option maxHeartbeats 4000000

theorem clone_i {h : List Ob} {V : AV} {xs : List Int} (hs : SlL h V intC 1 xs) (hf : FgL h V) (hb : xs.length ≤ 1000) :
    ∃ W o, ecall E 49 [V] h = some (W, h ++ o, h.length, h.length) ∧ ((W = .sl true 0 0 0 0 0 ∧ o = [] ∧ xs = []) ∨ (W = .sl false h.length 0 1 0 xs.length ∧ o = [⟨xs.map gI, 0, 1, true, true⟩])) := by
  have hmap : flat intC xs = xs.map gI := by
    clear hs hf hb
    induction xs with
    | nil => rfl
    | cons x xs ih => simp only [flat, List.map_cons, List.flatten_cons] at ih ⊢; rw [ih]; rfl
  obtain ⟨b, hb1, hb2⟩ := hs.eqn
  cases b
  · refine ⟨.sl false h.length 0 1 0 xs.length, [⟨xs.map gI, 0, 1, true, true⟩], ?_, Or.inr ⟨rfl, rfl⟩⟩
    have key : wc E h.length c49.nt c49.code (fun e f h' => exOk e = true ∧ ∃ ep, rvq c49.nt f h' c49.res = some [.sl false h.length ep 1 0 xs.length] ∧ rdObj h' h.length ep = some ⟨xs.map gI, ep, 1, true, true⟩) (ofL [V]) h := by
      simp (config := {maxSteps := 4000000}) only [c49, hb1, SS, bne_self_eq_false, wr_def, obOf, List.all_cons, List.all_nil, List.map_cons, List.map_nil, List.length_cons, List.length_nil, List.take_zero, List.take_succ_cons, List.take_nil, List.drop_zero, List.drop_succ_cons, List.drop_nil, Nat.reduceAdd, Nat.reduceMul, Nat.reduceSub, if_true, Nat.reduceLT, Nat.reduceLeDiff, ite_true, ite_false, Nat.reduceEqDiff, if_false, reduceCtorEq, ne_eq, List.getD, List.getElem?_cons_zero, List.getElem?_cons_succ, Option.getD_some, Option.bind_some, Option.map_some, Option.isSome_some, reduceIte, List.length_append, List.append_assoc, List.cons_append, List.nil_append, Option.some.injEq, forall_const, implies_true, Int.reduceNeg, eq_self, Prod.mk.injEq, List.self_eq_append_right, List.append_nil, exists_eq_left, exists_eq_left', exists_and_left, exists_eq_right, exists_and_right]
      have hcont := fun a b => cont_sl (a := a) (b := b) (SlL.keep hs [⟨[], 0, 1, true, true⟩]) (hf.keep hs _)
      unfold appK
      by_cases hz : xs.length = 0
      · have hx : xs = [] := List.length_eq_zero_iff.1 hz
        subst hx
        have ha : aapp 1 8 ⟨h ++ [⟨[], 0, 1, true, true⟩], h.length, h.length⟩ (.sl false h.length 0 1 0 0) V = some (.sl false h.length 0 1 0 0, ⟨h ++ [⟨[], 0, 1, true, true⟩], h.length, h.length⟩) := by
          simp only [aapp, hcont, Option.bind_some, List.length_nil, if_true]
        simp only [appOk, appV, appH, ha]
        refine ⟨⟨trivial, trivial, by simp, by simp⟩, 0, ?_, ?_⟩
        · simp (config := {maxSteps := 4000000}) only [c49, SS, bne_self_eq_false, wr_def, obOf, List.all_cons, List.all_nil, List.map_cons, List.map_nil, List.length_cons, List.length_nil, List.take_zero, List.take_succ_cons, List.take_nil, List.drop_zero, List.drop_succ_cons, List.drop_nil, Nat.reduceAdd, Nat.reduceMul, Nat.reduceSub, if_true, Nat.reduceLT, Nat.reduceLeDiff, ite_true, ite_false, Nat.reduceEqDiff, if_false, reduceCtorEq, ne_eq, List.getD, List.getElem?_cons_zero, List.getElem?_cons_succ, Option.getD_some, Option.bind_some, Option.map_some, Option.isSome_some, reduceIte, List.length_append, List.append_assoc, List.cons_append, List.nil_append, Option.some.injEq, forall_const, implies_true, Int.reduceNeg, eq_self, Prod.mk.injEq, List.self_eq_append_right, List.append_nil, exists_eq_left, exists_eq_left', exists_and_left, exists_eq_right, exists_and_right]
        · simp [rdObj]
      · have ha : aapp 1 8 ⟨h ++ [⟨[], 0, 1, true, true⟩], h.length, h.length⟩ (.sl false h.length 0 1 0 0) V = some (.sl false h.length 1 1 0 xs.length, ⟨h ++ [⟨xs.map gI, 1, 1, true, true⟩], h.length, h.length⟩) := by
          have hr : rdObj (h ++ [(⟨[], 0, 1, true, true⟩ : Ob)]) h.length 0 = some ⟨[], 0, 1, true, true⟩ := by simp [rdObj]
          simp only [aapp, hcont, Option.bind_some, if_neg hz, hr]
          rw [if_pos ⟨trivial, by unfold appLim; omega⟩, if_pos ⟨trivial, by simp⟩, hmap]
          simp
        simp only [appOk, appV, appH, ha]
        refine ⟨⟨trivial, trivial, by simp, by simp⟩, 1, ?_, ?_⟩
        · simp (config := {maxSteps := 4000000}) only [c49, SS, bne_self_eq_false, wr_def, obOf, List.all_cons, List.all_nil, List.map_cons, List.map_nil, List.length_cons, List.length_nil, List.take_zero, List.take_succ_cons, List.take_nil, List.drop_zero, List.drop_succ_cons, List.drop_nil, Nat.reduceAdd, Nat.reduceMul, Nat.reduceSub, if_true, Nat.reduceLT, Nat.reduceLeDiff, ite_true, ite_false, Nat.reduceEqDiff, if_false, reduceCtorEq, ne_eq, List.getD, List.getElem?_cons_zero, List.getElem?_cons_succ, Option.getD_some, Option.bind_some, Option.map_some, Option.isSome_some, reduceIte, List.length_append, List.append_assoc, List.cons_append, List.nil_append, Option.some.injEq, forall_const, implies_true, Int.reduceNeg, eq_self, Prod.mk.injEq, List.self_eq_append_right, List.append_nil, exists_eq_left, exists_eq_left', exists_and_left, exists_eq_right, exists_and_right]
        · simp [rdObj]
    obtain ⟨e, f', h', k1, k2, ⟨k3, ep, k4, k5⟩, k6⟩ := call_wc e49 rfl (Nat.le_of_ble_eq_true rfl) key
    rw [k6 _ k3 k4]
    have := fin_ob (n := c49.nt) (f := f') (k := xs.length) k5 (Nat.le_refl _)
    simp only [mkRes, this, k2]
  · refine ⟨.sl true 0 0 0 0 0, [], ?_, Or.inl ⟨rfl, rfl, hb2 rfl⟩⟩
    have key : wc E h.length c49.nt c49.code (fun e f h' => exOk e = true ∧ rvq c49.nt f h' c49.res = some [.sl true 0 0 0 0 0]) (ofL [V]) h := by
      simp (config := {maxSteps := 4000000}) only [c49, hb1, SS, bne_self_eq_false, wr_def, obOf, List.all_cons, List.all_nil, List.map_cons, List.map_nil, List.length_cons, List.length_nil, List.take_zero, List.take_succ_cons, List.take_nil, List.drop_zero, List.drop_succ_cons, List.drop_nil, Nat.reduceAdd, Nat.reduceMul, Nat.reduceSub, if_true, Nat.reduceLT, Nat.reduceLeDiff, ite_true, ite_false, Nat.reduceEqDiff, if_false, reduceCtorEq, ne_eq, List.getD, List.getElem?_cons_zero, List.getElem?_cons_succ, Option.getD_some, Option.bind_some, Option.map_some, Option.isSome_some, reduceIte, List.length_append, List.append_assoc, List.cons_append, List.nil_append, Option.some.injEq, forall_const, implies_true, Int.reduceNeg, eq_self, Prod.mk.injEq, List.self_eq_append_right, List.append_nil, exists_eq_left, exists_eq_left', exists_and_left, exists_eq_right, exists_and_right]
    obtain ⟨e, f', h', k1, k2, ⟨k3, k4⟩, k6⟩ := call_wc e49 rfl (Nat.le_of_ble_eq_true rfl) key
    rw [k6 _ k3 k4, mkRes1, fin_ni, k2, List.append_nil]

/-- A slice of slices of whole numbers, of objects from n0 on. -/
structure Wd (n0 : Nat) (h : List Ob) (v : AV) (vs : List AV) (rows : List (List Int)) : Prop where
  isl : IsL n0 h v 1 false vs vs.length
  len : vs.length = rows.length
  rd : ∀ (i : Nat) u r, vs[i]? = some u → rows[i]? = some r → IsL n0 h u 1 true (r.map gI) r.length
  sep : ∀ u, u ∈ vs → ∀ id, idOf u id → ¬ idOf v id
def InW (v : AV) (vs : List AV) (id : Nat) : Prop := idOf v id ∨ ∃ u, u ∈ vs ∧ idOf u id
theorem Wd.mono {n0 : Nat} {h h' : List Ob} {v : AV} {vs : List AV} {rows : List (List Int)} (W : Wd n0 h v vs rows) (hm : ∀ id ep o, InW v vs id → rdObj h id ep = some o → rdObj h' id ep = some o) : Wd n0 h' v vs rows :=
  ⟨W.isl.mono fun id ep o hid ho => hm id ep o (Or.inl hid) ho, W.len, fun i u r hu hr => (W.rd i u r hu hr).mono fun id ep o hid ho => hm id ep o (Or.inr ⟨u, List.mem_of_getElem? hu, hid⟩) ho, W.sep⟩
theorem Wd.keep {n0 : Nat} {h : List Ob} {v : AV} {vs : List AV} {rows : List (List Int)} (W : Wd n0 h v vs rows) (y : List Ob) : Wd n0 (h ++ y) v vs rows := W.mono fun _ _ _ _ ho => rd_keep ho
theorem Wd.lt {n0 : Nat} {h : List Ob} {v : AV} {vs : List AV} {rows : List (List Int)} (W : Wd n0 h v vs rows) {id : Nat} (hid : InW v vs id) : id < h.length := by
  rcases hid with hid | ⟨u, hu, hid⟩
  · exact W.isl.idlt hid
  · obtain ⟨i, hi, hiu⟩ := List.getElem_of_mem hu
    have h1 : vs[i]? = some u := by rw [List.getElem?_eq_getElem hi, hiu]
    have h2 : ∃ r, rows[i]? = some r := ⟨_, List.getElem?_eq_getElem (by rw [← W.len]; exact hi)⟩
    obtain ⟨r, h2⟩ := h2
    exact (W.rd i u r h1 h2).idlt hid
theorem Wd.nil {n0 : Nat} {h : List Ob} : Wd n0 h (.sl true 0 0 0 0 0) [] [] := ⟨IsL.nil, rfl, fun i u r h => by simp at h, fun u h => by simp at h⟩
theorem isl_shape {n0 : Nat} {h : List Ob} {v : AV} {sz k : Nat} {fl : Bool} {cs : List AV} (H : IsL n0 h v sz fl cs k) : cellsOf v = [v] ∧ v.isTup = false ∧ v.scalar = false := by
  rcases H with ⟨rfl, _, _⟩ | ⟨id, ep, rfl, _⟩ <;> exact ⟨rfl, rfl, rfl⟩
/-- One more row. -/
theorem wd_app {n0 j : Nat} {h : List Ob} {v u : AV} {vs : List AV} {rows : List (List Int)} {r : List Int} {P : AV → List Ob → Prop} {rw' : Bool} (W : Wd n0 h v vs rows) (hu : IsL n0 h u 1 true (r.map gI) r.length) (hsep : ∀ id, idOf u id → ¬ InW v vs id)
    (hr : rdObj h j 0 = some ⟨[u], 0, 1, rw', false⟩) (hb : vs.length + 1 ≤ 1000) (hn : n0 ≤ h.length)
    (hK : ∀ v' h', Wd n0 h' v' (vs ++ [u]) (rows ++ [r]) → (∀ id ep o, rdObj h id ep = some o → ¬ idOf v id → rdObj h' id ep = some o) → h.length ≤ h'.length → P v' h') : appK n0 1 24 h v (.sl false j 0 1 0 1) P := by
  refine appK_at (c := [u]) (rw' := rw') (fl' := false) W.isl hr (by simp) rfl (by unfold appLim; omega) hn (fun v' h' hv' hfr hlen' hidv => ?_)
  have hnew : ∀ x, (x ∈ vs ∨ x = u) → ∀ id, idOf x id → ¬ idOf v' id := by
    intro x hx id hid hx'
    have hlt : id < h.length := by
      rcases hx with hx | rfl
      · exact W.lt (Or.inr ⟨x, hx, hid⟩)
      · exact hu.idlt hid
    rcases hidv with h8 | h8
    · have := idOf_inj h8 hx'; omega
    · have h9 := h8 _ hx'
      rcases hx with hx | rfl
      · exact W.sep x hx id hid h9
      · exact hsep id hid (Or.inl h9)
  refine hK v' h' ⟨?_, ?_, ?_, ?_⟩ hfr hlen'
  · rw [List.length_append]; simpa using hv'
  · rw [List.length_append, List.length_append, W.len]; rfl
  · intro i' u' r' hu' hr'
    by_cases hii : i' < vs.length
    · rw [List.getElem?_append_left hii] at hu'
      rw [List.getElem?_append_left (by rw [← W.len]; exact hii)] at hr'
      exact (W.rd i' u' r' hu' hr').mono fun id ep o hid ho => hfr id ep o ho (W.sep u' (List.mem_of_getElem? hu') id hid)
    · have hil2 : i' = vs.length := by
        have := (List.getElem?_eq_some_iff.1 hu').1
        simp at this; omega
      subst hil2
      rw [List.getElem?_append_right (Nat.le_refl _), Nat.sub_self] at hu'
      rw [W.len, List.getElem?_append_right (Nat.le_refl _), Nat.sub_self] at hr'
      simp only [List.getElem?_cons_zero, Option.some.injEq] at hu' hr'
      subst hu'; subst hr'
      exact hu.mono fun id ep o hid ho => hfr id ep o ho (fun h8 => hsep id hid (Or.inl h8))
  · intro x hx id hid
    exact hnew x (by simpa using hx) id hid
end Go.Proofs.Ytpehhlfbnkakpaa.Hg
