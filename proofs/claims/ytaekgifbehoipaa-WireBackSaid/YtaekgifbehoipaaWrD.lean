/- Check of the package wire. Conditions stand in each lemma. -/
import Derived.Test.YtaekgifbehoipaaWrC
namespace Go.Proofs.Ytaekgifbehoipaa.Wr
open Go Go.Proofs.Ytaekgifbehoipaa.Eva Go.Proofs.Ytaekgifbehoipaa.CodeAll
set_option linter.unusedVariables false
set_option linter.unusedSimpArgs false
set_option maxRecDepth 10000
set_option maxHeartbeats 4000000

def VF (R T : Int) (ps : List Pl) : Prop := ps.length ≤ 32 ∧ 0 ≤ R ∧ R ≤ 255 ∧ 0 ≤ T ∧ T ≤ 200000 ∧ ∀ p ∈ ps, VP R T p
theorem check_ex {H : List Ob} {V : AV} {ps : List Pl} (hs : SlL H V Pl.c 6 ps) (hb : ps.length < 1125899906842624) (R T : Int) :
    ∃ e, (e = 0 ↔ VF R T ps) ∧ ∀ o, pcall E 59 [.agg [.int .i64 R, .int .i64 T, V]] (H ++ o) = some (.int .i64 e) := by
  suffices key : ∃ e, (e = 0 ↔ VF R T ps) ∧ ∀ o, ecall E 59 [.agg [.int .i64 R, .int .i64 T, V]] (H ++ o) = some (.int .i64 e, H ++ o, (H ++ o).length, (H ++ o).length) from by
    obtain ⟨e, h1, h2⟩ := key
    exact ⟨e, h1, fun o => pcall_some.2 (h2 o)⟩
  have hlen := hs.len
  have hcel := hs.cells
  by_cases c0 : 32 < ps.length
  · have b0 : decide ((32 : Int) < (ps.length : Int)) = true := decide_eq_true (by omega)
    refine ⟨2, ⟨fun h => by omega, fun h => by have := h.1; omega⟩, fun o => call_plain e59 rfl (Nat.le_of_ble_eq_true rfl) rfl ?_⟩
    simp (config := {maxSteps := 4000000}) only [c59, hlen, b0, SS, bne_self_eq_false, wr_def, obOf, List.all_cons, List.all_nil, List.map_cons, List.map_nil, List.length_cons, List.length_nil, List.take_zero, List.take_succ_cons, List.take_nil, List.drop_zero, List.drop_succ_cons, List.drop_nil, Nat.reduceAdd, Nat.reduceMul, Nat.reduceSub, if_true, Nat.reduceLT, Nat.reduceLeDiff, ite_true, ite_false, Nat.reduceEqDiff, if_false, reduceCtorEq, ne_eq, List.getD, List.getElem?_cons_zero, List.getElem?_cons_succ, Option.getD_some, Option.bind_some, Option.map_some, Option.isSome_some, reduceIte, List.length_append, List.append_assoc, List.cons_append, List.nil_append, Option.some.injEq, forall_const, implies_true, Int.reduceNeg, eq_self, Prod.mk.injEq, List.self_eq_append_right, List.append_nil, exists_eq_left, exists_eq_left', exists_and_left, exists_eq_right, exists_and_right]
  have b0 : decide ((32 : Int) < (ps.length : Int)) = false := decide_eq_false (by omega)

  by_cases c1 : 0 ≤ R
  rotate_left
  · have b1 : decide (R < 0) = true := decide_eq_true (by omega)
    refine ⟨4, ⟨fun h => by omega, fun h => absurd (by unfold VF at h; simp only [h]) c1⟩, fun o => call_plain e59 rfl (Nat.le_of_ble_eq_true rfl) rfl ?_⟩
    simp (config := {maxSteps := 4000000}) only [c59, hlen, b0, b1, SS, bne_self_eq_false, wr_def, obOf, List.all_cons, List.all_nil, List.map_cons, List.map_nil, List.length_cons, List.length_nil, List.take_zero, List.take_succ_cons, List.take_nil, List.drop_zero, List.drop_succ_cons, List.drop_nil, Nat.reduceAdd, Nat.reduceMul, Nat.reduceSub, if_true, Nat.reduceLT, Nat.reduceLeDiff, ite_true, ite_false, Nat.reduceEqDiff, if_false, reduceCtorEq, ne_eq, List.getD, List.getElem?_cons_zero, List.getElem?_cons_succ, Option.getD_some, Option.bind_some, Option.map_some, Option.isSome_some, reduceIte, List.length_append, List.append_assoc, List.cons_append, List.nil_append, Option.some.injEq, forall_const, implies_true, Int.reduceNeg, eq_self, Prod.mk.injEq, List.self_eq_append_right, List.append_nil, exists_eq_left, exists_eq_left', exists_and_left, exists_eq_right, exists_and_right]
  have b1 : decide (R < 0) = false := decide_eq_false (by omega)
  by_cases c2 : R ≤ 255
  rotate_left
  · have b2 : decide (255 < R) = true := decide_eq_true (by omega)
    refine ⟨4, ⟨fun h => by omega, fun h => absurd (by unfold VF at h; simp only [h]) c2⟩, fun o => call_plain e59 rfl (Nat.le_of_ble_eq_true rfl) rfl ?_⟩
    simp (config := {maxSteps := 4000000}) only [c59, hlen, b0, b1, b2, SS, bne_self_eq_false, wr_def, obOf, List.all_cons, List.all_nil, List.map_cons, List.map_nil, List.length_cons, List.length_nil, List.take_zero, List.take_succ_cons, List.take_nil, List.drop_zero, List.drop_succ_cons, List.drop_nil, Nat.reduceAdd, Nat.reduceMul, Nat.reduceSub, if_true, Nat.reduceLT, Nat.reduceLeDiff, ite_true, ite_false, Nat.reduceEqDiff, if_false, reduceCtorEq, ne_eq, List.getD, List.getElem?_cons_zero, List.getElem?_cons_succ, Option.getD_some, Option.bind_some, Option.map_some, Option.isSome_some, reduceIte, List.length_append, List.append_assoc, List.cons_append, List.nil_append, Option.some.injEq, forall_const, implies_true, Int.reduceNeg, eq_self, Prod.mk.injEq, List.self_eq_append_right, List.append_nil, exists_eq_left, exists_eq_left', exists_and_left, exists_eq_right, exists_and_right]
  have b2 : decide (255 < R) = false := decide_eq_false (by omega)
  by_cases c3 : 0 ≤ T
  rotate_left
  · have b3 : decide (T < 0) = true := decide_eq_true (by omega)
    refine ⟨4, ⟨fun h => by omega, fun h => absurd (by unfold VF at h; simp only [h]) c3⟩, fun o => call_plain e59 rfl (Nat.le_of_ble_eq_true rfl) rfl ?_⟩
    simp (config := {maxSteps := 4000000}) only [c59, hlen, b0, b1, b2, b3, SS, bne_self_eq_false, wr_def, obOf, List.all_cons, List.all_nil, List.map_cons, List.map_nil, List.length_cons, List.length_nil, List.take_zero, List.take_succ_cons, List.take_nil, List.drop_zero, List.drop_succ_cons, List.drop_nil, Nat.reduceAdd, Nat.reduceMul, Nat.reduceSub, if_true, Nat.reduceLT, Nat.reduceLeDiff, ite_true, ite_false, Nat.reduceEqDiff, if_false, reduceCtorEq, ne_eq, List.getD, List.getElem?_cons_zero, List.getElem?_cons_succ, Option.getD_some, Option.bind_some, Option.map_some, Option.isSome_some, reduceIte, List.length_append, List.append_assoc, List.cons_append, List.nil_append, Option.some.injEq, forall_const, implies_true, Int.reduceNeg, eq_self, Prod.mk.injEq, List.self_eq_append_right, List.append_nil, exists_eq_left, exists_eq_left', exists_and_left, exists_eq_right, exists_and_right]
  have b3 : decide (T < 0) = false := decide_eq_false (by omega)
  by_cases c4 : T ≤ 200000
  rotate_left
  · have b4 : decide (200000 < T) = true := decide_eq_true (by omega)
    refine ⟨4, ⟨fun h => by omega, fun h => absurd (by unfold VF at h; simp only [h]) c4⟩, fun o => call_plain e59 rfl (Nat.le_of_ble_eq_true rfl) rfl ?_⟩
    simp (config := {maxSteps := 4000000}) only [c59, hlen, b0, b1, b2, b3, b4, SS, bne_self_eq_false, wr_def, obOf, List.all_cons, List.all_nil, List.map_cons, List.map_nil, List.length_cons, List.length_nil, List.take_zero, List.take_succ_cons, List.take_nil, List.drop_zero, List.drop_succ_cons, List.drop_nil, Nat.reduceAdd, Nat.reduceMul, Nat.reduceSub, if_true, Nat.reduceLT, Nat.reduceLeDiff, ite_true, ite_false, Nat.reduceEqDiff, if_false, reduceCtorEq, ne_eq, List.getD, List.getElem?_cons_zero, List.getElem?_cons_succ, Option.getD_some, Option.bind_some, Option.map_some, Option.isSome_some, reduceIte, List.length_append, List.append_assoc, List.cons_append, List.nil_append, Option.some.injEq, forall_const, implies_true, Int.reduceNeg, eq_self, Prod.mk.injEq, List.self_eq_append_right, List.append_nil, exists_eq_left, exists_eq_left', exists_and_left, exists_eq_right, exists_and_right]
  have b4 : decide (200000 < T) = false := decide_eq_false (by omega)
  -- the first plot that is not valid decides
  have go : ∀ (k : Nat), k ≤ ps.length → ∃ e, (e = 0 ↔ ∀ j p, ps.length - k ≤ j → ps[j]? = some p → VP R T p) ∧ ((e = 0) ∨ ∃ i p, ps.length - k ≤ i ∧ ps[i]? = some p ∧ (∀ j q, ps.length - k ≤ j → j < i → ps[j]? = some q → VP R T q) ∧ ∀ H, pcall E 98 [.agg [.int .i64 R, .int .i64 T, V], .agg p.c] H = some (.int .i64 e)) := by
    intro k
    induction k with
    | zero => exact fun _ => ⟨0, ⟨fun _ j p hj hp => by have := (List.getElem?_eq_some_iff.1 hp).1; omega, fun _ => rfl⟩, Or.inl rfl⟩
    | succ k ih =>
      intro hk
      obtain ⟨e, h1, h2⟩ := ih (by omega)
      obtain ⟨p, hp⟩ : ∃ p, ps[ps.length - (k + 1)]? = some p := ⟨_, List.getElem?_eq_getElem (by omega)⟩
      obtain ⟨x, g1, g2⟩ := cp_ex R T V p
      by_cases hx : x = 0
      · have hv := g1.1 hx
        refine ⟨e, h1.trans ⟨fun h j q hj hq => ?_, fun h j q hj hq => h j q (by omega) hq⟩, h2.imp id fun ⟨i, q, q1, q2, q3, q4⟩ => ⟨i, q, by omega, q2, fun j r hj hji hr => ?_, q4⟩⟩
        · by_cases hje : j = ps.length - (k + 1)
          · subst hje; rw [hp] at hq; simp only [Option.some.injEq] at hq; subst hq; exact hv
          · exact h j q (by omega) hq
        · by_cases hje : j = ps.length - (k + 1)
          · subst hje; rw [hp] at hr; simp only [Option.some.injEq] at hr; subst hr; exact hv
          · exact q3 j r (by omega) hji hr
      · refine ⟨x, ⟨fun h => absurd h hx, fun h => absurd (g1.2 (h _ p (Nat.le_refl _) hp)) hx⟩, Or.inr ⟨_, p, Nat.le_refl _, hp, fun j q hj hji => by omega, g2⟩⟩
  obtain ⟨e, he, hcase⟩ := go ps.length (Nat.le_refl _)
  rw [Nat.sub_self] at he hcase
  have hVF : VF R T ps ↔ ∀ j p, 0 ≤ j → ps[j]? = some p → VP R T p := ⟨fun h j p _ hp => h.2.2.2.2.2 p (List.mem_of_getElem? hp), fun h => ⟨by omega, c1, c2, c3, c4, fun p hp => by
    obtain ⟨j, hj, rfl⟩ := List.getElem_of_mem hp
    exact h j _ (Nat.zero_le _) (List.getElem?_eq_getElem hj)⟩⟩
  refine ⟨e, he.trans hVF.symm, fun o => call_plain e59 rfl (Nat.le_of_ble_eq_true rfl) rfl ?_⟩
  simp (config := {maxSteps := 4000000}) only [c59, hlen, b0, b1, b2, b3, b4, SS, bne_self_eq_false, wr_def, obOf, List.all_cons, List.all_nil, List.map_cons, List.map_nil, List.length_cons, List.length_nil, List.take_zero, List.take_succ_cons, List.take_nil, List.drop_zero, List.drop_succ_cons, List.drop_nil, Nat.reduceAdd, Nat.reduceMul, Nat.reduceSub, if_true, Nat.reduceLT, Nat.reduceLeDiff, ite_true, ite_false, Nat.reduceEqDiff, if_false, reduceCtorEq, ne_eq, List.getD, List.getElem?_cons_zero, List.getElem?_cons_succ, Option.getD_some, Option.bind_some, Option.map_some, Option.isSome_some, reduceIte, List.length_append, List.append_assoc, List.cons_append, List.nil_append, Option.some.injEq, forall_const, implies_true, Int.reduceNeg, eq_self, Prod.mk.injEq, List.self_eq_append_right, List.append_nil, exists_eq_left, exists_eq_left', exists_and_left, exists_eq_right, exists_and_right]
  have hsv := fun o => hs.keep o
  refine W_loop (fun q f1 h1 => ∃ i : Nat, q = ps.length - i ∧ i ≤ ps.length ∧ f1 1 = .ptr (H.length + o.length) 0 0 ∧ f1 31 = V ∧ f1 32 = .int .i64 (ps.length : Int) ∧ f1 33 = .int .i64 (i : Int) ∧ (∃ fl, rdObj h1 (H.length + o.length) 0 = some ⟨[.int .i64 R, .int .i64 T, V], 0, 0, true, fl⟩) ∧ ∀ j p, j < i → ps[j]? = some p → VP R T p) (by simp) ps.length ?_ ?_
  · exact ⟨0, rfl, by omega, rfl, rfl, rfl, rfl, ⟨_, by unfold rdObj; rw [← List.append_assoc, ← List.length_append, List.getElem?_append_right (Nat.le_refl _), Nat.sub_self]; rfl⟩, fun j p hj => by omega⟩
  rintro q f1 h1 hn1 ht ⟨i, rfl, hi, e1, e31, e32, e33, ⟨fl, hrd⟩, hv⟩
  have hH1 : h1.take H.length = H := by
    have := congrArg (List.take H.length) ht
    rw [List.take_take, Nat.min_eq_left (by omega), List.take_take, Nat.min_eq_left (by omega)] at this
    rw [this]; simp
  have hH := take_eq hH1
  generalize h1.drop H.length = z at hH
  subst hH
  have hrd2 : ∀ y, rdObj (H ++ (z ++ y)) (H.length + o.length) 0 = some ⟨[.int .i64 R, .int .i64 T, V], 0, 0, true, fl⟩ := fun y => rd_keep2 hrd
  by_cases hiR : i < ps.length
  · have hc : decide ((i : Int) < (ps.length : Int)) = true := decide_eq_true (by omega)
    have hw1 : IntKind.i64.wrap ((i : Int) + 1) = ((i + 1 : Nat) : Int) := by rw [wrap64 (by omega) (by omega)]; omega
    obtain ⟨p, hp⟩ : ∃ p, ps[i]? = some p := ⟨_, List.getElem?_eq_getElem hiR⟩
    have o1 : idxOk 6 V (.int .i64 (i : Int)) := hs.ok (by omega) (by omega)
    have d1 : ldnA 6 (H ++ z) (idxV 6 V (.int .i64 (i : Int))) = some (.agg p.c) := (hs.keep z).ldn (by omega) (by simpa using hp)
    by_cases hvp : VP R T p
    · obtain ⟨x, g1, g2⟩ := cp_ex R T V p
      have hx := g1.2 hvp
      subst hx
      have b9 : ((0 : Int) != 0) = false := rfl
      simp only [Pl.c] at d1 g2
      simp (config := {maxSteps := 4000000}) only [e1, e31, e32, e33, hc, hw1, o1, isPtr_idx o1, d1, hrd, hrd2, g2, b9, hn1, SS, bne_self_eq_false, wr_def, obOf, List.all_cons, List.all_nil, List.map_cons, List.map_nil, List.length_cons, List.length_nil, List.take_zero, List.take_succ_cons, List.take_nil, List.drop_zero, List.drop_succ_cons, List.drop_nil, Nat.reduceAdd, Nat.reduceMul, Nat.reduceSub, if_true, Nat.reduceLT, Nat.reduceLeDiff, ite_true, ite_false, Nat.reduceEqDiff, if_false, reduceCtorEq, ne_eq, List.getD, List.getElem?_cons_zero, List.getElem?_cons_succ, Option.getD_some, Option.bind_some, Option.map_some, Option.isSome_some, reduceIte, List.length_append, List.append_assoc, List.cons_append, List.nil_append, Option.some.injEq, forall_const, implies_true, Int.reduceNeg, eq_self, Prod.mk.injEq, List.self_eq_append_right, List.append_nil, exists_eq_left, exists_eq_left', exists_and_left, exists_eq_right, exists_and_right]
      simp only [List.length_append] at hn1
      refine ⟨by omega, by omega, _, by omega, i + 1, rfl, by omega, rfl, ⟨_, rfl⟩, fun j q hj hq => ?_⟩
      by_cases hji : j < i
      · exact hv j q hji hq
      · have : j = i := by omega
        subst this; rw [hp] at hq; simp only [Option.some.injEq] at hq; subst hq; exact hvp
    · rcases hcase with h0 | ⟨i', p', q1, q2, q3, q4⟩
      · exact absurd (he.1 h0 i p (Nat.zero_le _) hp) hvp
      · have hene : e ≠ 0 := fun h0 => hvp (he.1 h0 i p (Nat.zero_le _) hp)
        have hiE : i' = i := by
          rcases Nat.lt_trichotomy i' i with h | h | h
          · obtain ⟨x, g1, g2⟩ := cp_ex R T V p'
            have h9 := (q4 H).symm.trans (g2 H)
            simp only [Option.some.injEq, AV.int.injEq, true_and] at h9
            exact absurd (g1.2 (hv i' p' h q2)) (by omega)
          · exact h
          · exact absurd (q3 i p (Nat.zero_le _) h hp) hvp
        subst hiE
        rw [hp] at q2
        simp only [Option.some.injEq] at q2
        subst q2
        have b9 : (e != 0) = true := by rw [bne_iff_ne]; exact hene
        simp only [Pl.c] at d1 q4
        simp (config := {maxSteps := 4000000}) only [e1, e31, e32, e33, hc, hw1, o1, isPtr_idx o1, d1, hrd, hrd2, q4, b9, hn1, SS, bne_self_eq_false, wr_def, obOf, List.all_cons, List.all_nil, List.map_cons, List.map_nil, List.length_cons, List.length_nil, List.take_zero, List.take_succ_cons, List.take_nil, List.drop_zero, List.drop_succ_cons, List.drop_nil, Nat.reduceAdd, Nat.reduceMul, Nat.reduceSub, if_true, Nat.reduceLT, Nat.reduceLeDiff, ite_true, ite_false, Nat.reduceEqDiff, if_false, reduceCtorEq, ne_eq, List.getD, List.getElem?_cons_zero, List.getElem?_cons_succ, Option.getD_some, Option.bind_some, Option.map_some, Option.isSome_some, reduceIte, List.length_append, List.append_assoc, List.cons_append, List.nil_append, Option.some.injEq, forall_const, implies_true, Int.reduceNeg, eq_self, Prod.mk.injEq, List.self_eq_append_right, List.append_nil, exists_eq_left, exists_eq_left', exists_and_left, exists_eq_right, exists_and_right]
        simp only [List.length_append] at hn1
        exact ⟨by omega, by omega⟩
  · have hc : decide ((i : Int) < (ps.length : Int)) = false := decide_eq_false (by omega)
    have he0 : e = 0 := he.2 fun j p _ hp => hv j p (by have := (List.getElem?_eq_some_iff.1 hp).1; omega) hp
    subst he0
    simp (config := {maxSteps := 4000000}) only [e1, e31, e32, e33, hc, SS, bne_self_eq_false, wr_def, obOf, List.all_cons, List.all_nil, List.map_cons, List.map_nil, List.length_cons, List.length_nil, List.take_zero, List.take_succ_cons, List.take_nil, List.drop_zero, List.drop_succ_cons, List.drop_nil, Nat.reduceAdd, Nat.reduceMul, Nat.reduceSub, if_true, Nat.reduceLT, Nat.reduceLeDiff, ite_true, ite_false, Nat.reduceEqDiff, if_false, reduceCtorEq, ne_eq, List.getD, List.getElem?_cons_zero, List.getElem?_cons_succ, Option.getD_some, Option.bind_some, Option.map_some, Option.isSome_some, reduceIte, List.length_append, List.append_assoc, List.cons_append, List.nil_append, Option.some.injEq, forall_const, implies_true, Int.reduceNeg, eq_self, Prod.mk.injEq, List.self_eq_append_right, List.append_nil, exists_eq_left, exists_eq_left', exists_and_left, exists_eq_right, exists_and_right]
end Go.Proofs.Ytaekgifbehoipaa.Wr
