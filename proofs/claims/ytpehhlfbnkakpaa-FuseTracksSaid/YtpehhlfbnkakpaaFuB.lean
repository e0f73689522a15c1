/- What Tracks of the package fuse answers. Conditions: the slice that comes in reads as told. -/
import Derived.Test.YtpehhlfbnkakpaaFuA
namespace Go.Proofs.Ytpehhlfbnkakpaa.Fl
open Go Go.Proofs.Ytpehhlfbnkakpaa.Eva Go.Proofs.Ytpehhlfbnkakpaa.CodeAll
set_option linter.unusedVariables false
set_option linter.unusedSimpArgs false
set_option maxRecDepth 10000
set_option maxHeartbeats 4000000

theorem gst_step {l : List T} {band : Int} {i k j : Nat} (b : Bool) (hb : b = hit l band i k) : gst l band i (k + 1) j = if j = i then (gst l band i k j || b) else gst l band i k j := by
  unfold gst
  by_cases h1 : j < i
  · have : j ≠ i := by omega
    simp [h1, this]
  · by_cases h2 : j = i
    · subst h2; simp [gup, hb]
    · simp [h1, h2]
theorem gst_next {l : List T} {band : Int} {i j : Nat} : gst l band (i + 1) 0 j = gst l band i l.length j := by
  unfold gst
  by_cases h1 : j < i
  · have : j < i + 1 := by omega
    simp [h1, this]
  · by_cases h2 : j = i
    · subst h2; simp
    · have h3 : ¬ j < i + 1 := by omega
      simp [h1, h2, h3, gup]

theorem tracks_run {H : List Ob} {V : AV} {l : List T} (hs : SlL H V T.c 20 l) (band : Int) :
    ecall E 28 [V, .int .i64 band] H = some (.tup [outV H.length 20 (trk l band).1.length, .int .i64 (trk l band).2], H ++ outO 20 (trk l band).1.length (flat T.c (trk l band).1), H.length, H.length) := by
  refine call_list e28 rfl (Nat.le_of_ble_eq_true rfl) ?_
  generalize hR : trk l band = R
  unfold trk at hR
  have hlen := hs.len
  by_cases c1 : 32 < l.length
  · rw [if_pos c1] at hR
    subst hR
    have c1' : decide ((32 : Int) < (l.length : Int)) = true := decide_eq_true (by omega)
    simp (config := {maxSteps := 8000000}) only [c28, hlen, c1', SS, bne_self_eq_false, wr_def, obOf, List.all_cons, List.all_nil, List.map_cons, List.map_nil, List.length_cons, List.length_nil, List.take_zero, List.take_succ_cons, List.take_nil, List.drop_zero, List.drop_succ_cons, List.drop_nil, Nat.reduceAdd, Nat.reduceMul, Nat.reduceSub, if_true, Nat.reduceLT, Nat.reduceLeDiff, ite_true, ite_false, Nat.reduceEqDiff, if_false, reduceCtorEq, ne_eq, List.getD, List.getElem?_cons_zero, List.getElem?_cons_succ, Option.getD_some, Option.bind_some, Option.map_some, Option.isSome_some, reduceIte, List.length_append, List.append_assoc, List.cons_append, List.nil_append, Option.some.injEq, forall_const, implies_true, Int.reduceNeg, eq_self, Prod.mk.injEq, List.self_eq_append_right, List.append_nil, exists_eq_left, exists_eq_left', exists_and_left, exists_eq_right, exists_and_right]
    exact ⟨_, rfl, IsL.nil⟩
  rw [if_neg c1] at hR
  have c1' : decide ((32 : Int) < (l.length : Int)) = false := decide_eq_false (by omega)
  generalize hC : chkGo l = C at hR
  simp (config := {maxSteps := 8000000}) only [c28, hlen, c1', SS, bne_self_eq_false, wr_def, obOf, List.all_cons, List.all_nil, List.map_cons, List.map_nil, List.length_cons, List.length_nil, List.take_zero, List.take_succ_cons, List.take_nil, List.drop_zero, List.drop_succ_cons, List.drop_nil, Nat.reduceAdd, Nat.reduceMul, Nat.reduceSub, if_true, Nat.reduceLT, Nat.reduceLeDiff, ite_true, ite_false, Nat.reduceEqDiff, if_false, reduceCtorEq, ne_eq, List.getD, List.getElem?_cons_zero, List.getElem?_cons_succ, Option.getD_some, Option.bind_some, Option.map_some, Option.isSome_some, reduceIte, List.length_append, List.append_assoc, List.cons_append, List.nil_append, Option.some.injEq, forall_const, implies_true, Int.reduceNeg, eq_self, Prod.mk.injEq, List.self_eq_append_right, List.append_nil, exists_eq_left, exists_eq_left', exists_and_left, exists_eq_right, exists_and_right]
  refine W_loop (fun q f1 h1 => ∃ i : Nat, q = l.length - i ∧ i ≤ l.length ∧ f1 0 = V ∧ f1 1 = .int .i64 band ∧ f1 22 = V ∧ f1 23 = .int .i64 l.length ∧ f1 24 = .int .i64 i ∧ chkGo (l.drop i) = C) (by simp) l.length ⟨0, rfl, by omega, rfl, rfl, rfl, rfl, rfl, hC⟩ ?_
  rintro q f1 h1 hn1 ht ⟨i, rfl, hi, e0, e1, e22, e23, e24, hgo⟩
  rw [List.take_length] at ht
  have hH := take_eq ht
  generalize h1.drop H.length = y at hH
  subst hH
  by_cases hil : i < l.length
  · have hil' : decide ((i : Int) < (l.length : Int)) = true := decide_eq_true (by omega)
    obtain ⟨a, ha⟩ : ∃ b, l[i]? = some b := ⟨_, List.getElem?_eq_getElem hil⟩
    have hd : l.drop i = a :: l.drop (i + 1) := by
      rw [List.drop_eq_getElem_cons hil]; congr 1
      rw [List.getElem?_eq_getElem hil] at ha; simpa using ha
    have hwi : IntKind.i64.wrap ((i : Int) + 1) = ((i + 1 : Nat) : Int) := by rw [wrap64 (by omega) (by omega)]; omega
    have hok : idxOk 20 V (.int .i64 (i : Int)) := hs.ok (by omega) (by omega)
    have hld := fun z => (hs.keep z).ldn (i := (i : Int)) (kk := .i64) (x := a) (by omega) (by simpa using ha)
    have hck := fun H => check_pc a H
    rw [hd] at hgo
    simp only [chkGo] at hgo
    simp only [T.c] at hld hck
    by_cases k1 : a.chk = 0
    · rw [if_neg (by simpa using k1)] at hgo
      have n1 : (a.chk != 0) = false := by simpa using k1
      generalize a.chk = C2 at *
      simp (config := {maxSteps := 8000000}) only [e0, e1, e22, e23, e24, hil', hwi, hok, isPtr_idx hok, hld, hck, n1, hn1, SS, bne_self_eq_false, wr_def, obOf, List.all_cons, List.all_nil, List.map_cons, List.map_nil, List.length_cons, List.length_nil, List.take_zero, List.take_succ_cons, List.take_nil, List.drop_zero, List.drop_succ_cons, List.drop_nil, Nat.reduceAdd, Nat.reduceMul, Nat.reduceSub, if_true, Nat.reduceLT, Nat.reduceLeDiff, ite_true, ite_false, Nat.reduceEqDiff, if_false, reduceCtorEq, ne_eq, List.getD, List.getElem?_cons_zero, List.getElem?_cons_succ, Option.getD_some, Option.bind_some, Option.map_some, Option.isSome_some, reduceIte, List.length_append, List.append_assoc, List.cons_append, List.nil_append, Option.some.injEq, forall_const, implies_true, Int.reduceNeg, eq_self, Prod.mk.injEq, List.self_eq_append_right, List.append_nil, exists_eq_left, exists_eq_left', exists_and_left, exists_eq_right, exists_and_right]
      exact ⟨_, by omega, i + 1, rfl, by omega, rfl, hgo⟩
    · rw [if_pos (by simpa using k1)] at hgo
      subst hgo
      rw [if_pos (by simpa using k1)] at hR
      subst hR
      have n1 : (a.chk != 0) = true := by simpa using k1
      generalize a.chk = C2 at *
      simp (config := {maxSteps := 8000000}) only [e0, e1, e22, e23, e24, hil', hwi, hok, isPtr_idx hok, hld, hck, n1, hn1, SS, bne_self_eq_false, wr_def, obOf, List.all_cons, List.all_nil, List.map_cons, List.map_nil, List.length_cons, List.length_nil, List.take_zero, List.take_succ_cons, List.take_nil, List.drop_zero, List.drop_succ_cons, List.drop_nil, Nat.reduceAdd, Nat.reduceMul, Nat.reduceSub, if_true, Nat.reduceLT, Nat.reduceLeDiff, ite_true, ite_false, Nat.reduceEqDiff, if_false, reduceCtorEq, ne_eq, List.getD, List.getElem?_cons_zero, List.getElem?_cons_succ, Option.getD_some, Option.bind_some, Option.map_some, Option.isSome_some, reduceIte, List.length_append, List.append_assoc, List.cons_append, List.nil_append, Option.some.injEq, forall_const, implies_true, Int.reduceNeg, eq_self, Prod.mk.injEq, List.self_eq_append_right, List.append_nil, exists_eq_left, exists_eq_left', exists_and_left, exists_eq_right, exists_and_right]
      exact ⟨_, rfl, IsL.nil⟩
  have hil' : decide ((i : Int) < (l.length : Int)) = false := decide_eq_false (by omega)
  have hd : l.drop i = [] := List.drop_eq_nil_of_le (by omega)
  rw [hd] at hgo
  simp only [chkGo] at hgo
  subst hgo
  rw [if_neg (by simp)] at hR
  cases c3 : (decide (band < 0) || decide (60000 < band))
  rotate_left
  · rw [c3, if_pos rfl] at hR
    subst hR
    simp (config := {maxSteps := 8000000}) only [e0, e1, e22, e23, e24, hil', c3, SS, bne_self_eq_false, wr_def, obOf, List.all_cons, List.all_nil, List.map_cons, List.map_nil, List.length_cons, List.length_nil, List.take_zero, List.take_succ_cons, List.take_nil, List.drop_zero, List.drop_succ_cons, List.drop_nil, Nat.reduceAdd, Nat.reduceMul, Nat.reduceSub, if_true, Nat.reduceLT, Nat.reduceLeDiff, ite_true, ite_false, Nat.reduceEqDiff, if_false, reduceCtorEq, ne_eq, List.getD, List.getElem?_cons_zero, List.getElem?_cons_succ, Option.getD_some, Option.bind_some, Option.map_some, Option.isSome_some, reduceIte, List.length_append, List.append_assoc, List.cons_append, List.nil_append, Option.some.injEq, forall_const, implies_true, Int.reduceNeg, eq_self, Prod.mk.injEq, List.self_eq_append_right, List.append_nil, exists_eq_left, exists_eq_left', exists_and_left, exists_eq_right, exists_and_right]
    exact ⟨_, rfl, IsL.nil⟩
  rw [c3, if_neg (by decide)] at hR
  simp (config := {maxSteps := 8000000}) only [e0, e1, e22, e23, e24, hil', c3, hlen, SS, bne_self_eq_false, wr_def, obOf, List.all_cons, List.all_nil, List.map_cons, List.map_nil, List.length_cons, List.length_nil, List.take_zero, List.take_succ_cons, List.take_nil, List.drop_zero, List.drop_succ_cons, List.drop_nil, Nat.reduceAdd, Nat.reduceMul, Nat.reduceSub, if_true, Nat.reduceLT, Nat.reduceLeDiff, ite_true, ite_false, Nat.reduceEqDiff, if_false, reduceCtorEq, ne_eq, List.getD, List.getElem?_cons_zero, List.getElem?_cons_succ, Option.getD_some, Option.bind_some, Option.map_some, Option.isSome_some, reduceIte, List.length_append, List.append_assoc, List.cons_append, List.nil_append, Option.some.injEq, forall_const, implies_true, Int.reduceNeg, eq_self, Prod.mk.injEq, List.self_eq_append_right, List.append_nil, exists_eq_left, exists_eq_left', exists_and_left, exists_eq_right, exists_and_right]
  refine ⟨by omega, by omega, by unfold appLim; omega, ?_⟩
  clear hil' hd
  have hA0 : Arr H.length (H ++ (y ++ [⟨zrep (Int.toNat (l.length : Int)) [.bool false], 0, 1, true, true⟩])) (.sl false (H.length + y.length) 0 1 0 (Int.toNat (l.length : Int))) gB (List.replicate l.length false) := by
    refine ⟨H.length + y.length, 0, by simp, ?_, by omega⟩
    simp [rdObj, zrep, gB]
  have hvid : ∀ id, idOf (.sl false (H.length + y.length) 0 1 0 (Int.toNat (l.length : Int))) id → id = H.length + y.length := by rintro id ⟨_, h⟩; exact h
  generalize hv0 : AV.sl false (H.length + y.length) 0 1 0 (Int.toNat (l.length : Int)) = v at *
  have hg0 : ∀ j, j < l.length → (List.replicate l.length false)[j]? = some (gst l band 0 0 j) := by
    intro j hj
    rw [List.getElem?_replicate, if_pos hj]
    have : ¬ j < 0 := by omega
    simp [gst, this, gup]
  refine W_loop (fun q f1 h1 => ∃ (i : Nat) (gs : List Bool), q = l.length - i ∧ i ≤ l.length ∧ f1 0 = V ∧ f1 1 = .int .i64 band ∧ f1 9 = v ∧ f1 43 = V ∧ f1 44 = .int .i64 l.length ∧ f1 45 = .int .i64 i ∧ Arr H.length h1 v gB gs ∧ gs.length = l.length ∧ (∀ j, j < l.length → gs[j]? = some (gst l band i 0 j)) ∧ H.length + y.length < h1.length) (by simp) l.length ⟨0, List.replicate l.length false, rfl, by omega, by simp only [e0, SS, bne_self_eq_false, wr_def, obOf, List.all_cons, List.all_nil, List.map_cons, List.map_nil, List.length_cons, List.length_nil, List.take_zero, List.take_succ_cons, List.take_nil, List.drop_zero, List.drop_succ_cons, List.drop_nil, Nat.reduceAdd, Nat.reduceMul, Nat.reduceSub, if_true, Nat.reduceLT, Nat.reduceLeDiff, ite_true, ite_false, Nat.reduceEqDiff, if_false, reduceCtorEq, ne_eq, List.getD, List.getElem?_cons_zero, List.getElem?_cons_succ, Option.getD_some, Option.bind_some, Option.map_some, Option.isSome_some, reduceIte, List.length_append, List.append_assoc, List.cons_append, List.nil_append, Option.some.injEq, forall_const, implies_true, Int.reduceNeg, eq_self, Prod.mk.injEq, List.self_eq_append_right, List.append_nil, exists_eq_left, exists_eq_left', exists_and_left, exists_eq_right, exists_and_right], by simp only [e1, SS, bne_self_eq_false, wr_def, obOf, List.all_cons, List.all_nil, List.map_cons, List.map_nil, List.length_cons, List.length_nil, List.take_zero, List.take_succ_cons, List.take_nil, List.drop_zero, List.drop_succ_cons, List.drop_nil, Nat.reduceAdd, Nat.reduceMul, Nat.reduceSub, if_true, Nat.reduceLT, Nat.reduceLeDiff, ite_true, ite_false, Nat.reduceEqDiff, if_false, reduceCtorEq, ne_eq, List.getD, List.getElem?_cons_zero, List.getElem?_cons_succ, Option.getD_some, Option.bind_some, Option.map_some, Option.isSome_some, reduceIte, List.length_append, List.append_assoc, List.cons_append, List.nil_append, Option.some.injEq, forall_const, implies_true, Int.reduceNeg, eq_self, Prod.mk.injEq, List.self_eq_append_right, List.append_nil, exists_eq_left, exists_eq_left', exists_and_left, exists_eq_right, exists_and_right], rfl, rfl, rfl, rfl, hA0, by simp, hg0, by simp⟩ ?_
  clear e0 e1 e22 e23 e24 hA0 hg0 ht hn1
  rintro q f1 h1 hn1 ht ⟨i, gs, rfl, hi, e0, e1, e9, e43, e44, e45, hA, hgl, hgs, hlt⟩
  rw [List.take_left] at ht
  have hH := take_eq ht
  generalize h1.drop H.length = z at hH
  subst hH
  by_cases hil : i < l.length
  · have hil' : decide ((i : Int) < (l.length : Int)) = true := decide_eq_true (by omega)
    obtain ⟨a, ha⟩ : ∃ b, l[i]? = some b := ⟨_, List.getElem?_eq_getElem hil⟩
    have hwi : IntKind.i64.wrap ((i : Int) + 1) = ((i + 1 : Nat) : Int) := by rw [wrap64 (by omega) (by omega)]; omega
    have hok : idxOk 20 V (.int .i64 (i : Int)) := hs.ok (by omega) (by omega)
    have hld := fun z => (hs.keep z).ldn (i := (i : Int)) (kk := .i64) (x := a) (by omega) (by simpa using ha)
    have hacell : ∃ cs, a.c = cs := ⟨_, rfl⟩
    obtain ⟨acs, hacs⟩ := hacell
    have hacl : acs.length = 20 ∧ acs.all AV.scalar = true := by rw [← hacs]; exact ⟨rfl, rfl⟩
    rw [hacs] at hld
    simp only [T.c] at hacs
    simp (config := {maxSteps := 8000000}) only [e0, e1, e9, e43, e44, e45, hil', hwi, hok, isPtr_idx hok, hld, hlen, hn1, ← hacs, SS, bne_self_eq_false, wr_def, obOf, List.all_cons, List.all_nil, List.map_cons, List.map_nil, List.length_cons, List.length_nil, List.take_zero, List.take_succ_cons, List.take_nil, List.drop_zero, List.drop_succ_cons, List.drop_nil, Nat.reduceAdd, Nat.reduceMul, Nat.reduceSub, if_true, Nat.reduceLT, Nat.reduceLeDiff, ite_true, ite_false, Nat.reduceEqDiff, if_false, reduceCtorEq, ne_eq, List.getD, List.getElem?_cons_zero, List.getElem?_cons_succ, Option.getD_some, Option.bind_some, Option.map_some, Option.isSome_some, reduceIte, List.length_append, List.append_assoc, List.cons_append, List.nil_append, Option.some.injEq, forall_const, implies_true, Int.reduceNeg, eq_self, Prod.mk.injEq, List.self_eq_append_right, List.append_nil, exists_eq_left, exists_eq_left', exists_and_left, exists_eq_right, exists_and_right]
    refine W_loop (fun q f2 h2 => ∃ (k : Nat) (gs : List Bool), q = l.length - k ∧ k ≤ l.length ∧ f2 0 = V ∧ f2 1 = .int .i64 band ∧ f2 9 = v ∧ f2 10 = .int .i64 i ∧ f2 11 = .ptr (H.length + z.length) 0 0 ∧ f2 43 = V ∧ f2 44 = .int .i64 l.length ∧ f2 45 = .int .i64 i ∧ f2 50 = V ∧ f2 51 = .int .i64 l.length ∧ f2 52 = .int .i64 k ∧
      rdObj h2 (H.length + z.length) 0 = some ⟨a.c, 0, 0, true, true⟩ ∧ Arr H.length h2 v gB gs ∧ gs.length = l.length ∧ (∀ j, j < l.length → gs[j]? = some (gst l band i k j)) ∧ H.length + z.length < h2.length) (by simp) l.length ⟨0, gs, rfl, by omega, by simp only [e0, SS, bne_self_eq_false, wr_def, obOf, List.all_cons, List.all_nil, List.map_cons, List.map_nil, List.length_cons, List.length_nil, List.take_zero, List.take_succ_cons, List.take_nil, List.drop_zero, List.drop_succ_cons, List.drop_nil, Nat.reduceAdd, Nat.reduceMul, Nat.reduceSub, if_true, Nat.reduceLT, Nat.reduceLeDiff, ite_true, ite_false, Nat.reduceEqDiff, if_false, reduceCtorEq, ne_eq, List.getD, List.getElem?_cons_zero, List.getElem?_cons_succ, Option.getD_some, Option.bind_some, Option.map_some, Option.isSome_some, reduceIte, List.length_append, List.append_assoc, List.cons_append, List.nil_append, Option.some.injEq, forall_const, implies_true, Int.reduceNeg, eq_self, Prod.mk.injEq, List.self_eq_append_right, List.append_nil, exists_eq_left, exists_eq_left', exists_and_left, exists_eq_right, exists_and_right], by simp only [e1, SS, bne_self_eq_false, wr_def, obOf, List.all_cons, List.all_nil, List.map_cons, List.map_nil, List.length_cons, List.length_nil, List.take_zero, List.take_succ_cons, List.take_nil, List.drop_zero, List.drop_succ_cons, List.drop_nil, Nat.reduceAdd, Nat.reduceMul, Nat.reduceSub, if_true, Nat.reduceLT, Nat.reduceLeDiff, ite_true, ite_false, Nat.reduceEqDiff, if_false, reduceCtorEq, ne_eq, List.getD, List.getElem?_cons_zero, List.getElem?_cons_succ, Option.getD_some, Option.bind_some, Option.map_some, Option.isSome_some, reduceIte, List.length_append, List.append_assoc, List.cons_append, List.nil_append, Option.some.injEq, forall_const, implies_true, Int.reduceNeg, eq_self, Prod.mk.injEq, List.self_eq_append_right, List.append_nil, exists_eq_left, exists_eq_left', exists_and_left, exists_eq_right, exists_and_right], by simp only [e9, SS, bne_self_eq_false, wr_def, obOf, List.all_cons, List.all_nil, List.map_cons, List.map_nil, List.length_cons, List.length_nil, List.take_zero, List.take_succ_cons, List.take_nil, List.drop_zero, List.drop_succ_cons, List.drop_nil, Nat.reduceAdd, Nat.reduceMul, Nat.reduceSub, if_true, Nat.reduceLT, Nat.reduceLeDiff, ite_true, ite_false, Nat.reduceEqDiff, if_false, reduceCtorEq, ne_eq, List.getD, List.getElem?_cons_zero, List.getElem?_cons_succ, Option.getD_some, Option.bind_some, Option.map_some, Option.isSome_some, reduceIte, List.length_append, List.append_assoc, List.cons_append, List.nil_append, Option.some.injEq, forall_const, implies_true, Int.reduceNeg, eq_self, Prod.mk.injEq, List.self_eq_append_right, List.append_nil, exists_eq_left, exists_eq_left', exists_and_left, exists_eq_right, exists_and_right], rfl, rfl, by simp only [e43, SS, bne_self_eq_false, wr_def, obOf, List.all_cons, List.all_nil, List.map_cons, List.map_nil, List.length_cons, List.length_nil, List.take_zero, List.take_succ_cons, List.take_nil, List.drop_zero, List.drop_succ_cons, List.drop_nil, Nat.reduceAdd, Nat.reduceMul, Nat.reduceSub, if_true, Nat.reduceLT, Nat.reduceLeDiff, ite_true, ite_false, Nat.reduceEqDiff, if_false, reduceCtorEq, ne_eq, List.getD, List.getElem?_cons_zero, List.getElem?_cons_succ, Option.getD_some, Option.bind_some, Option.map_some, Option.isSome_some, reduceIte, List.length_append, List.append_assoc, List.cons_append, List.nil_append, Option.some.injEq, forall_const, implies_true, Int.reduceNeg, eq_self, Prod.mk.injEq, List.self_eq_append_right, List.append_nil, exists_eq_left, exists_eq_left', exists_and_left, exists_eq_right, exists_and_right], by simp only [e44, SS, bne_self_eq_false, wr_def, obOf, List.all_cons, List.all_nil, List.map_cons, List.map_nil, List.length_cons, List.length_nil, List.take_zero, List.take_succ_cons, List.take_nil, List.drop_zero, List.drop_succ_cons, List.drop_nil, Nat.reduceAdd, Nat.reduceMul, Nat.reduceSub, if_true, Nat.reduceLT, Nat.reduceLeDiff, ite_true, ite_false, Nat.reduceEqDiff, if_false, reduceCtorEq, ne_eq, List.getD, List.getElem?_cons_zero, List.getElem?_cons_succ, Option.getD_some, Option.bind_some, Option.map_some, Option.isSome_some, reduceIte, List.length_append, List.append_assoc, List.cons_append, List.nil_append, Option.some.injEq, forall_const, implies_true, Int.reduceNeg, eq_self, Prod.mk.injEq, List.self_eq_append_right, List.append_nil, exists_eq_left, exists_eq_left', exists_and_left, exists_eq_right, exists_and_right], by simp only [e45, SS, bne_self_eq_false, wr_def, obOf, List.all_cons, List.all_nil, List.map_cons, List.map_nil, List.length_cons, List.length_nil, List.take_zero, List.take_succ_cons, List.take_nil, List.drop_zero, List.drop_succ_cons, List.drop_nil, Nat.reduceAdd, Nat.reduceMul, Nat.reduceSub, if_true, Nat.reduceLT, Nat.reduceLeDiff, ite_true, ite_false, Nat.reduceEqDiff, if_false, reduceCtorEq, ne_eq, List.getD, List.getElem?_cons_zero, List.getElem?_cons_succ, Option.getD_some, Option.bind_some, Option.map_some, Option.isSome_some, reduceIte, List.length_append, List.append_assoc, List.cons_append, List.nil_append, Option.some.injEq, forall_const, implies_true, Int.reduceNeg, eq_self, Prod.mk.injEq, List.self_eq_append_right, List.append_nil, exists_eq_left, exists_eq_left', exists_and_left, exists_eq_right, exists_and_right], rfl, rfl, rfl, by simp [rdObj, T.c], hA.keep2 _, hgl, hgs, by simp⟩ ?_
    clear e0 e1 e9 e43 e44 e45 hA hgl hgs
    rintro q f2 h2 hn2 ht2 ⟨k, gs, rfl, hk, e0, e1, e9, e10, e11, e43, e44, e45, e50, e51, e52, r11, hA, hgl, hgs, hlt2⟩
    rw [List.take_left] at ht2
    have hH2 := take_eq ht2
    generalize h2.drop H.length = u at hH2
    subst hH2
    by_cases hkl : k < l.length
    · have hkl' : decide ((k : Int) < (l.length : Int)) = true := decide_eq_true (by omega)
      obtain ⟨b, hb⟩ : ∃ b, l[k]? = some b := ⟨_, List.getElem?_eq_getElem hkl⟩
      have hwk : IntKind.i64.wrap ((k : Int) + 1) = ((k + 1 : Nat) : Int) := by rw [wrap64 (by omega) (by omega)]; omega
      have hok2 : idxOk 20 V (.int .i64 (k : Int)) := hs.ok (by omega) (by omega)
      have hld2 := fun z => (hs.keep z).ldn (i := (k : Int)) (kk := .i64) (x := b) (by omega) (by simpa using hb)
      have hsm := fun H => same_pc a b band H
      have hb1 := fun H => better_pc b a H
      have hb2 := fun H => better_pc a b H
      have hhit : hit l band i k = hitB a b i k band := by simp only [hit, ha, hb]
      have r11' : ∀ o, rdObj (H ++ (u ++ o)) (H.length + z.length) 0 = some ⟨a.c, 0, 0, true, true⟩ := fun o => rd_keep2 r11
      simp only [T.c] at hld2 hsm hb1 hb2 r11 r11'
      generalize hE : ((i : Int) == (k : Int)) = E1 at *
      have hE' : (i == k) = E1 := by rw [← hE]; rw [Bool.eq_iff_iff]; simp; omega
      generalize hS : (sameT a b band).1 = S1 at *
      generalize hS2 : (sameT a b band).2 = S2 at *
      generalize hC1 : decide (a.code < 0) = C1 at *
      generalize hN : (a.code != b.code) = N1 at *
      generalize hB1 : btr b a = B1 at *
      generalize hB2 : btr a b = B2 at *
      generalize hL : decide ((k : Int) < (i : Int)) = L1 at *
      have hL' : decide (k < i) = L1 := by rw [← hL]; simp
      have hhb : hitB a b i k band = (!E1 && S1 && !C1 && !N1 && (B1 || (!B2 && L1))) := by
        simp only [hitB, hE', hS, hC1, hN, hB1, hB2, hL']
      simp (config := {maxSteps := 8000000}) only [e0, e1, e9, e10, e11, e43, e44, e45, e50, e51, e52, hkl', hwk, hok2, isPtr_idx hok2, hld2, hsm, hE, hS, hC1, hN, hb1, hb2, hL, r11, r11', hn2, SS, bne_self_eq_false, wr_def, obOf, List.all_cons, List.all_nil, List.map_cons, List.map_nil, List.length_cons, List.length_nil, List.take_zero, List.take_succ_cons, List.take_nil, List.drop_zero, List.drop_succ_cons, List.drop_nil, Nat.reduceAdd, Nat.reduceMul, Nat.reduceSub, if_true, Nat.reduceLT, Nat.reduceLeDiff, ite_true, ite_false, Nat.reduceEqDiff, if_false, reduceCtorEq, ne_eq, List.getD, List.getElem?_cons_zero, List.getElem?_cons_succ, Option.getD_some, Option.bind_some, Option.map_some, Option.isSome_some, reduceIte, List.length_append, List.append_assoc, List.cons_append, List.nil_append, Option.some.injEq, forall_const, implies_true, Int.reduceNeg, eq_self, Prod.mk.injEq, List.self_eq_append_right, List.append_nil, exists_eq_left, exists_eq_left', exists_and_left, exists_eq_right, exists_and_right]
      refine ⟨fun hc => ?_, fun hc => ⟨fun hB => ?_, fun hB => ?_⟩⟩
      · have hh : hit l band i k = false := by
          rw [hhit, hhb]; revert hc; clear hhb; cases E1 <;> cases S1 <;> cases C1 <;> cases N1 <;> simp
        refine ⟨_, by omega, k + 1, rfl, by omega, rfl, rfl, gs, hA.keep2 _, hgl, fun j hj => ?_, by simp at hlt2; omega⟩
        rw [hgs j hj, gst_step _ hh.symm]
        split <;> simp
      · have hh : hit l band i k = true := by
          rw [hhit, hhb, hB]; revert hc; clear hhb; cases E1 <;> cases S1 <;> cases C1 <;> cases N1 <;> simp
        have hA2 := hA.keep2 [⟨b.c, 0, 0, true, true⟩]
        have o1 := hA2.ok (kk := .i64) (i := (i : Int)) (by omega) (by omega)
        have o2 := hA2.stOk (kk := .i64) (i := (i : Int)) true (by omega) (by omega)
        obtain ⟨s1, s2, s3⟩ := hA2.stH (kk := .i64) (i := (i : Int)) true (by omega) (by omega)
        rw [Int.toNat_natCast] at s1
        simp only [gB, T.c] at o2 s1 s2 s3
        refine ⟨o1, o2, _, by omega, k + 1, rfl, by omega, rfl, s2 _ _ _ (fun hx => by have := hvid _ hx; simp at hlt; omega) (r11' _), gs.set i true, s1, by simp [hgl], fun j hj => ?_, ?_⟩
        · rw [List.getElem?_set, gst_step _ hh.symm]
          by_cases hji : j = i
          · subst hji; simp [hgl, hj]
          · rw [if_neg (by omega), if_neg hji]; exact hgs j hj
        · rw [s3]; simp at hlt2 ⊢; omega
      · have hh : hit l band i k = false := by
          rw [hhit, hhb, hB]; simp
        refine ⟨_, by omega, k + 1, rfl, by omega, rfl, rfl, gs, hA.keep2 _, hgl, fun j hj => ?_, by simp at hlt2; omega⟩
        rw [hgs j hj, gst_step _ hh.symm]
        split <;> simp
    · have hkl' : decide ((k : Int) < (l.length : Int)) = false := decide_eq_false (by omega)
      have hkE : k = l.length := by omega
      subst hkE
      simp (config := {maxSteps := 8000000}) only [e0, e1, e9, e10, e11, e43, e44, e45, e50, e51, e52, hkl', hwi, hn2, SS, bne_self_eq_false, wr_def, obOf, List.all_cons, List.all_nil, List.map_cons, List.map_nil, List.length_cons, List.length_nil, List.take_zero, List.take_succ_cons, List.take_nil, List.drop_zero, List.drop_succ_cons, List.drop_nil, Nat.reduceAdd, Nat.reduceMul, Nat.reduceSub, if_true, Nat.reduceLT, Nat.reduceLeDiff, ite_true, ite_false, Nat.reduceEqDiff, if_false, reduceCtorEq, ne_eq, List.getD, List.getElem?_cons_zero, List.getElem?_cons_succ, Option.getD_some, Option.bind_some, Option.map_some, Option.isSome_some, reduceIte, List.length_append, List.append_assoc, List.cons_append, List.nil_append, Option.some.injEq, forall_const, implies_true, Int.reduceNeg, eq_self, Prod.mk.injEq, List.self_eq_append_right, List.append_nil, exists_eq_left, exists_eq_left', exists_and_left, exists_eq_right, exists_and_right]
      refine ⟨_, by omega, i + 1, rfl, by omega, rfl, gs, hA, hgl, fun j hj => ?_, by simp at hlt hlt2; omega⟩
      rw [hgs j hj, gst_next]
  have hil' : decide ((i : Int) < (l.length : Int)) = false := decide_eq_false (by omega)
  have hiE : i = l.length := by omega
  subst hiE
  simp (config := {maxSteps := 8000000}) only [e0, e1, e9, e43, e44, e45, hil', hlen, SS, bne_self_eq_false, wr_def, obOf, List.all_cons, List.all_nil, List.map_cons, List.map_nil, List.length_cons, List.length_nil, List.take_zero, List.take_succ_cons, List.take_nil, List.drop_zero, List.drop_succ_cons, List.drop_nil, Nat.reduceAdd, Nat.reduceMul, Nat.reduceSub, if_true, Nat.reduceLT, Nat.reduceLeDiff, ite_true, ite_false, Nat.reduceEqDiff, if_false, reduceCtorEq, ne_eq, List.getD, List.getElem?_cons_zero, List.getElem?_cons_succ, Option.getD_some, Option.bind_some, Option.map_some, Option.isSome_some, reduceIte, List.length_append, List.append_assoc, List.cons_append, List.nil_append, Option.some.injEq, forall_const, implies_true, Int.reduceNeg, eq_self, Prod.mk.injEq, List.self_eq_append_right, List.append_nil, exists_eq_left, exists_eq_left', exists_and_left, exists_eq_right, exists_and_right]
  have hgup : ∀ j, j < l.length → gs[j]? = some (gup l band j l.length) := fun j hj => by
    rw [hgs j hj]; simp [gst, hj]
  clear hgs hil' ht hn1
  refine W_loop (fun q f2 h2 => ∃ (i : Nat) (acc : List T), q = l.length - i ∧ i ≤ l.length ∧ f2 9 = v ∧ f2 105 = V ∧ f2 106 = .int .i64 l.length ∧ f2 107 = .int .i64 i ∧ Arr H.length h2 v gB gs ∧ IsL H.length h2 (f2 16) 20 true (flat T.c acc) acc.length ∧ (∀ id, idOf (f2 16) id → ¬ idOf v id) ∧ acc.length ≤ i ∧ acc ++ outG l band (l.drop i) i = R.1) (by simp) l.length ⟨0, [], rfl, by omega, by simp only [e9, SS, bne_self_eq_false, wr_def, obOf, List.all_cons, List.all_nil, List.map_cons, List.map_nil, List.length_cons, List.length_nil, List.take_zero, List.take_succ_cons, List.take_nil, List.drop_zero, List.drop_succ_cons, List.drop_nil, Nat.reduceAdd, Nat.reduceMul, Nat.reduceSub, if_true, Nat.reduceLT, Nat.reduceLeDiff, ite_true, ite_false, Nat.reduceEqDiff, if_false, reduceCtorEq, ne_eq, List.getD, List.getElem?_cons_zero, List.getElem?_cons_succ, Option.getD_some, Option.bind_some, Option.map_some, Option.isSome_some, reduceIte, List.length_append, List.append_assoc, List.cons_append, List.nil_append, Option.some.injEq, forall_const, implies_true, Int.reduceNeg, eq_self, Prod.mk.injEq, List.self_eq_append_right, List.append_nil, exists_eq_left, exists_eq_left', exists_and_left, exists_eq_right, exists_and_right], rfl, rfl, rfl, hA, IsL.nil, fun id h => absurd h idOf_nil, by simp, by rw [← hR]; simp⟩ ?_
  clear e0 e1 e9 e43 e44 e45 hA
  rintro q f2 h2 hn2 ht2 ⟨i, acc, rfl, hi, e9, e105, e106, e107, hA, hI, hid, hal, hgo⟩
  rw [List.take_left] at ht2
  have hH2 := take_eq ht2
  generalize h2.drop H.length = u at hH2
  subst hH2
  by_cases hil : i < l.length
  · have hil' : decide ((i : Int) < (l.length : Int)) = true := decide_eq_true (by omega)
    obtain ⟨a, ha⟩ : ∃ b, l[i]? = some b := ⟨_, List.getElem?_eq_getElem hil⟩
    have hd : l.drop i = a :: l.drop (i + 1) := by
      rw [List.drop_eq_getElem_cons hil]; congr 1
      rw [List.getElem?_eq_getElem hil] at ha; simpa using ha
    have hwi : IntKind.i64.wrap ((i : Int) + 1) = ((i + 1 : Nat) : Int) := by rw [wrap64 (by omega) (by omega)]; omega
    have hok : idxOk 20 V (.int .i64 (i : Int)) := hs.ok (by omega) (by omega)
    have hld := fun z => (hs.keep z).ldn (i := (i : Int)) (kk := .i64) (x := a) (by omega) (by simpa using ha)
    have ok2 := hA.ok (kk := .i64) (i := (i : Int)) (by omega) (by omega)
    have ld2 := fun o => (hA.keep2 o).ld (kk := .i64) (i := (i : Int)) (by omega) (by rw [Int.toNat_natCast]; exact hgup i hil)
    rw [hd] at hgo
    simp only [outG] at hgo
    simp only [gB] at ld2
    simp only [T.c] at hld
    cases hG : gup l band i l.length
    · rw [hG, if_neg (by decide)] at hgo
      rw [hG] at ld2
      simp (config := {maxSteps := 8000000}) only [e9, e105, e106, e107, hil', hwi, hok, isPtr_idx hok, hld, ok2, isPtr_idx ok2, ld2, hn2, SS, bne_self_eq_false, wr_def, obOf, List.all_cons, List.all_nil, List.map_cons, List.map_nil, List.length_cons, List.length_nil, List.take_zero, List.take_succ_cons, List.take_nil, List.drop_zero, List.drop_succ_cons, List.drop_nil, Nat.reduceAdd, Nat.reduceMul, Nat.reduceSub, if_true, Nat.reduceLT, Nat.reduceLeDiff, ite_true, ite_false, Nat.reduceEqDiff, if_false, reduceCtorEq, ne_eq, List.getD, List.getElem?_cons_zero, List.getElem?_cons_succ, Option.getD_some, Option.bind_some, Option.map_some, Option.isSome_some, reduceIte, List.length_append, List.append_assoc, List.cons_append, List.nil_append, Option.some.injEq, forall_const, implies_true, Int.reduceNeg, eq_self, Prod.mk.injEq, List.self_eq_append_right, List.append_nil, exists_eq_left, exists_eq_left', exists_and_left, exists_eq_right, exists_and_right]
      refine appK_at (c := a.c) (rw' := true) (fl' := true) (hI.keep2 _) (by simp [rdObj, T.c]) (by rw [flat_len (k := 20) (fun x => rfl)]) rfl (by unfold appLim; omega) (by simp) (fun v' h' hv' hfr hlen' hidv => ?_)
      have hap : flat T.c (acc ++ [a]) = flat T.c acc ++ a.c := by simp [flat]
      refine ⟨_, by omega, i + 1, rfl, by omega, rfl, ?_, acc ++ [a], ?_, ?_, by simp; omega, by rw [List.append_assoc]; exact hgo⟩
      · exact (hA.keep2 _).mono fun id ep o hx ho => hfr id ep o ho fun hy => hid id hy hx
      · rw [hap, List.length_append]; simpa using hv'
      · intro id hx hy
        rcases hidv with h9 | h9
        · have h10 := idOf_inj h9 hx
          have h11 := hA.lt hy
          simp at h10 h11
          omega
        · exact hid id (h9 id hx) hy
    · rw [hG, if_pos rfl] at hgo
      rw [hG] at ld2
      simp (config := {maxSteps := 8000000}) only [e9, e105, e106, e107, hil', hwi, hok, isPtr_idx hok, hld, ok2, isPtr_idx ok2, ld2, hn2, SS, bne_self_eq_false, wr_def, obOf, List.all_cons, List.all_nil, List.map_cons, List.map_nil, List.length_cons, List.length_nil, List.take_zero, List.take_succ_cons, List.take_nil, List.drop_zero, List.drop_succ_cons, List.drop_nil, Nat.reduceAdd, Nat.reduceMul, Nat.reduceSub, if_true, Nat.reduceLT, Nat.reduceLeDiff, ite_true, ite_false, Nat.reduceEqDiff, if_false, reduceCtorEq, ne_eq, List.getD, List.getElem?_cons_zero, List.getElem?_cons_succ, Option.getD_some, Option.bind_some, Option.map_some, Option.isSome_some, reduceIte, List.length_append, List.append_assoc, List.cons_append, List.nil_append, Option.some.injEq, forall_const, implies_true, Int.reduceNeg, eq_self, Prod.mk.injEq, List.self_eq_append_right, List.append_nil, exists_eq_left, exists_eq_left', exists_and_left, exists_eq_right, exists_and_right]
      exact ⟨_, by omega, i + 1, rfl, by omega, rfl, hA.keep2 _, acc, hI.keep2 _, hid, by omega, hgo⟩
  · have hil' : decide ((i : Int) < (l.length : Int)) = false := decide_eq_false (by omega)
    have hd : l.drop i = [] := List.drop_eq_nil_of_le (by omega)
    rw [hd] at hgo
    simp only [outG, List.append_nil] at hgo
    rw [← hgo] 
    have hR2 : R.2 = 0 := by rw [← hR]
    rw [hR2]
    simp (config := {maxSteps := 8000000}) only [e9, e105, e106, e107, hil', SS, bne_self_eq_false, wr_def, obOf, List.all_cons, List.all_nil, List.map_cons, List.map_nil, List.length_cons, List.length_nil, List.take_zero, List.take_succ_cons, List.take_nil, List.drop_zero, List.drop_succ_cons, List.drop_nil, Nat.reduceAdd, Nat.reduceMul, Nat.reduceSub, if_true, Nat.reduceLT, Nat.reduceLeDiff, ite_true, ite_false, Nat.reduceEqDiff, if_false, reduceCtorEq, ne_eq, List.getD, List.getElem?_cons_zero, List.getElem?_cons_succ, Option.getD_some, Option.bind_some, Option.map_some, Option.isSome_some, reduceIte, List.length_append, List.append_assoc, List.cons_append, List.nil_append, Option.some.injEq, forall_const, implies_true, Int.reduceNeg, eq_self, Prod.mk.injEq, List.self_eq_append_right, List.append_nil, exists_eq_left, exists_eq_left', exists_and_left, exists_eq_right, exists_and_right]
    exact ⟨_, rfl, hI⟩
end Go.Proofs.Ytpehhlfbnkakpaa.Fl
