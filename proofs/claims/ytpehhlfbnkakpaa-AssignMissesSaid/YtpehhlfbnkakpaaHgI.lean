/- Index, Contains and Equal of slices of whole numbers. Conditions stand in each lemma. -/
import Derived.Test.YtpehhlfbnkakpaaNmI
import Derived.Test.YtpehhlfbnkakpaaEvaI2
import Derived.Test.YtpehhlfbnkakpaaCodeAll
namespace Go.Proofs.Ytpehhlfbnkakpaa.Hg
open Go Go.Proofs.Ytpehhlfbnkakpaa.Eva Go.Proofs.Ytpehhlfbnkakpaa.CodeAll Go.Proofs.Ytpehhlfbnkakpaa.Fl
set_option linter.unusedVariables false
set_option linter.unusedSimpArgs false
set_option maxRecDepth 10000
set_option maxHeartbeats 4000000

theorem ix_drop {α : Type} {ks : List α} {j : Nat} (hj : j < ks.length) : ∃ k, ks[j]? = some k ∧ ks.drop j = k :: ks.drop (j + 1) := by
  refine ⟨ks[j], List.getElem?_eq_getElem hj, ?_⟩
  rw [List.drop_eq_getElem_cons hj]
theorem index_i {H : List Ob} {V : AV} {ks : List Int} (hs : SlL H V intC 1 ks) (hbig : ks.length ≤ 1125899906842624) (y : Int) :
    ecall E 92 [V, .int .i64 y] H = some (.int .i64 (ixGo (fun x => y == x) ks 0), H, H.length, H.length) := by
  refine call_plain e92 rfl (Nat.le_of_ble_eq_true rfl) rfl ?_
  generalize hR : ixGo (fun x => y == x) ks 0 = R
  have hlen := hs.len
  simp (config := {maxSteps := 4000000}) only [c92, hlen, SS, bne_self_eq_false, wr_def, obOf, List.all_cons, List.all_nil, List.map_cons, List.map_nil, List.length_cons, List.length_nil, List.take_zero, List.take_succ_cons, List.take_nil, List.drop_zero, List.drop_succ_cons, List.drop_nil, Nat.reduceAdd, Nat.reduceMul, Nat.reduceSub, if_true, Nat.reduceLT, Nat.reduceLeDiff, ite_true, ite_false, Nat.reduceEqDiff, if_false, reduceCtorEq, ne_eq, List.getD, List.getElem?_cons_zero, List.getElem?_cons_succ, Option.getD_some, Option.bind_some, Option.map_some, Option.isSome_some, reduceIte, List.length_append, List.append_assoc, List.cons_append, List.nil_append, Option.some.injEq, forall_const, implies_true, Int.reduceNeg, eq_self, Prod.mk.injEq, List.self_eq_append_right, List.append_nil, exists_eq_left, exists_eq_left', exists_and_left, exists_eq_right, exists_and_right]
  refine W_loop (fun q f1 h1 => ∃ j : Nat, q = ks.length - j ∧ j ≤ ks.length ∧ f1 0 = V ∧ f1 1 = .int .i64 y ∧ f1 7 = .int .i64 ks.length ∧ f1 8 = .int .i64 j ∧ ixGo (fun x => y == x) (ks.drop j) j = R) (Nat.le_refl _) ks.length ⟨0, rfl, Nat.zero_le _, rfl, rfl, rfl, rfl, hR⟩ ?_
  rintro q f1 h1 hn1 ht ⟨j, rfl, hj, e0, e1, e7, e8, hgo⟩
  rw [List.take_length] at ht
  have hH := take_eq ht
  generalize h1.drop H.length = z at hH
  subst hH
  by_cases hjl : j < ks.length
  · have hjl' : decide ((j : Int) < (ks.length : Int)) = true := by simpa using hjl
    obtain ⟨k, hk, hd⟩ := ix_drop hjl
    have hwj : IntKind.i64.wrap ((j : Int) + 1) = ((j + 1 : Nat) : Int) := by rw [wrap64 (by omega) (by omega)]; omega
    have hok : idxOk 1 V (.int .i64 (j : Int)) := hs.ok (by omega) (by omega)
    have hld : ld1A (H ++ z) (idxV 1 V (.int .i64 (j : Int))) = some (.int .i64 k) := by rw [(hs.keep z).ld0 (x := k) (by omega) (by simpa using hk)]; rfl
    rw [hd] at hgo
    simp only [ixGo] at hgo
    by_cases hyk : y = k
    · have hb : (y == k) = true := by rw [beq_iff_eq]; exact hyk
      rw [if_pos hb] at hgo
      simp (config := {maxSteps := 4000000}) only [e0, e1, e7, e8, hjl', hwj, hok, isPtr_idx hok, hld, hb, SS, bne_self_eq_false, wr_def, obOf, List.all_cons, List.all_nil, List.map_cons, List.map_nil, List.length_cons, List.length_nil, List.take_zero, List.take_succ_cons, List.take_nil, List.drop_zero, List.drop_succ_cons, List.drop_nil, Nat.reduceAdd, Nat.reduceMul, Nat.reduceSub, if_true, Nat.reduceLT, Nat.reduceLeDiff, ite_true, ite_false, Nat.reduceEqDiff, if_false, reduceCtorEq, ne_eq, List.getD, List.getElem?_cons_zero, List.getElem?_cons_succ, Option.getD_some, Option.bind_some, Option.map_some, Option.isSome_some, reduceIte, List.length_append, List.append_assoc, List.cons_append, List.nil_append, Option.some.injEq, forall_const, implies_true, Int.reduceNeg, eq_self, Prod.mk.injEq, List.self_eq_append_right, List.append_nil, exists_eq_left, exists_eq_left', exists_and_left, exists_eq_right, exists_and_right]
      rw [← hgo]
    · have hb : (y == k) = false := by rw [beq_eq_false_iff_ne]; exact hyk
      rw [if_neg (by rw [hb]; decide)] at hgo
      simp (config := {maxSteps := 4000000}) only [e0, e1, e7, e8, hjl', hwj, hok, isPtr_idx hok, hld, hb, SS, bne_self_eq_false, wr_def, obOf, List.all_cons, List.all_nil, List.map_cons, List.map_nil, List.length_cons, List.length_nil, List.take_zero, List.take_succ_cons, List.take_nil, List.drop_zero, List.drop_succ_cons, List.drop_nil, Nat.reduceAdd, Nat.reduceMul, Nat.reduceSub, if_true, Nat.reduceLT, Nat.reduceLeDiff, ite_true, ite_false, Nat.reduceEqDiff, if_false, reduceCtorEq, ne_eq, List.getD, List.getElem?_cons_zero, List.getElem?_cons_succ, Option.getD_some, Option.bind_some, Option.map_some, Option.isSome_some, reduceIte, List.length_append, List.append_assoc, List.cons_append, List.nil_append, Option.some.injEq, forall_const, implies_true, Int.reduceNeg, eq_self, Prod.mk.injEq, List.self_eq_append_right, List.append_nil, exists_eq_left, exists_eq_left', exists_and_left, exists_eq_right, exists_and_right]
      exact ⟨_, by omega, j + 1, rfl, by omega, rfl, hgo⟩
  · have hjl' : decide ((j : Int) < (ks.length : Int)) = false := by simpa using hjl
    have hd : ks.drop j = [] := List.drop_eq_nil_of_le (by omega)
    rw [hd] at hgo
    simp only [ixGo] at hgo
    subst hgo
    simp (config := {maxSteps := 8000000}) only [e0, e1, e7, e8, hjl', SS, bne_self_eq_false, wr_def, obOf, List.all_cons, List.all_nil, List.map_cons, List.map_nil, List.length_cons, List.length_nil, List.take_zero, List.take_succ_cons, List.take_nil, List.drop_zero, List.drop_succ_cons, List.drop_nil, Nat.reduceAdd, Nat.reduceMul, Nat.reduceSub, if_true, Nat.reduceLT, Nat.reduceLeDiff, ite_true, ite_false, Nat.reduceEqDiff, if_false, reduceCtorEq, ne_eq, List.getD, List.getElem?_cons_zero, List.getElem?_cons_succ, Option.getD_some, Option.bind_some, Option.map_some, Option.isSome_some, reduceIte, List.length_append, List.append_assoc, List.cons_append, List.nil_append, Option.some.injEq, forall_const, implies_true, Int.reduceNeg, eq_self, Prod.mk.injEq, List.self_eq_append_right, List.append_nil, exists_eq_left, exists_eq_left', exists_and_left, exists_eq_right, exists_and_right]
theorem contains_i {H : List Ob} {V : AV} {ks : List Int} (hs : SlL H V intC 1 ks) (hbig : ks.length ≤ 1125899906842624) (y : Int) :
    pcall E 54 [V, .int .i64 y] H = some (.bool (ks.any (fun x => y == x))) := by
  refine pcall_some.2 (call_plain e54 rfl (Nat.le_of_ble_eq_true rfl) rfl ?_)
  have h1 := pcall_some.2 (index_i hs hbig y)
  simp (config := {maxSteps := 4000000}) only [c54, h1, SS, bne_self_eq_false, wr_def, obOf, List.all_cons, List.all_nil, List.map_cons, List.map_nil, List.length_cons, List.length_nil, List.take_zero, List.take_succ_cons, List.take_nil, List.drop_zero, List.drop_succ_cons, List.drop_nil, Nat.reduceAdd, Nat.reduceMul, Nat.reduceSub, if_true, Nat.reduceLT, Nat.reduceLeDiff, ite_true, ite_false, Nat.reduceEqDiff, if_false, reduceCtorEq, ne_eq, List.getD, List.getElem?_cons_zero, List.getElem?_cons_succ, Option.getD_some, Option.bind_some, Option.map_some, Option.isSome_some, reduceIte, List.length_append, List.append_assoc, List.cons_append, List.nil_append, Option.some.injEq, forall_const, implies_true, Int.reduceNeg, eq_self, Prod.mk.injEq, List.self_eq_append_right, List.append_nil, exists_eq_left, exists_eq_left', exists_and_left, exists_eq_right, exists_and_right]
  exact congrArg AV.bool (ixGo_any _ ks 0)
theorem equal_i {H : List Ob} {V W : AV} {ks ls : List Int} (hs : SlL H V intC 1 ks) (ht : SlL H W intC 1 ls) (hbig : ks.length ≤ 1125899906842624) :
    pcall E 86 [V, W] H = some (.bool (decide (ks = ls))) := by
  refine pcall_some.2 (call_plain e86 rfl (Nat.le_of_ble_eq_true rfl) rfl ?_)
  have hlen := hs.len
  have hlen2 := ht.len
  by_cases hl : ks.length = ls.length
  · have hb : ((ks.length : Int) != (ls.length : Int)) = false := by rw [hl]; simp
    simp (config := {maxSteps := 4000000}) only [c86, hlen, hlen2, hb, SS, bne_self_eq_false, wr_def, obOf, List.all_cons, List.all_nil, List.map_cons, List.map_nil, List.length_cons, List.length_nil, List.take_zero, List.take_succ_cons, List.take_nil, List.drop_zero, List.drop_succ_cons, List.drop_nil, Nat.reduceAdd, Nat.reduceMul, Nat.reduceSub, if_true, Nat.reduceLT, Nat.reduceLeDiff, ite_true, ite_false, Nat.reduceEqDiff, if_false, reduceCtorEq, ne_eq, List.getD, List.getElem?_cons_zero, List.getElem?_cons_succ, Option.getD_some, Option.bind_some, Option.map_some, Option.isSome_some, reduceIte, List.length_append, List.append_assoc, List.cons_append, List.nil_append, Option.some.injEq, forall_const, implies_true, Int.reduceNeg, eq_self, Prod.mk.injEq, List.self_eq_append_right, List.append_nil, exists_eq_left, exists_eq_left', exists_and_left, exists_eq_right, exists_and_right]
    refine W_loop (fun q f1 h1 => ∃ j : Nat, q = ks.length - j ∧ j ≤ ks.length ∧ f1 0 = V ∧ f1 1 = W ∧ f1 12 = .int .i64 ks.length ∧ f1 13 = .int .i64 j ∧ ∀ i, i < j → ks[i]? = ls[i]?) (Nat.le_refl _) ks.length ⟨0, rfl, Nat.zero_le _, rfl, rfl, rfl, rfl, fun i h => by omega⟩ ?_
    rintro q f1 h1 hn1 ht1 ⟨j, rfl, hj, e0, e1, e12, e13, hgo⟩
    rw [List.take_length] at ht1
    have hH := take_eq ht1
    generalize h1.drop H.length = z at hH
    subst hH
    by_cases hjl : j < ks.length
    · have hjl' : decide ((j : Int) < (ks.length : Int)) = true := by simpa using hjl
      have hwj : IntKind.i64.wrap ((j : Int) + 1) = ((j + 1 : Nat) : Int) := by rw [wrap64 (by omega) (by omega)]; omega
      obtain ⟨k, hk⟩ : ∃ k, ks[j]? = some k := ⟨_, List.getElem?_eq_getElem hjl⟩
      obtain ⟨l, hlk⟩ : ∃ k, ls[j]? = some k := ⟨_, List.getElem?_eq_getElem (by omega)⟩
      have hok : idxOk 1 V (.int .i64 (j : Int)) := hs.ok (by omega) (by omega)
      have hok2 : idxOk 1 W (.int .i64 (j : Int)) := ht.ok (by omega) (by omega)
      have hld : ld1A (H ++ z) (idxV 1 V (.int .i64 (j : Int))) = some (.int .i64 k) := by rw [(hs.keep z).ld0 (x := k) (by omega) (by simpa using hk)]; rfl
      have hld2 : ld1A (H ++ z) (idxV 1 W (.int .i64 (j : Int))) = some (.int .i64 l) := by rw [(ht.keep z).ld0 (x := l) (by omega) (by simpa using hlk)]; rfl
      by_cases hkl : k = l
      · have hb : (k != l) = false := by rw [hkl]; simp
        simp (config := {maxSteps := 4000000}) only [e0, e1, e12, e13, hjl', hwj, hok, isPtr_idx hok, hld, hok2, isPtr_idx hok2, hld2, hb, SS, bne_self_eq_false, wr_def, obOf, List.all_cons, List.all_nil, List.map_cons, List.map_nil, List.length_cons, List.length_nil, List.take_zero, List.take_succ_cons, List.take_nil, List.drop_zero, List.drop_succ_cons, List.drop_nil, Nat.reduceAdd, Nat.reduceMul, Nat.reduceSub, if_true, Nat.reduceLT, Nat.reduceLeDiff, ite_true, ite_false, Nat.reduceEqDiff, if_false, reduceCtorEq, ne_eq, List.getD, List.getElem?_cons_zero, List.getElem?_cons_succ, Option.getD_some, Option.bind_some, Option.map_some, Option.isSome_some, reduceIte, List.length_append, List.append_assoc, List.cons_append, List.nil_append, Option.some.injEq, forall_const, implies_true, Int.reduceNeg, eq_self, Prod.mk.injEq, List.self_eq_append_right, List.append_nil, exists_eq_left, exists_eq_left', exists_and_left, exists_eq_right, exists_and_right]
        refine ⟨_, by omega, j + 1, rfl, by omega, rfl, fun i hi => ?_⟩
        by_cases hij : i < j
        · exact hgo i hij
        · have : i = j := by omega
          subst this; rw [hk, hlk, hkl]
      · have hb : (k != l) = true := by rw [bne_iff_ne]; exact hkl
        simp (config := {maxSteps := 4000000}) only [e0, e1, e12, e13, hjl', hwj, hok, isPtr_idx hok, hld, hok2, isPtr_idx hok2, hld2, hb, SS, bne_self_eq_false, wr_def, obOf, List.all_cons, List.all_nil, List.map_cons, List.map_nil, List.length_cons, List.length_nil, List.take_zero, List.take_succ_cons, List.take_nil, List.drop_zero, List.drop_succ_cons, List.drop_nil, Nat.reduceAdd, Nat.reduceMul, Nat.reduceSub, if_true, Nat.reduceLT, Nat.reduceLeDiff, ite_true, ite_false, Nat.reduceEqDiff, if_false, reduceCtorEq, ne_eq, List.getD, List.getElem?_cons_zero, List.getElem?_cons_succ, Option.getD_some, Option.bind_some, Option.map_some, Option.isSome_some, reduceIte, List.length_append, List.append_assoc, List.cons_append, List.nil_append, Option.some.injEq, forall_const, implies_true, Int.reduceNeg, eq_self, Prod.mk.injEq, List.self_eq_append_right, List.append_nil, exists_eq_left, exists_eq_left', exists_and_left, exists_eq_right, exists_and_right]
        have : ¬ ks = ls := fun h => by subst h; rw [hk] at hlk; exact hkl (by simpa using hlk)
        simp [this]
    · have hjl' : decide ((j : Int) < (ks.length : Int)) = false := by simpa using hjl
      simp (config := {maxSteps := 8000000}) only [e0, e1, e12, e13, hjl', SS, bne_self_eq_false, wr_def, obOf, List.all_cons, List.all_nil, List.map_cons, List.map_nil, List.length_cons, List.length_nil, List.take_zero, List.take_succ_cons, List.take_nil, List.drop_zero, List.drop_succ_cons, List.drop_nil, Nat.reduceAdd, Nat.reduceMul, Nat.reduceSub, if_true, Nat.reduceLT, Nat.reduceLeDiff, ite_true, ite_false, Nat.reduceEqDiff, if_false, reduceCtorEq, ne_eq, List.getD, List.getElem?_cons_zero, List.getElem?_cons_succ, Option.getD_some, Option.bind_some, Option.map_some, Option.isSome_some, reduceIte, List.length_append, List.append_assoc, List.cons_append, List.nil_append, Option.some.injEq, forall_const, implies_true, Int.reduceNeg, eq_self, Prod.mk.injEq, List.self_eq_append_right, List.append_nil, exists_eq_left, exists_eq_left', exists_and_left, exists_eq_right, exists_and_right]
      have : ks = ls := List.ext_getElem? fun i => by
        by_cases hi : i < j
        · exact hgo i hi
        · rw [List.getElem?_eq_none (by omega), List.getElem?_eq_none (by omega)]
      simp [this]
  · have hb : ((ks.length : Int) != (ls.length : Int)) = true := by rw [bne_iff_ne]; omega
    simp (config := {maxSteps := 4000000}) only [c86, hlen, hlen2, hb, SS, bne_self_eq_false, wr_def, obOf, List.all_cons, List.all_nil, List.map_cons, List.map_nil, List.length_cons, List.length_nil, List.take_zero, List.take_succ_cons, List.take_nil, List.drop_zero, List.drop_succ_cons, List.drop_nil, Nat.reduceAdd, Nat.reduceMul, Nat.reduceSub, if_true, Nat.reduceLT, Nat.reduceLeDiff, ite_true, ite_false, Nat.reduceEqDiff, if_false, reduceCtorEq, ne_eq, List.getD, List.getElem?_cons_zero, List.getElem?_cons_succ, Option.getD_some, Option.bind_some, Option.map_some, Option.isSome_some, reduceIte, List.length_append, List.append_assoc, List.cons_append, List.nil_append, Option.some.injEq, forall_const, implies_true, Int.reduceNeg, eq_self, Prod.mk.injEq, List.self_eq_append_right, List.append_nil, exists_eq_left, exists_eq_left', exists_and_left, exists_eq_right, exists_and_right]
    have : ¬ ks = ls := fun h => hl (by rw [h])
    simp [this]
end Go.Proofs.Ytpehhlfbnkakpaa.Hg
