/- The example that the laws over assignments begin with. Conditions stand in each lemma. -/
import Derived.Test.YtpehhlfbnkakpaaHgK
import Derived.Test.YtpehhlfbnkakpaaHgI
import Derived.Test.YtpehhlfbnkakpaaNsA
namespace Go.Proofs.Ytpehhlfbnkakpaa.Hg
open Go Go.Proofs.Ytpehhlfbnkakpaa.Eva Go.Proofs.Ytpehhlfbnkakpaa.CodeAll Go.Proofs.Ytpehhlfbnkakpaa.Fl
set_option linter.unusedVariables false
set_option linter.unusedSimpArgs false
set_option maxRecDepth 10000
set_option maxHeartbeats 4000000

theorem NsL.of {H : List Ob} {v : AV} {vs : List AV} {rows : List (List Int)} (A : NsS intC 1 H v vs rows) : NsL H v vs rows := ⟨A.out, A.len, fun i u r hu hr => (A.inn i u r hu hr).1⟩
theorem NsS.fg {H : List Ob} {v : AV} {vs : List AV} {rows : List (List Int)} (A : NsS intC 1 H v vs rows) : ∀ u ∈ vs, FgL H u := by
  intro u hu
  obtain ⟨i, hi, rfl⟩ := List.getElem_of_mem hu
  have h1 : vs[i]? = some vs[i] := List.getElem?_eq_getElem hi
  obtain ⟨r, hr⟩ : ∃ r, rows[i]? = some r := ⟨_, List.getElem?_eq_getElem (by rw [← A.len]; exact hi)⟩
  exact (A.inn i _ r h1 hr).2
theorem out_sl {h : List Ob} {xs : List Int} {k : Nat} (hk : xs.length = k) : SlL (h ++ outO 1 k (flat intC xs)) (outV h.length 1 k) intC 1 xs := by
  subst hk
  exact ⟨fun _ => rfl, by decide, out_rd (flat_len (k := 1) (fun _ => rfl) xs)⟩
theorem least3 {n : Nat} {T : Int} {τs : List Int} (hC : ∀ r ∈ [[(3 : Int)]], RowOk n r) (hL : LeastP [[3]] n 10 T) (hl : τs.length = 1) (hV : Val [[3]] n (fun i => (τs[i]?).getD (-1))) (hc : costOf [[3]] 10 (fun i => (τs[i]?).getD (-1)) = T) : T = 3 ∧ τs = [0] := by
  have hn : n = 1 := by have := (hC [3] (by simp)).2.1; simpa using this.symm
  subst hn
  have h0 : T ≤ 3 := hL.2 (fun _ => 0) ⟨fun i hi => by
    have : i = 0 := by simpa using hi
    subst this
    exact Or.inr ⟨by decide, by decide, by decide⟩, fun i j hi hj _ _ => by simp at hi hj; omega⟩
  match τs, hl with
  | [t], _ =>
    have h1 := hV.rng 0 (by simp)
    simp only [List.getElem?_cons_zero, Option.getD_some] at h1
    rcases h1 with h1 | h1
    · subst h1
      have : T = 10 := by rw [← hc]; rfl
      omega
    · have : t = 0 := by omega
      subst this
      exact ⟨by rw [← hc]; rfl, rfl⟩
theorem assigns_pc {H : List Ob} : pcall E 46 [] H = some (.bool true) := by
  refine pcall_some.2 (call_plain e46 rfl (Nat.le_of_ble_eq_true rfl) rfl ?_)
  have A : NsS intC 1 (H ++ [⟨[.int .i64 3], 0, 1, true, true⟩, ⟨[.sl false H.length 0 1 0 1], 0, 1, true, false⟩]) (.sl false (H.length + 1) 0 1 0 1) [.sl false H.length 0 1 0 1] [[3]] := by
    refine ⟨⟨fun _ => rfl, by decide, rfl, Or.inr ⟨_, 0, 0, ⟨[.sl false H.length 0 1 0 1], 0, 1, true, false⟩, rfl, by simp [rdObj], by simp, rfl⟩⟩, rfl, fun i u r hu hr => ?_⟩
    have hi : i = 0 := by have := (List.getElem?_eq_some_iff.1 hu).1; simpa using this
    subst hi
    simp only [List.getElem?_cons_zero, Option.some.injEq] at hu hr
    subst hu; subst hr
    have hrd : rdObj (H ++ [(⟨[.int .i64 3], 0, 1, true, true⟩ : Ob), ⟨[.sl false H.length 0 1 0 1], 0, 1, true, false⟩]) H.length 0 = some ⟨[.int .i64 3], 0, 1, true, true⟩ := by simp [rdObj]
    refine ⟨⟨fun _ => rfl, by decide, rfl, Or.inr ⟨_, 0, 0, _, rfl, hrd, by simp, rfl⟩⟩, ?_⟩
    rintro id ep o ⟨_, rfl⟩ ho
    unfold rdObj at ho
    simp at ho
    obtain ⟨_, rfl⟩ := ho; rfl
  have hok : Ok [[(3 : Int)]] 10 := ⟨by decide, ⟨1, fun r hr => by
    have : r = [3] := by simpa using hr
    subst this
    exact ⟨by decide, rfl, fun c hc => by have : c = 3 := by simpa using hc
                                          omega⟩⟩, by decide, by decide⟩
  obtain ⟨n, T, τs, hn, hC, hLP, hT, hl, hV, hc, -, hb⟩ := best_ok (NsL.of A) (NsS.fg A) hok
  obtain ⟨rfl, rfl⟩ := least3 hC hLP hl hV hc
  have hbn := ncall_some.2 hb
  have ov : ∀ m, outV m 1 [[(3 : Int)]].length = .sl false m 0 1 0 1 := fun m => rfl
  have oo : outO 1 [[(3 : Int)]].length (flat intC [0]) = [⟨[.int .i64 0], 0, 1, true, true⟩] := rfl
  rw [ov, oo] at hbn
  have b1 : ((3 : Int) == 3) = true := rfl
  have b2 : ((0 : Int) == 0) = true := rfl
  have hs : ∀ o, SlL (H ++ (⟨[.int .i64 3], 0, 1, true, true⟩ :: ⟨[.sl false H.length 0 1 0 1], 0, 1, true, false⟩ :: ⟨[.int .i64 0], 0, 1, true, true⟩ :: o)) (.sl false (H.length + 2) 0 1 0 1) intC 1 [0] := fun o =>
    ⟨fun _ => rfl, by decide, rfl, Or.inr ⟨_, 0, 0, ⟨[.int .i64 0], 0, 1, true, true⟩, rfl, by simp [rdObj], by simp, rfl⟩⟩
  have hs2 : ∀ o, SlL (H ++ (⟨[.int .i64 3], 0, 1, true, true⟩ :: ⟨[.sl false H.length 0 1 0 1], 0, 1, true, false⟩ :: ⟨[.int .i64 0], 0, 1, true, true⟩ :: ⟨[.int .i64 0], 0, 1, true, true⟩ :: o)) (.sl false (H.length + 3) 0 1 0 1) intC 1 [0] := fun o =>
    ⟨fun _ => rfl, by decide, rfl, Or.inr ⟨_, 0, 0, ⟨[.int .i64 0], 0, 1, true, true⟩, rfl, by simp [rdObj], by simp, rfl⟩⟩
  have heq := equal_i (hs [⟨[.int .i64 0], 0, 1, true, true⟩]) (hs2 []) (by decide)
  have hd : decide (([0] : List Int) = [0]) = true := by decide
  rw [hd] at heq
  simp only [List.length_append, List.length_cons, List.length_nil, List.append_assoc, List.cons_append, List.nil_append, Nat.zero_add, Nat.reduceAdd] at hbn heq
  simp (config := {maxSteps := 8000000}) only [c46, rg_calln, ncallV_fn, hbn, heq, b1, b2, sc_sl, rg_mksg, true_implies, false_implies, Bool.true_eq_false, SS, bne_self_eq_false, wr_def, obOf, List.all_cons, List.all_nil, List.map_cons, List.map_nil, List.length_cons, List.length_nil, List.take_zero, List.take_succ_cons, List.take_nil, List.drop_zero, List.drop_succ_cons, List.drop_nil, Nat.reduceAdd, Nat.reduceMul, Nat.reduceSub, if_true, Nat.reduceLT, Nat.reduceLeDiff, ite_true, ite_false, Nat.reduceEqDiff, if_false, reduceCtorEq, ne_eq, List.getD, List.getElem?_cons_zero, List.getElem?_cons_succ, Option.getD_some, Option.bind_some, Option.map_some, Option.isSome_some, reduceIte, List.length_append, List.append_assoc, List.cons_append, List.nil_append, Option.some.injEq, forall_const, implies_true, Int.reduceNeg, eq_self, Prod.mk.injEq, List.self_eq_append_right, List.append_nil, exists_eq_left, exists_eq_left', exists_and_left, exists_eq_right, exists_and_right]
end Go.Proofs.Ytpehhlfbnkakpaa.Hg
