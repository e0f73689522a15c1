/- IsSorted of a rising row. Conditions stand in each lemma. -/
import Derived.Test.YtaekgifbehoipaaZPairUniqued
import Derived.Test.YtaekgifbehoipaaEvaY
import Derived.Test.YtaekgifbehoipaaZPairUniquea
namespace Go.Proofs.Ytaekgifbehoipaa.Hg
open Go Go.Proofs.Ytaekgifbehoipaa.Eva Go.Proofs.Ytaekgifbehoipaa.CodeAll Go.Proofs.Ytaekgifbehoipaa.Fl
set_option linter.unusedVariables false
set_option linter.unusedSimpArgs false
set_option maxRecDepth 10000
set_option maxHeartbeats 4000000

theorem nan_pc (x : Int) (H : List Ob) : pcall E 104 [.int .i64 x] H = some (.bool false) := by
  refine pcall_some.2 (call_plain e104 rfl (Nat.le_of_ble_eq_true rfl) rfl ?_)
  have b : (x != x) = false := by simp
  simp (config := {maxSteps := 4000000}) only [c104, b, SS, bne_self_eq_false, wr_def, obOf, List.all_cons, List.all_nil, List.map_cons, List.map_nil, List.length_cons, List.length_nil, List.take_zero, List.take_succ_cons, List.take_nil, List.drop_zero, List.drop_succ_cons, List.drop_nil, Nat.reduceAdd, Nat.reduceMul, Nat.reduceSub, if_true, Nat.reduceLT, Nat.reduceLeDiff, ite_true, ite_false, Nat.reduceEqDiff, if_false, reduceCtorEq, ne_eq, List.getD, List.getElem?_cons_zero, List.getElem?_cons_succ, Option.getD_some, Option.bind_some, Option.map_some, Option.isSome_some, reduceIte, List.length_append, List.append_assoc, List.cons_append, List.nil_append, Option.some.injEq, forall_const, implies_true, Int.reduceNeg, eq_self, Prod.mk.injEq, List.self_eq_append_right, List.append_nil, exists_eq_left, exists_eq_left', exists_and_left, exists_eq_right, exists_and_right]
theorem less_pc (x y : Int) (H : List Ob) : pcall E 68 [.int .i64 x, .int .i64 y] H = some (.bool (decide (x < y))) := by
  refine pcall_some.2 (call_plain e68 rfl (Nat.le_of_ble_eq_true rfl) rfl ?_)
  have h := fun x => nan_pc x H
  simp (config := {maxSteps := 4000000}) only [c68, h, nan_pc, SS, bne_self_eq_false, wr_def, obOf, List.all_cons, List.all_nil, List.map_cons, List.map_nil, List.length_cons, List.length_nil, List.take_zero, List.take_succ_cons, List.take_nil, List.drop_zero, List.drop_succ_cons, List.drop_nil, Nat.reduceAdd, Nat.reduceMul, Nat.reduceSub, if_true, Nat.reduceLT, Nat.reduceLeDiff, ite_true, ite_false, Nat.reduceEqDiff, if_false, reduceCtorEq, ne_eq, List.getD, List.getElem?_cons_zero, List.getElem?_cons_succ, Option.getD_some, Option.bind_some, Option.map_some, Option.isSome_some, reduceIte, List.length_append, List.append_assoc, List.cons_append, List.nil_append, Option.some.injEq, forall_const, implies_true, Int.reduceNeg, eq_self, Prod.mk.injEq, List.self_eq_append_right, List.append_nil, exists_eq_left, exists_eq_left', exists_and_left, exists_eq_right, exists_and_right]
theorem sorted_pc {H : List Ob} {V : AV} {ks : List Int} (hs : SlL H V intC 1 ks) (hbig : ks.length ≤ 1125899906842624) (hsd : ∀ (i : Nat) a b, ks[i]? = some a → ks[i + 1]? = some b → a ≤ b) :
    pcall E 32 [V] H = some (.bool true) := by
  refine pcall_some.2 (call_plain e32 rfl (Nat.le_of_ble_eq_true rfl) rfl ?_)
  have hlen := hs.len
  have w1 : IntKind.i64.wrap ((ks.length : Int) - 1) = (ks.length : Int) - 1 := wrap64 (by omega) (by omega)
  simp (config := {maxSteps := 4000000}) only [c32, hlen, w1, SS, bne_self_eq_false, wr_def, obOf, List.all_cons, List.all_nil, List.map_cons, List.map_nil, List.length_cons, List.length_nil, List.take_zero, List.take_succ_cons, List.take_nil, List.drop_zero, List.drop_succ_cons, List.drop_nil, Nat.reduceAdd, Nat.reduceMul, Nat.reduceSub, if_true, Nat.reduceLT, Nat.reduceLeDiff, ite_true, ite_false, Nat.reduceEqDiff, if_false, reduceCtorEq, ne_eq, List.getD, List.getElem?_cons_zero, List.getElem?_cons_succ, Option.getD_some, Option.bind_some, Option.map_some, Option.isSome_some, reduceIte, List.length_append, List.append_assoc, List.cons_append, List.nil_append, Option.some.injEq, forall_const, implies_true, Int.reduceNeg, eq_self, Prod.mk.injEq, List.self_eq_append_right, List.append_nil, exists_eq_left, exists_eq_left', exists_and_left, exists_eq_right, exists_and_right]
  refine W_loop (fun q f1 h1 => ∃ n : Int, q = n.toNat ∧ n < ks.length ∧ -1 ≤ n ∧ f1 0 = V ∧ f1 3 = .int .i64 n) (Nat.le_refl _) ((ks.length : Int) - 1).toNat ⟨(ks.length : Int) - 1, rfl, by omega, by omega, rfl, rfl⟩ ?_
  rintro q f1 h1 hn1 ht ⟨n, rfl, hn, hn2, e0, e3⟩
  rw [List.take_length] at ht
  have hH := take_eq ht
  generalize h1.drop H.length = z at hH
  subst hH
  by_cases h0 : 0 < n
  · have b1 : decide (0 < n) = true := decide_eq_true h0
    obtain ⟨i, rfl⟩ : ∃ i : Nat, n = ((i + 1 : Nat) : Int) := ⟨(n - 1).toNat, by omega⟩
    obtain ⟨a, ha⟩ : ∃ a, ks[i]? = some a := ⟨_, List.getElem?_eq_getElem (by omega)⟩
    obtain ⟨b, hb⟩ : ∃ b, ks[i + 1]? = some b := ⟨_, List.getElem?_eq_getElem (by omega)⟩
    have hab := hsd i a b ha hb
    have w2 : IntKind.i64.wrap (((i + 1 : Nat) : Int) - 1) = (i : Int) := by rw [wrap64 (by omega) (by omega)]; omega
    have ok1 : idxOk 1 V (.int .i64 (i : Int)) := hs.ok (by omega) (by omega)
    have ok2 : idxOk 1 V (.int .i64 ((i + 1 : Nat) : Int)) := hs.ok (by omega) (by omega)
    have l1 : ld1A (H ++ z) (idxV 1 V (.int .i64 (i : Int))) = some (.int .i64 a) := by rw [(hs.keep z).ld0 (x := a) (by omega) (by simpa using ha)]; rfl
    have l2 : ld1A (H ++ z) (idxV 1 V (.int .i64 ((i + 1 : Nat) : Int))) = some (.int .i64 b) := by rw [(hs.keep z).ld0 (x := b) (by omega) (by rw [Int.toNat_natCast]; exact hb)]; rfl
    have hl := less_pc b a
    have b2 : decide (b < a) = false := decide_eq_false (by omega)
    rw [b2] at hl
    simp (config := {maxSteps := 4000000}) only [e0, e3, b1, w2, ok1, ok2, isPtr_idx ok1, isPtr_idx ok2, l1, l2, hl, SS, bne_self_eq_false, wr_def, obOf, List.all_cons, List.all_nil, List.map_cons, List.map_nil, List.length_cons, List.length_nil, List.take_zero, List.take_succ_cons, List.take_nil, List.drop_zero, List.drop_succ_cons, List.drop_nil, Nat.reduceAdd, Nat.reduceMul, Nat.reduceSub, if_true, Nat.reduceLT, Nat.reduceLeDiff, ite_true, ite_false, Nat.reduceEqDiff, if_false, reduceCtorEq, ne_eq, List.getD, List.getElem?_cons_zero, List.getElem?_cons_succ, Option.getD_some, Option.bind_some, Option.map_some, Option.isSome_some, reduceIte, List.length_append, List.append_assoc, List.cons_append, List.nil_append, Option.some.injEq, forall_const, implies_true, Int.reduceNeg, eq_self, Prod.mk.injEq, List.self_eq_append_right, List.append_nil, exists_eq_left, exists_eq_left', exists_and_left, exists_eq_right, exists_and_right]
    exact ⟨_, by omega, (i : Int), rfl, by omega, by omega, rfl⟩
  · have b1 : decide (0 < n) = false := decide_eq_false h0
    simp (config := {maxSteps := 8000000}) only [e0, e3, b1, SS, bne_self_eq_false, wr_def, obOf, List.all_cons, List.all_nil, List.map_cons, List.map_nil, List.length_cons, List.length_nil, List.take_zero, List.take_succ_cons, List.take_nil, List.drop_zero, List.drop_succ_cons, List.drop_nil, Nat.reduceAdd, Nat.reduceMul, Nat.reduceSub, if_true, Nat.reduceLT, Nat.reduceLeDiff, ite_true, ite_false, Nat.reduceEqDiff, if_false, reduceCtorEq, ne_eq, List.getD, List.getElem?_cons_zero, List.getElem?_cons_succ, Option.getD_some, Option.bind_some, Option.map_some, Option.isSome_some, reduceIte, List.length_append, List.append_assoc, List.cons_append, List.nil_append, Option.some.injEq, forall_const, implies_true, Int.reduceNeg, eq_self, Prod.mk.injEq, List.self_eq_append_right, List.append_nil, exists_eq_left, exists_eq_left', exists_and_left, exists_eq_right, exists_and_right]
theorem misL_sorted {ls : List (List Nd)} {to : List Int} {time : Int} {n : Nat} (i : Nat) (a b : Int) (ha : (misL ls to time n)[i]? = some a) (hb : (misL ls to time n)[i + 1]? = some b) : a ≤ b := by
  have hp : List.Pairwise (fun x y : Int => x < y) (misL ls to time n) := by
    unfold misL
    refine List.Pairwise.map _ (fun x y h => ?_) (List.Pairwise.filter _ List.pairwise_lt_range)
    exact Int.ofNat_lt.2 h
  rw [List.pairwise_iff_getElem] at hp
  obtain ⟨h1, e1⟩ := List.getElem?_eq_some_iff.1 ha
  obtain ⟨h2, e2⟩ := List.getElem?_eq_some_iff.1 hb
  have := hp i (i + 1) h1 h2 (by omega)
  rw [e1, e2] at this
  omega
theorem misL_mem {ls : List (List Nd)} {to : List Int} {time : Int} {n i : Nat} (hi : i < n) : ((i : Int) ∈ misL ls to time n) ↔ mis1 ls to time i = true := by
  unfold misL
  simp only [List.mem_map, List.mem_filter, List.mem_range]
  constructor
  · rintro ⟨j, ⟨h1, h2⟩, h3⟩
    have : j = i := by omega
    rw [← this]; exact h2
  · intro h
    exact ⟨i, ⟨hi, h⟩, rfl⟩
end Go.Proofs.Ytaekgifbehoipaa.Hg
/- What a best assignment of tracks to tubes holds, plain. No condition. -/
namespace Go.Proofs.Ytaekgifbehoipaa.Hg
open Go Go.Proofs.Ytaekgifbehoipaa.Eva Go.Proofs.Ytaekgifbehoipaa.CodeAll Go.Proofs.Ytaekgifbehoipaa.Fl
set_option linter.unusedVariables false
set_option linter.unusedSimpArgs false
set_option maxRecDepth 10000

theorem cost_may {k : K} {p : List Nd × Int} (h : 0 ≤ costK k p) : mayK k p.1 p.2 = true := by
  unfold costK at h
  by_cases c : mayK k p.1 p.2 = true
  · exact c
  · rw [if_neg c] at h; omega
theorem best_may {ts : List K} {zs : List (List Nd × Int)} {n : Nat} {τ : Nat → Int} (hR : ∀ r ∈ ts.map (rowK zs), RowOk n r) (hV : Val (ts.map (rowK zs)) n τ) {i : Nat} {k : K} (hi : ts[i]? = some k) (h0 : 0 ≤ τ i) :
    ∃ p, zs[(τ i).toNat]? = some p ∧ mayK k p.1 p.2 = true := by
  have hil : i < (ts.map (rowK zs)).length := by rw [List.length_map]; exact (List.getElem?_eq_some_iff.1 hi).1
  have hr : (ts.map (rowK zs))[i]? = some (rowK zs k) := by rw [List.getElem?_map, hi]; rfl
  rcases hV.rng i hil with h | ⟨h1, h2, h3⟩
  · omega
  have hl := (hR _ (List.mem_of_getElem? hr)).2.1
  have hzl : zs.length = n := by rw [← hl, rowK, List.length_map]
  obtain ⟨p, hp⟩ : ∃ p, zs[(τ i).toNat]? = some p := ⟨_, List.getElem?_eq_getElem (by omega)⟩
  refine ⟨p, hp, cost_may ?_⟩
  have hc : (rowK zs k)[(τ i).toNat]? = some (costK k p) := by rw [rowK, List.getElem?_map, hp]; rfl
  have e : mF (ts.map (rowK zs)) i (τ i).toNat = costK k p := by
    rw [mF, gRow_eq hr, hc]; rfl
  rw [← e]; exact h3
end Go.Proofs.Ytaekgifbehoipaa.Hg
/- The first check of PairUnique: one track on the line of one flight. No condition. -/
namespace Go.Proofs.Ytaekgifbehoipaa.Hg
open Go Go.Proofs.Ytaekgifbehoipaa.Eva Go.Proofs.Ytaekgifbehoipaa.CodeAll Go.Proofs.Ytaekgifbehoipaa.Fl
set_option linter.unusedVariables false
set_option linter.unusedSimpArgs false
set_option maxRecDepth 10000
set_option maxHeartbeats 4000000

def lineL (r b : Int) : List Nd := [⟨0, 0, 0, 5000, r, b⟩, ⟨100, 20000, 0, 5000, r, b⟩]
theorem line_nc (r b : Int) (H : List Ob) : ncall E 26 [.int .i64 r, .int .i64 b] H = some (.sl false H.length 0 6 0 2, [⟨flat Nd.c (lineL r b), 0, 6, true, true⟩]) := by
  have h := call_list1 (E := E) e26 (args := [.int .i64 r, .int .i64 b]) (h := H) (sz := 6) (k := 2) (cs := flat Nd.c (lineL r b)) rfl (Nat.le_of_ble_eq_true rfl) (by
    simp (config := {maxSteps := 4000000}) only [c26, SS, bne_self_eq_false, wr_def, obOf, List.all_cons, List.all_nil, List.map_cons, List.map_nil, List.length_cons, List.length_nil, List.take_zero, List.take_succ_cons, List.take_nil, List.drop_zero, List.drop_succ_cons, List.drop_nil, Nat.reduceAdd, Nat.reduceMul, Nat.reduceSub, if_true, Nat.reduceLT, Nat.reduceLeDiff, ite_true, ite_false, Nat.reduceEqDiff, if_false, reduceCtorEq, ne_eq, List.getD, List.getElem?_cons_zero, List.getElem?_cons_succ, Option.getD_some, Option.bind_some, Option.map_some, Option.isSome_some, reduceIte, List.length_append, List.append_assoc, List.cons_append, List.nil_append, Option.some.injEq, forall_const, implies_true, Int.reduceNeg, eq_self, Prod.mk.injEq, List.self_eq_append_right, List.append_nil, exists_eq_left, exists_eq_left', exists_and_left, exists_eq_right, exists_and_right]
    exact ⟨_, rfl, Or.inr ⟨H.length, 0, rfl, rd_last (o := ⟨flat Nd.c (lineL r b), 0, 6, true, true⟩), Nat.le_refl _, by decide⟩⟩)
  exact ncall_some.2 h
theorem line_sl (r b : Int) (H x : List Ob) : SlL (H ++ ([⟨flat Nd.c (lineL r b), 0, 6, true, true⟩] ++ x)) (.sl false H.length 0 6 0 2) Nd.c 6 (lineL r b) := by
  refine ⟨fun _ => rfl, by decide, rfl, Or.inr ⟨_, 0, 0, ⟨flat Nd.c (lineL r b), 0, 6, true, true⟩, rfl, ?_, Nat.le_refl _, rfl⟩⟩
  simp [rdObj]
def onK : K := ⟨0, 0, 50, 10000, 0, 0, 0, 5000, 0, 0, 7, 0, 0⟩
theorem on_chk : onK.chk = 0 := by decide
theorem line_chk : tchk (lineL 100 300) = 0 := by decide
theorem on_at : tAt (lineL 100 300) 50 = (⟨50, 10000, 0, 5000, 100, 300⟩, 0) := by decide
theorem on_fit : fitB onK (lineL 100 300) = true := by
  have h : tAt (lineL 100 300) onK.t = (⟨50, 10000, 0, 5000, 100, 300⟩, 0) := on_at
  rw [fit_val on_chk line_chk (by rw [h])]
  rw [h]
  decide
theorem on_cost : costK onK (lineL 100 300, 7) = 0 := by
  have h : tAt (lineL 100 300) onK.t = (⟨50, 10000, 0, 5000, 100, 300⟩, 0) := on_at
  have hm : mayK onK (lineL 100 300) 7 = true := by
    rw [mayK, on_fit]; decide
  unfold costK
  rw [if_pos hm, if_neg (by decide), h]
  decide
end Go.Proofs.Ytaekgifbehoipaa.Hg
/- The best assignment of one track to one tube. No condition. -/
namespace Go.Proofs.Ytaekgifbehoipaa.Hg
open Go Go.Proofs.Ytaekgifbehoipaa.Eva Go.Proofs.Ytaekgifbehoipaa.CodeAll Go.Proofs.Ytaekgifbehoipaa.Fl
set_option linter.unusedVariables false
set_option linter.unusedSimpArgs false
set_option maxRecDepth 10000

theorem on_rows : [onK].map (rowK ([lineL 100 300].zip [7])) = [[0]] := by
  show [[costK onK (lineL 100 300, 7)]] = [[0]]
  rw [on_cost]
theorem on_prchk : prchk [lineL 100 300] [7] = 0 := by decide
theorem on_okk : Ok [[0]] 2147483648 := ⟨by decide, ⟨1, fun r hr => by simp at hr; subst hr; exact ⟨by decide, rfl, by decide⟩⟩, by decide, by decide⟩
theorem on_tau {n : Nat} {T : Int} {τs : List Int} (h1 : ∀ r ∈ [[(0 : Int)]], RowOk n r) (hl : τs.length = 1) (hL : LeastP [[0]] n 2147483648 T) (hV : Val [[0]] n (fun i => (τs[i]?).getD (-1))) (hc : costOf [[0]] 2147483648 (fun i => (τs[i]?).getD (-1)) = T) : τs = [0] := by
  have hn : n = 1 := (h1 [0] (by simp)).2.1.symm
  subst hn
  obtain ⟨t, rfl⟩ : ∃ t, τs = [t] := by
    match τs, hl with
    | [t], _ => exact ⟨t, rfl⟩
  rcases hV.rng 0 (by decide) with h | ⟨h, h2, -⟩
  · have h0 : t = -1 := h
    subst h0
    have hv0 : Val [[0]] 1 (fun _ => 0) := by
      constructor
      · intro i hi
        have hi0 : i = 0 := by simp at hi; omega
        subst hi0
        exact Or.inr ⟨by decide, by decide, by decide⟩
      · intro i j hi hj _ _
        simp at hi hj; omega
    have := hL.2 (fun _ => 0) hv0
    have e1 : costOf [[0]] 2147483648 (fun _ => 0) = 0 := by decide
    have e2 : costOf [[0]] 2147483648 (fun i => ([(-1 : Int)][i]?).getD (-1)) = 2147483648 := by decide
    rw [e1] at this
    rw [e2] at hc
    omega
  · have h3 : 0 ≤ t := h
    have h4 : t < 1 := h2
    rw [show t = 0 by omega]
end Go.Proofs.Ytaekgifbehoipaa.Hg
/- The first of a slice of slices. No condition. -/
namespace Go.Proofs.Ytaekgifbehoipaa.Hg
open Go Go.Proofs.Ytaekgifbehoipaa.Eva Go.Proofs.Ytaekgifbehoipaa.CodeAll Go.Proofs.Ytaekgifbehoipaa.Fl
set_option linter.unusedVariables false
set_option linter.unusedSimpArgs false

theorem nss_part {α : Type} {c : α → List AV} {sz : Nat} {h : List Ob} {v : AV} {vs : List AV} {rows : List (List α)} (A : NsS c sz h v vs rows) {k : Nat} (hk : k ≤ rows.length) :
    ∃ v', slcA 1 none (some (k : Int)) v = some v' ∧ NsS c sz h v' (vs.take k) (rows.take k) := by
  obtain ⟨v', h1, h2, -⟩ := A.out.slc (a := none) (b := some (k : Int)) (lo := 0) (hi := k) rfl rfl (Nat.zero_le _) (by rw [A.len]; exact hk)
  refine ⟨v', h1, ⟨by simpa using h2, by rw [List.length_take, List.length_take, A.len], fun i u r hu hr => ?_⟩⟩
  rw [List.getElem?_take] at hu hr
  split at hu
  · rename_i hi
    rw [if_pos hi] at hr
    exact A.inn i u r hu hr
  · cases hu
end Go.Proofs.Ytaekgifbehoipaa.Hg
/- Tracks and nodes that come in. No condition. -/
namespace Go.Proofs.Ytaekgifbehoipaa.Hg
open Go Go.Proofs.Ytaekgifbehoipaa.Eva Go.Proofs.Ytaekgifbehoipaa.CodeAll Go.Proofs.Ytaekgifbehoipaa.Fl
set_option linter.unusedVariables false

theorem two {d : DV} (h : goodD (.st [.int .i64, .int .i64]) d) : ∃ x y : Int, d = .st [.i x, .i y] := by
  obtain ⟨l, rfl, g⟩ := good_st h
  obtain ⟨a, _, rfl, xa, g⟩ := goodL_cons g
  obtain ⟨b, _, rfl, xb, g⟩ := goodL_cons g
  obtain rfl := goodL_nil g
  obtain ⟨a, rfl, -, -⟩ := good_i64 xa
  obtain ⟨b, rfl, -, -⟩ := good_i64 xb
  exact ⟨a, b, rfl⟩
theorem dv_k (d : DV) (h : goodD (.st [.int .i64, .int .i64, .int .i64, .st [.int .i64, .int .i64], .st [.int .i64, .int .i64], .int .i64, .int .i64, .int .i64, .int .i64, .int .i64, .int .i64]) d) :
    ∃ x : K, True ∧ ∀ n, layD n (.st [.int .i64, .int .i64, .int .i64, .st [.int .i64, .int .i64], .st [.int .i64, .int .i64], .int .i64, .int .i64, .int .i64, .int .i64, .int .i64, .int .i64]) d = (x.c, []) := by
  obtain ⟨l, rfl, g⟩ := good_st h
  obtain ⟨a, _, rfl, xa, g⟩ := goodL_cons g
  obtain ⟨b, _, rfl, xb, g⟩ := goodL_cons g
  obtain ⟨c, _, rfl, xc, g⟩ := goodL_cons g
  obtain ⟨p, _, rfl, xp, g⟩ := goodL_cons g
  obtain ⟨q, _, rfl, xq, g⟩ := goodL_cons g
  obtain ⟨e, _, rfl, xe, g⟩ := goodL_cons g
  obtain ⟨f, _, rfl, xf, g⟩ := goodL_cons g
  obtain ⟨i, _, rfl, xi, g⟩ := goodL_cons g
  obtain ⟨j, _, rfl, xj, g⟩ := goodL_cons g
  obtain ⟨m, _, rfl, xm, g⟩ := goodL_cons g
  obtain ⟨o, _, rfl, xo, g⟩ := goodL_cons g
  obtain rfl := goodL_nil g
  obtain ⟨a, rfl, -, -⟩ := good_i64 xa
  obtain ⟨b, rfl, -, -⟩ := good_i64 xb
  obtain ⟨c, rfl, -, -⟩ := good_i64 xc
  obtain ⟨x, y, rfl⟩ := two xp
  obtain ⟨sx, sy, rfl⟩ := two xq
  obtain ⟨e, rfl, -, -⟩ := good_i64 xe
  obtain ⟨f, rfl, -, -⟩ := good_i64 xf
  obtain ⟨i, rfl, -, -⟩ := good_i64 xi
  obtain ⟨j, rfl, -, -⟩ := good_i64 xj
  obtain ⟨m, rfl, -, -⟩ := good_i64 xm
  obtain ⟨o, rfl, -, -⟩ := good_i64 xo
  exact ⟨⟨a, b, c, x, y, sx, sy, e, f, i, j, m, o⟩, trivial, fun n => rfl⟩
theorem dv_nd (d : DV) (h : goodD (.st [.st [.int .i64, .st [.int .i64, .int .i64], .int .i64], .int .i64, .int .i64]) d) :
    ∃ x : Nd, True ∧ ∀ n, layD n (.st [.st [.int .i64, .st [.int .i64, .int .i64], .int .i64], .int .i64, .int .i64]) d = (x.c, []) := by
  obtain ⟨l, rfl, g⟩ := good_st h
  obtain ⟨s, _, rfl, xs, g⟩ := goodL_cons g
  obtain ⟨r, _, rfl, xr, g⟩ := goodL_cons g
  obtain ⟨b, _, rfl, xb, g⟩ := goodL_cons g
  obtain rfl := goodL_nil g
  obtain ⟨l2, rfl, g2⟩ := good_st xs
  obtain ⟨t, q1, rfl, xt, g3⟩ := goodL_cons g2
  obtain ⟨p, q2, rfl, xp, g4⟩ := goodL_cons g3
  obtain ⟨hh, q3, rfl, xh, g5⟩ := goodL_cons g4
  obtain rfl := goodL_nil g5
  obtain ⟨t, rfl, -, -⟩ := good_i64 xt
  obtain ⟨x, y, rfl⟩ := two xp
  obtain ⟨hh, rfl, -, -⟩ := good_i64 xh
  obtain ⟨r, rfl, -, -⟩ := good_i64 xr
  obtain ⟨b, rfl, -, -⟩ := good_i64 xb
  exact ⟨⟨t, x, y, hh, r, b⟩, trivial, fun n => rfl⟩
end Go.Proofs.Ytaekgifbehoipaa.Hg
/- The law PairUnique over what comes in as told. Conditions stand in the lemma. -/
namespace Go.Proofs.Ytaekgifbehoipaa.Hg
open Go Go.Proofs.Ytaekgifbehoipaa.Eva Go.Proofs.Ytaekgifbehoipaa.CodeAll Go.Proofs.Ytaekgifbehoipaa.Fl
set_option linter.unusedVariables false
set_option linter.unusedSimpArgs false
set_option maxRecDepth 10000
set_option maxHeartbeats 4000000

def oOn : Ob := ⟨onK.c, 0, 0, true, true⟩
def oOn2 : Ob := ⟨onK.c, 0, 13, true, true⟩
def oSev : Ob := ⟨[.int .i64 7], 0, 1, true, true⟩
def oLine : Ob := ⟨flat Nd.c (lineL 100 300), 0, 6, true, true⟩
def oTub (n : Nat) : Ob := ⟨[.sl false n 0 6 0 2], 0, 1, true, false⟩
def oNil : Ob := ⟨[.int .i64 0], 0, 1, true, true⟩
theorem first_nc (H : List Ob) : ncall E 25 [.sl false (H.length + 1) 0 13 0 1, .sl false (H.length + 4) 0 1 0 1, .sl false (H.length + 2) 0 1 0 1] (H ++ [oOn, oOn2, oSev, oLine, oTub (H.length + 3)]) = some (.tup [.sl false (H.length + 5) 0 1 0 1, .int .i64 0], [oNil]) := by
  have hs : SlL (H ++ [oOn, oOn2, oSev, oLine, oTub (H.length + 3)]) (.sl false (H.length + 1) 0 13 0 1) K.c 13 [onK] :=
    ⟨fun _ => rfl, by decide, rfl, Or.inr ⟨_, 0, 0, oOn2, rfl, by simp [rdObj, oOn2], Nat.le_refl _, rfl⟩⟩
  have hx : SlL (H ++ [oOn, oOn2, oSev, oLine, oTub (H.length + 3)]) (.sl false (H.length + 2) 0 1 0 1) intC 1 [7] :=
    ⟨fun _ => rfl, by decide, rfl, Or.inr ⟨_, 0, 0, oSev, rfl, by simp [rdObj, oSev], Nat.le_refl _, rfl⟩⟩
  have hl : SlL (H ++ [oOn, oOn2, oSev, oLine, oTub (H.length + 3)]) (.sl false (H.length + 3) 0 6 0 2) Nd.c 6 (lineL 100 300) :=
    ⟨fun _ => rfl, by decide, rfl, Or.inr ⟨_, 0, 0, oLine, rfl, by simp [rdObj, oLine], Nat.le_refl _, rfl⟩⟩
  have A : NsS Nd.c 6 (H ++ [oOn, oOn2, oSev, oLine, oTub (H.length + 3)]) (.sl false (H.length + 4) 0 1 0 1) [.sl false (H.length + 3) 0 6 0 2] [lineL 100 300] := by
    refine ⟨⟨fun _ => rfl, by decide, rfl, Or.inr ⟨_, 0, 0, oTub (H.length + 3), rfl, by simp [rdObj, oTub], Nat.le_refl _, rfl⟩⟩, rfl, fun i u r hu hr => ?_⟩
    match i with
    | 0 =>
      simp only [List.getElem?_cons_zero, Option.some.injEq] at hu hr
      subst hu; subst hr
      refine ⟨hl, ?_⟩
      rintro id ep o ⟨_, rfl⟩ ho
      simp [rdObj, oLine] at ho
      obtain ⟨_, rfl⟩ := ho; rfl
    | i + 1 => simp at hu
  obtain ⟨e, τs, hc, hb⟩ := pbest_ex hs A hx (by decide) (by decide) (by decide)
  rw [on_rows] at hc
  rcases hc with ⟨_, _, h | h | ⟨k, h1, h2⟩ | h⟩ | ⟨rfl, _, _, _, hl1, n, T, h1, h2, h3, h4⟩
  · exact absurd h (by decide)
  · exact absurd on_prchk h
  · simp only [List.mem_singleton] at h1
    subst h1
    exact absurd on_chk h2
  · exact absurd on_okk h
  · have := on_tau h1 hl1 h2 h3 h4
    subst this
    have e := ncall_some.2 hb
    simpa [outV, outO, flat, intC, oNil] using e
theorem first_eq (H : List Ob) (z : List Ob) : pcall E 27 [.sl false (H.length + 5) 0 1 0 1, .sl false (H.length + 6) 0 1 0 1] (H ++ (oOn :: oOn2 :: oSev :: oLine :: oTub (H.length + 3) :: oNil :: oNil :: z)) = some (.bool true) := by
  have h1 : SlL (H ++ (oOn :: oOn2 :: oSev :: oLine :: oTub (H.length + 3) :: oNil :: oNil :: z)) (.sl false (H.length + 5) 0 1 0 1) intC 1 [0] :=
    ⟨fun _ => rfl, by decide, rfl, Or.inr ⟨_, 0, 0, oNil, rfl, by simp [rdObj, oNil], Nat.le_refl _, rfl⟩⟩
  have h2 : SlL (H ++ (oOn :: oOn2 :: oSev :: oLine :: oTub (H.length + 3) :: oNil :: oNil :: z)) (.sl false (H.length + 6) 0 1 0 1) intC 1 [0] :=
    ⟨fun _ => rfl, by decide, rfl, Or.inr ⟨_, 0, 0, oNil, rfl, by simp [rdObj, oNil], Nat.le_refl _, rfl⟩⟩
  have := equal_i h1 h2 (by decide)
  simpa using this

theorem fa_new0 {n0 n : Nat} {h : List Ob} (hn : n0 ≤ h.length) (τs : List Int) : FA n0 (h ++ [⟨zrep n [.bool false], 0, 1, true, true⟩]) (.sl false h.length 0 1 0 n) Eva.gB n (fun i => decide ((i : Int) ∈ τs.take 0)) := by
  have hF0 := FA.new (g := Eva.gB) (n0 := n0) (n := n) (H := h) (z := false) hn []
  have e : (fun i : Nat => decide ((i : Int) ∈ τs.take 0)) = fun _ => false := by funext i; simp
  rw [e]; exact hF0
theorem unique_law {H : List Ob} {V0 W0 X : AV} {us0 : List AV} {ts0 : List K} {ls0 : List (List Nd)} {cs : List Int} (time : Int) (hs0 : SlL H V0 K.c 13 ts0) (A0 : NsS Nd.c 6 H W0 us0 ls0) (hx0 : SlL H X intC 1 cs)
    (hb0 : ts0.length < 1125899906842624) (hb1 : ls0.length < 1125899906842624) (hb2 : cs.length < 1125899906842624) : ∃ r, ecall E 8 [V0, W0, X, .int .i64 time] H = some (.bool true, r) := by
  refine call_true e8 rfl (Nat.le_of_ble_eq_true rfl) ?_
  have hlen0 := hs0.len
  have hlw0 := A0.out.len
  rw [A0.len] at hlw0
  have n0 : ((0 : Int) != 0) = false := rfl
  have z0 : ((0 : Int) == 0) = true := rfl
  have k1 := first_nc H
  have k2 := first_eq H []
  have kl := fun H => line_nc 100 300 H
  have scs : ∀ (nl : Bool) (id ep sz off len : Nat), (AV.sl nl id ep sz off len).scalar = false := fun _ _ _ _ _ _ => rfl
  -- the first six, the first five
  obtain ⟨V, hV1, hV2, hV3⟩ := hs0.slc (a := none) (b := some (min (ts0.length : Int) 6)) (lo := 0) (hi := min ts0.length 6) rfl (by simp only [Option.getD_some]; omega) (by omega) (by omega)
  simp only [List.drop_zero, Nat.sub_zero] at hV2
  have hl6 : (ts0.take (min ts0.length 6)).length ≤ 6 := by rw [List.length_take]; omega
  generalize ts0.take (min ts0.length 6) = ts at hV2 hl6
  obtain ⟨W, hW1, hW2⟩ := nss_part A0 (k := min ls0.length 5) (by omega)
  have hk5 : ((min ls0.length 5 : Nat) : Int) = min (ls0.length : Int) 5 := by omega
  rw [hk5] at hW1
  have hl5 : (ls0.take (min ls0.length 5)).length ≤ 5 := by rw [List.length_take]; omega
  generalize ls0.take (min ls0.length 5) = ls at hW2 hl5
  generalize us0.take (min ls0.length 5) = us at hW2
  obtain ⟨z, hz⟩ : ∃ z, [oOn, oOn2, oSev, oLine, oTub (H.length + 3), oNil, oNil] = z := ⟨_, rfl⟩
  have hs := hV2.keep z
  have A := Fl.NsS.keep hW2 z
  have hx := hx0.keep z
  obtain ⟨e, τs, hc, hb⟩ := pbest_ex hs A hx (by omega) (by omega) hb2
  have hbn := ncall_some.2 hb
  have hlen := hs.len
  have hlw := A.out.len
  rw [A.len] at hlw
  have hio := isl_out (n0 := H.length) (h := H ++ z) (sz := 1) (k := τs.length) (cs := flat intC τs) (by simp) (fun h => by rw [List.length_eq_zero_iff.1 h]; rfl)
  have hos := out_shape (H ++ z).length 1 τs.length
  have hol : lenvA false (outV (H ++ z).length 1 τs.length) = some (.int .i64 (τs.length : Int)) := by
    unfold outV; split
    · rename_i h; rw [h]; rfl
    · rfl
  generalize outO 1 τs.length (flat intC τs) = o1 at hbn hio
  generalize outV (H ++ z).length 1 τs.length = v1 at hbn hio hos hol
  subst hz
  simp only [oOn, oOn2, oSev, oLine, oTub, oNil, onK, lineL, K.c, Nd.c, flat, List.map_cons, List.map_nil, List.flatten_cons, List.flatten_nil, List.cons_append, List.nil_append, List.append_nil] at k1 k2 hbn kl
  rcases hc with ⟨he, rfl, _⟩ | ⟨rfl, hp, h32, hck, hτl, n, T, hR, hL, hVal, hcost⟩
  · have b1 : (e != 0) = true := bne_iff_ne.2 he
    simp (config := {maxSteps := 8000000}) only [c8, hlen0, hlw0, scs, rg_mksg, rg_calln, ncallV_fn, kl, k1, k2, n0, hV1, hW1, hbn, hlen, hlw, hol, b1, SS, bne_self_eq_false, wr_def, obOf, List.all_cons, List.all_nil, List.map_cons, List.map_nil, List.length_cons, List.length_nil, List.take_zero, List.take_succ_cons, List.take_nil, List.drop_zero, List.drop_succ_cons, List.drop_nil, Nat.reduceAdd, Nat.reduceMul, Nat.reduceSub, if_true, Nat.reduceLT, Nat.reduceLeDiff, ite_true, ite_false, Nat.reduceEqDiff, if_false, reduceCtorEq, ne_eq, List.getD, List.getElem?_cons_zero, List.getElem?_cons_succ, Option.getD_some, Option.bind_some, Option.map_some, Option.isSome_some, reduceIte, List.length_append, List.append_assoc, List.cons_append, List.nil_append, Option.some.injEq, forall_const, implies_true, Int.reduceNeg, eq_self, Prod.mk.injEq, List.self_eq_append_right, List.append_nil, exists_eq_left, exists_eq_left', exists_and_left, exists_eq_right, exists_and_right]
    rfl
  obtain ⟨hl24, hcl⟩ := prchk_len hp
  have htk' := prchk_ok hp
  have b2 : ((τs.length : Int) != (ts.length : Int)) = false := by rw [hτl]; simp
  have hsl1 : SlL _ v1 intC 1 τs := ⟨fun _ => rfl, by decide, hio.rd (flat_len (k := 1) (c := intC) (fun _ => rfl) τs)⟩
  simp only [oOn, oOn2, oSev, oLine, oTub, oNil, onK, lineL, K.c, Nd.c, flat, List.map_cons, List.map_nil, List.flatten_cons, List.flatten_nil, List.cons_append, List.nil_append, List.append_nil, List.append_assoc] at hsl1
  have hzl : (ls.zip cs).length = ls.length := by rw [List.length_zip, hcl, Nat.min_self]
  have hnn : 0 < ts.length → n = ls.length := fun h => by
    have hr : (ts.map (rowK (ls.zip cs)))[0]? = some (rowK (ls.zip cs) ts[0]) := by rw [List.getElem?_map, List.getElem?_eq_getElem h]; rfl
    have := (hR _ (List.mem_of_getElem? hr)).2.1
    rw [rowK, List.length_map, hzl] at this
    omega
  have hrlen : (ts.map (rowK (ls.zip cs))).length = τs.length := by rw [List.length_map, hτl]
  have rng : ∀ (i : Nat) t, τs[i]? = some t → t = -1 ∨ (0 ≤ t ∧ t < ls.length) := fun i t hi => by
    have hlt := (List.getElem?_eq_some_iff.1 hi).1
    have := hVal.rng i (by rw [hrlen]; exact hlt)
    simp only [hi, Option.getD_some] at this
    have := hnn (by omega)
    subst this
    rcases this with h | h
    · exact Or.inl h
    · exact Or.inr ⟨h.1, h.2.1⟩
  have inj : ∀ (i j : Nat) t, τs[i]? = some t → τs[j]? = some t → 0 ≤ t → i = j := fun i j t hi hj h0 => by
    have h1 := (List.getElem?_eq_some_iff.1 hi).1
    have h2 := (List.getElem?_eq_some_iff.1 hj).1
    exact hVal.inj i j (by rw [hrlen]; exact h1) (by rw [hrlen]; exact h2) (by simp only [hi, hj]) (by simp only [hi, Option.getD_some]; exact h0)
  have may : ∀ (i m : Nat) k, τs[i]? = some (m : Int) → ts[i]? = some k → ∃ l c, ls[m]? = some l ∧ cs[m]? = some c ∧ mayK k l c = true := fun i m k hi hk => by
    obtain ⟨p, hp, hm⟩ := best_may hR hVal hk (by simp only [hi, Option.getD_some]; omega)
    simp only [hi, Option.getD_some, Int.toNat_natCast] at hp
    obtain ⟨l, c⟩ := p
    rw [List.getElem?_zip_eq_some] at hp
    exact ⟨l, c, hp.1, hp.2, hm⟩
  have m0 : (0 : Int) ≤ (ls.length : Int) := by omega
  have m1 : (ls.length : Int).toNat * 1 ≤ appLim := by unfold appLim; omega
  simp (config := {maxSteps := 8000000}) only [c8, hlen0, hlw0, scs, rg_mksg, rg_calln, ncallV_fn, kl, k1, k2, n0, hV1, hW1, hbn, hlen, hlw, hol, b2, m0, m1, Int.le_refl, Int.toNat_natCast, SS, bne_self_eq_false, wr_def, obOf, List.all_cons, List.all_nil, List.map_cons, List.map_nil, List.length_cons, List.length_nil, List.take_zero, List.take_succ_cons, List.take_nil, List.drop_zero, List.drop_succ_cons, List.drop_nil, Nat.reduceAdd, Nat.reduceMul, Nat.reduceSub, if_true, Nat.reduceLT, Nat.reduceLeDiff, ite_true, ite_false, Nat.reduceEqDiff, if_false, reduceCtorEq, ne_eq, List.getD, List.getElem?_cons_zero, List.getElem?_cons_succ, Option.getD_some, Option.bind_some, Option.map_some, Option.isSome_some, reduceIte, List.length_append, List.append_assoc, List.cons_append, List.nil_append, Option.some.injEq, forall_const, implies_true, Int.reduceNeg, eq_self, Prod.mk.injEq, List.self_eq_append_right, List.append_nil, exists_eq_left, exists_eq_left', exists_and_left, exists_eq_right, exists_and_right]
  refine ⟨by unfold appLim; omega, ?_⟩
  refine W_loop (fun q f1 h1 => ∃ j : Nat, q = τs.length - j ∧ j ≤ τs.length ∧ f1 0 = V ∧ f1 1 = W ∧ f1 2 = X ∧ f1 3 = .int .i64 time ∧ f1 12 = v1 ∧ f1 74 = v1 ∧ f1 75 = .int .i64 (τs.length : Int) ∧ f1 76 = .int .i64 (j : Int) ∧ SlL h1 v1 intC 1 τs ∧ (∀ id, idOf v1 id → ¬ idOf (f1 14) id) ∧ FA H.length h1 (f1 14) Eva.gB ls.length (fun i => decide ((i : Int) ∈ τs.take j))) (by simp) τs.length ⟨0, rfl, by omega, rfl, rfl, rfl, rfl, rfl, rfl, rfl, rfl, ?_, ?_, ?_⟩ ?_
  · have := hsl1.keep [⟨zrep ls.length [AV.bool false], 0, 1, true, true⟩]
    simpa [List.append_assoc] using this
  · intro id h1 h2
    have h3 := hsl1.idlt h1
    obtain ⟨_, h4⟩ := h2
    simp at h3
    omega
  · have := fa_new0 (n0 := H.length) (n := ls.length) (h := H ++ ([oOn, oOn2, oSev, oLine, oTub (H.length + 3), oNil, oNil] ++ o1)) (by simp) τs
    have e2 : (H ++ ([oOn, oOn2, oSev, oLine, oTub (H.length + 3), oNil, oNil] ++ o1)).length = H.length + (o1.length + 7) := by simp
    rw [e2] at this
    simp only [List.append_assoc] at this
    exact this
  clear hbn hio hos hsl1
  rintro q f1 h1 hn1 ht ⟨j, rfl, hj, e0, e1, e2, e3, e12, e74, e75, e76, S1, hid, F⟩
  rw [List.take_left] at ht
  have hH := take_eq ht
  generalize h1.drop H.length = z at hH
  subst hH
  generalize e14 : f1 14 = vu at *
  have hsV := hV2.keep z
  have hsX := hx0.keep z
  by_cases hjl : j < τs.length
  · have hjl' : decide ((j : Int) < (τs.length : Int)) = true := decide_eq_true (by omega)
    have hwj : IntKind.i64.wrap ((j : Int) + 1) = ((j + 1 : Nat) : Int) := by rw [wrap64 (by omega) (by omega)]; omega
    obtain ⟨t, ht⟩ : ∃ k, τs[j]? = some k := ⟨_, List.getElem?_eq_getElem hjl⟩
    have ok1 : idxOk 1 v1 (.int .i64 (j : Int)) := S1.ok (by omega) (by omega)
    have ld1 : ld1A (H ++ z) (idxV 1 v1 (.int .i64 (j : Int))) = some (.int .i64 t) := by rw [S1.ld0 (x := t) (by omega) (by simpa using ht)]; rfl
    have htk : τs.take (j + 1) = τs.take j ++ [t] := by rw [List.take_add_one, ht]; rfl
    by_cases ht0 : t < 0
    · have b3 : decide (t < 0) = true := decide_eq_true ht0
      have hup : (fun i : Nat => decide ((i : Int) ∈ τs.take j)) = fun i : Nat => decide ((i : Int) ∈ τs.take (j + 1)) := by
        funext i
        rw [htk]
        have : ¬ (i : Int) = t := by omega
        simp [this]
      rw [hup] at F
      simp (config := {maxSteps := 8000000}) only [e0, e1, e2, e3, e12, e14, e74, e75, e76, hjl', hwj, ok1, isPtr_idx ok1, ld1, b3, SS, bne_self_eq_false, wr_def, obOf, List.all_cons, List.all_nil, List.map_cons, List.map_nil, List.length_cons, List.length_nil, List.take_zero, List.take_succ_cons, List.take_nil, List.drop_zero, List.drop_succ_cons, List.drop_nil, Nat.reduceAdd, Nat.reduceMul, Nat.reduceSub, if_true, Nat.reduceLT, Nat.reduceLeDiff, ite_true, ite_false, Nat.reduceEqDiff, if_false, reduceCtorEq, ne_eq, List.getD, List.getElem?_cons_zero, List.getElem?_cons_succ, Option.getD_some, Option.bind_some, Option.map_some, Option.isSome_some, reduceIte, List.length_append, List.append_assoc, List.cons_append, List.nil_append, Option.some.injEq, forall_const, implies_true, Int.reduceNeg, eq_self, Prod.mk.injEq, List.self_eq_append_right, List.append_nil, exists_eq_left, exists_eq_left', exists_and_left, exists_eq_right, exists_and_right]
      exact ⟨_, by omega, j + 1, rfl, by omega, rfl, S1, hid, F⟩
    · have b3 : decide (t < 0) = false := decide_eq_false ht0
      obtain ⟨m, rfl⟩ : ∃ m : Nat, t = (m : Int) := ⟨t.toNat, by omega⟩
      have hm : m < ls.length := by rcases rng j _ ht with h | h <;> omega
      obtain ⟨k, hk⟩ : ∃ k, ts[j]? = some k := ⟨_, List.getElem?_eq_getElem (by omega)⟩
      obtain ⟨l, c, hl, hc, hmk⟩ := may j m k ht hk
      obtain ⟨u, l', hl', hu, hsl, hldu, hok2⟩ := NsS.row hW2 hm
      rw [hl] at hl'
      obtain rfl := Option.some.inj hl'
      have okV : idxOk 13 V (.int .i64 (j : Int)) := hsV.ok (by omega) (by omega)
      have ldV : ldnA 13 (H ++ z) (idxV 13 V (.int .i64 (j : Int))) = some (.agg k.c) := hsV.ldn (x := k) (by omega) (by simpa using hk)
      have ldC : ld1A (H ++ z) (fadA 10 (idxV 13 V (.int .i64 (j : Int)))) = _ := hsV.ldc (x := k) (by omega) (by simpa using hk) (by decide)
      have okX : idxOk 1 X (.int .i64 (m : Int)) := hsX.ok (by omega) (by omega)
      have ldX : ld1A (H ++ z) (idxV 1 X (.int .i64 (m : Int))) = some (.int .i64 c) := by rw [hsX.ld0 (x := c) (by omega) (by simpa using hc)]; rfl
      have hlm : l ∈ ls := List.mem_of_getElem? hl
      have hkm : k ∈ ts := List.mem_of_getElem? hk
      have hfit := fit_pc (k := k) (hsl.keep z)
      rw [fit_ok k l (hck k hkm) (htk' l hlm)] at hfit
      rw [mayK, Bool.and_eq_true] at hmk
      rw [hmk.1] at hfit
      have o1 := F.ok hm
      have d1 := F.ld hm
      have hnm : decide ((m : Int) ∈ τs.take j) = false := by
        refine decide_eq_false fun h => ?_
        obtain ⟨j', hj'⟩ := List.mem_iff_getElem?.1 h
        rw [List.getElem?_take] at hj'
        split at hj'
        · have := inj j' j _ hj' ht (by omega); omega
        · cases hj'
      simp only [hnm] at d1
      have s1 := F.stOk hm true
      obtain ⟨p1, p2, p3⟩ := F.st hm true
      have hup : upd (fun i : Nat => decide ((i : Int) ∈ τs.take j)) m true = fun i : Nat => decide ((i : Int) ∈ τs.take (j + 1)) := by
        funext i
        rw [htk]
        by_cases h : i = m
        · subst h; rw [upd_same]; simp
        · rw [upd_ne h]
          have : ¬ (i : Int) = (m : Int) := by omega
          simp [this]
      rw [hup] at p1
      simp only [Eva.gB] at d1 s1
      have S2 : SlL (stH (H ++ z) (idxV 1 vu (.int .i64 (m : Int))) (.bool true)) v1 intC 1 τs := S1.mono fun id ep o hx ho => p2 id ep o (hid id hx) ho
      simp only [K.c] at ldV hfit ldC
      by_cases hc0 : 0 ≤ k.code
      · have b4 : decide (0 ≤ k.code) = true := decide_eq_true hc0
        have b5 : (k.code != c) = false := by
          have := hmk.2
          rw [decide_eq_false (by omega), Bool.false_or, beq_iff_eq] at this
          rw [this]; simp
        simp (config := {maxSteps := 8000000}) only [e0, e1, e2, e3, e12, e14, e74, e75, e76, hjl', hwj, ok1, isPtr_idx ok1, ld1, b3, okV, isPtr_idx okV, ldV, ldC, hok2, isPtr_idx hok2, hldu, okX, isPtr_idx okX, ldX, hfit, hn1, n0, o1, isPtr_idx o1, d1, b4, b5, s1, isPtr_fad, fad_fad, SS, bne_self_eq_false, wr_def, obOf, List.all_cons, List.all_nil, List.map_cons, List.map_nil, List.length_cons, List.length_nil, List.take_zero, List.take_succ_cons, List.take_nil, List.drop_zero, List.drop_succ_cons, List.drop_nil, Nat.reduceAdd, Nat.reduceMul, Nat.reduceSub, if_true, Nat.reduceLT, Nat.reduceLeDiff, ite_true, ite_false, Nat.reduceEqDiff, if_false, reduceCtorEq, ne_eq, List.getD, List.getElem?_cons_zero, List.getElem?_cons_succ, Option.getD_some, Option.bind_some, Option.map_some, Option.isSome_some, reduceIte, List.length_append, List.append_assoc, List.cons_append, List.nil_append, Option.some.injEq, forall_const, implies_true, Int.reduceNeg, eq_self, Prod.mk.injEq, List.self_eq_append_right, List.append_nil, exists_eq_left, exists_eq_left', exists_and_left, exists_eq_right, exists_and_right]
        exact ⟨_, by omega, j + 1, rfl, by omega, rfl, S2, hid, p1⟩
      · have b4 : decide (0 ≤ k.code) = false := decide_eq_false hc0
        simp (config := {maxSteps := 8000000}) only [e0, e1, e2, e3, e12, e14, e74, e75, e76, hjl', hwj, ok1, isPtr_idx ok1, ld1, b3, okV, isPtr_idx okV, ldV, ldC, hok2, isPtr_idx hok2, hldu, okX, isPtr_idx okX, ldX, hfit, hn1, n0, o1, isPtr_idx o1, d1, b4, s1, isPtr_fad, fad_fad, SS, bne_self_eq_false, wr_def, obOf, List.all_cons, List.all_nil, List.map_cons, List.map_nil, List.length_cons, List.length_nil, List.take_zero, List.take_succ_cons, List.take_nil, List.drop_zero, List.drop_succ_cons, List.drop_nil, Nat.reduceAdd, Nat.reduceMul, Nat.reduceSub, if_true, Nat.reduceLT, Nat.reduceLeDiff, ite_true, ite_false, Nat.reduceEqDiff, if_false, reduceCtorEq, ne_eq, List.getD, List.getElem?_cons_zero, List.getElem?_cons_succ, Option.getD_some, Option.bind_some, Option.map_some, Option.isSome_some, reduceIte, List.length_append, List.append_assoc, List.cons_append, List.nil_append, Option.some.injEq, forall_const, implies_true, Int.reduceNeg, eq_self, Prod.mk.injEq, List.self_eq_append_right, List.append_nil, exists_eq_left, exists_eq_left', exists_and_left, exists_eq_right, exists_and_right]
        exact ⟨_, by omega, j + 1, rfl, by omega, rfl, S2, hid, p1⟩
  have hjl' : decide ((j : Int) < (τs.length : Int)) = false := decide_eq_false (by omega)
  have hjE : j = τs.length := by omega
  subst hjE
  rw [List.take_length] at F
  have hms := ncall_some.2 (missing_ex time S1 (Fl.NsS.keep hW2 z) hsX hp (by omega) (fun t ht => by
    obtain ⟨i, hi⟩ := List.mem_iff_getElem?.1 ht
    rcases rng i t hi with h | h <;> omega) inj)
  obtain ⟨ms, hmsL⟩ : ∃ ms, misL ls τs time ls.length = ms := ⟨_, rfl⟩
  rw [hmsL] at hms
  have hlen2 : ms.length ≤ 5 := by rw [← hmsL]; exact Nat.le_trans misL_len hl5
  have hio := isl_out (n0 := H.length) (h := H ++ z) (sz := 1) (k := ms.length) (cs := flat intC ms) (by simp) (fun h => by rw [List.length_eq_zero_iff.1 h]; rfl)
  have egi : ms.map Eva.gI = flat intC ms := by
    clear hms hmsL hlen2 hio
    induction ms with
    | nil => rfl
    | cons x xs ih => simp only [List.map_cons, flat, List.flatten_cons] at ih ⊢; rw [ih]; rfl
  rw [egi] at hms
  have hos := out_shape (H ++ z).length 1 ms.length
  generalize outO 1 ms.length (flat intC ms) = o2 at hms hio
  generalize outV (H ++ z).length 1 ms.length = v2 at hms hio hos
  have S3 : SlL _ v2 intC 1 ms := ⟨fun _ => rfl, by decide, hio.rd (flat_len (k := 1) (c := intC) (fun _ => rfl) ms)⟩
  simp only [List.append_assoc] at S3
  have F2 := F.mono (h' := H ++ (z ++ o2)) fun id ep o _ ho => rd_keep2 ho
  simp (config := {maxSteps := 8000000}) only [e0, e1, e2, e3, e12, e14, e74, e75, e76, hjl', rg_calln, ncallV_fn, hms, hlw, SS, bne_self_eq_false, wr_def, obOf, List.all_cons, List.all_nil, List.map_cons, List.map_nil, List.length_cons, List.length_nil, List.take_zero, List.take_succ_cons, List.take_nil, List.drop_zero, List.drop_succ_cons, List.drop_nil, Nat.reduceAdd, Nat.reduceMul, Nat.reduceSub, if_true, Nat.reduceLT, Nat.reduceLeDiff, ite_true, ite_false, Nat.reduceEqDiff, if_false, reduceCtorEq, ne_eq, List.getD, List.getElem?_cons_zero, List.getElem?_cons_succ, Option.getD_some, Option.bind_some, Option.map_some, Option.isSome_some, reduceIte, List.length_append, List.append_assoc, List.cons_append, List.nil_append, Option.some.injEq, forall_const, implies_true, Int.reduceNeg, eq_self, Prod.mk.injEq, List.self_eq_append_right, List.append_nil, exists_eq_left, exists_eq_left', exists_and_left, exists_eq_right, exists_and_right]
  refine W_loop (fun q f2 h2 => ∃ i : Nat, q = ls.length - i ∧ i ≤ ls.length ∧ f2 3 = .int .i64 time ∧ f2 14 = vu ∧ f2 19 = v2 ∧ f2 20 = .int .i64 0 ∧ f2 139 = W ∧ f2 140 = .int .i64 (ls.length : Int) ∧ f2 141 = .int .i64 (i : Int) ∧ SlL h2 v2 intC 1 ms ∧ FA H.length h2 vu Eva.gB ls.length (fun i => decide ((i : Int) ∈ τs))) (by simp) ls.length ⟨0, rfl, by omega, by simp only [e3, SS, bne_self_eq_false, wr_def, obOf, List.all_cons, List.all_nil, List.map_cons, List.map_nil, List.length_cons, List.length_nil, List.take_zero, List.take_succ_cons, List.take_nil, List.drop_zero, List.drop_succ_cons, List.drop_nil, Nat.reduceAdd, Nat.reduceMul, Nat.reduceSub, if_true, Nat.reduceLT, Nat.reduceLeDiff, ite_true, ite_false, Nat.reduceEqDiff, if_false, reduceCtorEq, ne_eq, List.getD, List.getElem?_cons_zero, List.getElem?_cons_succ, Option.getD_some, Option.bind_some, Option.map_some, Option.isSome_some, reduceIte, List.length_append, List.append_assoc, List.cons_append, List.nil_append, Option.some.injEq, forall_const, implies_true, Int.reduceNeg, eq_self, Prod.mk.injEq, List.self_eq_append_right, List.append_nil, exists_eq_left, exists_eq_left', exists_and_left, exists_eq_right, exists_and_right], by simp only [e14, SS, bne_self_eq_false, wr_def, obOf, List.all_cons, List.all_nil, List.map_cons, List.map_nil, List.length_cons, List.length_nil, List.take_zero, List.take_succ_cons, List.take_nil, List.drop_zero, List.drop_succ_cons, List.drop_nil, Nat.reduceAdd, Nat.reduceMul, Nat.reduceSub, if_true, Nat.reduceLT, Nat.reduceLeDiff, ite_true, ite_false, Nat.reduceEqDiff, if_false, reduceCtorEq, ne_eq, List.getD, List.getElem?_cons_zero, List.getElem?_cons_succ, Option.getD_some, Option.bind_some, Option.map_some, Option.isSome_some, reduceIte, List.length_append, List.append_assoc, List.cons_append, List.nil_append, Option.some.injEq, forall_const, implies_true, Int.reduceNeg, eq_self, Prod.mk.injEq, List.self_eq_append_right, List.append_nil, exists_eq_left, exists_eq_left', exists_and_left, exists_eq_right, exists_and_right], rfl, rfl, rfl, rfl, rfl, S3, F2⟩ ?_
  clear e0 e1 e2 e3 e12 e14 e74 e75 e76 S1 S3 F F2 hms hio hsV hsX
  rintro q f2 h2 hn2 ht2 ⟨i, rfl, hi, e3, e14, e19, e20, e139, e140, e141, S3, F⟩
  rw [List.take_left] at ht2
  have hH2 := take_eq ht2
  generalize h2.drop H.length = y at hH2
  subst hH2
  by_cases hil : i < ls.length
  · have hil' : decide ((i : Int) < (ls.length : Int)) = true := decide_eq_true (by omega)
    have hwi : IntKind.i64.wrap ((i : Int) + 1) = ((i + 1 : Nat) : Int) := by rw [wrap64 (by omega) (by omega)]; omega
    obtain ⟨u, l, hl, hu, hsl, hldu, hok2⟩ := NsS.row hW2 hil
    have hat := fun z => tAt_pc (hsl.keep z) time
    obtain ⟨⟨nn, ne⟩, hnn⟩ : ∃ R, tAt l time = R := ⟨_, rfl⟩
    have hm1 : mis1 ls τs time i = ((ne == 0) && !decide ((i : Int) ∈ τs)) := by unfold mis1; rw [hl, Option.getD_some, hnn]
    have hmem := misL_mem (ls := ls) (to := τs) (time := time) (n := ls.length) hil
    rw [hmsL, hm1] at hmem
    have hcon : ms.any (fun x => (i : Int) == x) = ((ne == 0) && !decide ((i : Int) ∈ τs)) := by
      rw [Bool.eq_iff_iff, ← hmem, List.any_eq_true]
      constructor
      · rintro ⟨x, hx, he⟩
        rw [beq_iff_eq] at he
        rw [he]; exact hx
      · intro h
        exact ⟨_, h, by simp⟩
    rw [hnn] at hat
    simp only [nout, Nd.c] at hat
    have hct := fun o => contains_i (S3.keep o) (by omega) (i : Int)
    rw [hcon] at hct
    have x1 : (true ^^ true == true) = false := rfl
    have x2 : (true ^^ false == false) = false := rfl
    have o1 := F.ok hil
    have d1 := fun o => FA.ld (F.mono (h' := H ++ (y ++ o)) fun id ep ob _ ho => rd_keep2 ho) hil
    simp only [Eva.gB] at d1
    simp only [List.append_assoc] at hct
    generalize decide ((i : Int) ∈ τs) = bt at hct d1
    by_cases h1 : ne = 0
    · have b1 : (ne == 0) = true := by rw [beq_iff_eq]; exact h1
      rw [b1] at hct
      cases bt
      · simp (config := {maxSteps := 8000000}) only [e3, e14, e19, e20, e139, e140, e141, hil', hwi, hok2, isPtr_idx hok2, hldu, hat, b1, hct, x1, x2, o1, isPtr_idx o1, d1, hn2, SS, bne_self_eq_false, wr_def, obOf, List.all_cons, List.all_nil, List.map_cons, List.map_nil, List.length_cons, List.length_nil, List.take_zero, List.take_succ_cons, List.take_nil, List.drop_zero, List.drop_succ_cons, List.drop_nil, Nat.reduceAdd, Nat.reduceMul, Nat.reduceSub, if_true, Nat.reduceLT, Nat.reduceLeDiff, ite_true, ite_false, Nat.reduceEqDiff, if_false, reduceCtorEq, ne_eq, List.getD, List.getElem?_cons_zero, List.getElem?_cons_succ, Option.getD_some, Option.bind_some, Option.map_some, Option.isSome_some, reduceIte, List.length_append, List.append_assoc, List.cons_append, List.nil_append, Option.some.injEq, forall_const, implies_true, Int.reduceNeg, eq_self, Prod.mk.injEq, List.self_eq_append_right, List.append_nil, exists_eq_left, exists_eq_left', exists_and_left, exists_eq_right, exists_and_right]
        exact ⟨_, by omega, i + 1, rfl, by omega, rfl, by simpa [List.append_assoc] using S3.keep _, F.mono fun id ep ob _ ho => rd_keep2 ho⟩
      · simp (config := {maxSteps := 8000000}) only [e3, e14, e19, e20, e139, e140, e141, hil', hwi, hok2, isPtr_idx hok2, hldu, hat, b1, hct, x1, x2, o1, isPtr_idx o1, d1, hn2, SS, bne_self_eq_false, wr_def, obOf, List.all_cons, List.all_nil, List.map_cons, List.map_nil, List.length_cons, List.length_nil, List.take_zero, List.take_succ_cons, List.take_nil, List.drop_zero, List.drop_succ_cons, List.drop_nil, Nat.reduceAdd, Nat.reduceMul, Nat.reduceSub, if_true, Nat.reduceLT, Nat.reduceLeDiff, ite_true, ite_false, Nat.reduceEqDiff, if_false, reduceCtorEq, ne_eq, List.getD, List.getElem?_cons_zero, List.getElem?_cons_succ, Option.getD_some, Option.bind_some, Option.map_some, Option.isSome_some, reduceIte, List.length_append, List.append_assoc, List.cons_append, List.nil_append, Option.some.injEq, forall_const, implies_true, Int.reduceNeg, eq_self, Prod.mk.injEq, List.self_eq_append_right, List.append_nil, exists_eq_left, exists_eq_left', exists_and_left, exists_eq_right, exists_and_right]
        exact ⟨_, by omega, i + 1, rfl, by omega, rfl, by simpa [List.append_assoc] using S3.keep _, F.mono fun id ep ob _ ho => rd_keep2 ho⟩
    · have b1 : (ne == 0) = false := by rw [beq_eq_false_iff_ne]; exact h1
      rw [b1] at hct
      simp (config := {maxSteps := 8000000}) only [e3, e14, e19, e20, e139, e140, e141, hil', hwi, hok2, isPtr_idx hok2, hldu, hat, b1, hct, x1, x2, o1, isPtr_idx o1, d1, hn2, SS, bne_self_eq_false, wr_def, obOf, List.all_cons, List.all_nil, List.map_cons, List.map_nil, List.length_cons, List.length_nil, List.take_zero, List.take_succ_cons, List.take_nil, List.drop_zero, List.drop_succ_cons, List.drop_nil, Nat.reduceAdd, Nat.reduceMul, Nat.reduceSub, if_true, Nat.reduceLT, Nat.reduceLeDiff, ite_true, ite_false, Nat.reduceEqDiff, if_false, reduceCtorEq, ne_eq, List.getD, List.getElem?_cons_zero, List.getElem?_cons_succ, Option.getD_some, Option.bind_some, Option.map_some, Option.isSome_some, reduceIte, List.length_append, List.append_assoc, List.cons_append, List.nil_append, Option.some.injEq, forall_const, implies_true, Int.reduceNeg, eq_self, Prod.mk.injEq, List.self_eq_append_right, List.append_nil, exists_eq_left, exists_eq_left', exists_and_left, exists_eq_right, exists_and_right]
      exact ⟨_, by omega, i + 1, rfl, by omega, rfl, by simpa [List.append_assoc] using S3.keep _, F.mono fun id ep ob _ ho => rd_keep2 ho⟩
  have hil' : decide ((i : Int) < (ls.length : Int)) = false := decide_eq_false (by omega)
  have hso := sorted_pc S3 (by omega) (fun i a b ha hb => misL_sorted (ls := ls) (to := τs) (time := time) (n := ls.length) i a b (by rw [hmsL]; exact ha) (by rw [hmsL]; exact hb))
  simp (config := {maxSteps := 8000000}) only [e3, e14, e19, e20, e139, e140, e141, hil', hso, z0, hn2, SS, bne_self_eq_false, wr_def, obOf, List.all_cons, List.all_nil, List.map_cons, List.map_nil, List.length_cons, List.length_nil, List.take_zero, List.take_succ_cons, List.take_nil, List.drop_zero, List.drop_succ_cons, List.drop_nil, Nat.reduceAdd, Nat.reduceMul, Nat.reduceSub, if_true, Nat.reduceLT, Nat.reduceLeDiff, ite_true, ite_false, Nat.reduceEqDiff, if_false, reduceCtorEq, ne_eq, List.getD, List.getElem?_cons_zero, List.getElem?_cons_succ, Option.getD_some, Option.bind_some, Option.map_some, Option.isSome_some, reduceIte, List.length_append, List.append_assoc, List.cons_append, List.nil_append, Option.some.injEq, forall_const, implies_true, Int.reduceNeg, eq_self, Prod.mk.injEq, List.self_eq_append_right, List.append_nil, exists_eq_left, exists_eq_left', exists_and_left, exists_eq_right, exists_and_right]
end Go.Proofs.Ytaekgifbehoipaa.Hg
