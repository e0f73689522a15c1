/- Rows that are exchanged, a further column: what the law AssignTurned builds. Conditions stand in each lemma. -/
import Derived.Test.YtpehhlfbnkakpaaHgL
import Derived.Test.YtpehhlfbnkakpaaHgM
namespace Go.Proofs.Ytpehhlfbnkakpaa.Hg
open Go Go.Proofs.Ytpehhlfbnkakpaa.Eva Go.Proofs.Ytpehhlfbnkakpaa.CodeAll Go.Proofs.Ytpehhlfbnkakpaa.Fl
set_option linter.unusedVariables false
set_option linter.unusedSimpArgs false
set_option maxRecDepth 10000
set_option maxHeartbeats 4000000

theorem within_ex (n : Int) {R : Nat} (h0 : 0 < R) (hR : R ≤ 1000) (H : List Ob) : ∃ k : Nat, k < R ∧ ∀ o, pcall E 20 [.int .i64 n, .int .i64 0, .int .i64 ((R : Int) - 1)] (H ++ o) = some (.int .i64 (k : Int)) := by
  have t1 : -(R : Int) < n.tmod R ∧ n.tmod R < R := by
    have h1 := Int.tmod_lt_of_pos n (show (0 : Int) < R by omega)
    have h2 : -(R : Int) < n.tmod R := by
      rcases Int.le_total 0 n with h | h
      · have := Int.tmod_nonneg R h; omega
      · have := Int.tmod_lt_of_pos (-n) (show (0 : Int) < R by omega)
        rw [Int.neg_tmod] at this; omega
    exact ⟨h2, h1⟩
  have t2 : 0 ≤ (n.tmod R + R).tmod R ∧ (n.tmod R + R).tmod R < R := ⟨Int.tmod_nonneg _ (by omega), Int.tmod_lt_of_pos _ (by omega)⟩
  refine ⟨((n.tmod R + R).tmod R).toNat, by omega, fun o => pcall_some.2 (call_plain e20 rfl (Nat.le_of_ble_eq_true rfl) rfl ?_)⟩
  have w1 : IntKind.i64.wrap ((R : Int) - 1 - 0) = (R : Int) - 1 := by rw [wrap64 (by omega) (by omega)]; omega
  have w2 : IntKind.i64.wrap ((R : Int) - 1 + 1) = (R : Int) := by rw [wrap64 (by omega) (by omega)]; omega
  have hz : (R : Int) ≠ 0 := by omega
  have w3 : IntKind.i64.wrap (n.tmod R + R) = n.tmod R + R := wrap64 (by omega) (by omega)
  have w4 : IntKind.i64.wrap (0 + (n.tmod R + R).tmod R) = ((((n.tmod R + R).tmod R).toNat : Nat) : Int) := by rw [wrap64 (by omega) (by omega)]; omega
  simp (config := {maxSteps := 4000000}) only [c20, w1, w2, abin_rem _ _ _ hz, w3, w4, SS, bne_self_eq_false, wr_def, obOf, List.all_cons, List.all_nil, List.map_cons, List.map_nil, List.length_cons, List.length_nil, List.take_zero, List.take_succ_cons, List.take_nil, List.drop_zero, List.drop_succ_cons, List.drop_nil, Nat.reduceAdd, Nat.reduceMul, Nat.reduceSub, if_true, Nat.reduceLT, Nat.reduceLeDiff, ite_true, ite_false, Nat.reduceEqDiff, if_false, reduceCtorEq, ne_eq, List.getD, List.getElem?_cons_zero, List.getElem?_cons_succ, Option.getD_some, Option.bind_some, Option.map_some, Option.isSome_some, reduceIte, List.length_append, List.append_assoc, List.cons_append, List.nil_append, Option.some.injEq, forall_const, implies_true, Int.reduceNeg, eq_self, Prod.mk.injEq, List.self_eq_append_right, List.append_nil, exists_eq_left, exists_eq_left', exists_and_left, exists_eq_right, exists_and_right]

/-- v is the whole of an object from n0 on, whose cells are vs. -/
def AvR (n0 : Nat) (h : List Ob) (v : AV) (vs : List AV) : Prop := ∃ id ep fl, v = .sl false id ep 1 0 vs.length ∧ rdObj h id ep = some ⟨vs, ep, 1, true, fl⟩ ∧ n0 ≤ id
theorem AvR.sl {n0 : Nat} {h : List Ob} {v : AV} {vs : List AV} (A : AvR n0 h v vs) : SlL h v avC 1 vs := by
  obtain ⟨id, ep, fl, rfl, h2, h3⟩ := A
  exact ⟨fun _ => rfl, by decide, by rw [flat_avC]; simp, Or.inr ⟨id, ep, 0, _, rfl, h2, by simp, by rw [flat_avC]; simp⟩⟩
theorem AvR.mono {n0 : Nat} {h h' : List Ob} {v : AV} {vs : List AV} (A : AvR n0 h v vs) (hm : ∀ id ep o, idOf v id → rdObj h id ep = some o → rdObj h' id ep = some o) : AvR n0 h' v vs := by
  obtain ⟨id, ep, fl, rfl, h2, h3⟩ := A
  exact ⟨id, ep, fl, rfl, hm _ _ _ ⟨rfl, rfl⟩ h2, h3⟩
theorem AvR.st {n0 : Nat} {h : List Ob} {v : AV} {vs : List AV} (A : AvR n0 h v vs) {i : Nat} (hi : i < vs.length) {u : AV} (hu : cellsOf u = [u] ∧ u.isTup = false) :
    stOk n0 1 h (idxV 1 v (.int .i64 (i : Int))) u ∧ AvR n0 (stH h (idxV 1 v (.int .i64 (i : Int))) u) v (vs.set i u) ∧
      (∀ id ep o, ¬ idOf v id → rdObj h id ep = some o → rdObj (stH h (idxV 1 v (.int .i64 (i : Int))) u) id ep = some o) ∧ (stH h (idxV 1 v (.int .i64 (i : Int))) u).length = h.length := by
  obtain ⟨id, ep, fl, rfl, h2, h3⟩ := A
  rw [idxV_sl, stOk_ptr, stH_ptr, h2]
  have hw : wr vs (0 + (i : Int).toNat * 1) [u] = vs.set i u := by
    rw [Nat.zero_add, Nat.mul_one, Int.toNat_natCast]
    unfold wr
    split
    · rename_i hl
      have h9 : vs.length = 1 := by simpa using hl.symm
      have h10 : i = 0 := by omega
      rw [h10]
      match hm : vs, h9 with
      | [a], _ => rfl
    · rw [List.set_eq_take_append_cons_drop, if_pos hi]; simp
  simp only [putObj, hu.1, hw]
  refine ⟨⟨by first | trivial | rfl, by rw [Int.toNat_natCast]; omega, hu.2, by first | trivial | rfl, h3⟩, ⟨id, ep, _, by simp, rd_set_same (o := ⟨vs.set i u, ep, 1, true, _⟩) (rd_lt h2), h3⟩, fun id' ep' o hne ho => ?_, by simp⟩
  rw [rd_set_ne (fun e => hne ⟨rfl, e⟩)]; exact ho
theorem clone_v {h : List Ob} {V : AV} {vs : List AV} (hs : SlL h V avC 1 vs) (hne : vs.length ≠ 0) (hb : vs.length ≤ 1000) :
    ∃ v o, AvR h.length (h ++ o) v vs ∧ ecall E 48 [V] h = some (v, h ++ o, h.length, h.length) := by
  obtain ⟨b, hb1, hb2⟩ := hs.eqn
  have hbf : b = false := by
    cases b
    · rfl
    · exact absurd (by rw [hb2 rfl]; rfl) hne
  subst hbf
  have hcon : ∃ fl, ∀ a b y, content 1 ⟨h ++ y, a, b⟩ V = some (vs, vs.length, fl) := by
    obtain ⟨_, _, hcs, ⟨hk, _⟩ | ⟨id, ep, off, o, rfl, k2, k3, k4⟩⟩ := hs
    · exact absurd hk hne
    · refine ⟨o.fl, fun a b y => ?_⟩
      rw [flat_avC] at k4
      simp only [content, if_neg hne, Bool.false_eq_true, if_false, if_true, rd_keep k2, if_pos k3, k4]
  obtain ⟨fl, hcon⟩ := hcon
  have key : wc E h.length c48.nt c48.code (fun e f h' => exOk e = true ∧ rvq c48.nt f h' c48.res = some [.sl false h.length 1 1 0 vs.length] ∧ h' = h ++ [⟨vs, 1, 1, true, fl⟩]) (ofL [V]) h := by
    simp (config := {maxSteps := 4000000}) only [c48, hb1, SS, bne_self_eq_false, wr_def, obOf, List.all_cons, List.all_nil, List.map_cons, List.map_nil, List.length_cons, List.length_nil, List.take_zero, List.take_succ_cons, List.take_nil, List.drop_zero, List.drop_succ_cons, List.drop_nil, Nat.reduceAdd, Nat.reduceMul, Nat.reduceSub, if_true, Nat.reduceLT, Nat.reduceLeDiff, ite_true, ite_false, Nat.reduceEqDiff, if_false, reduceCtorEq, ne_eq, List.getD, List.getElem?_cons_zero, List.getElem?_cons_succ, Option.getD_some, Option.bind_some, Option.map_some, Option.isSome_some, reduceIte, List.length_append, List.append_assoc, List.cons_append, List.nil_append, Option.some.injEq, forall_const, implies_true, Int.reduceNeg, eq_self, Prod.mk.injEq, List.self_eq_append_right, List.append_nil, exists_eq_left, exists_eq_left', exists_and_left, exists_eq_right, exists_and_right]
    have ha : aapp 1 24 ⟨h ++ [⟨[], 0, 1, true, true⟩], h.length, h.length⟩ (.sl false h.length 0 1 0 0) V = some (.sl false h.length 1 1 0 vs.length, ⟨h ++ [⟨vs, 1, 1, true, fl⟩], h.length, h.length⟩) := by
      have hr : rdObj (h ++ [(⟨[], 0, 1, true, true⟩ : Ob)]) h.length 0 = some ⟨[], 0, 1, true, true⟩ := by simp [rdObj]
      simp only [aapp, hcon, Option.bind_some, if_neg hne, hr]
      rw [if_pos ⟨trivial, by unfold appLim; omega⟩, if_pos ⟨trivial, by simp⟩]
      simp
    unfold appK
    simp only [appOk, appV, appH, ha]
    refine ⟨⟨trivial, trivial, by simp, by simp⟩, ?_⟩
    simp (config := {maxSteps := 4000000}) only [c48, SS, bne_self_eq_false, wr_def, obOf, List.all_cons, List.all_nil, List.map_cons, List.map_nil, List.length_cons, List.length_nil, List.take_zero, List.take_succ_cons, List.take_nil, List.drop_zero, List.drop_succ_cons, List.drop_nil, Nat.reduceAdd, Nat.reduceMul, Nat.reduceSub, if_true, Nat.reduceLT, Nat.reduceLeDiff, ite_true, ite_false, Nat.reduceEqDiff, if_false, reduceCtorEq, ne_eq, List.getD, List.getElem?_cons_zero, List.getElem?_cons_succ, Option.getD_some, Option.bind_some, Option.map_some, Option.isSome_some, reduceIte, List.length_append, List.append_assoc, List.cons_append, List.nil_append, Option.some.injEq, forall_const, implies_true, Int.reduceNeg, eq_self, Prod.mk.injEq, List.self_eq_append_right, List.append_nil, exists_eq_left, exists_eq_left', exists_and_left, exists_eq_right, exists_and_right]
  obtain ⟨e, f', h', k1, k2, ⟨k3, k4, rfl⟩, k6⟩ := call_wc e48 rfl (Nat.le_of_ble_eq_true rfl) key
  have hrd : rdObj (h ++ [(⟨vs, 1, 1, true, fl⟩ : Ob)]) h.length 1 = some ⟨vs, 1, 1, true, fl⟩ := by simp [rdObj]
  cases fl
  · refine ⟨.sl false h.length 1 1 0 vs.length, [⟨vs, 1, 1, true, false⟩], ⟨_, 1, false, rfl, hrd, Nat.le_refl _⟩, ?_⟩
    rw [k6 _ k3 k4, mkRes1, fin_nest1 hrd (Nat.le_refl _)]
  · refine ⟨.sl false h.length 0 1 0 vs.length, [⟨vs, 0, 1, true, true⟩], ⟨_, 0, true, rfl, by simp [rdObj], Nat.le_refl _⟩, ?_⟩
    rw [k6 _ k3 k4, mkRes1, fin_ob hrd (Nat.le_refl _), k2]

/-! ### Plain -/
def swp {α : Type} (l : List α) (i k : Nat) (d : α) : List α := (l.set i (l.getD k d)).set k (l.getD i d)
def sw (i k a : Nat) : Nat := if a = i then k else if a = k then i else a
theorem sw_sw {i k a : Nat} : sw i k (sw i k a) = a := by
  unfold sw
  by_cases h1 : a = i <;> by_cases h2 : a = k <;> simp [h1, h2] <;> (try omega) <;> (intro h; omega)
theorem sw_lt {i k a n : Nat} (hi : i < n) (hk : k < n) (ha : a < n) : sw i k a < n := by unfold sw; split <;> (try split) <;> assumption
theorem sw_get {α : Type} {l l' : List α} {i k : Nat} {x y : α} (hi : l[i]? = some x) (hk : l[k]? = some y) (hl : l' = (l.set i y).set k x) (a : Nat) : l'[a]? = l[sw i k a]? := by
  subst hl
  have hil := (List.getElem?_eq_some_iff.1 hi).1
  have hkl := (List.getElem?_eq_some_iff.1 hk).1
  unfold sw
  rw [List.getElem?_set]
  by_cases h2 : k = a
  · subst h2
    rw [if_pos rfl, if_pos (by rw [List.length_set]; exact hkl)]
    by_cases h1 : k = i
    · subst h1
      rw [if_pos rfl]
      exact hi.symm
    · rw [if_neg h1, if_pos rfl, hi]
  · rw [if_neg h2, List.getElem?_set]
    by_cases h1 : i = a
    · subst h1
      rw [if_pos rfl, if_pos hil, if_pos rfl, hk]
    · rw [if_neg h1, if_neg (fun h => h1 h.symm), if_neg (fun h => h2 h.symm)]
theorem sum_point {n : Nat} {f : Nat → Int} {i : Nat} {y : Int} (hi : i < n) : sumN n (fun a => if a = i then y else f a) = sumN n f - f i + y := by
  induction n with
  | zero => omega
  | succ n ih =>
    simp only [sumN]
    by_cases h : i < n
    · rw [ih h, if_neg (by omega)]; omega
    · have : i = n := by omega
      subst this
      rw [if_pos rfl]
      have : sumN i (fun a => if a = i then y else f a) = sumN i f := sumN_congr fun a ha => if_neg (by omega)
      rw [this]; omega
theorem sum_sw {n : Nat} {f : Nat → Int} {i k : Nat} (hi : i < n) (hk : k < n) : sumN n (fun a => f (sw i k a)) = sumN n f := by
  by_cases hik : i = k
  · subst hik
    exact sumN_congr fun a ha => by
      have : sw i i a = a := by unfold sw; split <;> simp_all
      rw [this]
  · have e : sumN n (fun a => f (sw i k a)) = sumN n (fun a => if a = i then f k else (if a = k then f i else f a)) := sumN_congr fun a ha => by
      unfold sw
      by_cases h1 : a = i
      · rw [if_pos h1, if_pos h1]
      · rw [if_neg h1, if_neg h1]
        by_cases h2 : a = k
        · rw [if_pos h2, if_pos h2]
        · rw [if_neg h2, if_neg h2]
    rw [e, sum_point (f := fun a => if a = k then f i else f a) hi, sum_point hk, if_neg hik]
    omega
section
variable {rows rows' : List (List Int)} {n i k : Nat} {miss : Int} (hl : rows'.length = rows.length) (hg : ∀ a, rows'[a]? = rows[sw i k a]?) (hi : i < rows.length) (hk : k < rows.length)
include hl hg hi hk in
theorem val_sw {τ : Nat → Int} (V : Val rows n τ) : Val rows' n (fun a => τ (sw i k a)) ∧ costOf rows' miss (fun a => τ (sw i k a)) = costOf rows miss τ := by
  have hm : ∀ a x, mF rows' a x = mF rows (sw i k a) x := fun a x => by unfold mF gRow; rw [hg]
  refine ⟨⟨fun a ha => ?_, fun a b ha hb e h0 => ?_⟩, ?_⟩
  · rw [hl] at ha
    rw [hm]
    exact V.rng _ (sw_lt hi hk ha)
  · rw [hl] at ha hb
    have := V.inj _ _ (sw_lt hi hk ha) (sw_lt hi hk hb) e h0
    rw [← sw_sw (i := i) (k := k) (a := a), this, sw_sw]
  · unfold costOf
    rw [hl, ← sum_sw (f := fun a => costAt rows miss a (τ a)) hi hk]
    exact sumN_congr fun a ha => by unfold costAt; rw [hm]
include hl hg hi hk in
theorem least_sw {T T' : Int} (L : LeastP rows n miss T) (L' : LeastP rows' n miss T') : T' = T := by
  have hg' : ∀ a, rows[a]? = rows'[sw i k a]? := fun a => by rw [hg, sw_sw]
  obtain ⟨⟨τ, V, h1⟩, h2⟩ := L
  obtain ⟨⟨σ, U, g1⟩, g2⟩ := L'
  obtain ⟨a1, a2⟩ := val_sw (miss := miss) hl hg hi hk V
  obtain ⟨b1, b2⟩ := val_sw (rows := rows') (rows' := rows) (miss := miss) hl.symm hg' (by rw [hl]; exact hi) (by rw [hl]; exact hk) U
  have := g2 _ a1
  have := h2 _ b1
  omega
end
theorem ok_sw {rows rows' : List (List Int)} {i k : Nat} {miss : Int} (hl : rows'.length = rows.length) (hg : ∀ a, rows'[a]? = rows[sw i k a]?) (hok : Ok rows miss) : Ok rows' miss := by
  obtain ⟨h1, ⟨n, h2⟩, h3⟩ := hok
  refine ⟨by omega, ⟨n, fun r hr => ?_⟩, h3⟩
  obtain ⟨a, ha, rfl⟩ := List.getElem_of_mem hr
  have := hg a
  rw [List.getElem?_eq_getElem ha] at this
  exact h2 _ (List.mem_of_getElem? this.symm)
/-- A further column. -/
def wdC (more : List Int) (x : Nat) : Int := if x < more.length then (more[x]?).getD 0 else -1
def wideTo (rows : List (List Int)) (more : List Int) (i : Nat) : List (List Int) := (List.range i).map fun x => gRow rows x ++ [wdC more x]
theorem wideTo_len {rows : List (List Int)} {more : List Int} {i : Nat} : (wideTo rows more i).length = i := by simp [wideTo]
theorem wideTo_get {rows : List (List Int)} {more : List Int} {i x : Nat} (h : x < i) : (wideTo rows more i)[x]? = some (gRow rows x ++ [wdC more x]) := by simp [wideTo, h]
theorem wideTo_succ {rows : List (List Int)} {more : List Int} {i : Nat} {r : List Int} (hr : rows[i]? = some r) : wideTo rows more (i + 1) = wideTo rows more i ++ [r ++ [wdC more i]] := by
  unfold wideTo
  rw [List.range_succ, List.map_append, List.map_cons, List.map_nil, gRow_eq hr]
theorem least_wide {rows : List (List Int)} {more : List Int} {n m : Nat} {miss T w : Int} (hC : ∀ r ∈ rows, RowOk n r) (h0 : 0 < rows.length) (L : LeastP rows n miss T) (hC' : ∀ r ∈ wideTo rows more rows.length, RowOk m r) (L' : LeastP (wideTo rows more rows.length) m miss w) : w ≤ T := by
  have hm : m = n + 1 := by
    have h1 := hC' _ (List.mem_of_getElem? (wideTo_get h0))
    have h2 := gRow_len (rok_len hC) h0
    have := h1.2.1
    rw [List.length_append, h2] at this
    simpa using this.symm
  subst hm
  obtain ⟨⟨τ, V, rfl⟩, -⟩ := L
  have hmf : ∀ a k, a < rows.length → k < n → mF (wideTo rows more rows.length) a k = mF rows a k := fun a k ha hk => by
    rw [mF, gRow_eq (wideTo_get ha), List.getElem?_append_left (by rw [gRow_len (rok_len hC) ha]; exact hk)]
    rfl
  have hcost : costOf (wideTo rows more rows.length) miss τ = costOf rows miss τ := by
    unfold costOf
    rw [wideTo_len]
    refine sumN_congr fun a ha => ?_
    unfold costAt
    rcases V.rng a ha with h | ⟨h1, h2, h3⟩
    · rw [if_pos (by omega), if_pos (by omega)]
    · rw [if_neg (by omega), if_neg (by omega), hmf a _ ha (by omega)]
  rw [← hcost]
  refine L'.2 τ ⟨fun a ha => ?_, fun a b ha hb => ?_⟩
  · rw [wideTo_len] at ha
    rcases V.rng a ha with h | ⟨h1, h2, h3⟩
    · exact Or.inl h
    · exact Or.inr ⟨h1, by omega, by rw [hmf a _ ha (by omega)]; exact h3⟩
  · rw [wideTo_len] at ha hb
    exact V.inj a b ha hb
end Go.Proofs.Ytpehhlfbnkakpaa.Hg
