/- A row with one column that is permitted: when the least sum stays. Conditions stand in each lemma. -/
import Derived.Test.YtaekgifbehoipaaZPairUniquec
namespace Go.Proofs.Ytaekgifbehoipaa.Hg
open Go Go.Proofs.Ytaekgifbehoipaa.Eva Go.Proofs.Ytaekgifbehoipaa.Fl
set_option linter.unusedVariables false
set_option linter.unusedSimpArgs false

def single (C k : Nat) (x : Int) : List Int := arrF C fun j => if j = k then x else 1125899906842624
theorem single_get {C k j : Nat} {x : Int} (h : j < C) : (single C k x)[j]? = some (if j = k then x else 1125899906842624) := arrF_get h
theorem single_len {C k : Nat} {x : Int} : (single C k x).length = C := arrF_len
theorem gRow_set {rows : List (List Int)} {i a : Nat} {r : List Int} (hi : i < rows.length) : gRow (rows.set i r) a = if a = i then r else gRow rows a := by
  unfold gRow
  rw [List.getElem?_set]
  by_cases h : i = a
  · subst h; rw [if_pos rfl, if_pos hi, if_pos rfl]; rfl
  · rw [if_neg h, if_neg (fun e => h e.symm)]
theorem mF_set {rows : List (List Int)} {i a b : Nat} {r : List Int} (hi : i < rows.length) : mF (rows.set i r) a b = if a = i then (r[b]?).getD 0 else mF rows a b := by
  unfold mF
  rw [gRow_set hi]
  split <;> rfl
theorem mF_single {rows : List (List Int)} {i k C a b : Nat} {x : Int} (hi : i < rows.length) (hb : b < C) : mF (rows.set i (single C k x)) a b = if a = i then (if b = k then x else 1125899906842624) else mF rows a b := by
  rw [mF_set hi, single_get hb]; rfl
section
variable {rows : List (List Int)} {C i : Nat} {T : Int} (hi : i < rows.length) (hb : ∀ k, k < C → mF rows i k ≤ 1125899906842624)
include hi hb in
/-- The sums do not fall. -/
theorem single_ge {k : Nat} {σ : Nat → Nat} (hI : Inj rows.length C σ) : sumN rows.length (fun a => mF rows a (σ a)) ≤ sumN rows.length (fun a => mF (rows.set i (single C k (mF rows i k))) a (σ a)) := by
  apply sumN_le
  intro a ha
  rw [mF_single hi (hI.lt a ha)]
  by_cases e : a = i
  · subst e
    rw [if_pos rfl]
    split
    · rename_i h; rw [h]; exact Int.le_refl _
    · exact hb _ (hI.lt a ha)
  · rw [if_neg e]; exact Int.le_refl _
include hi hb in
/-- Some column keeps the least sum. -/
theorem single_ex (L : Least (mF rows) rows.length C T) : ∃ k, k < C ∧ (∃ σ, Inj rows.length C σ ∧ T = sumN rows.length (fun a => mF rows a (σ a)) ∧ σ i = k) ∧ Least (mF (rows.set i (single C k (mF rows i k)))) rows.length C T := by
  obtain ⟨⟨σ, hI, hT⟩, hmin⟩ := L
  refine ⟨σ i, hI.lt i hi, ⟨σ, hI, hT, rfl⟩, ⟨σ, hI, ?_⟩, fun τ hτ => Int.le_trans (hmin τ hτ) (single_ge hi hb hτ)⟩
  rw [hT]
  apply sumN_congr
  intro a ha
  rw [mF_single hi (hI.lt a ha)]
  by_cases e : a = i
  · subst e; rw [if_pos rfl, if_pos rfl]
  · rw [if_neg e]
end
theorem ints_get {n j : Nat} (h : j < n) : (ints n)[j]? = some (j : Int) := by
  unfold ints
  rw [List.getElem?_map, List.getElem?_range h]; rfl
/-- The candidates. -/
def cand (many i : Nat) : List Int := ((many + i : Nat) : Int) :: ints many
theorem cand_len {many i : Nat} : (cand many i).length = many + 1 := by simp [cand, ints_len]
theorem cand_get {many i j : Nat} (h : j < many + 1) : ∃ k : Nat, (cand many i)[j]? = some (k : Int) ∧ (k = many + i ∨ k < many) := by
  cases j with
  | zero => exact ⟨many + i, rfl, Or.inl rfl⟩
  | succ j => exact ⟨j, by rw [cand, List.getElem?_cons_succ]; exact ints_get (by omega), Or.inr (by omega)⟩
theorem cand_mem {many i k : Nat} (h : k = many + i ∨ k < many) : ∃ j, j < many + 1 ∧ (cand many i)[j]? = some (k : Int) := by
  rcases h with rfl | h
  · exact ⟨0, by omega, rfl⟩
  · exact ⟨k + 1, by omega, by rw [cand, List.getElem?_cons_succ]; exact ints_get h⟩
/-- A slice of slices whose row i is told apart. -/
structure WdX (n0 : Nat) (h : List Ob) (v : AV) (vs : List AV) (rows : List (List Int)) (i : Nat) (nv : AV) : Prop where
  isl : IsL n0 h v 1 false vs vs.length
  len : vs.length = rows.length
  here : vs[i]? = some nv
  rd : ∀ (j : Nat) u r, j ≠ i → vs[j]? = some u → rows[j]? = some r → IsL n0 h u 1 true (r.map gI) r.length
  sep : ∀ u, u ∈ vs → ∀ id, idOf u id → ¬ idOf v id
  nsep : ∀ (j : Nat) u, j ≠ i → vs[j]? = some u → ∀ id, idOf u id → ¬ idOf nv id
section
variable {n0 : Nat} {h : List Ob} {v : AV} {vs : List AV} {rows : List (List Int)} {i : Nat} {nv : AV}
theorem WdX.mono {h' : List Ob} (W : WdX n0 h v vs rows i nv) (hm : ∀ id ep o, ¬ idOf nv id → rdObj h id ep = some o → rdObj h' id ep = some o) : WdX n0 h' v vs rows i nv :=
  ⟨W.isl.mono fun id ep o hid ho => hm id ep o (fun hx => W.sep nv (List.mem_of_getElem? W.here) id hx hid) ho, W.len, W.here,
    fun j u r hj hu hr => (W.rd j u r hj hu hr).mono fun id ep o hid ho => hm id ep o (W.nsep j u hj hu id hid) ho, W.sep, W.nsep⟩
theorem WdX.keep (W : WdX n0 h v vs rows i nv) (o : List Ob) : WdX n0 (h ++ o) v vs rows i nv := W.mono fun _ _ _ _ ho => rd_keep ho
theorem WdX.ok (W : WdX n0 h v vs rows i nv) : idxOk 1 v (.int .i64 (i : Int)) := by
  have hi := (List.getElem?_eq_some_iff.1 W.here).1
  have : SlL h v avC 1 vs := ⟨fun _ => rfl, by decide, by rw [flat_avC]; exact W.isl.rd (by simp)⟩
  exact this.ok (by omega) (by omega)
theorem WdX.ld (W : WdX n0 h v vs rows i nv) : ld1A h (idxV 1 v (.int .i64 (i : Int))) = some nv := by
  have : SlL h v avC 1 vs := ⟨fun _ => rfl, by decide, by rw [flat_avC]; exact W.isl.rd (by simp)⟩
  rw [this.ld0 (x := nv) (by omega) (by simpa using W.here)]; rfl
theorem WdX.wd (W : WdX n0 h v vs rows i nv) {r : List Int} (hr : IsL n0 h nv 1 true (r.map gI) r.length) : Wd n0 h v vs (rows.set i r) := by
  refine ⟨W.isl, by rw [List.length_set]; exact W.len, fun j u r' hu hr' => ?_, W.sep⟩
  by_cases hj : j = i
  · subst hj
    have h1 := W.here
    rw [hu] at h1
    have hlt := (List.getElem?_eq_some_iff.1 hu).1
    rw [List.getElem?_set_self (by rw [← W.len]; exact hlt)] at hr'
    simp only [Option.some.injEq] at h1 hr'
    subst h1; subst hr'; exact hr
  · rw [List.getElem?_set_ne (fun e => hj e.symm)] at hr'
    exact W.rd j u r' hj hu hr'
/-- A new row is laid in. -/
theorem wd_put {u : AV} (W : Wd n0 h v vs rows) (hi : i < rows.length) (hn : ∀ id, idOf u id → ¬ InW v vs id) :
    ∃ id ep off o, idxV 1 v (.int .i64 (i : Int)) = .ptr id ep off ∧ rdObj h id ep = some o ∧ off + 1 ≤ o.cs.length ∧ o.rw = true ∧ n0 ≤ id ∧ idOf v id ∧
      (cellsOf u = [u] → u.scalar = false → WdX n0 (stH h (.ptr id ep off) u) v (vs.set i u) rows i u ∧ (∀ id' ep' o', ¬ idOf v id' → rdObj h id' ep' = some o' → rdObj (stH h (.ptr id ep off) u) id' ep' = some o') ∧ (stH h (.ptr id ep off) u).length = h.length) := by
  rcases W.isl with ⟨rfl, hvs, _⟩ | ⟨id, ep, rfl, h2, h3, h4⟩
  · have := W.len; rw [hvs] at this; simp at this; omega
  have hlen := W.len
  refine ⟨id, ep, 0 + i * 1, _, by rw [idxV_sl, Int.toNat_natCast], h2, by simp; omega, rfl, h3, ⟨rfl, rfl⟩, fun hc hs => ?_⟩
  have hw : wr vs (0 + i * 1) [u] = vs.set i u := by
    rw [Nat.zero_add, Nat.mul_one]
    unfold wr
    split
    · rename_i hl
      have h9 : vs.length = 1 := by simpa using hl.symm
      have h10 : i = 0 := by omega
      rw [h10]
      match hm : vs, h9 with
      | [a], _ => rfl
    · rw [List.set_eq_take_append_cons_drop, if_pos (by omega)]; simp
  have e : stH h (.ptr id ep (0 + i * 1)) u = h.set id ⟨vs.set i u, ep, 1, true, false⟩ := by
    rw [stH_ptr, h2]
    simp only [putObj, hc, hw, Bool.false_and]
  rw [e]
  have hfr : ∀ id' ep' o', ¬ idOf (.sl false id ep 1 0 vs.length) id' → rdObj h id' ep' = some o' → rdObj (h.set id ⟨vs.set i u, ep, 1, true, false⟩) id' ep' = some o' := by
    intro id' ep' o' hne ho
    rw [rd_set_ne (fun e => hne ⟨rfl, e⟩)]; exact ho
  have hl2 : (vs.set i u).length = vs.length := List.length_set
  refine ⟨⟨Or.inr ⟨id, ep, by rw [hl2], rd_set_same (o := ⟨vs.set i u, ep, 1, true, false⟩) (rd_lt h2), h3, by rw [hl2]; exact h4⟩, by rw [hl2]; exact hlen, List.getElem?_set_self (by omega), fun j u' r hj hu hr => ?_, fun u' hu' id' hid' => ?_, fun j u' hj hu' id' hid' hx => ?_⟩, hfr, by simp⟩
  · rw [List.getElem?_set_ne (fun e => hj e.symm)] at hu
    exact (W.rd j u' r hu hr).mono fun id' ep' o' hid' ho' => hfr id' ep' o' (W.sep u' (List.mem_of_getElem? hu) id' hid') ho'
  · rcases List.mem_or_eq_of_mem_set hu' with hu' | rfl
    · exact W.sep u' hu' id' hid'
    · exact fun hx => hn id' hid' (Or.inl hx)
  · rw [List.getElem?_set_ne (fun e => hj e.symm)] at hu'
    exact hn id' hx (Or.inr ⟨u', List.mem_of_getElem? hu', hid'⟩)
end
end Go.Proofs.Ytaekgifbehoipaa.Hg
/- Rows cut down to one column each, one after the other: what they leave. Conditions stand in each lemma. -/
namespace Go.Proofs.Ytaekgifbehoipaa.Hg
open Go Go.Proofs.Ytaekgifbehoipaa.Eva Go.Proofs.Ytaekgifbehoipaa.Fl
set_option linter.unusedVariables false
set_option linter.unusedSimpArgs false

theorem mF_out1 {rows : List (List Int)} {a k : Nat} (h : rows.length ≤ a) : mF rows a k = 0 := by
  unfold mF gRow
  rw [List.getElem?_eq_none h]; rfl
theorem mF_out2 {rows : List (List Int)} {C a k : Nat} (hC : ∀ r ∈ rows, r.length = C) (h : C ≤ k) : mF rows a k = 0 := by
  by_cases ha : a < rows.length
  · unfold mF
    rw [List.getElem?_eq_none (by rw [gRow_len hC ha]; exact h)]; rfl
  · exact mF_out1 (by omega)
theorem mF_row {rows rows' : List (List Int)} {a k : Nat} (h : rows[a]? = rows'[a]?) : mF rows a k = mF rows' a k := by
  unfold mF gRow; rw [h]
theorem mF_sing {rows : List (List Int)} {C a k x : Nat} {y : Int} (h : rows[a]? = some (single C k y)) (hx : x < C) : mF rows a x = if x = k then y else 1125899906842624 := by
  rw [mF, gRow_eq h, single_get hx]; rfl
theorem fix_le {c : Int} (h : c ≤ 1099511627776) : fixC c ≤ 1125899906842624 := by unfold fixC; split <;> omega
section
variable {rows : List (List Int)} {n : Nat} {miss : Int} (hC : ∀ r ∈ rows, RowOk n r) (hm0 : 0 ≤ miss) (hm1 : miss ≤ 1099511627776) (hR : rows.length ≤ 32)
include hC in
theorem rok_len : ∀ r ∈ rows, r.length = n := fun r hr => (hC r hr).2.1
include hC in
theorem rok_le (a k : Nat) : -1 ≤ mF rows a k ∧ mF rows a k ≤ 1099511627776 := by
  by_cases ha : a < rows.length
  · by_cases hk : k < n
    · have hl := gRow_len (rok_len hC) ha
      have h1 : (gRow rows a)[k]? = some (gRow rows a)[k] := List.getElem?_eq_getElem (by omega)
      have h2 : gRow rows a ∈ rows := by rw [gRow_eq (List.getElem?_eq_getElem ha)]; exact List.getElem_mem ha
      have := (hC _ h2).2.2 _ (List.mem_of_getElem? h1)
      rw [mF, h1]; exact this
    · rw [mF_out2 (rok_len hC) (by omega)]; omega
  · rw [mF_out1 (by omega)]; omega
include hC in
theorem sq_row_len : ∀ r ∈ sqTo rows miss rows.length, r.length = n + rows.length := by
  intro r hr
  obtain ⟨i, hi, rfl⟩ := List.getElem_of_mem hr
  rw [sqTo_len] at hi
  have h1 := sqTo_get (rows := rows) (miss := miss) hi
  rw [List.getElem?_eq_getElem (by rw [sqTo_len]; exact hi)] at h1
  simp only [Option.some.injEq] at h1
  rw [h1]
  have := gRow_len (rok_len hC) hi
  simp [sqRow, this]
include hC hm0 hm1 in
theorem sq_bd (a k : Nat) : 0 ≤ mF (sqTo rows miss rows.length) a k ∧ mF (sqTo rows miss rows.length) a k ≤ 1125899906842624 := by
  by_cases ha : a < rows.length
  · by_cases hk : k < n
    · rw [sq_pub (rok_len hC) ha hk]
      exact ⟨fix_nn _, fix_le (rok_le hC a k).2⟩
    · by_cases hk2 : k < n + rows.length
      · have : k = n + (k - n) := by omega
        rw [this, sq_priv (rok_len hC) ha (by omega)]
        unfold priv; split <;> omega
      · rw [mF_out2 (sq_row_len hC) (by omega)]; omega
  · rw [mF_out1 (by rw [sqTo_len]; omega)]; omega

/-- So many rows have been cut down. -/
structure Bs (rows : List (List Int)) (n : Nat) (miss T : Int) (i : Nat) (ks : Nat → Nat) (cur : List (List Int)) : Prop where
  len : cur.length = rows.length
  cl : ∀ r ∈ cur, r.length = n + rows.length
  bd : ∀ a k, 0 ≤ mF cur a k ∧ mF cur a k ≤ 1125899906842624
  L : Least (mF cur) rows.length (n + rows.length) T
  done : ∀ a, a < i → ks a < n + rows.length ∧ mF (sqTo rows miss rows.length) a (ks a) ≠ 1125899906842624 ∧ cur[a]? = some (single (n + rows.length) (ks a) (mF (sqTo rows miss rows.length) a (ks a)))
  rest : ∀ a, i ≤ a → cur[a]? = (sqTo rows miss rows.length)[a]?
  tie : miss = 0 → ∀ a, a < i → ks a = n + a
include hC hm0 hm1 in
theorem Bs.init {T : Int} (L : Least (mF (sqTo rows miss rows.length)) rows.length (n + rows.length) T) : Bs rows n miss T 0 (fun _ => 0) (sqTo rows miss rows.length) :=
  ⟨sqTo_len, sq_row_len hC, sq_bd hC hm0 hm1, L, fun a h => by omega, fun a _ => rfl, fun _ a h => by omega⟩
theorem cost0 : costOf rows 0 (fun _ => -1) = 0 := by
  unfold costOf costAt
  rw [sumN_congr (g := fun _ => (0 : Int)) (fun i _ => if_pos (show (-1 : Int) < 0 by decide)), sumN_const]; simp
include hC hm0 hm1 in
theorem Bs.step {T : Int} {i k : Nat} {ks : Nat → Nat} {cur : List (List Int)} (hT : LeastP rows n miss T) (B : Bs rows n miss T i ks cur) (hi : i < rows.length) (hk : k < n + rows.length) (hne : mF cur i k ≠ 1125899906842624)
    (L : Least (mF (cur.set i (single (n + rows.length) k (mF cur i k)))) rows.length (n + rows.length) T)
    (ht : k ≠ n + i → mF cur i (n + i) = 1125899906842624 ∨ ¬ Least (mF (cur.set i (single (n + rows.length) (n + i) (mF cur i (n + i))))) rows.length (n + rows.length) T) :
    Bs rows n miss T (i + 1) (fun a => if a = i then k else ks a) (cur.set i (single (n + rows.length) k (mF cur i k))) := by
  have hic : i < cur.length := by rw [B.len]; exact hi
  have hci : ∀ x, mF cur i x = mF (sqTo rows miss rows.length) i x := fun x => mF_row (B.rest i (Nat.le_refl _))
  have hbd : ∀ k' a x, 0 ≤ mF (cur.set i (single (n + rows.length) k' (mF cur i k'))) a x ∧ mF (cur.set i (single (n + rows.length) k' (mF cur i k'))) a x ≤ 1125899906842624 := by
    intro k' a x
    rw [mF_set hic]
    split
    · by_cases hx : x < n + rows.length
      · rw [single_get hx]
        simp only [Option.getD_some]
        split
        · exact B.bd i k'
        · omega
      · rw [List.getElem?_eq_none (by rw [single_len]; omega)]
        simp
    · exact B.bd a x
  refine ⟨by rw [List.length_set]; exact B.len, fun r hr => ?_, hbd k, L, fun a ha => ?_, fun a ha => ?_, fun h0 a ha => ?_⟩
  · rcases List.mem_or_eq_of_mem_set hr with hr | rfl
    · exact B.cl r hr
    · exact single_len
  · by_cases hai : a = i
    · subst hai
      rw [if_pos rfl, ← hci]
      exact ⟨hk, hne, List.getElem?_set_self hic⟩
    · rw [if_neg hai, List.getElem?_set_ne (fun h => hai h.symm)]
      exact B.done a (by omega)
  · rw [List.getElem?_set_ne (by omega)]
    exact B.rest a (by omega)
  · by_cases hai : a = i
    · subst hai
      rw [if_pos rfl]
      refine Classical.byContradiction fun hkn => ?_
      have hp : ∀ a, a < rows.length → mF (sqTo rows miss rows.length) a (n + a) = 0 := fun a ha => by
        rw [sq_priv (rok_len hC) ha ha]; simp [priv, h0]
      have hv : mF cur a (n + a) = 0 := by rw [hci, hp a hi]
      have hT0 : T = 0 := by
        subst h0
        have h1 := hT.2 _ (val_miss (rows := rows) (n := n))
        rw [cost0] at h1
        obtain ⟨⟨σ, hI, hs⟩, _⟩ := B.L
        have h2 : 0 ≤ T := by
          rw [hs]
          have := (sumN_ge (f := fun x => mF cur x (σ x)) (fun x _ => (B.bd x _).1) a hi).2
          exact this
        omega
      rcases ht hkn with h | h
      · rw [hv] at h; omega
      · refine h ⟨⟨fun x => n + x, ⟨fun x hx => by omega, fun x y _ _ e => by omega⟩, ?_⟩, fun τ hτ => ?_⟩
        · rw [hT0, sumN_congr (g := fun _ => (0 : Int)) (fun x hx => ?_), sumN_const]
          · simp
          · rw [mF_single hic (by dsimp only; omega)]
            by_cases hxa : x = a
            · subst hxa; rw [if_pos rfl, if_pos rfl, hv]
            · rw [if_neg hxa]
              by_cases hlt : x < a
              · obtain ⟨q1, q2, q3⟩ := B.done x hlt
                have q4 := B.tie h0 x hlt
                rw [mF_sing q3 (by dsimp only; omega), if_pos q4.symm, q4, hp x hx]
              · rw [mF_row (B.rest x (by omega)), hp x hx]
        · rw [hT0]
          exact (sumN_ge (f := fun x => mF (cur.set a (single (n + rows.length) (n + a) (mF cur a (n + a)))) x (τ x)) (fun x _ => (hbd _ x _).1) a hi).2
    · rw [if_neg hai]; exact B.tie h0 a (by omega)
include hC hm0 hm1 in
theorem Bs.fin {T : Int} {ks : Nat → Nat} {cur : List (List Int)} (hT : T ≤ 35184372088832) (B : Bs rows n miss T rows.length ks cur) :
    Val rows n (fun i => if ks i < n then (ks i : Int) else -1) ∧ costOf rows miss (fun i => if ks i < n then (ks i : Int) else -1) = T := by
  obtain ⟨⟨σ, hI, hs⟩, _⟩ := B.L
  have hσ : ∀ a, a < rows.length → σ a = ks a := fun a ha => by
    have h1 := (sumN_ge (f := fun x => mF cur x (σ x)) (fun x _ => (B.bd x _).1) a ha).1
    obtain ⟨q1, q2, q3⟩ := B.done a ha
    rw [← hs, mF_sing q3 (hI.lt a ha)] at h1
    by_cases h : σ a = ks a
    · exact h
    · rw [if_neg h] at h1; omega
  have hIk : Inj rows.length (n + rows.length) ks := ⟨fun a ha => (B.done a ha).1, fun a b ha hb e => hI.inj a b ha hb (by rw [hσ a ha, hσ b hb]; exact e)⟩
  obtain ⟨h1, h2⟩ := val_of (miss := miss) (rok_len hC) hIk fun a ha => by
    have := (sq_bd hC hm0 hm1 a (ks a)).2
    have := (B.done a ha).2.1
    omega
  refine ⟨h1, ?_⟩
  rw [h2, hs]
  apply sumN_congr
  intro a ha
  obtain ⟨q1, q2, q3⟩ := B.done a ha
  rw [hσ a ha, mF_sing q3 q1, if_pos rfl]
end
end Go.Proofs.Ytaekgifbehoipaa.Hg
/- What choose of the package assign does. Conditions stand in each lemma. -/
namespace Go.Proofs.Ytaekgifbehoipaa.Hg
open Go Go.Proofs.Ytaekgifbehoipaa.Eva Go.Proofs.Ytaekgifbehoipaa.CodeAll Go.Proofs.Ytaekgifbehoipaa.Fl
set_option linter.unusedVariables false
set_option linter.unusedSimpArgs false
set_option maxRecDepth 10000
set_option maxHeartbeats 4000000

theorem out_fg {sz k : Nat} {cs : List AV} {h : List Ob} : FgL (h ++ outO sz k cs) (outV h.length sz k) := by
  unfold outV outO
  by_cases hk : k = 0
  · simp only [if_pos hk]; exact fun id ep o hid _ => absurd hid idOf_nil
  · rw [if_neg hk, if_neg hk]
    rintro id ep o ⟨_, rfl⟩ ho
    unfold rdObj at ho
    simp at ho
    obtain ⟨_, rfl⟩ := ho; rfl
/-- What stays, and where the rows lie. -/
structure Fr1 (B : List Ob) (v : AV) (vs vs' : List AV) (h : List Ob) : Prop where
  len : B.length ≤ h.length
  inn : ∀ id, InW v vs' id → InW v vs id ∨ B.length ≤ id
  keep : ∀ id ep o, rdObj B id ep = some o → ¬ idOf v id → rdObj h id ep = some o
theorem Fr1.st {B : List Ob} {v nv : AV} {vs vs' : List AV} {h h' : List Ob} (F : Fr1 B v vs vs' h) (hn : ∀ id, idOf nv id → B.length ≤ id) (hl : h'.length = h.length) (hm : ∀ id ep o, ¬ idOf nv id → rdObj h id ep = some o → rdObj h' id ep = some o) : Fr1 B v vs vs' h' :=
  ⟨by rw [hl]; exact F.len, F.inn, fun id ep o ho hv => hm id ep o (fun hx => by have := hn id hx; have := rd_lt ho; omega) (F.keep id ep o ho hv)⟩
theorem choose_ex {H x : List Ob} {v : AV} {vs : List AV} {rows : List (List Int)} {C i many : Nat} {T : Int} (hW : Wd H.length (H ++ x) v vs rows) (hCl : ∀ r ∈ rows, r.length = C) (hb : ∀ a k, 0 ≤ mF rows a k ∧ mF rows a k ≤ 1125899906842624)
    (hi : i < rows.length) (hCe : C = many + rows.length) (hC : C ≤ 64) (hpriv : ∀ k, many ≤ k → k < C → k ≠ many + i → mF rows i k = 1125899906842624) (L : Least (mF rows) rows.length C T) (hT : T < 1125899906842624) :
    ∃ h' wl wa k, k < C ∧ ecall E 49 [v, .int .i64 (i : Int), .int .i64 (many : Int), .int .i64 T] (H ++ x) = some (.int .i64 (if k < many then (k : Int) else -1), h', wl, wa) ∧ H.length ≤ wl ∧ H.length ≤ wa ∧ H.length ≤ h'.length ∧ h'.take H.length = H ∧
      mF rows i k ≠ 1125899906842624 ∧ Least (mF (rows.set i (single C k (mF rows i k)))) rows.length C T ∧ (∃ vs', Wd H.length h' v vs' (rows.set i (single C k (mF rows i k))) ∧ Fr1 (H ++ x) v vs vs' h') ∧
      (k ≠ many + i → mF rows i (many + i) = 1125899906842624 ∨ ¬ Least (mF (rows.set i (single C (many + i) (mF rows i (many + i))))) rows.length C T) := by
  have A := hW.ns
  obtain ⟨u, r, hr, hu, S, d1, o1⟩ := A.row hi
  have hrl := hCl r (List.mem_of_getElem? hr)
  have hrF : ∀ k, k < C → r[k]? = some (mF rows i k) := fun k hk => by
    have : r[k]? = some r[k] := List.getElem?_eq_getElem (by omega)
    rw [mF, gRow_eq hr, this]; rfl
  have key : WX E H.length c49.nt c49.code (fun e f h' w => exOk e = true ∧ w < (H ++ x).length ∧ ∃ v', (rvq c49.nt f h' c49.res).map mkRes = some v' ∧ ∃ k, k < C ∧ v' = .int .i64 (if k < many then (k : Int) else -1) ∧ mF rows i k ≠ 1125899906842624 ∧ Least (mF (rows.set i (single C k (mF rows i k)))) rows.length C T ∧ (∃ vs', Wd H.length h' v vs' (rows.set i (single C k (mF rows i k))) ∧ Fr1 (H ++ x) v vs vs' h') ∧
      (k ≠ many + i → mF rows i (many + i) = 1125899906842624 ∨ ¬ Least (mF (rows.set i (single C (many + i) (mF rows i (many + i))))) rows.length C T)) (ofL [v, .int .i64 (i : Int), .int .i64 (many : Int), .int .i64 T]) (H ++ x) (H ++ x).length := by
    have hn : H.length ≤ (H ++ x).length := by simp
    refine WX_seq (WX_of hn (wc_sound _ _ _ _ hn ?_))
    simp (config := {maxSteps := 8000000}) only [c49, SS, bne_self_eq_false, wr_def, obOf, List.all_cons, List.all_nil, List.map_cons, List.map_nil, List.length_cons, List.length_nil, List.take_zero, List.take_succ_cons, List.take_nil, List.drop_zero, List.drop_succ_cons, List.drop_nil, Nat.reduceAdd, Nat.reduceMul, Nat.reduceSub, if_true, Nat.reduceLT, Nat.reduceLeDiff, ite_true, ite_false, Nat.reduceEqDiff, if_false, reduceCtorEq, ne_eq, List.getD, List.getElem?_cons_zero, List.getElem?_cons_succ, Option.getD_some, Option.bind_some, Option.map_some, Option.isSome_some, reduceIte, List.length_append, List.append_assoc, List.cons_append, List.nil_append, Option.some.injEq, forall_const, implies_true, Int.reduceNeg, eq_self, Prod.mk.injEq, List.self_eq_append_right, List.append_nil, exists_eq_left, exists_eq_left', exists_and_left, exists_eq_right, exists_and_right]
    intro w1 hw1 hw1'
    refine WX_seq (WX_of hw1 (wc_sound _ _ _ _ hn ?_))
    have d1' := d1 []
    rw [List.append_nil] at d1'
    simp (config := {maxSteps := 8000000}) only [o1, isPtr_idx o1, d1', SS, bne_self_eq_false, wr_def, obOf, List.all_cons, List.all_nil, List.map_cons, List.map_nil, List.length_cons, List.length_nil, List.take_zero, List.take_succ_cons, List.take_nil, List.drop_zero, List.drop_succ_cons, List.drop_nil, Nat.reduceAdd, Nat.reduceMul, Nat.reduceSub, if_true, Nat.reduceLT, Nat.reduceLeDiff, ite_true, ite_false, Nat.reduceEqDiff, if_false, reduceCtorEq, ne_eq, List.getD, List.getElem?_cons_zero, List.getElem?_cons_succ, Option.getD_some, Option.bind_some, Option.map_some, Option.isSome_some, reduceIte, List.length_append, List.append_assoc, List.cons_append, List.nil_append, Option.some.injEq, forall_const, implies_true, Int.reduceNeg, eq_self, Prod.mk.injEq, List.self_eq_append_right, List.append_nil, exists_eq_left, exists_eq_left', exists_and_left, exists_eq_right, exists_and_right]
    intro w2 hw2 hw2'
    have wmi : IntKind.i64.wrap ((many : Int) + (i : Int)) = ((many + i : Nat) : Int) := by rw [wrap64 (by omega) (by omega)]; omega
    have hcn := fun o => ncall_some.2 (count_run (H ++ (x ++ o)) (n := many) (by omega))
    simp only [List.length_append] at hcn
    refine WX_seq (WX_seq (WX_of hw2 (wc_sound _ _ _ _ hn ?_)))
    simp (config := {maxSteps := 8000000}) only [wmi, rg_calln, ncallV_fn, hcn, SS, bne_self_eq_false, wr_def, obOf, List.all_cons, List.all_nil, List.map_cons, List.map_nil, List.length_cons, List.length_nil, List.take_zero, List.take_succ_cons, List.take_nil, List.drop_zero, List.drop_succ_cons, List.drop_nil, Nat.reduceAdd, Nat.reduceMul, Nat.reduceSub, if_true, Nat.reduceLT, Nat.reduceLeDiff, ite_true, ite_false, Nat.reduceEqDiff, if_false, reduceCtorEq, ne_eq, List.getD, List.getElem?_cons_zero, List.getElem?_cons_succ, Option.getD_some, Option.bind_some, Option.map_some, Option.isSome_some, reduceIte, List.length_append, List.append_assoc, List.cons_append, List.nil_append, Option.some.injEq, forall_const, implies_true, Int.reduceNeg, eq_self, Prod.mk.injEq, List.self_eq_append_right, List.append_nil, exists_eq_left, exists_eq_left', exists_and_left, exists_eq_right, exists_and_right]
    have hs1 : SlL (H ++ (x ++ (⟨[.int .i64 ((many + i : Nat) : Int)], 0, 1, true, true⟩ :: outO 1 many (flat intC (ints many))))) (outV (H.length + (x.length + 1)) 1 many) intC 1 (ints many) := by
      have := out_rd (h := H ++ (x ++ [⟨[.int .i64 ((many + i : Nat) : Int)], 0, 1, true, true⟩])) (sz := 1) (k := many) (cs := flat intC (ints many)) (by rw [flat_len (k := 1) (fun _ => rfl), ints_len])
      simp only [List.length_append, List.length_cons, List.length_nil, List.append_assoc, List.cons_append, List.nil_append, Nat.zero_add] at this
      exact ⟨fun _ => rfl, by decide, by rw [ints_len]; exact this⟩
    have hf1 : FgL (H ++ (x ++ (⟨[.int .i64 ((many + i : Nat) : Int)], 0, 1, true, true⟩ :: outO 1 many (flat intC (ints many))))) (outV (H.length + (x.length + 1)) 1 many) := by
      have := out_fg (h := H ++ (x ++ [⟨[.int .i64 ((many + i : Nat) : Int)], 0, 1, true, true⟩])) (sz := 1) (k := many) (cs := flat intC (ints many))
      simp only [List.length_append, List.length_cons, List.length_nil, List.append_assoc, List.cons_append, List.nil_append, Nat.zero_add] at this
      exact this
    refine bu_app (c := intC) (ys := ints many) (cs := [.int .i64 ((many + i : Nat) : Int)]) (k := 1) ⟨rfl, Or.inr ⟨_, 0, _, rfl, by simp [rdObj], by omega, Or.inr rfl⟩⟩ hs1 hf1 (by rw [ints_len]; unfold appLim; omega) (by simp) (fun W h2 q1 q2 q3 q4 q5 => ?_)
    have hlW := q1.len
    rw [ints_len] at hlW q1
    have hWS : SlL h2 W intC 1 (cand many i) := ⟨fun _ => rfl, by decide, by
      have := (q1.isl (by omega)).rd (by simpa [ints_len] using q1.1)
      rw [cand_len, Nat.add_comm many 1]
      exact this⟩
    simp (config := {maxSteps := 8000000}) only [hlW, SS, bne_self_eq_false, wr_def, obOf, List.all_cons, List.all_nil, List.map_cons, List.map_nil, List.length_cons, List.length_nil, List.take_zero, List.take_succ_cons, List.take_nil, List.drop_zero, List.drop_succ_cons, List.drop_nil, Nat.reduceAdd, Nat.reduceMul, Nat.reduceSub, if_true, Nat.reduceLT, Nat.reduceLeDiff, ite_true, ite_false, Nat.reduceEqDiff, if_false, reduceCtorEq, ne_eq, List.getD, List.getElem?_cons_zero, List.getElem?_cons_succ, Option.getD_some, Option.bind_some, Option.map_some, Option.isSome_some, reduceIte, List.length_append, List.append_assoc, List.cons_append, List.nil_append, Option.some.injEq, forall_const, implies_true, Int.reduceNeg, eq_self, Prod.mk.injEq, List.self_eq_append_right, List.append_nil, exists_eq_left, exists_eq_left', exists_and_left, exists_eq_right, exists_and_right]
    intro w3 hw3 hw3'
    have hsepu : ∀ id, idOf u id → ¬ idOf v id := hW.sep u (List.mem_of_getElem? hu)
    have hidW : ∀ id, idOf W id → H.length + x.length ≤ id := by
      intro id hid
      rcases q4 with h9 | h9
      · have := idOf_inj h9 hid; simp at this; omega
      · obtain ⟨_, rfl⟩ := h9 id hid; exact Nat.le_refl _
    have hvlt : ∀ id, idOf v id → id < H.length + x.length := fun id hid => by have := hW.isl.idlt hid; simpa using this
    have hbase : ∀ id, id < H.length + x.length → ¬ idOf (.sl false (H.length + x.length) 0 1 0 1) id := fun id hid hx => by obtain ⟨_, rfl⟩ := hx; omega
    have hW2 : Wd H.length h2 v vs rows := hW.mono fun id ep o hid ho => q2 id ep o (rd_keep2 ho) (hbase id (by have := hW.lt hid; simpa using this))
    have hS2 : SlL h2 u intC 1 r := S.mono fun id ep o hid ho => q2 id ep o (rd_keep2 ho) (hbase id (by have := S.idlt hid; simpa using this))
    have hn2 : H.length ≤ h2.length := by simp at q3; omega
    have hFr2 : Fr1 (H ++ x) v vs vs h2 := ⟨by simp at q3 ⊢; omega, fun id h => Or.inl h, fun id ep o ho hv => q2 id ep o (rd_keep2 ho) (hbase id (by have := rd_lt ho; simpa using this))⟩
    clear q1 q2 q3 q4 q5 hs1 hf1 hcn
    refine (WX_blk (WX_loop (fun q f h => ∃ j : Nat, q = many + 1 - j ∧ j ≤ many + 1 ∧ f 0 = v ∧ f 1 = .int .i64 (i : Int) ∧ f 2 = .int .i64 (many : Int) ∧ f 3 = .int .i64 T ∧ f 9 = u ∧ f 23 = W ∧ f 24 = .int .i64 ((1 + many : Nat) : Int) ∧ f 25 = .int .i64 (j : Int) ∧ SlL h u intC 1 r ∧ SlL h W intC 1 (cand many i) ∧ (∃ vs' rows', Wd H.length h v vs' rows' ∧ Fr1 (H ++ x) v vs vs' h ∧ rows'.length = rows.length ∧ ∀ a, a ≠ i → rows'[a]? = rows[a]?) ∧
      ∀ (j' k : Nat), j' < j → (cand many i)[j']? = some (k : Int) → mF rows i k = 1125899906842624 ∨ ¬ Least (mF (rows.set i (single C k (mF rows i k)))) rows.length C T) hn2 hw3 (many + 1)
      ⟨0, rfl, by omega, rfl, rfl, rfl, rfl, rfl, rfl, rfl, rfl, hS2, hWS, ⟨vs, rows, hW2, hFr2, rfl, fun _ _ => rfl⟩, fun j' k h => by omega⟩ ?_))
    rintro q f1 h1 wa1 hn1 ht1 hwa1 hwa1' ⟨j, rfl, hj, e0, e1, e2, e3, e9, e23, e24, e25, hS1, hW1, ⟨vs', rows', hWd, hFr1, hlen', hoth⟩, hist⟩
    by_cases hjm : j < many + 1
    · have hc : decide ((j : Int) < ((1 + many : Nat) : Int)) = true := decide_eq_true (by omega)
      have wj : IntKind.i64.wrap ((j : Int) + 1) = ((j + 1 : Nat) : Int) := by rw [wrap64 (by omega) (by omega)]; omega
      obtain ⟨k, hk, hkc⟩ := cand_get (i := i) hjm
      have hkC : k < C := by omega
      have oW : idxOk 1 W (.int .i64 (j : Int)) := hW1.ok (by omega) (by rw [cand_len]; omega)
      have dW : ld1A h1 (idxV 1 W (.int .i64 (j : Int))) = some (.int .i64 (k : Int)) := by rw [hW1.ld0 (x := (k : Int)) (by omega) (by simpa using hk)]; rfl
      have ou : idxOk 1 u (.int .i64 (k : Int)) := hS1.ok (by omega) (by omega)
      have du : ld1A h1 (idxV 1 u (.int .i64 (k : Int))) = some (.int .i64 (mF rows i k)) := by rw [hS1.ld0 (x := mF rows i k) (by omega) (by simpa using hrF k hkC)]; rfl
      have histS : (mF rows i k = 1125899906842624 ∨ ¬ Least (mF (rows.set i (single C k (mF rows i k)))) rows.length C T) → ∀ (j' k' : Nat), j' < j + 1 → (cand many i)[j']? = some (k' : Int) → mF rows i k' = 1125899906842624 ∨ ¬ Least (mF (rows.set i (single C k' (mF rows i k')))) rows.length C T := by
        intro hbad j' k' hj' hk'
        by_cases h : j' < j
        · exact hist j' k' h hk'
        · have : j' = j := by omega
          subst this
          rw [hk] at hk'
          have h8 : (k : Int) = (k' : Int) := by simpa using hk'
          have : k = k' := by omega
          subst this; exact hbad
      refine WX_seq (WX_of hwa1 (wc_sound _ _ _ _ hn1 ?_))
      simp (config := {maxSteps := 8000000}) only [e0, e1, e2, e3, e9, e23, e24, e25, hc, SS, bne_self_eq_false, wr_def, obOf, List.all_cons, List.all_nil, List.map_cons, List.map_nil, List.length_cons, List.length_nil, List.take_zero, List.take_succ_cons, List.take_nil, List.drop_zero, List.drop_succ_cons, List.drop_nil, Nat.reduceAdd, Nat.reduceMul, Nat.reduceSub, if_true, Nat.reduceLT, Nat.reduceLeDiff, ite_true, ite_false, Nat.reduceEqDiff, if_false, reduceCtorEq, ne_eq, List.getD, List.getElem?_cons_zero, List.getElem?_cons_succ, Option.getD_some, Option.bind_some, Option.map_some, Option.isSome_some, reduceIte, List.length_append, List.append_assoc, List.cons_append, List.nil_append, Option.some.injEq, forall_const, implies_true, Int.reduceNeg, eq_self, Prod.mk.injEq, List.self_eq_append_right, List.append_nil, exists_eq_left, exists_eq_left', exists_and_left, exists_eq_right, exists_and_right]
      intro wa2 hwa2 hwa2'
      refine WX_seq (WX_of hwa2 (wc_sound _ _ _ _ hn1 ?_))
      simp (config := {maxSteps := 8000000}) only [e0, e1, e2, e3, e9, e23, e24, e25, hc, SS, bne_self_eq_false, wr_def, obOf, List.all_cons, List.all_nil, List.map_cons, List.map_nil, List.length_cons, List.length_nil, List.take_zero, List.take_succ_cons, List.take_nil, List.drop_zero, List.drop_succ_cons, List.drop_nil, Nat.reduceAdd, Nat.reduceMul, Nat.reduceSub, if_true, Nat.reduceLT, Nat.reduceLeDiff, ite_true, ite_false, Nat.reduceEqDiff, if_false, reduceCtorEq, ne_eq, List.getD, List.getElem?_cons_zero, List.getElem?_cons_succ, Option.getD_some, Option.bind_some, Option.map_some, Option.isSome_some, reduceIte, List.length_append, List.append_assoc, List.cons_append, List.nil_append, Option.some.injEq, forall_const, implies_true, Int.reduceNeg, eq_self, Prod.mk.injEq, List.self_eq_append_right, List.append_nil, exists_eq_left, exists_eq_left', exists_and_left, exists_eq_right, exists_and_right]
      intro wa3 hwa3 hwa3'
      refine WX_seq (WX_blk (WX_seq (WX_of hwa3 (wc_sound _ _ _ _ hn1 ?_))))
      simp (config := {maxSteps := 8000000}) only [e0, e1, e2, e3, e9, e23, e24, e25, oW, isPtr_idx oW, dW, SS, bne_self_eq_false, wr_def, obOf, List.all_cons, List.all_nil, List.map_cons, List.map_nil, List.length_cons, List.length_nil, List.take_zero, List.take_succ_cons, List.take_nil, List.drop_zero, List.drop_succ_cons, List.drop_nil, Nat.reduceAdd, Nat.reduceMul, Nat.reduceSub, if_true, Nat.reduceLT, Nat.reduceLeDiff, ite_true, ite_false, Nat.reduceEqDiff, if_false, reduceCtorEq, ne_eq, List.getD, List.getElem?_cons_zero, List.getElem?_cons_succ, Option.getD_some, Option.bind_some, Option.map_some, Option.isSome_some, reduceIte, List.length_append, List.append_assoc, List.cons_append, List.nil_append, Option.some.injEq, forall_const, implies_true, Int.reduceNeg, eq_self, Prod.mk.injEq, List.self_eq_append_right, List.append_nil, exists_eq_left, exists_eq_left', exists_and_left, exists_eq_right, exists_and_right]
      intro wa4 hwa4 hwa4'
      refine WX_seq (WX_of hwa4 (wc_sound _ _ _ _ hn1 ?_))
      by_cases hnev : mF rows i k = 1125899906842624
      · have hb1 : (mF rows i k == 1125899906842624) = true := by rw [beq_iff_eq]; exact hnev
        simp (config := {maxSteps := 8000000}) only [e0, e1, e2, e3, e9, e23, e24, e25, ou, isPtr_idx ou, du, hb1, SS, bne_self_eq_false, wr_def, obOf, List.all_cons, List.all_nil, List.map_cons, List.map_nil, List.length_cons, List.length_nil, List.take_zero, List.take_succ_cons, List.take_nil, List.drop_zero, List.drop_succ_cons, List.drop_nil, Nat.reduceAdd, Nat.reduceMul, Nat.reduceSub, if_true, Nat.reduceLT, Nat.reduceLeDiff, ite_true, ite_false, Nat.reduceEqDiff, if_false, reduceCtorEq, ne_eq, List.getD, List.getElem?_cons_zero, List.getElem?_cons_succ, Option.getD_some, Option.bind_some, Option.map_some, Option.isSome_some, reduceIte, List.length_append, List.append_assoc, List.cons_append, List.nil_append, Option.some.injEq, forall_const, implies_true, Int.reduceNeg, eq_self, Prod.mk.injEq, List.self_eq_append_right, List.append_nil, exists_eq_left, exists_eq_left', exists_and_left, exists_eq_right, exists_and_right]
        intro wa5 hwa5 hwa5'
        refine WX_of hwa5 (wc_sound _ _ _ _ hn1 ?_)
        simp (config := {maxSteps := 8000000}) only [e0, e1, e2, e3, e9, e23, e24, e25, wj, SS, bne_self_eq_false, wr_def, obOf, List.all_cons, List.all_nil, List.map_cons, List.map_nil, List.length_cons, List.length_nil, List.take_zero, List.take_succ_cons, List.take_nil, List.drop_zero, List.drop_succ_cons, List.drop_nil, Nat.reduceAdd, Nat.reduceMul, Nat.reduceSub, if_true, Nat.reduceLT, Nat.reduceLeDiff, ite_true, ite_false, Nat.reduceEqDiff, if_false, reduceCtorEq, ne_eq, List.getD, List.getElem?_cons_zero, List.getElem?_cons_succ, Option.getD_some, Option.bind_some, Option.map_some, Option.isSome_some, reduceIte, List.length_append, List.append_assoc, List.cons_append, List.nil_append, Option.some.injEq, forall_const, implies_true, Int.reduceNeg, eq_self, Prod.mk.injEq, List.self_eq_append_right, List.append_nil, exists_eq_left, exists_eq_left', exists_and_left, exists_eq_right, exists_and_right]
        intro wa6 hwa6 hwa6'
        exact ⟨_, by omega, j + 1, rfl, by omega, rfl, hS1, hW1, ⟨vs', rows', hWd, hFr1, hlen', hoth⟩, histS (Or.inl hnev)⟩
      · have hb1 : (mF rows i k == 1125899906842624) = false := by rw [beq_eq_false_iff_ne]; exact hnev
        simp (config := {maxSteps := 8000000}) only [e0, e1, e2, e3, e9, e23, e24, e25, ou, isPtr_idx ou, du, hb1, SS, bne_self_eq_false, wr_def, obOf, List.all_cons, List.all_nil, List.map_cons, List.map_nil, List.length_cons, List.length_nil, List.take_zero, List.take_succ_cons, List.take_nil, List.drop_zero, List.drop_succ_cons, List.drop_nil, Nat.reduceAdd, Nat.reduceMul, Nat.reduceSub, if_true, Nat.reduceLT, Nat.reduceLeDiff, ite_true, ite_false, Nat.reduceEqDiff, if_false, reduceCtorEq, ne_eq, List.getD, List.getElem?_cons_zero, List.getElem?_cons_succ, Option.getD_some, Option.bind_some, Option.map_some, Option.isSome_some, reduceIte, List.length_append, List.append_assoc, List.cons_append, List.nil_append, Option.some.injEq, forall_const, implies_true, Int.reduceNeg, eq_self, Prod.mk.injEq, List.self_eq_append_right, List.append_nil, exists_eq_left, exists_eq_left', exists_and_left, exists_eq_right, exists_and_right]
        intro wa5 hwa5 hwa5'
        have hfresh : ∀ id, idOf (.sl false h1.length 0 1 0 C) id → ¬ InW v vs' id := by
          rintro id ⟨_, rfl⟩ hin; have := hWd.lt hin; omega
        obtain ⟨id, ep, off, o, p1, p2, p3, p4, p5, p6, p7⟩ := wd_put (i := i) (hWd.keep [⟨zrep C [.int .i64 0], 0, 1, true, true⟩]) (by omega) hfresh
        have hlu : lenvA false u = some (.int .i64 (C : Int)) := by rw [hS1.len, hrl]
        have oiv : idxOk 1 v (.int .i64 (i : Int)) := hWd.ns.out.ok (by omega) (by rw [hWd.len]; omega)
        refine WX_seq (WX_st (l := [⟨some 34, .mv (.t 0), none, [], false⟩, ⟨some 35, .mv (.t 1), none, [], false⟩, ⟨some 36, .mv (.t 9), none, [], false⟩, ⟨some 37, .lenv false (.t 36), none, [], false⟩, ⟨some 38, .mksl [.int .i64 0] 8 (.t 37) (.t 37), none, [], false⟩, ⟨some 39, .iad 1 (.t 34) (.t 35), none, [], false⟩]) (a := .t 39) (x := .t 38) (q := false) hwa5 (RG_of hn1 ?_))
        simp (config := {maxSteps := 8000000}) only [e0, e1, e2, e3, e9, e23, e24, e25, hlu, oiv, isPtr_idx oiv, Int.toNat_natCast, SS, bne_self_eq_false, wr_def, obOf, List.all_cons, List.all_nil, List.map_cons, List.map_nil, List.length_cons, List.length_nil, List.take_zero, List.take_succ_cons, List.take_nil, List.drop_zero, List.drop_succ_cons, List.drop_nil, Nat.reduceAdd, Nat.reduceMul, Nat.reduceSub, if_true, Nat.reduceLT, Nat.reduceLeDiff, ite_true, ite_false, Nat.reduceEqDiff, if_false, reduceCtorEq, ne_eq, List.getD, List.getElem?_cons_zero, List.getElem?_cons_succ, Option.getD_some, Option.bind_some, Option.map_some, Option.isSome_some, reduceIte, List.length_append, List.append_assoc, List.cons_append, List.nil_append, Option.some.injEq, forall_const, implies_true, Int.reduceNeg, eq_self, Prod.mk.injEq, List.self_eq_append_right, List.append_nil, exists_eq_left, exists_eq_left', exists_and_left, exists_eq_right, exists_and_right]
        refine ⟨by omega, Int.le_refl _, by unfold appLim; omega, id, ep, off, p1, o, p2, p3, p4, p5, rfl, fun w hw hw' hwid => ?_⟩
        obtain ⟨hX, q2, q3⟩ := p7 rfl rfl
        have hF : FA H.length (stH (h1 ++ [⟨zrep C [.int .i64 0], 0, 1, true, true⟩]) (.ptr id ep off) (.sl false h1.length 0 1 0 C)) (.sl false h1.length 0 1 0 C) gI C (fun _ => 0) := by
          have : FA H.length (h1 ++ [⟨zrep C [.int .i64 0], 0, 1, true, true⟩]) (.sl false h1.length 0 1 0 C) gI C (fun _ => (0 : Int)) := FA.new (g := gI) hn1 []
          exact this.mono fun id' ep' o' hid' ho' => q2 id' ep' o' (fun hx => hfresh id' hid' (Or.inl hx)) ho'
        have hSu : SlL (stH (h1 ++ [⟨zrep C [.int .i64 0], 0, 1, true, true⟩]) (.ptr id ep off) (.sl false h1.length 0 1 0 C)) u intC 1 r := (hS1.keep _).mono fun id' ep' o' hid' ho' => q2 id' ep' o' (hsepu id' hid') ho'
        have hSW : SlL (stH (h1 ++ [⟨zrep C [.int .i64 0], 0, 1, true, true⟩]) (.ptr id ep off) (.sl false h1.length 0 1 0 C)) W intC 1 (cand many i) := (hW1.keep _).mono fun id' ep' o' hid' ho' => q2 id' ep' o' (fun hx => by have := hidW id' hid'; have := hvlt id' hx; omega) ho'
        have hnu : ∀ id', idOf u id' → ¬ idOf (.sl false h1.length 0 1 0 C) id' := by
          rintro id' hid' ⟨_, rfl⟩; have := hS1.idlt hid'; omega
        have hnW : ∀ id', idOf W id' → ¬ idOf (.sl false h1.length 0 1 0 C) id' := by
          rintro id' hid' ⟨_, rfl⟩; have := hW1.idlt hid'; omega
        have hnvid : ∀ id', idOf (.sl false h1.length 0 1 0 C) id' → (H ++ x).length ≤ id' := by rintro id' ⟨_, rfl⟩; exact hFr1.len
        have hFr3 : Fr1 (H ++ x) v vs (vs'.set i (.sl false h1.length 0 1 0 C)) (stH (h1 ++ [⟨zrep C [.int .i64 0], 0, 1, true, true⟩]) (.ptr id ep off) (.sl false h1.length 0 1 0 C)) := by
          refine ⟨by rw [q3]; have := hFr1.len; simp at this ⊢; omega, fun id' hin => ?_, fun id' ep' o' ho' hv' => q2 id' ep' o' hv' (rd_keep (hFr1.keep id' ep' o' ho' hv'))⟩
          rcases hin with h9 | ⟨u', hu', hid'⟩
          · exact Or.inl (Or.inl h9)
          · rcases List.mem_or_eq_of_mem_set hu' with h9 | rfl
            · exact hFr1.inn id' (Or.inr ⟨u', h9, hid'⟩)
            · exact Or.inr (hnvid id' hid')
        have hn3 : H.length ≤ (stH (h1 ++ [⟨zrep C [.int .i64 0], 0, 1, true, true⟩]) (.ptr id ep off) (.sl false h1.length 0 1 0 C)).length := by rw [q3]; simp; omega
        have hwlt : w < H.length + x.length := by have := hvlt id p6; omega
        obtain ⟨hC', hCe⟩ : ∃ x, stH (h1 ++ [⟨zrep C [.int .i64 0], 0, 1, true, true⟩]) (.ptr id ep off) (.sl false h1.length 0 1 0 C) = x := ⟨_, rfl⟩
        rw [hCe] at hX hF hSu hSW hn3 hFr3
        simp only [stH_ptr, cells_sl] at hCe
        rw [hCe]
        clear q2 q3 p7 p1 p2 p3 p4 p5 p6 hwid hfresh hWd hCe
        generalize AV.sl false h1.length 0 1 0 C = nv at *
        refine WX_seq (WX_of hw (wc_sound _ _ _ _ hn3 ?_))
        simp (config := {maxSteps := 8000000}) only [e0, e1, e2, e3, e9, e23, e24, e25, hlu, SS, bne_self_eq_false, wr_def, obOf, List.all_cons, List.all_nil, List.map_cons, List.map_nil, List.length_cons, List.length_nil, List.take_zero, List.take_succ_cons, List.take_nil, List.drop_zero, List.drop_succ_cons, List.drop_nil, Nat.reduceAdd, Nat.reduceMul, Nat.reduceSub, if_true, Nat.reduceLT, Nat.reduceLeDiff, ite_true, ite_false, Nat.reduceEqDiff, if_false, reduceCtorEq, ne_eq, List.getD, List.getElem?_cons_zero, List.getElem?_cons_succ, Option.getD_some, Option.bind_some, Option.map_some, Option.isSome_some, reduceIte, List.length_append, List.append_assoc, List.cons_append, List.nil_append, Option.some.injEq, forall_const, implies_true, Int.reduceNeg, eq_self, Prod.mk.injEq, List.self_eq_append_right, List.append_nil, exists_eq_left, exists_eq_left', exists_and_left, exists_eq_right, exists_and_right]
        -- the row is filled
        refine W_loop (fun q f2 h2 => ∃ m : Nat, q = C - m ∧ m ≤ C ∧ f2 0 = v ∧ f2 1 = .int .i64 (i : Int) ∧ f2 2 = .int .i64 (many : Int) ∧ f2 3 = .int .i64 T ∧ f2 9 = u ∧ f2 11 = .int .i64 (k : Int) ∧ f2 23 = W ∧ f2 24 = .int .i64 ((1 + many : Nat) : Int) ∧ f2 25 = .int .i64 (j : Int) ∧ f2 41 = .int .i64 (C : Int) ∧ f2 42 = .int .i64 (m : Int) ∧ SlL h2 u intC 1 r ∧ SlL h2 W intC 1 (cand many i) ∧ WdX H.length h2 v (vs'.set i nv) rows' i nv ∧ Fr1 (H ++ x) v vs (vs'.set i nv) h2 ∧ FA H.length h2 nv gI C (fun x => if x < m then 1125899906842624 else 0)) hn3 C
          ⟨0, by omega, by omega, by simp only [e0, SS, bne_self_eq_false, wr_def, obOf, List.all_cons, List.all_nil, List.map_cons, List.map_nil, List.length_cons, List.length_nil, List.take_zero, List.take_succ_cons, List.take_nil, List.drop_zero, List.drop_succ_cons, List.drop_nil, Nat.reduceAdd, Nat.reduceMul, Nat.reduceSub, if_true, Nat.reduceLT, Nat.reduceLeDiff, ite_true, ite_false, Nat.reduceEqDiff, if_false, reduceCtorEq, ne_eq, List.getD, List.getElem?_cons_zero, List.getElem?_cons_succ, Option.getD_some, Option.bind_some, Option.map_some, Option.isSome_some, reduceIte, List.length_append, List.append_assoc, List.cons_append, List.nil_append, Option.some.injEq, forall_const, implies_true, Int.reduceNeg, eq_self, Prod.mk.injEq, List.self_eq_append_right, List.append_nil, exists_eq_left, exists_eq_left', exists_and_left, exists_eq_right, exists_and_right], by simp only [e1, SS, bne_self_eq_false, wr_def, obOf, List.all_cons, List.all_nil, List.map_cons, List.map_nil, List.length_cons, List.length_nil, List.take_zero, List.take_succ_cons, List.take_nil, List.drop_zero, List.drop_succ_cons, List.drop_nil, Nat.reduceAdd, Nat.reduceMul, Nat.reduceSub, if_true, Nat.reduceLT, Nat.reduceLeDiff, ite_true, ite_false, Nat.reduceEqDiff, if_false, reduceCtorEq, ne_eq, List.getD, List.getElem?_cons_zero, List.getElem?_cons_succ, Option.getD_some, Option.bind_some, Option.map_some, Option.isSome_some, reduceIte, List.length_append, List.append_assoc, List.cons_append, List.nil_append, Option.some.injEq, forall_const, implies_true, Int.reduceNeg, eq_self, Prod.mk.injEq, List.self_eq_append_right, List.append_nil, exists_eq_left, exists_eq_left', exists_and_left, exists_eq_right, exists_and_right], by simp only [e2, SS, bne_self_eq_false, wr_def, obOf, List.all_cons, List.all_nil, List.map_cons, List.map_nil, List.length_cons, List.length_nil, List.take_zero, List.take_succ_cons, List.take_nil, List.drop_zero, List.drop_succ_cons, List.drop_nil, Nat.reduceAdd, Nat.reduceMul, Nat.reduceSub, if_true, Nat.reduceLT, Nat.reduceLeDiff, ite_true, ite_false, Nat.reduceEqDiff, if_false, reduceCtorEq, ne_eq, List.getD, List.getElem?_cons_zero, List.getElem?_cons_succ, Option.getD_some, Option.bind_some, Option.map_some, Option.isSome_some, reduceIte, List.length_append, List.append_assoc, List.cons_append, List.nil_append, Option.some.injEq, forall_const, implies_true, Int.reduceNeg, eq_self, Prod.mk.injEq, List.self_eq_append_right, List.append_nil, exists_eq_left, exists_eq_left', exists_and_left, exists_eq_right, exists_and_right], by simp only [e3, SS, bne_self_eq_false, wr_def, obOf, List.all_cons, List.all_nil, List.map_cons, List.map_nil, List.length_cons, List.length_nil, List.take_zero, List.take_succ_cons, List.take_nil, List.drop_zero, List.drop_succ_cons, List.drop_nil, Nat.reduceAdd, Nat.reduceMul, Nat.reduceSub, if_true, Nat.reduceLT, Nat.reduceLeDiff, ite_true, ite_false, Nat.reduceEqDiff, if_false, reduceCtorEq, ne_eq, List.getD, List.getElem?_cons_zero, List.getElem?_cons_succ, Option.getD_some, Option.bind_some, Option.map_some, Option.isSome_some, reduceIte, List.length_append, List.append_assoc, List.cons_append, List.nil_append, Option.some.injEq, forall_const, implies_true, Int.reduceNeg, eq_self, Prod.mk.injEq, List.self_eq_append_right, List.append_nil, exists_eq_left, exists_eq_left', exists_and_left, exists_eq_right, exists_and_right], by simp only [e9, SS, bne_self_eq_false, wr_def, obOf, List.all_cons, List.all_nil, List.map_cons, List.map_nil, List.length_cons, List.length_nil, List.take_zero, List.take_succ_cons, List.take_nil, List.drop_zero, List.drop_succ_cons, List.drop_nil, Nat.reduceAdd, Nat.reduceMul, Nat.reduceSub, if_true, Nat.reduceLT, Nat.reduceLeDiff, ite_true, ite_false, Nat.reduceEqDiff, if_false, reduceCtorEq, ne_eq, List.getD, List.getElem?_cons_zero, List.getElem?_cons_succ, Option.getD_some, Option.bind_some, Option.map_some, Option.isSome_some, reduceIte, List.length_append, List.append_assoc, List.cons_append, List.nil_append, Option.some.injEq, forall_const, implies_true, Int.reduceNeg, eq_self, Prod.mk.injEq, List.self_eq_append_right, List.append_nil, exists_eq_left, exists_eq_left', exists_and_left, exists_eq_right, exists_and_right], by simp only [SS, bne_self_eq_false, wr_def, obOf, List.all_cons, List.all_nil, List.map_cons, List.map_nil, List.length_cons, List.length_nil, List.take_zero, List.take_succ_cons, List.take_nil, List.drop_zero, List.drop_succ_cons, List.drop_nil, Nat.reduceAdd, Nat.reduceMul, Nat.reduceSub, if_true, Nat.reduceLT, Nat.reduceLeDiff, ite_true, ite_false, Nat.reduceEqDiff, if_false, reduceCtorEq, ne_eq, List.getD, List.getElem?_cons_zero, List.getElem?_cons_succ, Option.getD_some, Option.bind_some, Option.map_some, Option.isSome_some, reduceIte, List.length_append, List.append_assoc, List.cons_append, List.nil_append, Option.some.injEq, forall_const, implies_true, Int.reduceNeg, eq_self, Prod.mk.injEq, List.self_eq_append_right, List.append_nil, exists_eq_left, exists_eq_left', exists_and_left, exists_eq_right, exists_and_right], by simp only [e23, SS, bne_self_eq_false, wr_def, obOf, List.all_cons, List.all_nil, List.map_cons, List.map_nil, List.length_cons, List.length_nil, List.take_zero, List.take_succ_cons, List.take_nil, List.drop_zero, List.drop_succ_cons, List.drop_nil, Nat.reduceAdd, Nat.reduceMul, Nat.reduceSub, if_true, Nat.reduceLT, Nat.reduceLeDiff, ite_true, ite_false, Nat.reduceEqDiff, if_false, reduceCtorEq, ne_eq, List.getD, List.getElem?_cons_zero, List.getElem?_cons_succ, Option.getD_some, Option.bind_some, Option.map_some, Option.isSome_some, reduceIte, List.length_append, List.append_assoc, List.cons_append, List.nil_append, Option.some.injEq, forall_const, implies_true, Int.reduceNeg, eq_self, Prod.mk.injEq, List.self_eq_append_right, List.append_nil, exists_eq_left, exists_eq_left', exists_and_left, exists_eq_right, exists_and_right], by simp only [e24, SS, bne_self_eq_false, wr_def, obOf, List.all_cons, List.all_nil, List.map_cons, List.map_nil, List.length_cons, List.length_nil, List.take_zero, List.take_succ_cons, List.take_nil, List.drop_zero, List.drop_succ_cons, List.drop_nil, Nat.reduceAdd, Nat.reduceMul, Nat.reduceSub, if_true, Nat.reduceLT, Nat.reduceLeDiff, ite_true, ite_false, Nat.reduceEqDiff, if_false, reduceCtorEq, ne_eq, List.getD, List.getElem?_cons_zero, List.getElem?_cons_succ, Option.getD_some, Option.bind_some, Option.map_some, Option.isSome_some, reduceIte, List.length_append, List.append_assoc, List.cons_append, List.nil_append, Option.some.injEq, forall_const, implies_true, Int.reduceNeg, eq_self, Prod.mk.injEq, List.self_eq_append_right, List.append_nil, exists_eq_left, exists_eq_left', exists_and_left, exists_eq_right, exists_and_right], by simp only [e25, SS, bne_self_eq_false, wr_def, obOf, List.all_cons, List.all_nil, List.map_cons, List.map_nil, List.length_cons, List.length_nil, List.take_zero, List.take_succ_cons, List.take_nil, List.drop_zero, List.drop_succ_cons, List.drop_nil, Nat.reduceAdd, Nat.reduceMul, Nat.reduceSub, if_true, Nat.reduceLT, Nat.reduceLeDiff, ite_true, ite_false, Nat.reduceEqDiff, if_false, reduceCtorEq, ne_eq, List.getD, List.getElem?_cons_zero, List.getElem?_cons_succ, Option.getD_some, Option.bind_some, Option.map_some, Option.isSome_some, reduceIte, List.length_append, List.append_assoc, List.cons_append, List.nil_append, Option.some.injEq, forall_const, implies_true, Int.reduceNeg, eq_self, Prod.mk.injEq, List.self_eq_append_right, List.append_nil, exists_eq_left, exists_eq_left', exists_and_left, exists_eq_right, exists_and_right], by simp only [SS, bne_self_eq_false, wr_def, obOf, List.all_cons, List.all_nil, List.map_cons, List.map_nil, List.length_cons, List.length_nil, List.take_zero, List.take_succ_cons, List.take_nil, List.drop_zero, List.drop_succ_cons, List.drop_nil, Nat.reduceAdd, Nat.reduceMul, Nat.reduceSub, if_true, Nat.reduceLT, Nat.reduceLeDiff, ite_true, ite_false, Nat.reduceEqDiff, if_false, reduceCtorEq, ne_eq, List.getD, List.getElem?_cons_zero, List.getElem?_cons_succ, Option.getD_some, Option.bind_some, Option.map_some, Option.isSome_some, reduceIte, List.length_append, List.append_assoc, List.cons_append, List.nil_append, Option.some.injEq, forall_const, implies_true, Int.reduceNeg, eq_self, Prod.mk.injEq, List.self_eq_append_right, List.append_nil, exists_eq_left, exists_eq_left', exists_and_left, exists_eq_right, exists_and_right], by simp only [SS, bne_self_eq_false, wr_def, obOf, List.all_cons, List.all_nil, List.map_cons, List.map_nil, List.length_cons, List.length_nil, List.take_zero, List.take_succ_cons, List.take_nil, List.drop_zero, List.drop_succ_cons, List.drop_nil, Nat.reduceAdd, Nat.reduceMul, Nat.reduceSub, if_true, Nat.reduceLT, Nat.reduceLeDiff, ite_true, ite_false, Nat.reduceEqDiff, if_false, reduceCtorEq, ne_eq, List.getD, List.getElem?_cons_zero, List.getElem?_cons_succ, Option.getD_some, Option.bind_some, Option.map_some, Option.isSome_some, reduceIte, List.length_append, List.append_assoc, List.cons_append, List.nil_append, Option.some.injEq, forall_const, implies_true, Int.reduceNeg, eq_self, Prod.mk.injEq, List.self_eq_append_right, List.append_nil, exists_eq_left, exists_eq_left', exists_and_left, exists_eq_right, exists_and_right]; rfl, hSu, hSW, hX, hFr3, hF.ext fun _ _ => by simp⟩ ?_
        clear e0 e1 e2 e3 e9 e23 e24 e25 hSu hSW hX hF hn3 hFr3
        rintro q f2 h2 hn4 ht4 ⟨m, rfl, hm, e0, e1, e2, e3, e9, e11, e23, e24, e25, e41, e42, hSu, hSW, hX, hFr, hF⟩
        have oiv2 := hX.ok
        have div2 := hX.ld
        by_cases hmC : m < C
        · have hc2 : decide ((m : Int) < (C : Int)) = true := decide_eq_true (by omega)
          have wm : IntKind.i64.wrap ((m : Int) + 1) = ((m + 1 : Nat) : Int) := by rw [wrap64 (by omega) (by omega)]; omega
          have onv := hF.ok hmC
          have stnv := hF.stOk hmC (1125899906842624 : Int)
          obtain ⟨s1, s2, s3⟩ := hF.st hmC (1125899906842624 : Int)
          have s4 := hF.stTake m (1125899906842624 : Int)
          simp only [gI] at stnv s1 s2 s3 s4
          simp (config := {maxSteps := 8000000}) only [e0, e1, e2, e3, e9, e11, e23, e24, e25, e41, e42, hc2, wm, oiv2, isPtr_idx oiv2, div2, onv, isPtr_idx onv, stnv, SS, bne_self_eq_false, wr_def, obOf, List.all_cons, List.all_nil, List.map_cons, List.map_nil, List.length_cons, List.length_nil, List.take_zero, List.take_succ_cons, List.take_nil, List.drop_zero, List.drop_succ_cons, List.drop_nil, Nat.reduceAdd, Nat.reduceMul, Nat.reduceSub, if_true, Nat.reduceLT, Nat.reduceLeDiff, ite_true, ite_false, Nat.reduceEqDiff, if_false, reduceCtorEq, ne_eq, List.getD, List.getElem?_cons_zero, List.getElem?_cons_succ, Option.getD_some, Option.bind_some, Option.map_some, Option.isSome_some, reduceIte, List.length_append, List.append_assoc, List.cons_append, List.nil_append, Option.some.injEq, forall_const, implies_true, Int.reduceNeg, eq_self, Prod.mk.injEq, List.self_eq_append_right, List.append_nil, exists_eq_left, exists_eq_left', exists_and_left, exists_eq_right, exists_and_right]
          refine ⟨_, by omega, m + 1, rfl, by omega, rfl, hSu.mono fun id' ep' o' hid' ho' => s2 id' ep' o' (hnu id' hid') ho', hSW.mono fun id' ep' o' hid' ho' => s2 id' ep' o' (hnW id' hid') ho', hX.mono s2, hFr.st hnvid s3 s2, s1.ext fun y hy => ?_⟩
          unfold upd
          by_cases hym : y = m
          · rw [if_pos hym, if_pos (by omega)]
          · rw [if_neg hym]
            dsimp only
            by_cases hyl : y < m
            · rw [if_pos hyl, if_pos (by omega)]
            · rw [if_neg hyl, if_neg (by omega)]
        · have hc2 : decide ((m : Int) < (C : Int)) = false := decide_eq_false (by omega)
          have hmE : m = C := by omega
          subst hmE
          simp (config := {maxSteps := 8000000}) only [e0, e1, e2, e3, e9, e11, e23, e24, e25, e41, e42, hc2, SS, bne_self_eq_false, wr_def, obOf, List.all_cons, List.all_nil, List.map_cons, List.map_nil, List.length_cons, List.length_nil, List.take_zero, List.take_succ_cons, List.take_nil, List.drop_zero, List.drop_succ_cons, List.drop_nil, Nat.reduceAdd, Nat.reduceMul, Nat.reduceSub, if_true, Nat.reduceLT, Nat.reduceLeDiff, ite_true, ite_false, Nat.reduceEqDiff, if_false, reduceCtorEq, ne_eq, List.getD, List.getElem?_cons_zero, List.getElem?_cons_succ, Option.getD_some, Option.bind_some, Option.map_some, Option.isSome_some, reduceIte, List.length_append, List.append_assoc, List.cons_append, List.nil_append, Option.some.injEq, forall_const, implies_true, Int.reduceNeg, eq_self, Prod.mk.injEq, List.self_eq_append_right, List.append_nil, exists_eq_left, exists_eq_left', exists_and_left, exists_eq_right, exists_and_right]
          intro wa6 hwa6 hwa6'
          have onv := hF.ok hkC
          have stnv := hF.stOk hkC (mF rows i k)
          obtain ⟨s1, s2, s3⟩ := hF.st hkC (mF rows i k)
          have s4 := hF.stTake k (mF rows i k)
          have ou2 : idxOk 1 u (.int .i64 (k : Int)) := hSu.ok (by omega) (by omega)
          have du2 : ld1A h2 (idxV 1 u (.int .i64 (k : Int))) = some (.int .i64 (mF rows i k)) := by rw [hSu.ld0 (x := mF rows i k) (by omega) (by simpa using hrF k hkC)]; rfl
          simp only [gI] at stnv s1 s2 s3 s4
          have t1 := hSu.mono fun id' ep' o' hid' ho' => s2 id' ep' o' (hnu id' hid') ho'
          have t2 := hSW.mono fun id' ep' o' hid' ho' => s2 id' ep' o' (hnW id' hid') ho'
          have t3 := hX.mono s2
          have t4 := hFr.st hnvid s3 s2
          refine WX_seq (WX_of hwa6 (wc_sound _ _ _ _ hn4 ?_))
          simp (config := {maxSteps := 8000000}) only [e0, e1, e2, e3, e9, e11, e23, e24, e25, oiv2, isPtr_idx oiv2, div2, onv, isPtr_idx onv, ou2, isPtr_idx ou2, du2, stnv, SS, bne_self_eq_false, wr_def, obOf, List.all_cons, List.all_nil, List.map_cons, List.map_nil, List.length_cons, List.length_nil, List.take_zero, List.take_succ_cons, List.take_nil, List.drop_zero, List.drop_succ_cons, List.drop_nil, Nat.reduceAdd, Nat.reduceMul, Nat.reduceSub, if_true, Nat.reduceLT, Nat.reduceLeDiff, ite_true, ite_false, Nat.reduceEqDiff, if_false, reduceCtorEq, ne_eq, List.getD, List.getElem?_cons_zero, List.getElem?_cons_succ, Option.getD_some, Option.bind_some, Option.map_some, Option.isSome_some, reduceIte, List.length_append, List.append_assoc, List.cons_append, List.nil_append, Option.some.injEq, forall_const, implies_true, Int.reduceNeg, eq_self, Prod.mk.injEq, List.self_eq_append_right, List.append_nil, exists_eq_left, exists_eq_left', exists_and_left, exists_eq_right, exists_and_right]
          intro wa7 hwa7 hwa7'
          generalize stH h2 (idxV 1 nv (.int .i64 (k : Int))) (.int .i64 (mF rows i k)) = h5 at *
          have hn5 : H.length ≤ h5.length := by rw [s3]; exact hn4
          have hAr : Arr H.length h5 nv gI (single m k (mF rows i k)) := by
            refine FA.ext (f' := fun j => if j = k then mF rows i k else 1125899906842624) s1 fun y hy => ?_
            unfold upd
            by_cases hyk : y = k
            · rw [if_pos hyk, if_pos hyk]
            · rw [if_neg hyk, if_neg hyk]
              dsimp only
              rw [if_pos hy]
          have hIs := hAr.isl (by rw [single_len]; omega)
          have hWd5 := t3.wd hIs
          have hsame : rows'.set i (single m k (mF rows i k)) = rows.set i (single m k (mF rows i k)) := by
            apply List.ext_getElem?
            intro a
            rw [List.getElem?_set, List.getElem?_set, hlen']
            by_cases hia : i = a
            · rw [if_pos hia, if_pos hia]
            · rw [if_neg hia, if_neg hia]; exact hoth a fun h => hia h.symm
          rw [hsame] at hWd5
          have hM5 : ∀ a b, 0 ≤ mF (rows.set i (single m k (mF rows i k))) a b ∧ mF (rows.set i (single m k (mF rows i k))) a b ≤ 1125899906842624 := by
            intro a b
            rw [mF_set hi]
            split
            · by_cases hb' : b < m
              · rw [single_get hb']
                simp only [Option.getD_some]
                split
                · exact hb i k
                · omega
              · rw [List.getElem?_eq_none (by rw [single_len]; omega)]
                simp
            · exact hb a b
          have hCl5 : ∀ r ∈ rows.set i (single m k (mF rows i k)), r.length = m := by
            intro r' hr'
            rcases List.mem_or_eq_of_mem_set hr' with h9 | rfl
            · exact hCl r' h9
            · exact single_len
          have mx5 := hWd5.ns.mx hCl5
          rw [List.length_set] at mx5
          obtain ⟨T', L', htot⟩ := total_ex hM5 mx5 (by omega) hC
          have htp := pcall_some.2 htot
          by_cases hTT : T' = T
          · subst hTT
            have hb2 : (T' == T') = true := by simp
            have hlast : k ≠ many + i → mF rows i (many + i) = 1125899906842624 ∨ ¬ Least (mF (rows.set i (single m (many + i) (mF rows i (many + i))))) rows.length m T' := by
              intro hne
              have hj0 : 0 < j := by
                rcases Nat.eq_zero_or_pos j with h0 | h0
                · subst h0
                  have h8 : (((many + i : Nat) : Int)) = (k : Int) := by simpa [cand] using hk
                  omega
                · exact h0
              exact hist 0 (many + i) hj0 rfl
            by_cases hkm : k < many
            · have hb3 : decide ((k : Int) < (many : Int)) = true := decide_eq_true (by omega)
              refine WX_of hwa7 (wc_sound _ _ _ _ hn5 ?_)
              simp (config := {maxSteps := 8000000}) only [e0, e1, e2, e3, e9, e11, e23, e24, e25, htp, hb2, hb3, c49, SS, bne_self_eq_false, wr_def, obOf, List.all_cons, List.all_nil, List.map_cons, List.map_nil, List.length_cons, List.length_nil, List.take_zero, List.take_succ_cons, List.take_nil, List.drop_zero, List.drop_succ_cons, List.drop_nil, Nat.reduceAdd, Nat.reduceMul, Nat.reduceSub, if_true, Nat.reduceLT, Nat.reduceLeDiff, ite_true, ite_false, Nat.reduceEqDiff, if_false, reduceCtorEq, ne_eq, List.getD, List.getElem?_cons_zero, List.getElem?_cons_succ, Option.getD_some, Option.bind_some, Option.map_some, Option.isSome_some, reduceIte, List.length_append, List.append_assoc, List.cons_append, List.nil_append, Option.some.injEq, forall_const, implies_true, Int.reduceNeg, eq_self, Prod.mk.injEq, List.self_eq_append_right, List.append_nil, exists_eq_left, exists_eq_left', exists_and_left, exists_eq_right, exists_and_right]
              exact ⟨hn5, fun wa' h1 h2 => ⟨by omega, k, hkC, by rw [if_pos hkm], hnev, L', ⟨_, hWd5, t4⟩, hlast⟩⟩
            · have hb3 : decide ((k : Int) < (many : Int)) = false := decide_eq_false (by omega)
              refine WX_of hwa7 (wc_sound _ _ _ _ hn5 ?_)
              simp (config := {maxSteps := 8000000}) only [e0, e1, e2, e3, e9, e11, e23, e24, e25, htp, hb2, hb3, c49, SS, bne_self_eq_false, wr_def, obOf, List.all_cons, List.all_nil, List.map_cons, List.map_nil, List.length_cons, List.length_nil, List.take_zero, List.take_succ_cons, List.take_nil, List.drop_zero, List.drop_succ_cons, List.drop_nil, Nat.reduceAdd, Nat.reduceMul, Nat.reduceSub, if_true, Nat.reduceLT, Nat.reduceLeDiff, ite_true, ite_false, Nat.reduceEqDiff, if_false, reduceCtorEq, ne_eq, List.getD, List.getElem?_cons_zero, List.getElem?_cons_succ, Option.getD_some, Option.bind_some, Option.map_some, Option.isSome_some, reduceIte, List.length_append, List.append_assoc, List.cons_append, List.nil_append, Option.some.injEq, forall_const, implies_true, Int.reduceNeg, eq_self, Prod.mk.injEq, List.self_eq_append_right, List.append_nil, exists_eq_left, exists_eq_left', exists_and_left, exists_eq_right, exists_and_right]
              exact ⟨hn5, fun wa' h1 h2 => ⟨by omega, k, hkC, by rw [if_neg hkm], hnev, L', ⟨_, hWd5, t4⟩, hlast⟩⟩
          · have hb2 : (T' == T) = false := by rw [beq_eq_false_iff_ne]; exact hTT
            have hnL : ¬ Least (mF (rows.set i (single m k (mF rows i k)))) rows.length m T := fun hL => by
              obtain ⟨⟨σ, hI, hs⟩, hmin⟩ := hL
              obtain ⟨⟨τ, hJ, ht⟩, hmin'⟩ := L'
              have := hmin τ hJ
              have := hmin' σ hI
              omega
            refine WX_of hwa7 (wc_sound _ _ _ _ hn5 ?_)
            simp (config := {maxSteps := 8000000}) only [e0, e1, e2, e3, e9, e11, e23, e24, e25, htp, hb2, wj, SS, bne_self_eq_false, wr_def, obOf, List.all_cons, List.all_nil, List.map_cons, List.map_nil, List.length_cons, List.length_nil, List.take_zero, List.take_succ_cons, List.take_nil, List.drop_zero, List.drop_succ_cons, List.drop_nil, Nat.reduceAdd, Nat.reduceMul, Nat.reduceSub, if_true, Nat.reduceLT, Nat.reduceLeDiff, ite_true, ite_false, Nat.reduceEqDiff, if_false, reduceCtorEq, ne_eq, List.getD, List.getElem?_cons_zero, List.getElem?_cons_succ, Option.getD_some, Option.bind_some, Option.map_some, Option.isSome_some, reduceIte, List.length_append, List.append_assoc, List.cons_append, List.nil_append, Option.some.injEq, forall_const, implies_true, Int.reduceNeg, eq_self, Prod.mk.injEq, List.self_eq_append_right, List.append_nil, exists_eq_left, exists_eq_left', exists_and_left, exists_eq_right, exists_and_right]
            refine ⟨hn5, fun wa8 hwa8 hwa8' => WX_of hwa8 (wc_sound _ _ _ _ hn5 ?_)⟩
            simp (config := {maxSteps := 8000000}) only [e0, e1, e2, e3, e9, e11, e23, e24, e25, wj, SS, bne_self_eq_false, wr_def, obOf, List.all_cons, List.all_nil, List.map_cons, List.map_nil, List.length_cons, List.length_nil, List.take_zero, List.take_succ_cons, List.take_nil, List.drop_zero, List.drop_succ_cons, List.drop_nil, Nat.reduceAdd, Nat.reduceMul, Nat.reduceSub, if_true, Nat.reduceLT, Nat.reduceLeDiff, ite_true, ite_false, Nat.reduceEqDiff, if_false, reduceCtorEq, ne_eq, List.getD, List.getElem?_cons_zero, List.getElem?_cons_succ, Option.getD_some, Option.bind_some, Option.map_some, Option.isSome_some, reduceIte, List.length_append, List.append_assoc, List.cons_append, List.nil_append, Option.some.injEq, forall_const, implies_true, Int.reduceNeg, eq_self, Prod.mk.injEq, List.self_eq_append_right, List.append_nil, exists_eq_left, exists_eq_left', exists_and_left, exists_eq_right, exists_and_right]
            exact fun wa' h1 h2 => ⟨_, by omega, j + 1, rfl, by omega, rfl, t1, t2, ⟨_, _, hWd5, t4, by rw [List.length_set], fun a ha => by rw [List.getElem?_set_ne (fun h => ha h.symm)]⟩, histS (Or.inr hnL)⟩
    · exfalso
      have : j = many + 1 := by omega
      subst this
      obtain ⟨k, hk, ⟨σ, hI, hT', hσ⟩, hL⟩ := single_ex hi (fun k hk => (hb i k).2) L
      have hlt : mF rows i k < 1125899906842624 := by
        have := (sumN_ge (f := fun a => mF rows a (σ a)) (fun a _ => (hb a _).1) i hi).1
        rw [← hT'] at this
        rw [hσ] at this; omega
      have hkc : k = many + i ∨ k < many := by
        by_cases h1 : k < many
        · exact Or.inr h1
        · by_cases h2 : k = many + i
          · exact Or.inl h2
          · have := hpriv k (by omega) hk h2; omega
      obtain ⟨j', hj', hg⟩ := cand_mem hkc
      rcases hist j' k hj' hg with h | h
      · omega
      · exact h hL
  obtain ⟨v', h', wl, wa, k1, k2, k3, k4, k5, k, k6, rfl, k7, k8, k9, k10⟩ := call_mutX e49 rfl (Nat.le_of_ble_eq_true rfl) (by simp) key
  exact ⟨h', wl, wa, k, k6, k1, k2, k3, k4, by rw [k5]; simp, k7, k8, k9, k10⟩
end Go.Proofs.Ytaekgifbehoipaa.Hg
/- What Best of the package assign answer. Conditions stand in each lemma. -/
namespace Go.Proofs.Ytaekgifbehoipaa.Hg
open Go Go.Proofs.Ytaekgifbehoipaa.Eva Go.Proofs.Ytaekgifbehoipaa.CodeAll Go.Proofs.Ytaekgifbehoipaa.Fl
set_option linter.unusedVariables false
set_option linter.unusedSimpArgs false
set_option maxRecDepth 10000
set_option maxHeartbeats 4000000

theorem sq_mx {n0 : Nat} {H : List Ob} {v : AV} {vs : List AV} {rows : List (List Int)} {n : Nat} {miss : Int} (hC : ∀ r ∈ rows, RowOk n r) (hm0 : 0 ≤ miss) (hm1 : miss ≤ 1099511627776) (hR : rows.length ≤ 32) (hn : n ≤ 32) (W : Wd n0 H v vs (sqTo rows miss rows.length)) :
    ∃ T, Least (mF (sqTo rows miss rows.length)) rows.length (n + rows.length) T ∧ pcall E 48 [v] H = some (.int .i64 T) := by
  have mx := W.ns.mx (sq_row_len hC)
  rw [sqTo_len] at mx
  obtain ⟨T, L, h⟩ := total_ex (sq_bd hC hm0 hm1) mx (by omega) (by omega)
  exact ⟨T, L, pcall_some.2 h⟩
/-- There is a width that is small. -/
theorem ok_n {rows : List (List Int)} {miss : Int} (hok : Ok rows miss) : ∃ n, n ≤ 32 ∧ ∀ r ∈ rows, RowOk n r := by
  obtain ⟨hR, ⟨n, hC⟩, _⟩ := hok
  cases rows with
  | nil => exact ⟨0, by omega, fun r hr => by cases hr⟩
  | cons r l =>
    obtain ⟨h1, h2, _⟩ := hC r (by simp)
    exact ⟨n, by omega, hC⟩
def outL (n : Nat) (ks : Nat → Nat) (i : Nat) : List Int := (List.range i).map fun a => if ks a < n then (ks a : Int) else -1
theorem outL_len {n i : Nat} {ks : Nat → Nat} : (outL n ks i).length = i := by simp [outL]
theorem outL_get {n i a : Nat} {ks : Nat → Nat} (h : a < i) : (outL n ks i)[a]? = some (if ks a < n then (ks a : Int) else -1) := by simp [outL, h]
theorem outL_succ {n i k : Nat} {ks : Nat → Nat} : outL n (fun a => if a = i then k else ks a) (i + 1) = outL n ks i ++ [if k < n then (k : Int) else -1] := by
  unfold outL
  rw [List.range_succ, List.map_append]
  congr 1
  · apply List.map_congr_left
    intro a ha
    have : a ≠ i := by have := List.mem_range.1 ha; omega
    simp [this]
  · simp
theorem fin_list3 {n0 : Nat} {h : List Ob} {v : AV} {sz k : Nat} {cs : List AV} {n : Nat} {f : Fr} {a b : Int} (H : IsL n0 h v sz true cs k) :
    fin n0 (mkRes [v, .int .i64 a, .int .i64 b]) (stt n f h n0 n0) = (.tup [outV n0 sz k, .int .i64 a, .int .i64 b], h.take n0 ++ outO sz k cs, n0, n0) := fin_list H [.int .i64 a, .int .i64 b] rfl
theorem best_err {H : List Ob} {V : AV} {vs : List AV} {rows : List (List Int)} (A : NsL H V vs rows) {miss : Int} (hno : ¬ Ok rows miss) :
    ∃ e, e ≠ 0 ∧ ecall E 13 [V, .int .i64 miss] H = some (.tup [.sl true 0 0 0 0 0, .int .i64 0, .int .i64 e], H, H.length, H.length) := by
  obtain ⟨e, he, hc⟩ := check_ex A miss
  have hne : e ≠ 0 := fun h => hno (he.1 h)
  have hck := pcall_some.2 hc
  have hb : (e != 0) = true := by rw [bne_iff_ne]; exact hne
  have key : wc E H.length c13.nt c13.code (fun x f h' => exOk x = true ∧ rvq c13.nt f h' c13.res = some [.sl true 0 0 0 0 0, .int .i64 0, .int .i64 e]) (ofL [V, .int .i64 miss]) H := by
    simp (config := {maxSteps := 8000000}) only [c13, hck, hb, SS, bne_self_eq_false, wr_def, obOf, List.all_cons, List.all_nil, List.map_cons, List.map_nil, List.length_cons, List.length_nil, List.take_zero, List.take_succ_cons, List.take_nil, List.drop_zero, List.drop_succ_cons, List.drop_nil, Nat.reduceAdd, Nat.reduceMul, Nat.reduceSub, if_true, Nat.reduceLT, Nat.reduceLeDiff, ite_true, ite_false, Nat.reduceEqDiff, if_false, reduceCtorEq, ne_eq, List.getD, List.getElem?_cons_zero, List.getElem?_cons_succ, Option.getD_some, Option.bind_some, Option.map_some, Option.isSome_some, reduceIte, List.length_append, List.append_assoc, List.cons_append, List.nil_append, Option.some.injEq, forall_const, implies_true, Int.reduceNeg, eq_self, Prod.mk.injEq, List.self_eq_append_right, List.append_nil, exists_eq_left, exists_eq_left', exists_and_left, exists_eq_right, exists_and_right]
  refine ⟨e, hne, ?_⟩
  obtain ⟨x, f', h', k1, k2, ⟨k3, k4⟩, k6⟩ := call_wc e13 rfl (Nat.le_of_ble_eq_true rfl) key
  rw [k6 _ k3 k4, fin_list3 (sz := 1) (IsL.nil (n0 := H.length) (h := h') (sz := 1) (fl := true)), k2]
  simp [outV, outO]
theorem best_ok {H : List Ob} {V : AV} {vs : List AV} {rows : List (List Int)} (A : NsL H V vs rows) (hf : ∀ u ∈ vs, FgL H u) {miss : Int} (hok : Ok rows miss) :
    ∃ n T τs, n ≤ 32 ∧ (∀ r ∈ rows, RowOk n r) ∧ LeastP rows n miss T ∧ T ≤ 35184372088832 ∧ τs.length = rows.length ∧ Val rows n (fun i => (τs[i]?).getD (-1)) ∧ costOf rows miss (fun i => (τs[i]?).getD (-1)) = T ∧ (miss = 0 → ∀ t ∈ τs, t = -1) ∧
      ecall E 13 [V, .int .i64 miss] H = some (.tup [outV H.length 1 rows.length, .int .i64 T, .int .i64 0], H ++ outO 1 rows.length (flat intC τs), H.length, H.length) := by
  obtain ⟨n, hn, hC⟩ := ok_n hok
  have hR := hok.1
  have hm0 := hok.2.2.1
  have hm1 := hok.2.2.2
  obtain ⟨v, vs0, y, hW0, hsq⟩ := square_ex A hf hok
  obtain ⟨T, L, htp⟩ := sq_mx hC hm0 hm1 hR hn hW0
  obtain ⟨hLP, hT⟩ := least_sq (rok_len hC) hm0 hm1 hR L
  obtain ⟨e, he, hc⟩ := check_ex A miss
  have he0 := he.2 hok
  subst he0
  have hck := pcall_some.2 hc
  have hsn := ncall_some.2 hsq
  have hlen := A.out.len
  rw [A.len] at hlen
  have key : wc E H.length c13.nt c13.code (fun x f h' => exOk x = true ∧ ∃ u, rvq c13.nt f h' c13.res = some [u, .int .i64 T, .int .i64 0] ∧ ∃ ks cur, Bs rows n miss T rows.length ks cur ∧ IsL H.length h' u 1 true (flat intC (outL n ks rows.length)) rows.length) (ofL [V, .int .i64 miss]) H := by
    simp (config := {maxSteps := 8000000}) only [c13, hck, rg_calln, ncallV_fn, hsn, htp, hlen, SS, bne_self_eq_false, wr_def, obOf, List.all_cons, List.all_nil, List.map_cons, List.map_nil, List.length_cons, List.length_nil, List.take_zero, List.take_succ_cons, List.take_nil, List.drop_zero, List.drop_succ_cons, List.drop_nil, Nat.reduceAdd, Nat.reduceMul, Nat.reduceSub, if_true, Nat.reduceLT, Nat.reduceLeDiff, ite_true, ite_false, Nat.reduceEqDiff, if_false, reduceCtorEq, ne_eq, List.getD, List.getElem?_cons_zero, List.getElem?_cons_succ, Option.getD_some, Option.bind_some, Option.map_some, Option.isSome_some, reduceIte, List.length_append, List.append_assoc, List.cons_append, List.nil_append, Option.some.injEq, forall_const, implies_true, Int.reduceNeg, eq_self, Prod.mk.injEq, List.self_eq_append_right, List.append_nil, exists_eq_left, exists_eq_left', exists_and_left, exists_eq_right, exists_and_right]
    refine W_loopW (fun q f1 h1 => ∃ i : Nat, q = rows.length - i ∧ i ≤ rows.length ∧ f1 0 = V ∧ f1 8 = v ∧ f1 9 = .int .i64 T ∧ f1 24 = .int .i64 (rows.length : Int) ∧ f1 25 = .int .i64 (i : Int) ∧ ∃ ks cur vs', Bs rows n miss T i ks cur ∧ Wd H.length h1 v vs' cur ∧ IsL H.length h1 (f1 10) 1 true (flat intC (outL n ks i)) i ∧ ∀ id, idOf (f1 10) id → ¬ InW v vs' id) (by simp) rows.length
      ⟨0, rfl, by omega, by simp only [SS, bne_self_eq_false, wr_def, obOf, List.all_cons, List.all_nil, List.map_cons, List.map_nil, List.length_cons, List.length_nil, List.take_zero, List.take_succ_cons, List.take_nil, List.drop_zero, List.drop_succ_cons, List.drop_nil, Nat.reduceAdd, Nat.reduceMul, Nat.reduceSub, if_true, Nat.reduceLT, Nat.reduceLeDiff, ite_true, ite_false, Nat.reduceEqDiff, if_false, reduceCtorEq, ne_eq, List.getD, List.getElem?_cons_zero, List.getElem?_cons_succ, Option.getD_some, Option.bind_some, Option.map_some, Option.isSome_some, reduceIte, List.length_append, List.append_assoc, List.cons_append, List.nil_append, Option.some.injEq, forall_const, implies_true, Int.reduceNeg, eq_self, Prod.mk.injEq, List.self_eq_append_right, List.append_nil, exists_eq_left, exists_eq_left', exists_and_left, exists_eq_right, exists_and_right], by simp only [SS, bne_self_eq_false, wr_def, obOf, List.all_cons, List.all_nil, List.map_cons, List.map_nil, List.length_cons, List.length_nil, List.take_zero, List.take_succ_cons, List.take_nil, List.drop_zero, List.drop_succ_cons, List.drop_nil, Nat.reduceAdd, Nat.reduceMul, Nat.reduceSub, if_true, Nat.reduceLT, Nat.reduceLeDiff, ite_true, ite_false, Nat.reduceEqDiff, if_false, reduceCtorEq, ne_eq, List.getD, List.getElem?_cons_zero, List.getElem?_cons_succ, Option.getD_some, Option.bind_some, Option.map_some, Option.isSome_some, reduceIte, List.length_append, List.append_assoc, List.cons_append, List.nil_append, Option.some.injEq, forall_const, implies_true, Int.reduceNeg, eq_self, Prod.mk.injEq, List.self_eq_append_right, List.append_nil, exists_eq_left, exists_eq_left', exists_and_left, exists_eq_right, exists_and_right], by simp only [SS, bne_self_eq_false, wr_def, obOf, List.all_cons, List.all_nil, List.map_cons, List.map_nil, List.length_cons, List.length_nil, List.take_zero, List.take_succ_cons, List.take_nil, List.drop_zero, List.drop_succ_cons, List.drop_nil, Nat.reduceAdd, Nat.reduceMul, Nat.reduceSub, if_true, Nat.reduceLT, Nat.reduceLeDiff, ite_true, ite_false, Nat.reduceEqDiff, if_false, reduceCtorEq, ne_eq, List.getD, List.getElem?_cons_zero, List.getElem?_cons_succ, Option.getD_some, Option.bind_some, Option.map_some, Option.isSome_some, reduceIte, List.length_append, List.append_assoc, List.cons_append, List.nil_append, Option.some.injEq, forall_const, implies_true, Int.reduceNeg, eq_self, Prod.mk.injEq, List.self_eq_append_right, List.append_nil, exists_eq_left, exists_eq_left', exists_and_left, exists_eq_right, exists_and_right], by simp only [SS, bne_self_eq_false, wr_def, obOf, List.all_cons, List.all_nil, List.map_cons, List.map_nil, List.length_cons, List.length_nil, List.take_zero, List.take_succ_cons, List.take_nil, List.drop_zero, List.drop_succ_cons, List.drop_nil, Nat.reduceAdd, Nat.reduceMul, Nat.reduceSub, if_true, Nat.reduceLT, Nat.reduceLeDiff, ite_true, ite_false, Nat.reduceEqDiff, if_false, reduceCtorEq, ne_eq, List.getD, List.getElem?_cons_zero, List.getElem?_cons_succ, Option.getD_some, Option.bind_some, Option.map_some, Option.isSome_some, reduceIte, List.length_append, List.append_assoc, List.cons_append, List.nil_append, Option.some.injEq, forall_const, implies_true, Int.reduceNeg, eq_self, Prod.mk.injEq, List.self_eq_append_right, List.append_nil, exists_eq_left, exists_eq_left', exists_and_left, exists_eq_right, exists_and_right], by simp only [SS, bne_self_eq_false, wr_def, obOf, List.all_cons, List.all_nil, List.map_cons, List.map_nil, List.length_cons, List.length_nil, List.take_zero, List.take_succ_cons, List.take_nil, List.drop_zero, List.drop_succ_cons, List.drop_nil, Nat.reduceAdd, Nat.reduceMul, Nat.reduceSub, if_true, Nat.reduceLT, Nat.reduceLeDiff, ite_true, ite_false, Nat.reduceEqDiff, if_false, reduceCtorEq, ne_eq, List.getD, List.getElem?_cons_zero, List.getElem?_cons_succ, Option.getD_some, Option.bind_some, Option.map_some, Option.isSome_some, reduceIte, List.length_append, List.append_assoc, List.cons_append, List.nil_append, Option.some.injEq, forall_const, implies_true, Int.reduceNeg, eq_self, Prod.mk.injEq, List.self_eq_append_right, List.append_nil, exists_eq_left, exists_eq_left', exists_and_left, exists_eq_right, exists_and_right]; rfl, _, _, vs0, Bs.init hC hm0 hm1 L, hW0, by simp only [SS, bne_self_eq_false, wr_def, obOf, List.all_cons, List.all_nil, List.map_cons, List.map_nil, List.length_cons, List.length_nil, List.take_zero, List.take_succ_cons, List.take_nil, List.drop_zero, List.drop_succ_cons, List.drop_nil, Nat.reduceAdd, Nat.reduceMul, Nat.reduceSub, if_true, Nat.reduceLT, Nat.reduceLeDiff, ite_true, ite_false, Nat.reduceEqDiff, if_false, reduceCtorEq, ne_eq, List.getD, List.getElem?_cons_zero, List.getElem?_cons_succ, Option.getD_some, Option.bind_some, Option.map_some, Option.isSome_some, reduceIte, List.length_append, List.append_assoc, List.cons_append, List.nil_append, Option.some.injEq, forall_const, implies_true, Int.reduceNeg, eq_self, Prod.mk.injEq, List.self_eq_append_right, List.append_nil, exists_eq_left, exists_eq_left', exists_and_left, exists_eq_right, exists_and_right]; exact IsL.nil, by simp only [SS, bne_self_eq_false, wr_def, obOf, List.all_cons, List.all_nil, List.map_cons, List.map_nil, List.length_cons, List.length_nil, List.take_zero, List.take_succ_cons, List.take_nil, List.drop_zero, List.drop_succ_cons, List.drop_nil, Nat.reduceAdd, Nat.reduceMul, Nat.reduceSub, if_true, Nat.reduceLT, Nat.reduceLeDiff, ite_true, ite_false, Nat.reduceEqDiff, if_false, reduceCtorEq, ne_eq, List.getD, List.getElem?_cons_zero, List.getElem?_cons_succ, Option.getD_some, Option.bind_some, Option.map_some, Option.isSome_some, reduceIte, List.length_append, List.append_assoc, List.cons_append, List.nil_append, Option.some.injEq, forall_const, implies_true, Int.reduceNeg, eq_self, Prod.mk.injEq, List.self_eq_append_right, List.append_nil, exists_eq_left, exists_eq_left', exists_and_left, exists_eq_right, exists_and_right]; exact fun id hid => absurd hid idOf_nil⟩ ?_
    rintro q f1 h1 hn1 ht ⟨i, rfl, hi, e0, e8, e9, e24, e25, ks, cur, vs', B, hW, hI, hsep⟩
    rw [List.take_left] at ht
    have hH := take_eq ht
    generalize h1.drop H.length = x at hH
    subst hH
    have hw1 : IntKind.i64.wrap ((i : Int) + 1) = ((i + 1 : Nat) : Int) := by rw [wrap64 (by omega) (by omega)]; omega
    generalize he10 : f1 10 = vo at *
    by_cases hiR : i < rows.length
    · have hc1 : decide ((i : Int) < (rows.length : Int)) = true := decide_eq_true (by omega)
      obtain ⟨u, r, hr, hu, S, d1, o1⟩ := A.row hiR
      have hrl : r.length = n := rok_len hC r (List.mem_of_getElem? hr)
      have hlu : lenvA false u = some (.int .i64 (n : Int)) := by rw [S.len, hrl]
      have hici : ∀ k, mF cur i k = mF (sqTo rows miss rows.length) i k := fun k => mF_row (B.rest i (Nat.le_refl _))
      have hLc : Least (mF cur) cur.length (n + rows.length) T := by rw [B.len]; exact B.L
      obtain ⟨h2, wl, wa, k, g1, g2, g3, g4, g5, g6, g7, g8, ⟨vs2, g9, g10⟩, g11⟩ := choose_ex (many := n) (C := n + rows.length) hW B.cl B.bd (by rw [B.len]; exact hiR) (by rw [B.len]) (by omega) (fun k h1 h2 h3 => by
        have e1 : k = n + (k - n) := by omega
        rw [hici, e1, sq_priv (rok_len hC) hiR (by omega)]
        unfold priv
        rw [if_neg (by omega)]) hLc (by omega)
      rw [B.len] at g8 g11
      have B2 := B.step hC hm0 hm1 hLP hiR g1 g7 g8 g11
      refine W_seqI (wc_sound _ _ _ _ hn1 ?_)
      simp (config := {maxSteps := 8000000}) only [e0, e8, e9, e24, e25, he10, hc1, SS, bne_self_eq_false, wr_def, obOf, List.all_cons, List.all_nil, List.map_cons, List.map_nil, List.length_cons, List.length_nil, List.take_zero, List.take_succ_cons, List.take_nil, List.drop_zero, List.drop_succ_cons, List.drop_nil, Nat.reduceAdd, Nat.reduceMul, Nat.reduceSub, if_true, Nat.reduceLT, Nat.reduceLeDiff, ite_true, ite_false, Nat.reduceEqDiff, if_false, reduceCtorEq, ne_eq, List.getD, List.getElem?_cons_zero, List.getElem?_cons_succ, Option.getD_some, Option.bind_some, Option.map_some, Option.isSome_some, reduceIte, List.length_append, List.append_assoc, List.cons_append, List.nil_append, Option.some.injEq, forall_const, implies_true, Int.reduceNeg, eq_self, Prod.mk.injEq, List.self_eq_append_right, List.append_nil, exists_eq_left, exists_eq_left', exists_and_left, exists_eq_right, exists_and_right]
      refine W_seqI (wc_sound _ _ _ _ hn1 ?_)
      simp (config := {maxSteps := 8000000}) only [e0, e8, e9, e24, e25, he10, hc1, SS, bne_self_eq_false, wr_def, obOf, List.all_cons, List.all_nil, List.map_cons, List.map_nil, List.length_cons, List.length_nil, List.take_zero, List.take_succ_cons, List.take_nil, List.drop_zero, List.drop_succ_cons, List.drop_nil, Nat.reduceAdd, Nat.reduceMul, Nat.reduceSub, if_true, Nat.reduceLT, Nat.reduceLeDiff, ite_true, ite_false, Nat.reduceEqDiff, if_false, reduceCtorEq, ne_eq, List.getD, List.getElem?_cons_zero, List.getElem?_cons_succ, Option.getD_some, Option.bind_some, Option.map_some, Option.isSome_some, reduceIte, List.length_append, List.append_assoc, List.cons_append, List.nil_append, Option.some.injEq, forall_const, implies_true, Int.reduceNeg, eq_self, Prod.mk.injEq, List.self_eq_append_right, List.append_nil, exists_eq_left, exists_eq_left', exists_and_left, exists_eq_right, exists_and_right]
      refine W_seqI (W_blkI (W_seqI (wc_sound _ _ _ _ hn1 ?_)))
      simp (config := {maxSteps := 8000000}) only [e0, e8, e9, e24, e25, he10, hc1, SS, bne_self_eq_false, wr_def, obOf, List.all_cons, List.all_nil, List.map_cons, List.map_nil, List.length_cons, List.length_nil, List.take_zero, List.take_succ_cons, List.take_nil, List.drop_zero, List.drop_succ_cons, List.drop_nil, Nat.reduceAdd, Nat.reduceMul, Nat.reduceSub, if_true, Nat.reduceLT, Nat.reduceLeDiff, ite_true, ite_false, Nat.reduceEqDiff, if_false, reduceCtorEq, ne_eq, List.getD, List.getElem?_cons_zero, List.getElem?_cons_succ, Option.getD_some, Option.bind_some, Option.map_some, Option.isSome_some, reduceIte, List.length_append, List.append_assoc, List.cons_append, List.nil_append, Option.some.injEq, forall_const, implies_true, Int.reduceNeg, eq_self, Prod.mk.injEq, List.self_eq_append_right, List.append_nil, exists_eq_left, exists_eq_left', exists_and_left, exists_eq_right, exists_and_right]
      refine W_regI (RG_cut (K1 := fun f' h' => f' 0 = V ∧ f' 8 = v ∧ f' 9 = .int .i64 T ∧ f' 24 = .int .i64 (rows.length : Int) ∧ f' 25 = .int .i64 (i : Int) ∧ f' 28 = vo ∧ f' 29 = v ∧ f' 30 = .int .i64 (i : Int) ∧ f' 35 = .int .i64 (n : Int) ∧ f' 36 = .int .i64 T ∧ h' = H ++ x) 9 (RG_of hn1 ?_) ?_)
      · simp (config := {maxSteps := 8000000}) only [e0, e8, e9, e24, e25, he10, o1, isPtr_idx o1, d1, hlu, SS, bne_self_eq_false, wr_def, obOf, List.all_cons, List.all_nil, List.map_cons, List.map_nil, List.length_cons, List.length_nil, List.take_zero, List.take_succ_cons, List.take_nil, List.drop_zero, List.drop_succ_cons, List.drop_nil, Nat.reduceAdd, Nat.reduceMul, Nat.reduceSub, if_true, Nat.reduceLT, Nat.reduceLeDiff, ite_true, ite_false, Nat.reduceEqDiff, if_false, reduceCtorEq, ne_eq, List.getD, List.getElem?_cons_zero, List.getElem?_cons_succ, Option.getD_some, Option.bind_some, Option.map_some, Option.isSome_some, reduceIte, List.length_append, List.append_assoc, List.cons_append, List.nil_append, Option.some.injEq, forall_const, implies_true, Int.reduceNeg, eq_self, Prod.mk.injEq, List.self_eq_append_right, List.append_nil, exists_eq_left, exists_eq_left', exists_and_left, exists_eq_right, exists_and_right]
      clear e0 e8 e9 e24 e25
      rintro f3 h3 hn3 ht3 ⟨e0, e8, e9, e24, e25, e28, e29, e30, e35, e36, rfl⟩
      simp (config := {maxSteps := 8000000}) only [SS, bne_self_eq_false, wr_def, obOf, List.all_cons, List.all_nil, List.map_cons, List.map_nil, List.length_cons, List.length_nil, List.take_zero, List.take_succ_cons, List.take_nil, List.drop_zero, List.drop_succ_cons, List.drop_nil, Nat.reduceAdd, Nat.reduceMul, Nat.reduceSub, if_true, Nat.reduceLT, Nat.reduceLeDiff, ite_true, ite_false, Nat.reduceEqDiff, if_false, reduceCtorEq, ne_eq, List.getD, List.getElem?_cons_zero, List.getElem?_cons_succ, Option.getD_some, Option.bind_some, Option.map_some, Option.isSome_some, reduceIte, List.length_append, List.append_assoc, List.cons_append, List.nil_append, Option.some.injEq, forall_const, implies_true, Int.reduceNeg, eq_self, Prod.mk.injEq, List.self_eq_append_right, List.append_nil, exists_eq_left, exists_eq_left', exists_and_left, exists_eq_right, exists_and_right]
      have hargs : List.map (ev c13.nt f3) [.t 29, .t 30, .t 35, .t 36] ++ [] = [v, .int .i64 (i : Int), .int .i64 (n : Int), .int .i64 T] := by
        simp only [e29, e30, e35, e36, c13, SS, bne_self_eq_false, wr_def, obOf, List.all_cons, List.all_nil, List.map_cons, List.map_nil, List.length_cons, List.length_nil, List.take_zero, List.take_succ_cons, List.take_nil, List.drop_zero, List.drop_succ_cons, List.drop_nil, Nat.reduceAdd, Nat.reduceMul, Nat.reduceSub, if_true, Nat.reduceLT, Nat.reduceLeDiff, ite_true, ite_false, Nat.reduceEqDiff, if_false, reduceCtorEq, ne_eq, List.getD, List.getElem?_cons_zero, List.getElem?_cons_succ, Option.getD_some, Option.bind_some, Option.map_some, Option.isSome_some, reduceIte, List.length_append, List.append_assoc, List.cons_append, List.nil_append, Option.some.injEq, forall_const, implies_true, Int.reduceNeg, eq_self, Prod.mk.injEq, List.self_eq_append_right, List.append_nil, exists_eq_left, exists_eq_left', exists_and_left, exists_eq_right, exists_and_right]
      refine RG_call (k := 49) (caps := []) (v := .int .i64 (if k < n then (k : Int) else -1)) (h2 := h2) (wl := wl) (wa := wa) (by simp only [SS, bne_self_eq_false, wr_def, obOf, List.all_cons, List.all_nil, List.map_cons, List.map_nil, List.length_cons, List.length_nil, List.take_zero, List.take_succ_cons, List.take_nil, List.drop_zero, List.drop_succ_cons, List.drop_nil, Nat.reduceAdd, Nat.reduceMul, Nat.reduceSub, if_true, Nat.reduceLT, Nat.reduceLeDiff, ite_true, ite_false, Nat.reduceEqDiff, if_false, reduceCtorEq, ne_eq, List.getD, List.getElem?_cons_zero, List.getElem?_cons_succ, Option.getD_some, Option.bind_some, Option.map_some, Option.isSome_some, reduceIte, List.length_append, List.append_assoc, List.cons_append, List.nil_append, Option.some.injEq, forall_const, implies_true, Int.reduceNeg, eq_self, Prod.mk.injEq, List.self_eq_append_right, List.append_nil, exists_eq_left, exists_eq_left', exists_and_left, exists_eq_right, exists_and_right]) (by first | (rw [hargs]; exact g2) | (rw [show (List.map (ev 43 f3) [.t 29, .t 30, .t 35, .t 36] ++ [] : List AV) = [v, .int .i64 (i : Int), .int .i64 (n : Int), .int .i64 T] from hargs]; exact g2)) g3 g4 g5 (by rw [g6]; simp) (fun h => by cases h) (RG_of g5 ?_)
      generalize hkv : (if k < n then (k : Int) else -1) = kv at *
      simp (config := {maxSteps := 8000000}) only [e0, e8, e9, e24, e25, e28, SS, bne_self_eq_false, wr_def, obOf, List.all_cons, List.all_nil, List.map_cons, List.map_nil, List.length_cons, List.length_nil, List.take_zero, List.take_succ_cons, List.take_nil, List.drop_zero, List.drop_succ_cons, List.drop_nil, Nat.reduceAdd, Nat.reduceMul, Nat.reduceSub, if_true, Nat.reduceLT, Nat.reduceLeDiff, ite_true, ite_false, Nat.reduceEqDiff, if_false, reduceCtorEq, ne_eq, List.getD, List.getElem?_cons_zero, List.getElem?_cons_succ, Option.getD_some, Option.bind_some, Option.map_some, Option.isSome_some, reduceIte, List.length_append, List.append_assoc, List.cons_append, List.nil_append, Option.some.injEq, forall_const, implies_true, Int.reduceNeg, eq_self, Prod.mk.injEq, List.self_eq_append_right, List.append_nil, exists_eq_left, exists_eq_left', exists_and_left, exists_eq_right, exists_and_right]
      have hI2 : IsL H.length h2 vo 1 true (flat intC (outL n ks i)) i := hI.mono fun id ep o hid ho => g10.keep id ep o ho (fun hv => hsep id hid (Or.inl hv))
      have hvolt : ∀ id, idOf vo id → id < (H ++ x).length := fun id hid => hI.idlt hid
      refine appK_at (c := [.int .i64 kv]) (rw' := true) (fl' := true) (hI2.keep _) (by simp [rdObj]) (by rw [flat_len (k := 1) (fun x => rfl), outL_len]) rfl (by unfold appLim; omega) (by simp; omega) (fun v' h' hv' hfr hlen' hidv => ?_)
      have hn5 : H.length ≤ h'.length := by simp at hlen'; omega
      have hnin : ∀ id, InW v vs2 id → ¬ idOf vo id := by
        intro id hin hvo
        rcases g10.inn id hin with h9 | h9
        · exact hsep id hvo h9
        · have := hvolt id hvo; omega
      refine wc_sound _ _ _ _ hn5 ?_
      simp (config := {maxSteps := 8000000}) only [e0, e8, e9, e24, e25, hw1, SS, bne_self_eq_false, wr_def, obOf, List.all_cons, List.all_nil, List.map_cons, List.map_nil, List.length_cons, List.length_nil, List.take_zero, List.take_succ_cons, List.take_nil, List.drop_zero, List.drop_succ_cons, List.drop_nil, Nat.reduceAdd, Nat.reduceMul, Nat.reduceSub, if_true, Nat.reduceLT, Nat.reduceLeDiff, ite_true, ite_false, Nat.reduceEqDiff, if_false, reduceCtorEq, ne_eq, List.getD, List.getElem?_cons_zero, List.getElem?_cons_succ, Option.getD_some, Option.bind_some, Option.map_some, Option.isSome_some, reduceIte, List.length_append, List.append_assoc, List.cons_append, List.nil_append, Option.some.injEq, forall_const, implies_true, Int.reduceNeg, eq_self, Prod.mk.injEq, List.self_eq_append_right, List.append_nil, exists_eq_left, exists_eq_left', exists_and_left, exists_eq_right, exists_and_right]
      refine ⟨_, by omega, i + 1, rfl, by omega, rfl, _, _, B2, vs2, g9.mono fun id ep o hin ho => hfr id ep o (rd_keep ho) (hnin id hin), ?_, fun id hid hin => ?_⟩
      · rw [outL_succ, hkv]
        simpa [flat, intC] using hv'
      · have h8 := g9.lt hin
        rcases hidv with h9 | h9
        · have := idOf_inj h9 hid
          simp at this; omega
        · exact hnin id hin (h9 id hid)
    · have hc1 : decide ((i : Int) < (rows.length : Int)) = false := decide_eq_false (by omega)
      have hiE : i = rows.length := by omega
      subst hiE
      refine wc_sound _ _ _ _ hn1 ?_
      simp (config := {maxSteps := 8000000}) only [e0, e8, e9, e24, e25, he10, hc1, SS, bne_self_eq_false, wr_def, obOf, List.all_cons, List.all_nil, List.map_cons, List.map_nil, List.length_cons, List.length_nil, List.take_zero, List.take_succ_cons, List.take_nil, List.drop_zero, List.drop_succ_cons, List.drop_nil, Nat.reduceAdd, Nat.reduceMul, Nat.reduceSub, if_true, Nat.reduceLT, Nat.reduceLeDiff, ite_true, ite_false, Nat.reduceEqDiff, if_false, reduceCtorEq, ne_eq, List.getD, List.getElem?_cons_zero, List.getElem?_cons_succ, Option.getD_some, Option.bind_some, Option.map_some, Option.isSome_some, reduceIte, List.length_append, List.append_assoc, List.cons_append, List.nil_append, Option.some.injEq, forall_const, implies_true, Int.reduceNeg, eq_self, Prod.mk.injEq, List.self_eq_append_right, List.append_nil, exists_eq_left, exists_eq_left', exists_and_left, exists_eq_right, exists_and_right]
      exact ⟨_, rfl, ks, ⟨cur, B⟩, hI⟩
  obtain ⟨x, f', h', k1, k2, ⟨k3, u, k4, ks, cur, B, hI⟩, k6⟩ := call_wc e13 rfl (Nat.le_of_ble_eq_true rfl) key
  obtain ⟨hV, hcost⟩ := B.fin hC hm0 hm1 hT
  have hτ : ∀ i, i < rows.length → ((outL n ks rows.length)[i]?).getD (-1) = if ks i < n then (ks i : Int) else -1 := fun i hi => by rw [outL_get hi]; rfl
  refine ⟨n, T, outL n ks rows.length, hn, hC, hLP, hT, outL_len, ⟨fun i hi => ?_, fun i j hi hj e h0 => ?_⟩, ?_, fun h0 t ht => ?_, ?_⟩
  · rw [hτ i hi]; exact hV.rng i hi
  · rw [hτ i hi, hτ j hj] at e
    rw [hτ i hi] at h0
    exact hV.inj i j hi hj e h0
  · rw [← hcost]
    exact sumN_congr fun i hi => by dsimp only; rw [hτ i hi]
  · simp only [outL, List.mem_map, List.mem_range] at ht
    obtain ⟨a, ha, rfl⟩ := ht
    have := B.tie h0 a ha
    rw [if_neg (by omega)]
  · rw [k6 _ k3 k4, fin_list3 hI, k2]
end Go.Proofs.Ytaekgifbehoipaa.Hg
/- Best of the package pair. Conditions stand in each lemma. -/
namespace Go.Proofs.Ytaekgifbehoipaa.Hg
open Go Go.Proofs.Ytaekgifbehoipaa.Eva Go.Proofs.Ytaekgifbehoipaa.CodeAll Go.Proofs.Ytaekgifbehoipaa.Fl
set_option linter.unusedVariables false
set_option linter.unusedSimpArgs false
set_option maxRecDepth 10000
set_option maxHeartbeats 4000000

theorem isl_fg {n0 : Nat} {h : List Ob} {v : AV} {sz k : Nat} {cs : List AV} (A : IsL n0 h v sz true cs k) : FgL h v := by
  rcases A with ⟨rfl, _, _⟩ | ⟨id, ep, rfl, h2, h3, h4⟩
  · intro id ep ob hid
    exact absurd hid idOf_nil
  · rintro id' ep' ob ⟨_, rfl⟩ ho
    unfold rdObj at h2 ho
    cases hh : h[id']? with
    | none => rw [hh] at ho; simp at ho
    | some w =>
      rw [hh] at h2 ho
      simp only at h2 ho
      by_cases c1 : w.ep = ep
      · rw [if_pos c1] at h2
        by_cases c2 : w.ep = ep'
        · rw [if_pos c2] at ho
          rw [h2] at ho
          obtain rfl := Option.some.inj ho
          rfl
        · rw [if_neg c2] at ho; cases ho
      · rw [if_neg c1] at h2; cases h2
theorem isl_out {n0 : Nat} {h : List Ob} {sz k : Nat} {cs : List AV} (hn : n0 ≤ h.length) (hk : k = 0 → cs = []) : IsL n0 (h ++ outO sz k cs) (outV h.length sz k) sz true cs k := by
  by_cases h0 : k = 0
  · subst h0
    obtain rfl := hk rfl
    exact IsL.nil
  · refine Or.inr ⟨h.length, 0, by rw [outV, if_neg h0], ?_, hn, h0⟩
    unfold rdObj
    rw [List.getElem?_append_right (Nat.le_refl _), Nat.sub_self, outO, if_neg h0]
    rfl
theorem out_shape (n sz k : Nat) : cellsOf (outV n sz k) = [outV n sz k] ∧ (outV n sz k).isTup = false := by
  unfold outV; split <;> exact ⟨rfl, rfl⟩
theorem pbest_ex {H : List Ob} {V W X : AV} {us : List AV} {ts : List K} {ls : List (List Nd)} {cs : List Int} (hs : SlL H V K.c 13 ts) (A : NsS Nd.c 6 H W us ls) (hx : SlL H X intC 1 cs)
    (hb0 : ts.length < 1125899906842624) (hb1 : ls.length < 1125899906842624) (hb2 : cs.length < 1125899906842624) :
    ∃ e τs, ((e ≠ 0 ∧ τs = [] ∧ (32 < ts.length ∨ prchk ls cs ≠ 0 ∨ (∃ k, k ∈ ts ∧ k.chk ≠ 0) ∨ ¬ Ok (ts.map (rowK (ls.zip cs))) 2147483648)) ∨ (e = 0 ∧ prchk ls cs = 0 ∧ ts.length ≤ 32 ∧ (∀ k ∈ ts, k.chk = 0) ∧ τs.length = ts.length ∧ ∃ n T, (∀ r ∈ ts.map (rowK (ls.zip cs)), RowOk n r) ∧ LeastP (ts.map (rowK (ls.zip cs))) n 2147483648 T ∧ Val (ts.map (rowK (ls.zip cs))) n (fun i => (τs[i]?).getD (-1)) ∧ costOf (ts.map (rowK (ls.zip cs))) 2147483648 (fun i => (τs[i]?).getD (-1)) = T)) ∧
      ecall E 25 [V, W, X] H = some (.tup [outV H.length 1 τs.length, .int .i64 e], H ++ outO 1 τs.length (flat intC τs), H.length, H.length) := by
  obtain ⟨v, e, y, hc, hco⟩ := costs_ex hs A hx hb0 hb1 hb2
  have hn := ncall_some.2 hco
  rcases hc with ⟨he, rfl, hw⟩ | ⟨rfl, hp, hl, hck, vs, hW⟩
  · refine ⟨e, [], Or.inl ⟨he, rfl, ?_⟩, call_list e25 rfl (Nat.le_of_ble_eq_true rfl) ?_⟩
    · rcases hw with h | h | h
      · exact Or.inl h
      · exact Or.inr (Or.inl h)
      · exact Or.inr (Or.inr (Or.inl h))
    have b0 : (e != 0) = true := bne_iff_ne.2 he
    simp (config := {maxSteps := 8000000}) only [c25, rg_calln, ncallV_fn, hn, b0, SS, bne_self_eq_false, wr_def, obOf, List.all_cons, List.all_nil, List.map_cons, List.map_nil, List.length_cons, List.length_nil, List.take_zero, List.take_succ_cons, List.take_nil, List.drop_zero, List.drop_succ_cons, List.drop_nil, Nat.reduceAdd, Nat.reduceMul, Nat.reduceSub, if_true, Nat.reduceLT, Nat.reduceLeDiff, ite_true, ite_false, Nat.reduceEqDiff, if_false, reduceCtorEq, ne_eq, List.getD, List.getElem?_cons_zero, List.getElem?_cons_succ, Option.getD_some, Option.bind_some, Option.map_some, Option.isSome_some, reduceIte, List.length_append, List.append_assoc, List.cons_append, List.nil_append, Option.some.injEq, forall_const, implies_true, Int.reduceNeg, eq_self, Prod.mk.injEq, List.self_eq_append_right, List.append_nil, exists_eq_left, exists_eq_left', exists_and_left, exists_eq_right, exists_and_right]
    exact ⟨_, rfl, IsL.nil⟩
  have hNs := Wd.ns hW
  have hfg : ∀ u ∈ vs, FgL (H ++ y) u := fun u hu => by
    obtain ⟨i, hi⟩ := List.mem_iff_getElem?.1 hu
    obtain ⟨r, hr⟩ : ∃ r, (ts.map (rowK (ls.zip cs)))[i]? = some r := ⟨_, List.getElem?_eq_getElem (by rw [← hW.len]; exact (List.getElem?_eq_some_iff.1 hi).1)⟩
    exact isl_fg (hW.rd i u r hi hr)
  have n0 : ((0 : Int) != 0) = false := rfl
  have sh := isl_shape hW.isl
  by_cases hok : Ok (ts.map (rowK (ls.zip cs))) 2147483648
  rotate_left
  · obtain ⟨e, he, hb⟩ := best_err hNs hok
    have hbn := pcall_some.2 hb
    refine ⟨e, [], Or.inl ⟨he, rfl, Or.inr (Or.inr (Or.inr hok))⟩, call_list e25 rfl (Nat.le_of_ble_eq_true rfl) ?_⟩
    simp (config := {maxSteps := 8000000}) only [c25, rg_calln, ncallV_fn, hn, hbn, n0, sh.1, sh.2.1, SS, bne_self_eq_false, wr_def, obOf, List.all_cons, List.all_nil, List.map_cons, List.map_nil, List.length_cons, List.length_nil, List.take_zero, List.take_succ_cons, List.take_nil, List.drop_zero, List.drop_succ_cons, List.drop_nil, Nat.reduceAdd, Nat.reduceMul, Nat.reduceSub, if_true, Nat.reduceLT, Nat.reduceLeDiff, ite_true, ite_false, Nat.reduceEqDiff, if_false, reduceCtorEq, ne_eq, List.getD, List.getElem?_cons_zero, List.getElem?_cons_succ, Option.getD_some, Option.bind_some, Option.map_some, Option.isSome_some, reduceIte, List.length_append, List.append_assoc, List.cons_append, List.nil_append, Option.some.injEq, forall_const, implies_true, Int.reduceNeg, eq_self, Prod.mk.injEq, List.self_eq_append_right, List.append_nil, exists_eq_left, exists_eq_left', exists_and_left, exists_eq_right, exists_and_right]
    exact ⟨_, rfl, IsL.nil⟩
  obtain ⟨n, T, τs, q1, q2, q3, q4, q5, q6, q7, q8, hb⟩ := best_ok hNs hfg hok
  have hbn := ncall_some.2 hb
  have hq : τs.length = ts.length := by rw [q5, List.length_map]
  have hio := isl_out (n0 := H.length) (h := H ++ y) (sz := 1) (k := τs.length) (cs := flat intC τs) (by simp) (fun h => by rw [List.length_eq_zero_iff.1 h]; rfl)
  have hos := out_shape (H ++ y).length 1 τs.length
  rw [← q5] at hbn
  generalize outO 1 τs.length (flat intC τs) = o1 at hbn hio
  generalize outV (H ++ y).length 1 τs.length = v1 at hbn hio hos
  refine ⟨0, τs, Or.inr ⟨rfl, hp, hl, hck, hq, n, T, q2, q3, q6, q7⟩, call_list e25 rfl (Nat.le_of_ble_eq_true rfl) ?_⟩
  rw [List.append_assoc] at hio
  simp (config := {maxSteps := 8000000}) only [c25, rg_calln, ncallV_fn, hn, hbn, n0, sh.1, sh.2.1, hos.1, hos.2, SS, bne_self_eq_false, wr_def, obOf, List.all_cons, List.all_nil, List.map_cons, List.map_nil, List.length_cons, List.length_nil, List.take_zero, List.take_succ_cons, List.take_nil, List.drop_zero, List.drop_succ_cons, List.drop_nil, Nat.reduceAdd, Nat.reduceMul, Nat.reduceSub, if_true, Nat.reduceLT, Nat.reduceLeDiff, ite_true, ite_false, Nat.reduceEqDiff, if_false, reduceCtorEq, ne_eq, List.getD, List.getElem?_cons_zero, List.getElem?_cons_succ, Option.getD_some, Option.bind_some, Option.map_some, Option.isSome_some, reduceIte, List.length_append, List.append_assoc, List.cons_append, List.nil_append, Option.some.injEq, forall_const, implies_true, Int.reduceNeg, eq_self, Prod.mk.injEq, List.self_eq_append_right, List.append_nil, exists_eq_left, exists_eq_left', exists_and_left, exists_eq_right, exists_and_right]
  exact ⟨_, rfl, hio⟩
end Go.Proofs.Ytaekgifbehoipaa.Hg
/- Missing of the package pair. Conditions stand in each lemma. -/
namespace Go.Proofs.Ytaekgifbehoipaa.Hg
open Go Go.Proofs.Ytaekgifbehoipaa.Eva Go.Proofs.Ytaekgifbehoipaa.CodeAll Go.Proofs.Ytaekgifbehoipaa.Fl
set_option linter.unusedVariables false
set_option linter.unusedSimpArgs false
set_option maxRecDepth 10000
set_option maxHeartbeats 4000000

/-- Is the i-th tube there at the time, and no track's? -/
def mis1 (ls : List (List Nd)) (to : List Int) (time : Int) (i : Nat) : Bool := ((tAt ((ls[i]?).getD []) time).2 == 0) && !decide ((i : Int) ∈ to)
def misL (ls : List (List Nd)) (to : List Int) (time : Int) (n : Nat) : List Int := ((List.range n).filter (mis1 ls to time)).map (fun i : Nat => (i : Int))
theorem misL_succ {ls : List (List Nd)} {to : List Int} {time : Int} {n : Nat} : misL ls to time (n + 1) = misL ls to time n ++ (if mis1 ls to time n = true then [(n : Int)] else []) := by
  unfold misL
  rw [List.range_succ, List.filter_append, List.map_append]
  by_cases h : mis1 ls to time n = true
  · simp [h]
  · simp [h]
theorem misL_len {ls : List (List Nd)} {to : List Int} {time : Int} {n : Nat} : (misL ls to time n).length ≤ n := by
  unfold misL
  rw [List.length_map]
  exact Nat.le_trans (List.length_filter_le _ _) (by simp)
theorem missing_ex {H : List Ob} {V W X : AV} {us : List AV} {to : List Int} {ls : List (List Nd)} {cs : List Int} (time : Int) (hs : SlL H V intC 1 to) (A : NsS Nd.c 6 H W us ls) (hx : SlL H X intC 1 cs)
    (hp : prchk ls cs = 0) (hl : to.length ≤ 32) (hr : ∀ k ∈ to, -1 ≤ k ∧ k < ls.length) (hd : ∀ (i j : Nat) k, to[i]? = some k → to[j]? = some k → 0 ≤ k → i = j) :
    ecall E 29 [V, W, X, .int .i64 time] H = some (.tup [outV H.length 1 (misL ls to time ls.length).length, .int .i64 0], H ++ outO 1 (misL ls to time ls.length).length ((misL ls to time ls.length).map gI), H.length, H.length) := by
  obtain ⟨hl24, hcl⟩ := prchk_len hp
  have hpc := prchk_pc A hx (by omega) (by omega)
  rw [hp] at hpc
  have hlen := hs.len
  have hlw := A.out.len
  rw [A.len] at hlw
  have b0 : decide ((32 : Int) < (to.length : Int)) = false := decide_eq_false (by omega)
  have n0 : ((0 : Int) != 0) = false := rfl
  have m0 : (0 : Int) ≤ (ls.length : Int) := by omega
  have m1 : (ls.length : Int).toNat * 1 ≤ appLim := by unfold appLim; omega
  refine call_list e29 rfl (Nat.le_of_ble_eq_true rfl) ?_
  simp (config := {maxSteps := 8000000}) only [c29, hlen, hlw, hpc, b0, n0, m0, m1, Int.le_refl, Int.toNat_natCast, SS, bne_self_eq_false, wr_def, obOf, List.all_cons, List.all_nil, List.map_cons, List.map_nil, List.length_cons, List.length_nil, List.take_zero, List.take_succ_cons, List.take_nil, List.drop_zero, List.drop_succ_cons, List.drop_nil, Nat.reduceAdd, Nat.reduceMul, Nat.reduceSub, if_true, Nat.reduceLT, Nat.reduceLeDiff, ite_true, ite_false, Nat.reduceEqDiff, if_false, reduceCtorEq, ne_eq, List.getD, List.getElem?_cons_zero, List.getElem?_cons_succ, Option.getD_some, Option.bind_some, Option.map_some, Option.isSome_some, reduceIte, List.length_append, List.append_assoc, List.cons_append, List.nil_append, Option.some.injEq, forall_const, implies_true, Int.reduceNeg, eq_self, Prod.mk.injEq, List.self_eq_append_right, List.append_nil, exists_eq_left, exists_eq_left', exists_and_left, exists_eq_right, exists_and_right]
  refine ⟨by unfold appLim; omega, ?_⟩
  have hF0 := FA.new (g := Eva.gB) (n0 := H.length) (n := ls.length) (H := H) (z := false) (Nat.le_refl _) []
  have hF1 : FA H.length (H ++ [⟨zrep ls.length [.bool false], 0, 1, true, true⟩]) (.sl false H.length 0 1 0 ls.length) Eva.gB ls.length (fun i => decide ((i : Int) ∈ to.take 0)) := by
    have e : (fun i : Nat => decide ((i : Int) ∈ to.take 0)) = fun _ => false := by funext i; simp
    rw [e]; exact hF0
  refine W_loop (fun q f1 h1 => ∃ j : Nat, q = to.length - j ∧ j ≤ to.length ∧ f1 1 = W ∧ f1 3 = .int .i64 time ∧ f1 31 = V ∧ f1 32 = .int .i64 (to.length : Int) ∧ f1 33 = .int .i64 (j : Int) ∧ FA H.length h1 (f1 11) Eva.gB ls.length (fun i => decide ((i : Int) ∈ to.take j))) (by simp) to.length ⟨0, rfl, by omega, rfl, rfl, rfl, rfl, rfl, hF1⟩ ?_
  clear hF0 hF1
  rintro q f1 h1 hn1 ht ⟨j, rfl, hj, e1, e3, e31, e32, e33, hF⟩
  rw [List.take_left] at ht
  have hH := take_eq ht
  generalize h1.drop H.length = z at hH
  subst hH
  generalize e11 : f1 11 = v11 at *
  by_cases hjl : j < to.length
  · have hjl' : decide ((j : Int) < (to.length : Int)) = true := decide_eq_true (by omega)
    have hwj : IntKind.i64.wrap ((j : Int) + 1) = ((j + 1 : Nat) : Int) := by rw [wrap64 (by omega) (by omega)]; omega
    obtain ⟨k, hk⟩ : ∃ k, to[j]? = some k := ⟨_, List.getElem?_eq_getElem hjl⟩
    have hkr := hr k (List.mem_of_getElem? hk)
    have hok : idxOk 1 V (.int .i64 (j : Int)) := hs.ok (by omega) (by omega)
    have hld : ld1A (H ++ z) (idxV 1 V (.int .i64 (j : Int))) = some (.int .i64 k) := by rw [(hs.keep z).ld0 (x := k) (by omega) (by simpa using hk)]; rfl
    have b1 : decide (k < -1) = false := decide_eq_false (by omega)
    have b2 : decide ((ls.length : Int) ≤ k) = false := decide_eq_false (by omega)
    have htk : to.take (j + 1) = to.take j ++ [k] := by rw [List.take_add_one, hk]; rfl
    by_cases hk0 : 0 ≤ k
    · obtain ⟨m, rfl⟩ : ∃ m : Nat, k = (m : Int) := ⟨k.toNat, by omega⟩
      have b3 : decide (0 ≤ (m : Int)) = true := decide_eq_true hk0
      have hm : m < ls.length := by omega
      have o1 := hF.ok hm
      have d1 := hF.ld hm
      have hnm : decide ((m : Int) ∈ to.take j) = false := by
        refine decide_eq_false fun h => ?_
        obtain ⟨j', hj'⟩ := List.mem_iff_getElem?.1 h
        rw [List.getElem?_take] at hj'
        split at hj'
        · have := hd j' j _ hj' hk hk0; omega
        · cases hj'
      simp only [hnm] at d1
      have s1 := hF.stOk hm true
      obtain ⟨p1, p2, p3⟩ := hF.st hm true
      have hup : upd (fun i : Nat => decide ((i : Int) ∈ to.take j)) m true = fun i : Nat => decide ((i : Int) ∈ to.take (j + 1)) := by
        funext i
        rw [htk]
        by_cases h : i = m
        · subst h; rw [upd_same]; simp
        · rw [upd_ne h]
          have : ¬ (i : Int) = (m : Int) := by omega
          simp [this]
      rw [hup] at p1
      simp only [Eva.gB] at d1 s1
      simp (config := {maxSteps := 8000000}) only [e1, e3, e11, e31, e32, e33, hjl', hwj, hok, isPtr_idx hok, hld, hlw, b1, b2, b3, o1, isPtr_idx o1, d1, s1, SS, bne_self_eq_false, wr_def, obOf, List.all_cons, List.all_nil, List.map_cons, List.map_nil, List.length_cons, List.length_nil, List.take_zero, List.take_succ_cons, List.take_nil, List.drop_zero, List.drop_succ_cons, List.drop_nil, Nat.reduceAdd, Nat.reduceMul, Nat.reduceSub, if_true, Nat.reduceLT, Nat.reduceLeDiff, ite_true, ite_false, Nat.reduceEqDiff, if_false, reduceCtorEq, ne_eq, List.getD, List.getElem?_cons_zero, List.getElem?_cons_succ, Option.getD_some, Option.bind_some, Option.map_some, Option.isSome_some, reduceIte, List.length_append, List.append_assoc, List.cons_append, List.nil_append, Option.some.injEq, forall_const, implies_true, Int.reduceNeg, eq_self, Prod.mk.injEq, List.self_eq_append_right, List.append_nil, exists_eq_left, exists_eq_left', exists_and_left, exists_eq_right, exists_and_right]
      exact ⟨_, by omega, j + 1, rfl, by omega, rfl, p1⟩
    · have b3 : decide (0 ≤ k) = false := decide_eq_false hk0
      have hup : (fun i : Nat => decide ((i : Int) ∈ to.take j)) = fun i : Nat => decide ((i : Int) ∈ to.take (j + 1)) := by
        funext i
        rw [htk]
        have : ¬ (i : Int) = k := by omega
        simp [this]
      rw [hup] at hF
      simp (config := {maxSteps := 8000000}) only [e1, e3, e11, e31, e32, e33, hjl', hwj, hok, isPtr_idx hok, hld, hlw, b1, b2, b3, SS, bne_self_eq_false, wr_def, obOf, List.all_cons, List.all_nil, List.map_cons, List.map_nil, List.length_cons, List.length_nil, List.take_zero, List.take_succ_cons, List.take_nil, List.drop_zero, List.drop_succ_cons, List.drop_nil, Nat.reduceAdd, Nat.reduceMul, Nat.reduceSub, if_true, Nat.reduceLT, Nat.reduceLeDiff, ite_true, ite_false, Nat.reduceEqDiff, if_false, reduceCtorEq, ne_eq, List.getD, List.getElem?_cons_zero, List.getElem?_cons_succ, Option.getD_some, Option.bind_some, Option.map_some, Option.isSome_some, reduceIte, List.length_append, List.append_assoc, List.cons_append, List.nil_append, Option.some.injEq, forall_const, implies_true, Int.reduceNeg, eq_self, Prod.mk.injEq, List.self_eq_append_right, List.append_nil, exists_eq_left, exists_eq_left', exists_and_left, exists_eq_right, exists_and_right]
      exact ⟨_, by omega, j + 1, rfl, by omega, rfl, hF⟩
  · have hjl' : decide ((j : Int) < (to.length : Int)) = false := decide_eq_false (by omega)
    have hjE : j = to.length := by omega
    subst hjE
    rw [List.take_length] at hF
    simp (config := {maxSteps := 8000000}) only [e1, e3, e11, e31, e32, e33, hjl', hlw, SS, bne_self_eq_false, wr_def, obOf, List.all_cons, List.all_nil, List.map_cons, List.map_nil, List.length_cons, List.length_nil, List.take_zero, List.take_succ_cons, List.take_nil, List.drop_zero, List.drop_succ_cons, List.drop_nil, Nat.reduceAdd, Nat.reduceMul, Nat.reduceSub, if_true, Nat.reduceLT, Nat.reduceLeDiff, ite_true, ite_false, Nat.reduceEqDiff, if_false, reduceCtorEq, ne_eq, List.getD, List.getElem?_cons_zero, List.getElem?_cons_succ, Option.getD_some, Option.bind_some, Option.map_some, Option.isSome_some, reduceIte, List.length_append, List.append_assoc, List.cons_append, List.nil_append, Option.some.injEq, forall_const, implies_true, Int.reduceNeg, eq_self, Prod.mk.injEq, List.self_eq_append_right, List.append_nil, exists_eq_left, exists_eq_left', exists_and_left, exists_eq_right, exists_and_right]
    refine W_loop (fun q f2 h2 => ∃ j : Nat, q = ls.length - j ∧ j ≤ ls.length ∧ f2 3 = .int .i64 time ∧ f2 11 = v11 ∧ f2 62 = W ∧ f2 63 = .int .i64 (ls.length : Int) ∧ f2 64 = .int .i64 (j : Int) ∧ FA H.length h2 v11 Eva.gB ls.length (fun i => decide ((i : Int) ∈ to)) ∧ IsL H.length h2 (f2 14) 1 true ((misL ls to time j).map gI) (misL ls to time j).length ∧ ∀ id, idOf (f2 14) id → ¬ idOf v11 id) (by simp) ls.length ⟨0, rfl, by omega, e3, e11, rfl, rfl, rfl, hF, IsL.nil, fun id h => absurd h idOf_nil⟩ ?_
    clear e1 e3 e11 e31 e32 e33 hF
    rintro q f2 h2 hn2 ht2 ⟨i, rfl, hi, e3, e11, e62, e63, e64, hF, hv, hid⟩
    rw [List.take_left] at ht2
    have hH2 := take_eq ht2
    generalize h2.drop H.length = y at hH2
    subst hH2
    generalize e14 : f2 14 = v14 at *
    by_cases hil : i < ls.length
    · have hil' : decide ((i : Int) < (ls.length : Int)) = true := decide_eq_true (by omega)
      have hwi : IntKind.i64.wrap ((i : Int) + 1) = ((i + 1 : Nat) : Int) := by rw [wrap64 (by omega) (by omega)]; omega
      obtain ⟨u, l, hl, hu, hsl, hldu, hok2⟩ := NsS.row A hil
      have hat := fun z => tAt_pc (hsl.keep z) time
      have hm1 : mis1 ls to time i = (((tAt l time).2 == 0) && !decide ((i : Int) ∈ to)) := by unfold mis1; rw [hl, Option.getD_some]
      obtain ⟨⟨nn, ne⟩, hnn⟩ : ∃ R, tAt l time = R := ⟨_, rfl⟩
      rw [hnn] at hat hm1
      simp only [nout, Nd.c] at hat
      have o1 := hF.ok hil
      have d1 := fun o => FA.ld (hF.mono (h' := H ++ (y ++ o)) fun id ep ob _ ho => rd_keep2 ho) hil
      simp only [Eva.gB] at d1
      have ms := misL_succ (ls := ls) (to := to) (time := time) (n := i)
      by_cases h1 : ne = 0
      · have b1 : (ne == 0) = true := by rw [beq_iff_eq]; exact h1
        simp only [b1, Bool.true_and] at hm1
        by_cases h2 : decide ((i : Int) ∈ to) = true
        · rw [h2] at hm1
          rw [hm1, if_neg (by decide), List.append_nil] at ms
          simp only [h2] at d1
          simp (config := {maxSteps := 8000000}) only [e3, e11, e14, e62, e63, e64, hil', hwi, hok2, isPtr_idx hok2, hldu, hat, b1, o1, isPtr_idx o1, d1, hn2, SS, bne_self_eq_false, wr_def, obOf, List.all_cons, List.all_nil, List.map_cons, List.map_nil, List.length_cons, List.length_nil, List.take_zero, List.take_succ_cons, List.take_nil, List.drop_zero, List.drop_succ_cons, List.drop_nil, Nat.reduceAdd, Nat.reduceMul, Nat.reduceSub, if_true, Nat.reduceLT, Nat.reduceLeDiff, ite_true, ite_false, Nat.reduceEqDiff, if_false, reduceCtorEq, ne_eq, List.getD, List.getElem?_cons_zero, List.getElem?_cons_succ, Option.getD_some, Option.bind_some, Option.map_some, Option.isSome_some, reduceIte, List.length_append, List.append_assoc, List.cons_append, List.nil_append, Option.some.injEq, forall_const, implies_true, Int.reduceNeg, eq_self, Prod.mk.injEq, List.self_eq_append_right, List.append_nil, exists_eq_left, exists_eq_left', exists_and_left, exists_eq_right, exists_and_right]
          exact ⟨_, by omega, i + 1, rfl, by omega, rfl, hF.mono fun id ep ob _ ho => rd_keep2 ho, by rw [ms]; exact hv.keep2 _, hid⟩
        · have h2' : decide ((i : Int) ∈ to) = false := by simpa using h2
          rw [h2'] at hm1
          rw [hm1, Bool.not_false, if_pos rfl] at ms
          simp only [h2'] at d1
          simp (config := {maxSteps := 8000000}) only [e3, e11, e14, e62, e63, e64, hil', hwi, hok2, isPtr_idx hok2, hldu, hat, b1, o1, isPtr_idx o1, d1, hn2, SS, bne_self_eq_false, wr_def, obOf, List.all_cons, List.all_nil, List.map_cons, List.map_nil, List.length_cons, List.length_nil, List.take_zero, List.take_succ_cons, List.take_nil, List.drop_zero, List.drop_succ_cons, List.drop_nil, Nat.reduceAdd, Nat.reduceMul, Nat.reduceSub, if_true, Nat.reduceLT, Nat.reduceLeDiff, ite_true, ite_false, Nat.reduceEqDiff, if_false, reduceCtorEq, ne_eq, List.getD, List.getElem?_cons_zero, List.getElem?_cons_succ, Option.getD_some, Option.bind_some, Option.map_some, Option.isSome_some, reduceIte, List.length_append, List.append_assoc, List.cons_append, List.nil_append, Option.some.injEq, forall_const, implies_true, Int.reduceNeg, eq_self, Prod.mk.injEq, List.self_eq_append_right, List.append_nil, exists_eq_left, exists_eq_left', exists_and_left, exists_eq_right, exists_and_right]
          have hml := misL_len (ls := ls) (to := to) (time := time) (n := i)
          refine appK_at (c := [.int .i64 (i : Int)]) (rw' := true) (fl' := true) (hv.keep2 _) (by simp [rdObj]) (by simp) rfl (by unfold appLim; omega) (by simp) (fun v' h' hv' hfr hlen' hidv => ?_)
          refine ⟨_, by omega, i + 1, rfl, by omega, rfl, hF.mono fun id ep ob hx ho => hfr id ep ob (rd_keep2 ho) (fun h => hid id h hx), ?_, fun id hx hin => ?_⟩
          · rw [ms, List.map_append, List.length_append]
            simp only [Bool.and_self, ite_self] at hv'
            exact hv'
          · rcases hidv with h | h
            · have h3 := idOf_inj h hx
              obtain ⟨_, ep, rfl, h4, _⟩ := hF
              obtain ⟨_, rfl⟩ := hin
              have := rd_lt h4
              simp at this h3
              omega
            · exact hid id (h _ hx) hin
      · have b1 : (ne == 0) = false := by rw [beq_eq_false_iff_ne]; exact h1
        rw [b1, Bool.false_and] at hm1
        rw [hm1, if_neg (by decide), List.append_nil] at ms
        simp (config := {maxSteps := 8000000}) only [e3, e11, e14, e62, e63, e64, hil', hwi, hok2, isPtr_idx hok2, hldu, hat, b1, hn2, SS, bne_self_eq_false, wr_def, obOf, List.all_cons, List.all_nil, List.map_cons, List.map_nil, List.length_cons, List.length_nil, List.take_zero, List.take_succ_cons, List.take_nil, List.drop_zero, List.drop_succ_cons, List.drop_nil, Nat.reduceAdd, Nat.reduceMul, Nat.reduceSub, if_true, Nat.reduceLT, Nat.reduceLeDiff, ite_true, ite_false, Nat.reduceEqDiff, if_false, reduceCtorEq, ne_eq, List.getD, List.getElem?_cons_zero, List.getElem?_cons_succ, Option.getD_some, Option.bind_some, Option.map_some, Option.isSome_some, reduceIte, List.length_append, List.append_assoc, List.cons_append, List.nil_append, Option.some.injEq, forall_const, implies_true, Int.reduceNeg, eq_self, Prod.mk.injEq, List.self_eq_append_right, List.append_nil, exists_eq_left, exists_eq_left', exists_and_left, exists_eq_right, exists_and_right]
        exact ⟨_, by omega, i + 1, rfl, by omega, rfl, hF.mono fun id ep ob _ ho => rd_keep2 ho, by rw [ms]; exact hv.keep2 _, hid⟩
    · have hil' : decide ((i : Int) < (ls.length : Int)) = false := decide_eq_false (by omega)
      have hiE : i = ls.length := by omega
      subst hiE
      simp (config := {maxSteps := 8000000}) only [e3, e11, e14, e62, e63, e64, hil', SS, bne_self_eq_false, wr_def, obOf, List.all_cons, List.all_nil, List.map_cons, List.map_nil, List.length_cons, List.length_nil, List.take_zero, List.take_succ_cons, List.take_nil, List.drop_zero, List.drop_succ_cons, List.drop_nil, Nat.reduceAdd, Nat.reduceMul, Nat.reduceSub, if_true, Nat.reduceLT, Nat.reduceLeDiff, ite_true, ite_false, Nat.reduceEqDiff, if_false, reduceCtorEq, ne_eq, List.getD, List.getElem?_cons_zero, List.getElem?_cons_succ, Option.getD_some, Option.bind_some, Option.map_some, Option.isSome_some, reduceIte, List.length_append, List.append_assoc, List.cons_append, List.nil_append, Option.some.injEq, forall_const, implies_true, Int.reduceNeg, eq_self, Prod.mk.injEq, List.self_eq_append_right, List.append_nil, exists_eq_left, exists_eq_left', exists_and_left, exists_eq_right, exists_and_right]
      exact ⟨_, rfl, hv⟩
end Go.Proofs.Ytaekgifbehoipaa.Hg
