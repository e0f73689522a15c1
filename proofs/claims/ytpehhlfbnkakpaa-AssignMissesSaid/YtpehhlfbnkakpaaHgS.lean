/- A row with one column that is permitted: when the least sum stays. Conditions stand in each lemma. -/
import Derived.Test.YtpehhlfbnkakpaaHgR
namespace Go.Proofs.Ytpehhlfbnkakpaa.Hg
open Go Go.Proofs.Ytpehhlfbnkakpaa.Eva Go.Proofs.Ytpehhlfbnkakpaa.Fl
set_option linter.unusedVariables false
set_option linter.unusedSimpArgs false

def single (C k : Nat) (x : Int) : List Int := arrF C fun j => if j = k then x else 1125899906842624
theorem single_get {C k j : Nat} {x : Int} (h : j < C) : (single C k x)[j]? = some (if j = k then x else 1125899906842624) := arrF_get h
theorem single_len {C k : Nat} {x : Int} : (single C k x).length = C := arrF_len
theorem gRow_set {rows : List (List Int)} {i a : Nat} {r : List Int} (hi : i < rows.length) : gRow (rows.set i r) a = if a = i then r else gRow rows a := by
  unfold gRow
  rw [List.getElem?_set]
  by_cases h : i = a
  · subst h; rw [if_pos rfl, if_pos hi, if_pos rfl]; rfl
  · rw [if_neg h, if_neg (fun e => h e.symm)]
theorem mF_set {rows : List (List Int)} {i a b : Nat} {r : List Int} (hi : i < rows.length) : mF (rows.set i r) a b = if a = i then (r[b]?).getD 0 else mF rows a b := by
  unfold mF
  rw [gRow_set hi]
  split <;> rfl
theorem mF_single {rows : List (List Int)} {i k C a b : Nat} {x : Int} (hi : i < rows.length) (hb : b < C) : mF (rows.set i (single C k x)) a b = if a = i then (if b = k then x else 1125899906842624) else mF rows a b := by
  rw [mF_set hi, single_get hb]; rfl
section
variable {rows : List (List Int)} {C i : Nat} {T : Int} (hi : i < rows.length) (hb : ∀ k, k < C → mF rows i k ≤ 1125899906842624)
include hi hb in
/-- The sums do not fall. -/
theorem single_ge {k : Nat} {σ : Nat → Nat} (hI : Inj rows.length C σ) : sumN rows.length (fun a => mF rows a (σ a)) ≤ sumN rows.length (fun a => mF (rows.set i (single C k (mF rows i k))) a (σ a)) := by
  apply sumN_le
  intro a ha
  rw [mF_single hi (hI.lt a ha)]
  by_cases e : a = i
  · subst e
    rw [if_pos rfl]
    split
    · rename_i h; rw [h]; exact Int.le_refl _
    · exact hb _ (hI.lt a ha)
  · rw [if_neg e]; exact Int.le_refl _
include hi hb in
/-- Some column keeps the least sum. -/
theorem single_ex (L : Least (mF rows) rows.length C T) : ∃ k, k < C ∧ (∃ σ, Inj rows.length C σ ∧ T = sumN rows.length (fun a => mF rows a (σ a)) ∧ σ i = k) ∧ Least (mF (rows.set i (single C k (mF rows i k)))) rows.length C T := by
  obtain ⟨⟨σ, hI, hT⟩, hmin⟩ := L
  refine ⟨σ i, hI.lt i hi, ⟨σ, hI, hT, rfl⟩, ⟨σ, hI, ?_⟩, fun τ hτ => Int.le_trans (hmin τ hτ) (single_ge hi hb hτ)⟩
  rw [hT]
  apply sumN_congr
  intro a ha
  rw [mF_single hi (hI.lt a ha)]
  by_cases e : a = i
  · subst e; rw [if_pos rfl, if_pos rfl]
  · rw [if_neg e]
end
theorem ints_get {n j : Nat} (h : j < n) : (ints n)[j]? = some (j : Int) := by
  unfold ints
  rw [List.getElem?_map, List.getElem?_range h]; rfl
/-- The candidates. -/
def cand (many i : Nat) : List Int := ((many + i : Nat) : Int) :: ints many
theorem cand_len {many i : Nat} : (cand many i).length = many + 1 := by simp [cand, ints_len]
theorem cand_get {many i j : Nat} (h : j < many + 1) : ∃ k : Nat, (cand many i)[j]? = some (k : Int) ∧ (k = many + i ∨ k < many) := by
  cases j with
  | zero => exact ⟨many + i, rfl, Or.inl rfl⟩
  | succ j => exact ⟨j, by rw [cand, List.getElem?_cons_succ]; exact ints_get (by omega), Or.inr (by omega)⟩
theorem cand_mem {many i k : Nat} (h : k = many + i ∨ k < many) : ∃ j, j < many + 1 ∧ (cand many i)[j]? = some (k : Int) := by
  rcases h with rfl | h
  · exact ⟨0, by omega, rfl⟩
  · exact ⟨k + 1, by omega, by rw [cand, List.getElem?_cons_succ]; exact ints_get h⟩
/-- A slice of slices whose row i is told apart. -/
structure WdX (n0 : Nat) (h : List Ob) (v : AV) (vs : List AV) (rows : List (List Int)) (i : Nat) (nv : AV) : Prop where
  isl : IsL n0 h v 1 false vs vs.length
  len : vs.length = rows.length
  here : vs[i]? = some nv
  rd : ∀ (j : Nat) u r, j ≠ i → vs[j]? = some u → rows[j]? = some r → IsL n0 h u 1 true (r.map gI) r.length
  sep : ∀ u, u ∈ vs → ∀ id, idOf u id → ¬ idOf v id
  nsep : ∀ (j : Nat) u, j ≠ i → vs[j]? = some u → ∀ id, idOf u id → ¬ idOf nv id
section
variable {n0 : Nat} {h : List Ob} {v : AV} {vs : List AV} {rows : List (List Int)} {i : Nat} {nv : AV}
theorem WdX.mono {h' : List Ob} (W : WdX n0 h v vs rows i nv) (hm : ∀ id ep o, ¬ idOf nv id → rdObj h id ep = some o → rdObj h' id ep = some o) : WdX n0 h' v vs rows i nv :=
  ⟨W.isl.mono fun id ep o hid ho => hm id ep o (fun hx => W.sep nv (List.mem_of_getElem? W.here) id hx hid) ho, W.len, W.here,
    fun j u r hj hu hr => (W.rd j u r hj hu hr).mono fun id ep o hid ho => hm id ep o (W.nsep j u hj hu id hid) ho, W.sep, W.nsep⟩
theorem WdX.keep (W : WdX n0 h v vs rows i nv) (o : List Ob) : WdX n0 (h ++ o) v vs rows i nv := W.mono fun _ _ _ _ ho => rd_keep ho
theorem WdX.ok (W : WdX n0 h v vs rows i nv) : idxOk 1 v (.int .i64 (i : Int)) := by
  have hi := (List.getElem?_eq_some_iff.1 W.here).1
  have : SlL h v avC 1 vs := ⟨fun _ => rfl, by decide, by rw [flat_avC]; exact W.isl.rd (by simp)⟩
  exact this.ok (by omega) (by omega)
theorem WdX.ld (W : WdX n0 h v vs rows i nv) : ld1A h (idxV 1 v (.int .i64 (i : Int))) = some nv := by
  have : SlL h v avC 1 vs := ⟨fun _ => rfl, by decide, by rw [flat_avC]; exact W.isl.rd (by simp)⟩
  rw [this.ld0 (x := nv) (by omega) (by simpa using W.here)]; rfl
theorem WdX.wd (W : WdX n0 h v vs rows i nv) {r : List Int} (hr : IsL n0 h nv 1 true (r.map gI) r.length) : Wd n0 h v vs (rows.set i r) := by
  refine ⟨W.isl, by rw [List.length_set]; exact W.len, fun j u r' hu hr' => ?_, W.sep⟩
  by_cases hj : j = i
  · subst hj
    have h1 := W.here
    rw [hu] at h1
    have hlt := (List.getElem?_eq_some_iff.1 hu).1
    rw [List.getElem?_set_self (by rw [← W.len]; exact hlt)] at hr'
    simp only [Option.some.injEq] at h1 hr'
    subst h1; subst hr'; exact hr
  · rw [List.getElem?_set_ne (fun e => hj e.symm)] at hr'
    exact W.rd j u r' hj hu hr'
/-- A new row is laid in. -/
theorem wd_put {u : AV} (W : Wd n0 h v vs rows) (hi : i < rows.length) (hn : ∀ id, idOf u id → ¬ InW v vs id) :
    ∃ id ep off o, idxV 1 v (.int .i64 (i : Int)) = .ptr id ep off ∧ rdObj h id ep = some o ∧ off + 1 ≤ o.cs.length ∧ o.rw = true ∧ n0 ≤ id ∧ idOf v id ∧
      (cellsOf u = [u] → u.scalar = false → WdX n0 (stH h (.ptr id ep off) u) v (vs.set i u) rows i u ∧ (∀ id' ep' o', ¬ idOf v id' → rdObj h id' ep' = some o' → rdObj (stH h (.ptr id ep off) u) id' ep' = some o') ∧ (stH h (.ptr id ep off) u).length = h.length) := by
  rcases W.isl with ⟨rfl, hvs, _⟩ | ⟨id, ep, rfl, h2, h3, h4⟩
  · have := W.len; rw [hvs] at this; simp at this; omega
  have hlen := W.len
  refine ⟨id, ep, 0 + i * 1, _, by rw [idxV_sl, Int.toNat_natCast], h2, by simp; omega, rfl, h3, ⟨rfl, rfl⟩, fun hc hs => ?_⟩
  have hw : wr vs (0 + i * 1) [u] = vs.set i u := by
    rw [Nat.zero_add, Nat.mul_one]
    unfold wr
    split
    · rename_i hl
      have h9 : vs.length = 1 := by simpa using hl.symm
      have h10 : i = 0 := by omega
      rw [h10]
      match hm : vs, h9 with
      | [a], _ => rfl
    · rw [List.set_eq_take_append_cons_drop, if_pos (by omega)]; simp
  have e : stH h (.ptr id ep (0 + i * 1)) u = h.set id ⟨vs.set i u, ep, 1, true, false⟩ := by
    rw [stH_ptr, h2]
    simp only [putObj, hc, hw, Bool.false_and]
  rw [e]
  have hfr : ∀ id' ep' o', ¬ idOf (.sl false id ep 1 0 vs.length) id' → rdObj h id' ep' = some o' → rdObj (h.set id ⟨vs.set i u, ep, 1, true, false⟩) id' ep' = some o' := by
    intro id' ep' o' hne ho
    rw [rd_set_ne (fun e => hne ⟨rfl, e⟩)]; exact ho
  have hl2 : (vs.set i u).length = vs.length := List.length_set
  refine ⟨⟨Or.inr ⟨id, ep, by rw [hl2], rd_set_same (o := ⟨vs.set i u, ep, 1, true, false⟩) (rd_lt h2), h3, by rw [hl2]; exact h4⟩, by rw [hl2]; exact hlen, List.getElem?_set_self (by omega), fun j u' r hj hu hr => ?_, fun u' hu' id' hid' => ?_, fun j u' hj hu' id' hid' hx => ?_⟩, hfr, by simp⟩
  · rw [List.getElem?_set_ne (fun e => hj e.symm)] at hu
    exact (W.rd j u' r hu hr).mono fun id' ep' o' hid' ho' => hfr id' ep' o' (W.sep u' (List.mem_of_getElem? hu) id' hid') ho'
  · rcases List.mem_or_eq_of_mem_set hu' with hu' | rfl
    · exact W.sep u' hu' id' hid'
    · exact fun hx => hn id' hid' (Or.inl hx)
  · rw [List.getElem?_set_ne (fun e => hj e.symm)] at hu'
    exact hn id' hx (Or.inr ⟨u', List.mem_of_getElem? hu', hid'⟩)
end
end Go.Proofs.Ytpehhlfbnkakpaa.Hg
