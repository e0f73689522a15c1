/- Rows cut down to one column each, one after the other: what they leave. Conditions stand in each lemma. -/
import Derived.Test.YtpehhlfbnkakpaaHgS
namespace Go.Proofs.Ytpehhlfbnkakpaa.Hg
open Go Go.Proofs.Ytpehhlfbnkakpaa.Eva Go.Proofs.Ytpehhlfbnkakpaa.Fl
set_option linter.unusedVariables false
set_option linter.unusedSimpArgs false

theorem mF_out1 {rows : List (List Int)} {a k : Nat} (h : rows.length ≤ a) : mF rows a k = 0 := by
  unfold mF gRow
  rw [List.getElem?_eq_none h]; rfl
theorem mF_out2 {rows : List (List Int)} {C a k : Nat} (hC : ∀ r ∈ rows, r.length = C) (h : C ≤ k) : mF rows a k = 0 := by
  by_cases ha : a < rows.length
  · unfold mF
    rw [List.getElem?_eq_none (by rw [gRow_len hC ha]; exact h)]; rfl
  · exact mF_out1 (by omega)
theorem mF_row {rows rows' : List (List Int)} {a k : Nat} (h : rows[a]? = rows'[a]?) : mF rows a k = mF rows' a k := by
  unfold mF gRow; rw [h]
theorem mF_sing {rows : List (List Int)} {C a k x : Nat} {y : Int} (h : rows[a]? = some (single C k y)) (hx : x < C) : mF rows a x = if x = k then y else 1125899906842624 := by
  rw [mF, gRow_eq h, single_get hx]; rfl
theorem fix_le {c : Int} (h : c ≤ 1099511627776) : fixC c ≤ 1125899906842624 := by unfold fixC; split <;> omega
section
variable {rows : List (List Int)} {n : Nat} {miss : Int} (hC : ∀ r ∈ rows, RowOk n r) (hm0 : 0 ≤ miss) (hm1 : miss ≤ 1099511627776) (hR : rows.length ≤ 32)
include hC in
theorem rok_len : ∀ r ∈ rows, r.length = n := fun r hr => (hC r hr).2.1
include hC in
theorem rok_le (a k : Nat) : -1 ≤ mF rows a k ∧ mF rows a k ≤ 1099511627776 := by
  by_cases ha : a < rows.length
  · by_cases hk : k < n
    · have hl := gRow_len (rok_len hC) ha
      have h1 : (gRow rows a)[k]? = some (gRow rows a)[k] := List.getElem?_eq_getElem (by omega)
      have h2 : gRow rows a ∈ rows := by rw [gRow_eq (List.getElem?_eq_getElem ha)]; exact List.getElem_mem ha
      have := (hC _ h2).2.2 _ (List.mem_of_getElem? h1)
      rw [mF, h1]; exact this
    · rw [mF_out2 (rok_len hC) (by omega)]; omega
  · rw [mF_out1 (by omega)]; omega
include hC in
theorem sq_row_len : ∀ r ∈ sqTo rows miss rows.length, r.length = n + rows.length := by
  intro r hr
  obtain ⟨i, hi, rfl⟩ := List.getElem_of_mem hr
  rw [sqTo_len] at hi
  have h1 := sqTo_get (rows := rows) (miss := miss) hi
  rw [List.getElem?_eq_getElem (by rw [sqTo_len]; exact hi)] at h1
  simp only [Option.some.injEq] at h1
  rw [h1]
  have := gRow_len (rok_len hC) hi
  simp [sqRow, this]
include hC hm0 hm1 in
theorem sq_bd (a k : Nat) : 0 ≤ mF (sqTo rows miss rows.length) a k ∧ mF (sqTo rows miss rows.length) a k ≤ 1125899906842624 := by
  by_cases ha : a < rows.length
  · by_cases hk : k < n
    · rw [sq_pub (rok_len hC) ha hk]
      exact ⟨fix_nn _, fix_le (rok_le hC a k).2⟩
    · by_cases hk2 : k < n + rows.length
      · have : k = n + (k - n) := by omega
        rw [this, sq_priv (rok_len hC) ha (by omega)]
        unfold priv; split <;> omega
      · rw [mF_out2 (sq_row_len hC) (by omega)]; omega
  · rw [mF_out1 (by rw [sqTo_len]; omega)]; omega

/-- So many rows have been cut down. -/
structure Bs (rows : List (List Int)) (n : Nat) (miss T : Int) (i : Nat) (ks : Nat → Nat) (cur : List (List Int)) : Prop where
  len : cur.length = rows.length
  cl : ∀ r ∈ cur, r.length = n + rows.length
  bd : ∀ a k, 0 ≤ mF cur a k ∧ mF cur a k ≤ 1125899906842624
  L : Least (mF cur) rows.length (n + rows.length) T
  done : ∀ a, a < i → ks a < n + rows.length ∧ mF (sqTo rows miss rows.length) a (ks a) ≠ 1125899906842624 ∧ cur[a]? = some (single (n + rows.length) (ks a) (mF (sqTo rows miss rows.length) a (ks a)))
  rest : ∀ a, i ≤ a → cur[a]? = (sqTo rows miss rows.length)[a]?
  tie : miss = 0 → ∀ a, a < i → ks a = n + a
include hC hm0 hm1 in
theorem Bs.init {T : Int} (L : Least (mF (sqTo rows miss rows.length)) rows.length (n + rows.length) T) : Bs rows n miss T 0 (fun _ => 0) (sqTo rows miss rows.length) :=
  ⟨sqTo_len, sq_row_len hC, sq_bd hC hm0 hm1, L, fun a h => by omega, fun a _ => rfl, fun _ a h => by omega⟩
theorem cost0 : costOf rows 0 (fun _ => -1) = 0 := by
  unfold costOf costAt
  rw [sumN_congr (g := fun _ => (0 : Int)) (fun i _ => if_pos (show (-1 : Int) < 0 by decide)), sumN_const]; simp
include hC hm0 hm1 in
theorem Bs.step {T : Int} {i k : Nat} {ks : Nat → Nat} {cur : List (List Int)} (hT : LeastP rows n miss T) (B : Bs rows n miss T i ks cur) (hi : i < rows.length) (hk : k < n + rows.length) (hne : mF cur i k ≠ 1125899906842624)
    (L : Least (mF (cur.set i (single (n + rows.length) k (mF cur i k)))) rows.length (n + rows.length) T)
    (ht : k ≠ n + i → mF cur i (n + i) = 1125899906842624 ∨ ¬ Least (mF (cur.set i (single (n + rows.length) (n + i) (mF cur i (n + i))))) rows.length (n + rows.length) T) :
    Bs rows n miss T (i + 1) (fun a => if a = i then k else ks a) (cur.set i (single (n + rows.length) k (mF cur i k))) := by
  have hic : i < cur.length := by rw [B.len]; exact hi
  have hci : ∀ x, mF cur i x = mF (sqTo rows miss rows.length) i x := fun x => mF_row (B.rest i (Nat.le_refl _))
  have hbd : ∀ k' a x, 0 ≤ mF (cur.set i (single (n + rows.length) k' (mF cur i k'))) a x ∧ mF (cur.set i (single (n + rows.length) k' (mF cur i k'))) a x ≤ 1125899906842624 := by
    intro k' a x
    rw [mF_set hic]
    split
    · by_cases hx : x < n + rows.length
      · rw [single_get hx]
        simp only [Option.getD_some]
        split
        · exact B.bd i k'
        · omega
      · rw [List.getElem?_eq_none (by rw [single_len]; omega)]
        simp
    · exact B.bd a x
  refine ⟨by rw [List.length_set]; exact B.len, fun r hr => ?_, hbd k, L, fun a ha => ?_, fun a ha => ?_, fun h0 a ha => ?_⟩
  · rcases List.mem_or_eq_of_mem_set hr with hr | rfl
    · exact B.cl r hr
    · exact single_len
  · by_cases hai : a = i
    · subst hai
      rw [if_pos rfl, ← hci]
      exact ⟨hk, hne, List.getElem?_set_self hic⟩
    · rw [if_neg hai, List.getElem?_set_ne (fun h => hai h.symm)]
      exact B.done a (by omega)
  · rw [List.getElem?_set_ne (by omega)]
    exact B.rest a (by omega)
  · by_cases hai : a = i
    · subst hai
      rw [if_pos rfl]
      refine Classical.byContradiction fun hkn => ?_
      have hp : ∀ a, a < rows.length → mF (sqTo rows miss rows.length) a (n + a) = 0 := fun a ha => by
        rw [sq_priv (rok_len hC) ha ha]; simp [priv, h0]
      have hv : mF cur a (n + a) = 0 := by rw [hci, hp a hi]
      have hT0 : T = 0 := by
        subst h0
        have h1 := hT.2 _ (val_miss (rows := rows) (n := n))
        rw [cost0] at h1
        obtain ⟨⟨σ, hI, hs⟩, _⟩ := B.L
        have h2 : 0 ≤ T := by
          rw [hs]
          have := (sumN_ge (f := fun x => mF cur x (σ x)) (fun x _ => (B.bd x _).1) a hi).2
          exact this
        omega
      rcases ht hkn with h | h
      · rw [hv] at h; omega
      · refine h ⟨⟨fun x => n + x, ⟨fun x hx => by omega, fun x y _ _ e => by omega⟩, ?_⟩, fun τ hτ => ?_⟩
        · rw [hT0, sumN_congr (g := fun _ => (0 : Int)) (fun x hx => ?_), sumN_const]
          · simp
          · rw [mF_single hic (by dsimp only; omega)]
            by_cases hxa : x = a
            · subst hxa; rw [if_pos rfl, if_pos rfl, hv]
            · rw [if_neg hxa]
              by_cases hlt : x < a
              · obtain ⟨q1, q2, q3⟩ := B.done x hlt
                have q4 := B.tie h0 x hlt
                rw [mF_sing q3 (by dsimp only; omega), if_pos q4.symm, q4, hp x hx]
              · rw [mF_row (B.rest x (by omega)), hp x hx]
        · rw [hT0]
          exact (sumN_ge (f := fun x => mF (cur.set a (single (n + rows.length) (n + a) (mF cur a (n + a)))) x (τ x)) (fun x _ => (hbd _ x _).1) a hi).2
    · rw [if_neg hai]; exact B.tie h0 a (by omega)
include hC hm0 hm1 in
theorem Bs.fin {T : Int} {ks : Nat → Nat} {cur : List (List Int)} (hT : T ≤ 35184372088832) (B : Bs rows n miss T rows.length ks cur) :
    Val rows n (fun i => if ks i < n then (ks i : Int) else -1) ∧ costOf rows miss (fun i => if ks i < n then (ks i : Int) else -1) = T := by
  obtain ⟨⟨σ, hI, hs⟩, _⟩ := B.L
  have hσ : ∀ a, a < rows.length → σ a = ks a := fun a ha => by
    have h1 := (sumN_ge (f := fun x => mF cur x (σ x)) (fun x _ => (B.bd x _).1) a ha).1
    obtain ⟨q1, q2, q3⟩ := B.done a ha
    rw [← hs, mF_sing q3 (hI.lt a ha)] at h1
    by_cases h : σ a = ks a
    · exact h
    · rw [if_neg h] at h1; omega
  have hIk : Inj rows.length (n + rows.length) ks := ⟨fun a ha => (B.done a ha).1, fun a b ha hb e => hI.inj a b ha hb (by rw [hσ a ha, hσ b hb]; exact e)⟩
  obtain ⟨h1, h2⟩ := val_of (miss := miss) (rok_len hC) hIk fun a ha => by
    have := (sq_bd hC hm0 hm1 a (ks a)).2
    have := (B.done a ha).2.1
    omega
  refine ⟨h1, ?_⟩
  rw [h2, hs]
  apply sumN_congr
  intro a ha
  obtain ⟨q1, q2, q3⟩ := B.done a ha
  rw [hσ a ha, mF_sing q3 q1, if_pos rfl]
end
end Go.Proofs.Ytpehhlfbnkakpaa.Hg
