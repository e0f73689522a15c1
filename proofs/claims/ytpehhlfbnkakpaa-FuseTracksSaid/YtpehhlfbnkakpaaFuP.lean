/- Plain facts of the choice among tracks that are the same. Conditions stand in each lemma. -/
import Derived.Test.YtpehhlfbnkakpaaFuC
namespace Go.Proofs.Ytpehhlfbnkakpaa.Fl
open Go Go.Proofs.Ytpehhlfbnkakpaa.Eva Go.Proofs.Ytpehhlfbnkakpaa.CodeAll
set_option linter.unusedVariables false
set_option linter.unusedSimpArgs false
set_option maxRecDepth 10000
set_option maxHeartbeats 4000000

def twins (band : Int) (a b : T) : Bool := (sameT a b band).2 == 0 && (sameT a b band).1 && decide (0 ≤ a.code) && a.code == b.code
theorem btr_iff (a b : T) : btr a b = true ↔ a.rad < b.rad ∨ (a.rad = b.rad ∧ (b.hits < a.hits ∨ (b.hits = a.hits ∧ a.id < b.id))) := by
  simp only [btr, orGo, cmpc, decide_eq_true_eq]
  by_cases h1 : a.rad < b.rad
  · simp [h1]
  · by_cases h2 : b.rad < a.rad
    · simp [h1, h2]; omega
    · by_cases h3 : b.hits < a.hits
      · simp [h1, h2, h3]; omega
      · by_cases h4 : a.hits < b.hits
        · simp [h1, h2, h3, h4]; omega
        · by_cases h5 : a.id < b.id
          · simp [h1, h2, h3, h4, h5]; omega
          · by_cases h6 : b.id < a.id
            · simp [h1, h2, h3, h4, h5, h6]
            · simp [h1, h2, h3, h4, h5, h6]
def lt4 (a : T) (i : Nat) (b : T) (k : Nat) : Prop := btr a b = true ∨ (btr b a = false ∧ i < k)
theorem lt4_iff (a : T) (i : Nat) (b : T) (k : Nat) : lt4 a i b k ↔ a.rad < b.rad ∨ (a.rad = b.rad ∧ (b.hits < a.hits ∨ (b.hits = a.hits ∧ (a.id < b.id ∨ (a.id = b.id ∧ i < k))))) := by
  have h1 := btr_iff a b
  have h2 := btr_iff b a
  unfold lt4
  cases h3 : btr a b <;> cases h4 : btr b a <;> rw [h3] at h1 <;> rw [h4] at h2 <;> simp at h1 h2 ⊢ <;> omega
theorem lt4_trans {a b c : T} {i j k : Nat} (h1 : lt4 a i b j) (h2 : lt4 b j c k) : lt4 a i c k := by
  rw [lt4_iff] at *; omega
theorem lt4_irr (a : T) (i : Nat) : ¬ lt4 a i a i := by rw [lt4_iff]; omega
/-- Some track is the best. -/
theorem best (l : List T) : ∀ n, n ≤ l.length → 0 < n → ∃ m b, m < n ∧ l[m]? = some b ∧ ∀ k a, k < n → l[k]? = some a → ¬ lt4 a k b m
  | 0, _, h => by omega
  | 1, hn, _ => by
    obtain ⟨b, hb⟩ : ∃ b, l[0]? = some b := ⟨_, List.getElem?_eq_getElem (by omega)⟩
    refine ⟨0, b, by omega, hb, fun k a hk ha => ?_⟩
    have : k = 0 := by omega
    subst this
    rw [hb] at ha; simp only [Option.some.injEq] at ha; subst ha
    exact lt4_irr b 0
  | n + 2, hn, _ => by
    obtain ⟨m, b, hm, hb, hmin⟩ := best l (n + 1) (by omega) (by omega)
    obtain ⟨c, hc⟩ : ∃ c, l[n + 1]? = some c := ⟨_, List.getElem?_eq_getElem (by omega)⟩
    by_cases h : lt4 c (n + 1) b m
    · refine ⟨n + 1, c, by omega, hc, fun k a hk ha hlt => ?_⟩
      by_cases hkn : k = n + 1
      · subst hkn
        rw [hc] at ha; simp only [Option.some.injEq] at ha; subst ha
        exact lt4_irr _ _ hlt
      · exact hmin k a (by omega) ha (lt4_trans hlt h)
    · refine ⟨m, b, by omega, hb, fun k a hk ha => ?_⟩
      by_cases hkn : k = n + 1
      · subst hkn
        rw [hc] at ha; simp only [Option.some.injEq] at ha; subst ha; exact h
      · exact hmin k a (by omega) ha

theorem gup_false {l : List T} {band : Int} {i : Nat} : ∀ {n : Nat}, gup l band i n = false → ∀ k, k < n → hit l band i k = false
  | 0, _, k, hk => by omega
  | n + 1, h, k, hk => by
    simp only [gup, Bool.or_eq_false_iff] at h
    by_cases hkn : k = n
    · subst hkn; exact h.2
    · exact gup_false h.1 k (by omega)
theorem gup_true {l : List T} {band : Int} {i : Nat} : ∀ {n : Nat}, gup l band i n = true → ∃ k, k < n ∧ hit l band i k = true
  | 0, h => by simp [gup] at h
  | n + 1, h => by
    simp only [gup, Bool.or_eq_true] at h
    rcases h with h | h
    · obtain ⟨k, h1, h2⟩ := gup_true h
      exact ⟨k, by omega, h2⟩
    · exact ⟨n, by omega, h⟩
theorem outG_mem {l : List T} {band : Int} {a : T} : ∀ (r : List T) (i : Nat), a ∈ outG l band r i ↔ ∃ j, r[j]? = some a ∧ gup l band (i + j) l.length = false
  | [], i => by simp [outG]
  | b :: r, i => by
    have ih := outG_mem (l := l) (band := band) (a := a) r (i + 1)
    have hs : (∃ j, (b :: r)[j]? = some a ∧ gup l band (i + j) l.length = false) ↔ (b = a ∧ gup l band i l.length = false) ∨ ∃ j, r[j]? = some a ∧ gup l band (i + 1 + j) l.length = false := by
      constructor
      · rintro ⟨j, h1, h2⟩
        cases j with
        | zero => exact Or.inl ⟨by simpa using h1, by simpa using h2⟩
        | succ j => exact Or.inr ⟨j, by simpa using h1, by rw [show i + 1 + j = i + (j + 1) by omega]; exact h2⟩
      · rintro (⟨h1, h2⟩ | ⟨j, h1, h2⟩)
        · exact ⟨0, by simp [h1], by simpa using h2⟩
        · exact ⟨j + 1, by simpa using h1, by rw [show i + (j + 1) = i + 1 + j by omega]; exact h2⟩
    rw [hs, ← ih]
    simp only [outG]
    cases hg : gup l band i l.length <;> simp [eq_comm]
theorem outG_pair {l : List T} {band : Int} : ∀ (r : List T) (i : Nat), (outG l band r i).Pairwise (fun x y => ∃ j k, j < k ∧ r[j]? = some x ∧ r[k]? = some y ∧ gup l band (i + j) l.length = false ∧ gup l band (i + k) l.length = false)
  | [], i => by simp [outG]
  | b :: r, i => by
    have ih := outG_pair (l := l) (band := band) r (i + 1)
    have ih' : (outG l band r (i + 1)).Pairwise (fun x y => ∃ j k, j < k ∧ (b :: r)[j]? = some x ∧ (b :: r)[k]? = some y ∧ gup l band (i + j) l.length = false ∧ gup l band (i + k) l.length = false) := by
      refine ih.imp ?_
      rintro x y ⟨j, k, h1, h2, h3, h4, h5⟩
      exact ⟨j + 1, k + 1, by omega, by simpa using h2, by simpa using h3, by rw [show i + (j + 1) = i + 1 + j by omega]; exact h4, by rw [show i + (k + 1) = i + 1 + k by omega]; exact h5⟩
    simp only [outG]
    cases hg : gup l band i l.length
    · simp only [Bool.false_eq_true, if_false]
      refine List.pairwise_cons.2 ⟨fun y hy => ?_, ih'⟩
      obtain ⟨j, h1, h2⟩ := (outG_mem r (i + 1)).1 hy
      exact ⟨0, j + 1, by omega, rfl, by simpa using h1, by simpa using hg, by rw [show i + (j + 1) = i + 1 + j by omega]; exact h2⟩
    · simpa using ih'

theorem chk_bd {f : T} (h : f.chk = 0) : -1000000 ≤ f.x ∧ f.x ≤ 1000000 ∧ -1000000 ≤ f.y ∧ f.y ≤ 1000000 := by
  unfold T.chk at h
  split at h
  · omega
  · rename_i h1
    simp only [Bool.or_eq_true, decide_eq_true_eq, not_or] at h1
    omega
theorem w_id' {x : Int} (h1 : -9223372036854775808 ≤ x) (h2 : x ≤ 9223372036854775807) : w x = x := wrap64 h1 h2
theorem same_comm (a b : T) (band : Int) : (sameT a b band).1 = true → (sameT b a band).1 = true := by
  intro h
  unfold sameT at h
  split at h
  · cases h
  rename_i c1
  split at h
  · cases h
  rename_i c2
  split at h
  · cases h
  rename_i c3
  have c1' : a.chk = 0 := by simpa using c1
  have c2' : b.chk = 0 := by simpa using c2
  have ba := chk_bd c1'
  have bb := chk_bd c2'
  unfold sameT
  rw [if_neg (by simp [c2']), if_neg (by simp [c1']), if_neg c3]
  simp only [smB] at h ⊢
  have e1 : sqF b.x b.y a.x a.y = sqF a.x a.y b.x b.y := by
    unfold sqF
    rw [w_id' (x := b.x - a.x) (by omega) (by omega), w_id' (x := a.x - b.x) (by omega) (by omega), w_id' (x := b.y - a.y) (by omega) (by omega), w_id' (x := a.y - b.y) (by omega) (by omega)]
    have e1 : (b.x - a.x) * (b.x - a.x) = (a.x - b.x) * (a.x - b.x) := by grind
    have e2 : (b.y - a.y) * (b.y - a.y) = (a.y - b.y) * (a.y - b.y) := by grind
    rw [e1, e2]
  have e2 : apF b.hgt a.hgt = apF a.hgt b.hgt := by unfold apF; exact Int.max_comm _ _
  have e3 : b.rad + a.rad = a.rad + b.rad := Int.add_comm _ _
  rw [e1, e2, e3]
  simp only [Bool.and_eq_true, Bool.or_eq_true, decide_eq_true_eq, beq_iff_eq] at h ⊢
  obtain ⟨⟨⟨h1, h2⟩, h3⟩, h4⟩ := h
  refine ⟨⟨⟨h1.symm, ?_⟩, h3⟩, h4⟩
  rcases h2 with (h2 | h2) | h2
  · exact Or.inl (Or.inr h2)
  · exact Or.inl (Or.inl h2)
  · exact Or.inr h2.symm

theorem hit_some {l : List T} {band : Int} {i k : Nat} {a b : T} (ha : l[i]? = some a) (hb : l[k]? = some b) : hit l band i k = hitB a b i k band := by simp only [hit, ha, hb]
/-- No two that stay are the same. -/
theorem out_apart (l : List T) (band : Int) (i : Nat) (a : T) (hi : (outG l band l 0)[i]? = some a) : ((outG l band l 0).take i).any (twins band a) = false := by
  rw [List.any_eq_false]
  intro b hb ht
  have hp := outG_pair (l := l) (band := band) l 0
  obtain ⟨j, hj, hbj⟩ := List.getElem_of_mem hb
  have hji : j < i := by simp at hj; omega
  have hb' : (outG l band l 0)[j]? = some b := by
    rw [List.getElem_take] at hbj
    rw [List.getElem?_eq_getElem (by simp at hj; omega), hbj]
  obtain ⟨hil, hia⟩ := List.getElem?_eq_some_iff.1 hi
  obtain ⟨hjl, hjb⟩ := List.getElem?_eq_some_iff.1 hb'
  have := (List.pairwise_iff_getElem.1 hp) j i hjl hil hji
  rw [hia, hjb] at this
  obtain ⟨p, q, hpq, h1, h2, h3, h4⟩ := this
  rw [Nat.zero_add] at h3 h4
  have lp := (List.getElem?_eq_some_iff.1 h1).1
  have lq := (List.getElem?_eq_some_iff.1 h2).1
  have k1 := gup_false h4 p lp
  have k2 := gup_false h3 q lq
  rw [hit_some h2 h1] at k1
  rw [hit_some h1 h2] at k2
  unfold twins at ht
  simp only [Bool.and_eq_true, beq_iff_eq, decide_eq_true_eq] at ht
  obtain ⟨⟨⟨t1, t2⟩, t3⟩, t4⟩ := ht
  have t5 := same_comm a b band t2
  have n1 : (q == p) = false := by simp; omega
  have n2 : (p == q) = false := by simp; omega
  have n3 : decide (a.code < 0) = false := decide_eq_false (by omega)
  have n4 : decide (b.code < 0) = false := decide_eq_false (by omega)
  have n5 : (a.code != b.code) = false := by simp [t4]
  have n6 : (b.code != a.code) = false := by simp [t4]
  have n7 : decide (p < q) = true := decide_eq_true hpq
  simp only [hitB, n1, n3, n5, t2, n7, Bool.not_false, Bool.true_and, Bool.and_true] at k1
  simp only [hitB, n2, n4, n6, t5, Bool.not_false, Bool.true_and, Bool.and_true] at k2
  cases hB1 : btr b a <;> cases hB2 : btr a b <;> simp_all
theorem out_sub {l : List T} {band : Int} {a : T} (h : a ∈ outG l band l 0) : a ∈ l := by
  obtain ⟨j, h1, _⟩ := (outG_mem l 0).1 h
  exact List.mem_of_getElem? h1
/-- What goes is the same as another one. -/
theorem out_gone {l : List T} {band : Int} {i : Nat} {a : T} (hi : l[i]? = some a) (hn : a ∉ outG l band l 0) : (l.take i ++ l.drop (i + 1)).any (twins band a) = true := by
  have hg : gup l band i l.length = true := by
    cases h : gup l band i l.length with
    | true => rfl
    | false => exact absurd ((outG_mem l 0).2 ⟨i, hi, by rw [Nat.zero_add]; exact h⟩) hn
  obtain ⟨k, hk, hh⟩ := gup_true hg
  obtain ⟨b, hb⟩ : ∃ b, l[k]? = some b := ⟨_, List.getElem?_eq_getElem hk⟩
  rw [hit_some hi hb] at hh
  simp only [hitB, Bool.and_eq_true, Bool.not_eq_true', decide_eq_false_iff_not, beq_eq_false_iff_ne, ne_eq, bne_eq_false_iff_eq] at hh
  obtain ⟨⟨⟨⟨h1, h2⟩, h3⟩, h4⟩, h5⟩ := hh
  have hsm : (sameT a b band).2 = 0 := by
    unfold sameT at h2 ⊢
    split at h2
    · cases h2
    · split at h2
      · cases h2
      · split at h2
        · cases h2
        · rename_i c1 c2 c3
          rw [if_neg c1, if_neg c2, if_neg c3]
  have ht : twins band a b = true := by
    unfold twins
    rw [hsm, h2]
    simp only [beq_self_eq_true, Bool.true_and, Bool.and_eq_true, decide_eq_true_eq, beq_iff_eq]
    exact ⟨by omega, h4⟩
  rw [List.any_append, Bool.or_eq_true]
  by_cases hki : k < i
  · left
    rw [List.any_eq_true]
    exact ⟨b, by rw [List.mem_take_iff_getElem]; obtain ⟨hl, he⟩ := List.getElem?_eq_some_iff.1 hb; exact ⟨k, by omega, he⟩, ht⟩
  · right
    rw [List.any_eq_true]
    refine ⟨b, ?_, ht⟩
    refine List.mem_of_getElem? (i := k - (i + 1)) ?_
    rw [List.getElem?_drop]
    have : i + 1 + (k - (i + 1)) = k := by omega
    rw [this]; exact hb
theorem out_some {l : List T} {band : Int} (h : l ≠ []) : outG l band l 0 ≠ [] := by
  have hl : 0 < l.length := List.length_pos_iff.2 h
  obtain ⟨m, b, hm, hb, hmin⟩ := best l l.length (Nat.le_refl _) hl
  have hg : gup l band m l.length = false := by
    cases hh : gup l band m l.length with
    | false => rfl
    | true =>
      obtain ⟨k, hk, hh⟩ := gup_true hh
      obtain ⟨a, ha⟩ : ∃ b, l[k]? = some b := ⟨_, List.getElem?_eq_getElem hk⟩
      rw [hit_some hb ha] at hh
      simp only [hitB, Bool.and_eq_true, Bool.or_eq_true, Bool.not_eq_true', decide_eq_true_eq] at hh
      exact absurd hh.2 (hmin k a hk ha)
  intro he
  have := (outG_mem (l := l) (band := band) (a := b) l 0).2 ⟨m, hb, by rw [Nat.zero_add]; exact hg⟩
  rw [he] at this
  simp at this
theorem trk_err {l : List T} {band : Int} (h : (trk l band).2 ≠ 0) : (trk l band).1 = [] := by
  unfold trk at h ⊢
  split
  · rfl
  · split
    · rfl
    · split
      · rfl
      · rename_i c1 c2 c3
        rw [if_neg c1, if_neg c2, if_neg c3] at h
        exact absurd rfl h
theorem trk_ok {l : List T} {band : Int} (h : (trk l band).2 = 0) : (trk l band).1 = outG l band l 0 := by
  unfold trk at h ⊢
  split at h
  · cases h
  · split at h
    · rename_i c; exact absurd h c
    · split at h
      · cases h
      · rename_i c1 c2 c3
        rw [if_neg c1, if_neg c2, if_neg c3]
end Go.Proofs.Ytpehhlfbnkakpaa.Fl
