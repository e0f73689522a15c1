/- Sorting by exchanges: rows as functions, what an exchange keeps, heaps and parts. No condition. -/
import Derived.Test.YtaekgifbehoipaaEvaI
import Derived.Test.YtaekgifbehoipaaEvaY
import Derived.Test.YtaekgifbehoipaaEvaW
import Derived.Test.YtaekgifbehoipaaCodeAll
namespace Go.Proofs.Ytaekgifbehoipaa.So
set_option linter.unusedVariables false
set_option linter.unusedSimpArgs false

def arr {α : Type} (n : Nat) (f : Nat → α) : List α := (List.range n).map f
def put {α : Type} (f : Nat → α) (i : Nat) (x : α) : Nat → α := fun k => if k = i then x else f k
theorem put_same {α : Type} {f : Nat → α} {i : Nat} {x : α} : put f i x i = x := if_pos rfl
theorem put_ne {α : Type} {f : Nat → α} {i k : Nat} {x : α} (h : k ≠ i) : put f i x k = f k := if_neg h
/-- Two are exchanged. -/
def swp {α : Type} (f : Nat → α) (i j : Nat) : Nat → α := put (put f i (f j)) j (f i)
section
variable {α : Type} {n : Nat} {f g : Nat → α}
theorem arr_len : (arr n f).length = n := by simp [arr]
theorem arr_get {i : Nat} (h : i < n) : (arr n f)[i]? = some (f i) := by simp [arr, h]
theorem arr_ext (h : ∀ i, i < n → f i = g i) : arr n f = arr n g := by
  apply List.map_congr_left; intro i hi; exact h i (by simpa using hi)
theorem arr_set {i : Nat} {x : α} : (arr n f).set i x = arr n (put f i x) := by
  apply List.ext_getElem?
  intro j
  rw [List.getElem?_set]
  by_cases hj : j < n
  · rw [arr_get hj, arr_get hj]
    by_cases e : i = j
    · subst e; rw [if_pos rfl, if_pos (by rw [arr_len]; exact hj), put_same]
    · rw [if_neg e, put_ne (fun h => e h.symm)]
  · have h1 : (arr n f)[j]? = none := List.getElem?_eq_none (by rw [arr_len]; omega)
    have h2 : (arr n (put f i x))[j]? = none := List.getElem?_eq_none (by rw [arr_len]; omega)
    rw [h1, h2, arr_len]
    split
    · rw [if_neg (by omega)]
    · rfl
theorem arr_list (l : List α) (d : α) : l = arr l.length (fun i => (l[i]?).getD d) := by
  apply List.ext_getElem?
  intro j
  by_cases hj : j < l.length
  · rw [arr_get hj, List.getElem?_eq_getElem hj]; rfl
  · rw [List.getElem?_eq_none (by omega), List.getElem?_eq_none (by rw [arr_len]; omega)]
theorem swp_l {i j : Nat} (h : i ≠ j) : swp f i j i = f j := by rw [swp, put_ne h, put_same]
theorem swp_r {i j : Nat} : swp f i j j = f i := by rw [swp, put_same]
theorem swp_o {i j k : Nat} (h1 : k ≠ i) (h2 : k ≠ j) : swp f i j k = f k := by rw [swp, put_ne h2, put_ne h1]
theorem swp_at (f : Nat → α) (i j k : Nat) : swp f i j k = if k = j then f i else if k = i then f j else f k := rfl
/-- What exchanges inside of a part can bring about. -/
inductive Per (a b : Nat) (f : Nat → α) : (Nat → α) → Prop
  | rfl : Per a b f f
  | sw {g : Nat → α} {i j : Nat} : Per a b f g → a ≤ i → i < b → a ≤ j → j < b → Per a b f (swp g i j)
theorem Per.trans {a b : Nat} {f g h : Nat → α} (h1 : Per a b f g) (h2 : Per a b g h) : Per a b f h := by
  induction h2 with
  | rfl => exact h1
  | sw _ a1 a2 a3 a4 ih => exact .sw ih a1 a2 a3 a4
theorem Per.mono {a b a' b' : Nat} {f g : Nat → α} (h : Per a b f g) (ha : a' ≤ a) (hb : b ≤ b') : Per a' b' f g := by
  induction h with
  | rfl => exact .rfl
  | sw _ a1 a2 a3 a4 ih => exact .sw ih (by omega) (by omega) (by omega) (by omega)
theorem Per.out {a b k : Nat} {f g : Nat → α} (h : Per a b f g) (hk : k < a ∨ b ≤ k) : g k = f k := by
  induction h with
  | rfl => rfl
  | sw _ a1 a2 a3 a4 ih => rw [swp_o (by omega) (by omega)]; exact ih
theorem Per.all {a b : Nat} {f g : Nat → α} {P : α → Prop} (h : Per a b f g) (hp : ∀ k, a ≤ k → k < b → P (f k)) : ∀ k, a ≤ k → k < b → P (g k) := by
  induction h with
  | rfl => exact hp
  | sw _ a1 a2 a3 a4 ih =>
    intro k h1 h2
    rw [swp_at]
    split
    · exact ih _ a1 a2
    · split
      · exact ih _ a3 a4
      · exact ih _ h1 h2
theorem Per.perm {a b : Nat} {f g : Nat → α} (h : Per a b f g) (hb : b ≤ n) : (arr n g).Perm (arr n f) := by
  induction h with
  | rfl => exact List.Perm.refl _
  | @sw g i j _ a1 a2 a3 a4 ih =>
    refine List.Perm.trans ?_ ih
    have h1 : i < (arr n g).length := by rw [arr_len]; omega
    have h2 : j < (arr n g).length := by rw [arr_len]; omega
    have := @List.set_set_perm _ (arr n g) i j h1 h2
    have e1 : (arr n g)[i] = g i := by simp [arr]
    have e2 : (arr n g)[j] = g j := by simp [arr]
    rw [e1, e2, arr_set, arr_set] at this
    exact this
end
/-- An order by which is sorted: lt is "less", and not less the other way round is "at most". -/
structure Od {α : Type} (lt : α → α → Bool) : Prop where
  asym : ∀ x y, lt x y = true → lt y x = false
  tr : ∀ x y z, lt y x = false → lt z y = false → lt z x = false
theorem Od.refl {α : Type} {lt : α → α → Bool} (O : Od lt) (x : α) : lt x x = false := by
  cases h : lt x x with
  | false => rfl
  | true => have := O.asym x x h; rw [h] at this; exact this
def Srt {α : Type} (lt : α → α → Bool) (a b : Nat) (f : Nat → α) : Prop := ∀ i j, a ≤ i → i < j → j < b → lt (f j) (f i) = false
section
variable {α : Type} {lt : α → α → Bool} {f : Nat → α}
theorem Srt.ext {a b : Nat} {g : Nat → α} (h : Srt lt a b f) (e : ∀ k, a ≤ k → k < b → g k = f k) : Srt lt a b g := by
  intro i j h1 h2 h3
  rw [e i h1 (by omega), e j (by omega) h3]; exact h i j h1 h2 h3
theorem Srt.pair {n : Nat} (h : Srt lt 0 n f) : (arr n f).Pairwise (fun x y => lt y x = false) := by
  rw [List.pairwise_iff_getElem]
  intro i j hi hj hij
  rw [arr_len] at hi hj
  have e1 : (arr n f)[i] = f i := by simp [arr]
  have e2 : (arr n f)[j] = f j := by simp [arr]
  rw [e1, e2]; exact h i j (Nat.zero_le _) hij hj
theorem srt_one {a b : Nat} (h : b ≤ a + 1) : Srt lt a b f := fun i j h1 h2 h3 => by omega
/-- Neighbours are enough. -/
theorem srt_adj (O : Od lt) {a b : Nat} (h : ∀ i, a ≤ i → i + 1 < b → lt (f (i + 1)) (f i) = false) : Srt lt a b f := by
  intro i j h1 h2 h3
  induction j with
  | zero => omega
  | succ j ih =>
    by_cases hij : i = j
    · subst hij; exact h i h1 h3
    · exact O.tr _ _ _ (ih (by omega) (by omega)) (h j (by omega) h3)
/-- All but one are in order, and that one is at most those behind it. -/
def Inn (lt : α → α → Bool) (a i j : Nat) (f : Nat → α) : Prop :=
  (∀ p q, a ≤ p → p < q → q ≤ i → p ≠ j → q ≠ j → lt (f q) (f p) = false) ∧ (∀ q, j < q → q ≤ i → lt (f q) (f j) = false)
theorem Inn.init {a i : Nat} (h : Srt lt a i f) : Inn lt a i i f := ⟨fun p q h1 h2 h3 h4 h5 => h p q h1 h2 (by omega), fun q h1 h2 => by omega⟩
theorem Inn.step (O : Od lt) {a i j : Nat} (h : Inn lt a i j f) (hj : a < j) (hi : j ≤ i) (hl : lt (f j) (f (j - 1)) = true) : Inn lt a i (j - 1) (swp f j (j - 1)) := by
  obtain ⟨h1, h2⟩ := h
  constructor
  · intro p q p1 p2 p3 p4 p5
    by_cases e1 : q = j
    · subst e1
      rw [swp_l (by omega), swp_o (by omega) p4]
      exact h1 p (q - 1) p1 (by omega) (by omega) (by omega) (by omega)
    · by_cases e2 : p = j
      · subst e2
        rw [swp_l (by omega), swp_o (by omega) p5]
        exact h1 (p - 1) q (by omega) (by omega) p3 (by omega) e1
      · rw [swp_o e1 p5, swp_o e2 p4]
        exact h1 p q p1 p2 p3 e2 e1
  · intro q q1 q2
    rw [swp_r]
    by_cases e : q = j
    · subst e
      rw [swp_l (by omega)]
      exact O.asym _ _ hl
    · rw [swp_o e (by omega)]
      exact h2 q (by omega) q2
theorem Inn.fin (O : Od lt) {a i j : Nat} (h : Inn lt a i j f) (hj : a ≤ j) (hi : j ≤ i) (hl : j = a ∨ lt (f j) (f (j - 1)) = false) : Srt lt a (i + 1) f := by
  obtain ⟨h1, h2⟩ := h
  intro p q p1 p2 p3
  by_cases e1 : q = j
  · subst e1
    rcases hl with rfl | hl
    · omega
    · by_cases e : p = q - 1
      · subst e; exact hl
      · exact O.tr _ _ _ (h1 p (q - 1) p1 (by omega) (by omega) (by omega) (by omega)) hl
  · by_cases e2 : p = j
    · subst e2; exact h2 q p2 (by omega)
    · exact h1 p q p1 p2 (by omega) e2 e1
/-! ### Heaps -/
def Hp (lt : α → α → Bool) (F lo hi : Nat) (f : Nat → α) : Prop := ∀ k c, lo ≤ k → (c = 2 * k + 1 ∨ c = 2 * k + 2) → c < hi → lt (f (F + k)) (f (F + c)) = false
/-- A heap but for one place. -/
def Hx (lt : α → α → Bool) (F lo hi r : Nat) (f : Nat → α) : Prop :=
  (∀ k c, lo ≤ k → k ≠ r → (c = 2 * k + 1 ∨ c = 2 * k + 2) → c < hi → lt (f (F + k)) (f (F + c)) = false) ∧
  (∀ k c, lo ≤ k → (r = 2 * k + 1 ∨ r = 2 * k + 2) → (c = 2 * r + 1 ∨ c = 2 * r + 2) → c < hi → lt (f (F + k)) (f (F + c)) = false)
theorem Hx.init {F lo hi : Nat} (h : Hp lt F (lo + 1) hi f) : Hx lt F lo hi lo f :=
  ⟨fun k c h1 h2 h3 h4 => h k c (by omega) h3 h4, fun k c h1 h2 h3 h4 => by omega⟩
theorem Hx.none {F lo hi r : Nat} (h : Hx lt F lo hi r f) (hr : hi ≤ 2 * r + 1) : Hp lt F lo hi f := by
  intro k c h1 h2 h3
  by_cases e : k = r
  · subst e; omega
  · exact h.1 k c h1 e h2 h3
/-- The larger child of r. -/
def Big (lt : α → α → Bool) (F hi r c : Nat) (f : Nat → α) : Prop := (c = 2 * r + 1 ∨ c = 2 * r + 2) ∧ c < hi ∧ ∀ d, (d = 2 * r + 1 ∨ d = 2 * r + 2) → d < hi → lt (f (F + c)) (f (F + d)) = false
theorem Hx.done (O : Od lt) {F lo hi r c : Nat} (h : Hx lt F lo hi r f) (hb : Big lt F hi r c f) (hl : lt (f (F + r)) (f (F + c)) = false) : Hp lt F lo hi f := by
  intro k d h1 h2 h3
  by_cases e : k = r
  · subst e; exact O.tr _ _ _ (hb.2.2 d h2 h3) hl
  · exact h.1 k d h1 e h2 h3
theorem Hx.step (O : Od lt) {F lo hi r c : Nat} (h : Hx lt F lo hi r f) (hr : lo ≤ r) (hb : Big lt F hi r c f) (hl : lt (f (F + r)) (f (F + c)) = true) : Hx lt F lo hi c (swp f (F + r) (F + c)) := by
  obtain ⟨b1, b2, b3⟩ := hb
  have hrc : r ≠ c := by omega
  constructor
  · intro k d h1 h2 h3 h4
    by_cases e : k = r
    · subst e
      rw [swp_l (by omega)]
      by_cases e2 : d = c
      · subst e2; rw [swp_r]; exact O.asym _ _ hl
      · rw [swp_o (by omega) (by omega)]; exact b3 d h3 h4
    · rw [swp_o (k := F + k) (by omega) (by omega)]
      by_cases e2 : d = r
      · subst e2
        rw [swp_l (by omega)]
        exact h.2 k c h1 h3 b1 b2
      · rw [swp_o (by omega) (by omega)]
        exact h.1 k d h1 e h3 h4
  · intro k d h1 h2 h3 h4
    have e : k = r := by omega
    subst e
    rw [swp_l (by omega), swp_o (by omega) (by omega)]
    exact h.1 c d (by omega) (by omega) h3 h4
theorem big_l {F hi r : Nat} (O : Od lt) (h : 2 * r + 1 < hi) (h2 : 2 * r + 2 < hi → lt (f (F + (2 * r + 1))) (f (F + (2 * r + 2))) = false) : Big lt F hi r (2 * r + 1) f :=
  ⟨Or.inl rfl, h, fun d hd h3 => by
    rcases hd with rfl | rfl
    · exact O.refl _
    · exact h2 h3⟩
theorem big_r {F hi r : Nat} (O : Od lt) (h : 2 * r + 2 < hi) (h2 : lt (f (F + (2 * r + 1))) (f (F + (2 * r + 2))) = true) : Big lt F hi r (2 * r + 2) f :=
  ⟨Or.inr rfl, h, fun d hd h3 => by
    rcases hd with rfl | rfl
    · exact O.asym _ _ h2
    · exact O.refl _⟩
theorem Hp.top (O : Od lt) {F hi : Nat} (h : Hp lt F 0 hi f) : ∀ k, k < hi → lt (f F) (f (F + k)) = false := by
  intro k
  induction k using Nat.strongRecOn with
  | _ k ih =>
    intro hk
    by_cases e : k = 0
    · subst e; exact O.refl _
    · exact O.tr _ _ _ (h ((k - 1) / 2) k (Nat.zero_le _) (by omega) hk) (ih ((k - 1) / 2) (by omega) (by omega))
/-- Taking the greatest ones off a heap. -/
def Pop (lt : α → α → Bool) (F m hi : Nat) (f : Nat → α) : Prop :=
  Hp lt F 0 m f ∧ Srt lt (F + m) (F + hi) f ∧ ∀ p q, p < m → m ≤ q → q < hi → lt (f (F + q)) (f (F + p)) = false
theorem Pop.init {F hi : Nat} (h : Hp lt F 0 hi f) : Pop lt F hi hi f := ⟨h, srt_one (by omega), fun p q h1 h2 h3 => by omega⟩
theorem Pop.pre {F m hi : Nat} (h : Pop lt F (m + 1) hi f) : Hp lt F 1 m (swp f F (F + m)) := by
  intro k c h1 h2 h3
  rw [swp_o (by omega) (by omega), swp_o (by omega) (by omega)]
  exact h.1 k c (by omega) h2 (by omega)
theorem Pop.step (O : Od lt) {F m hi : Nat} {g : Nat → α} (h : Pop lt F (m + 1) hi f) (hm : m < hi) (hp : Per F (F + m) (swp f F (F + m)) g) (hh : Hp lt F 0 m g) : Pop lt F m hi g := by
  obtain ⟨h1, h2, h3⟩ := h
  have htop := h1.top O
  have hout : ∀ q, m ≤ q → g (F + q) = swp f F (F + m) (F + q) := fun q hq => hp.out (by omega)
  have hgm : g (F + m) = f F := by rw [hout m (Nat.le_refl _)]; exact swp_r
  have hgq : ∀ q, m < q → g (F + q) = f (F + q) := fun q hq => by rw [hout q (by omega)]; exact swp_o (by omega) (by omega)
  have hall : ∀ k, F ≤ k → k < F + m → lt (f F) (g k) = false ∧ ∀ q, m < q → q < hi → lt (f (F + q)) (g k) = false := by
    refine hp.all (P := fun x => lt (f F) x = false ∧ ∀ q, m < q → q < hi → lt (f (F + q)) x = false) fun k k1 k2 => ?_
    obtain ⟨p, rfl⟩ : ∃ p, k = F + p := ⟨k - F, by omega⟩
    by_cases e : p = 0
    · subst e
      have : swp f F (F + m) (F + 0) = f (F + m) := swp_l (by omega)
      rw [this]
      exact ⟨htop m (by omega), fun q q1 q2 => h3 m q (by omega) (by omega) q2⟩
    · have : swp f F (F + m) (F + p) = f (F + p) := swp_o (by omega) (by omega)
      rw [this]
      exact ⟨htop p (by omega), fun q q1 q2 => h3 p q (by omega) (by omega) q2⟩
  refine ⟨hh, ?_, ?_⟩
  · intro i j i1 i2 i3
    obtain ⟨p, rfl⟩ : ∃ p, i = F + p := ⟨i - F, by omega⟩
    obtain ⟨q, rfl⟩ : ∃ q, j = F + q := ⟨j - F, by omega⟩
    rw [hgq q (by omega)]
    by_cases e : p = m
    · subst e
      rw [hgm]
      exact h3 0 q (by omega) (by omega) (by omega)
    · rw [hgq p (by omega)]
      exact h2 _ _ (by omega) (by omega) i3
  · intro p q p1 p2 p3
    obtain ⟨a1, a2⟩ := hall (F + p) (by omega) (by omega)
    by_cases e : q = m
    · subst e; rw [hgm]; exact a1
    · rw [hgq q (by omega)]; exact a2 q (by omega) p3
theorem Pop.fin {F hi : Nat} (h : Pop lt F 0 hi f) : Srt lt F (F + hi) f := h.2.1
/-! ### Parts -/
/-- The part is divided around place j: the smaller ones left of it. -/
def Div (lt : α → α → Bool) (a b j : Nat) (f : Nat → α) : Prop := (∀ k, a ≤ k → k < j → lt (f k) (f j) = true) ∧ (∀ k, j < k → k < b → lt (f k) (f j) = false)
/-- Where dividing stands: the pivot lies at a. -/
def Dv (lt : α → α → Bool) (a b i j : Nat) (f : Nat → α) : Prop := (∀ k, a < k → k < i → lt (f k) (f a) = true) ∧ (∀ k, j < k → k < b → lt (f k) (f a) = false)
theorem Dv.fin (O : Od lt) {a b j : Nat} (h : Dv lt a b (j + 1) j f) (ha : a ≤ j) : Div lt a b j (swp f j a) := by
  obtain ⟨h1, h2⟩ := h
  by_cases e : j = a
  · subst e
    have es : swp f j j = f := by funext k; rw [swp_at]; split <;> simp_all
    rw [es]
    exact ⟨fun k k1 k2 => by omega, h2⟩
  · refine ⟨fun k k1 k2 => ?_, fun k k1 k2 => ?_⟩
    · rw [swp_l e]
      by_cases e2 : k = a
      · subst e2; rw [swp_r]; exact h1 j (by omega) (by omega)
      · rw [swp_o (by omega) e2]; exact h1 k (by omega) (by omega)
    · rw [swp_l e, swp_o (by omega) (by omega)]; exact h2 k k1 k2
theorem Dv.sw {a b i j : Nat} (h : Dv lt a b i j f) (hai : a < i) (hij : i ≤ j) (h1 : lt (f i) (f a) = false) (h2 : lt (f j) (f a) = true) : i < j ∧ Dv lt a b (i + 1) (j - 1) (swp f i j) := by
  have hne : i ≠ j := fun e => by rw [e, h2] at h1; cases h1
  have ha : swp f i j a = f a := swp_o (by omega) (by omega)
  refine ⟨by omega, fun k k1 k2 => ?_, fun k k1 k2 => ?_⟩
  · rw [ha]
    by_cases e : k = i
    · subst e; rw [swp_l hne]; exact h2
    · rw [swp_o e (by omega)]; exact h.1 k k1 (by omega)
  · rw [ha]
    by_cases e : k = j
    · subst e; rw [swp_r]; exact h1
    · rw [swp_o (by omega) e]; exact h.2 k (by omega) k2
theorem Dv.i {a b i j : Nat} (h : Dv lt a b i j f) (h1 : lt (f i) (f a) = true) : Dv lt a b (i + 1) j f :=
  ⟨fun k k1 k2 => by
    by_cases e : k = i
    · subst e; exact h1
    · exact h.1 k k1 (by omega), h.2⟩
theorem Dv.j {a b i j : Nat} (h : Dv lt a b i j f) (h1 : lt (f j) (f a) = false) : Dv lt a b i (j - 1) f :=
  ⟨h.1, fun k k1 k2 => by
    by_cases e : k = j
    · subst e; exact h1
    · exact h.2 k (by omega) k2⟩
/-- The same for those that equal the pivot. -/
def Eq' (lt : α → α → Bool) (a b i j : Nat) (f : Nat → α) : Prop := (∀ k, a < k → k < i → lt (f a) (f k) = false) ∧ (∀ k, j < k → k < b → lt (f a) (f k) = true)
theorem Eq'.sw {a b i j : Nat} (h : Eq' lt a b i j f) (hai : a < i) (hij : i ≤ j) (h1 : lt (f a) (f i) = true) (h2 : lt (f a) (f j) = false) : i < j ∧ Eq' lt a b (i + 1) (j - 1) (swp f i j) := by
  have hne : i ≠ j := fun e => by rw [e, h2] at h1; cases h1
  have ha : swp f i j a = f a := swp_o (by omega) (by omega)
  refine ⟨by omega, fun k k1 k2 => ?_, fun k k1 k2 => ?_⟩
  · rw [ha]
    by_cases e : k = i
    · subst e; rw [swp_l hne]; exact h2
    · rw [swp_o e (by omega)]; exact h.1 k k1 (by omega)
  · rw [ha]
    by_cases e : k = j
    · subst e; rw [swp_r]; exact h1
    · rw [swp_o (by omega) e]; exact h.2 k (by omega) k2
theorem Eq'.i {a b i j : Nat} (h : Eq' lt a b i j f) (h1 : lt (f a) (f i) = false) : Eq' lt a b (i + 1) j f :=
  ⟨fun k k1 k2 => by
    by_cases e : k = i
    · subst e; exact h1
    · exact h.1 k k1 (by omega), h.2⟩
theorem Eq'.j {a b i j : Nat} (h : Eq' lt a b i j f) (h1 : lt (f a) (f j) = true) : Eq' lt a b i (j - 1) f :=
  ⟨h.1, fun k k1 k2 => by
    by_cases e : k = j
    · subst e; exact h1
    · exact h.2 k (by omega) k2⟩
/-- All of a part are at least what lies ahead of it. -/
def Low (lt : α → α → Bool) (a b : Nat) (f : Nat → α) : Prop := 0 < a → ∀ k, a ≤ k → k < b → lt (f k) (f (a - 1)) = false
theorem Low.per {a b : Nat} {g : Nat → α} (h : Low lt a b f) (hp : Per a b f g) : Low lt a b g := by
  intro h0 k k1 k2
  rw [hp.out (k := a - 1) (by omega)]
  exact hp.all (P := fun x => lt x (f (a - 1)) = false) (h h0) k k1 k2
/-- The whole is sorted when the parts are. -/
theorem div_join (O : Od lt) {a b j : Nat} {f g h : Nat → α} (hd : Div lt a b j f) (ha : a ≤ j) (hj : j < b) (p1 : Per a j f g) (s1 : Srt lt a j g) (p2 : Per (j + 1) b g h) (s2 : Srt lt (j + 1) b h) : Srt lt a b h := by
  have ej : h j = f j := by rw [p2.out (by omega), p1.out (by omega)]
  have el : ∀ k, a ≤ k → k < j → lt (h k) (f j) = true := by
    intro k k1 k2
    rw [p2.out (by omega)]
    exact p1.all (P := fun x => lt x (f j) = true) hd.1 k k1 k2
  have er : ∀ k, j + 1 ≤ k → k < b → lt (h k) (f j) = false := by
    refine p2.all (P := fun x => lt x (f j) = false) fun k k1 k2 => ?_
    rw [p1.out (by omega)]; exact hd.2 k (by omega) k2
  intro i k i1 i2 i3
  by_cases c1 : k < j
  · have := s1 i k i1 i2 c1
    rw [p2.out (by omega), p2.out (by omega)]; exact this
  · by_cases c2 : i < j
    · have h1 := O.asym _ _ (el i i1 c2)
      by_cases c3 : k = j
      · subst c3; rw [ej]; exact h1
      · exact O.tr _ _ _ h1 (er k (by omega) i3)
    · by_cases c3 : i = j
      · subst c3; rw [ej]; exact er k (by omega) i3
      · exact s2 i k (by omega) i2 i3
/-- The same, the right part first. -/
theorem div_join' (O : Od lt) {a b j : Nat} {f g h : Nat → α} (hd : Div lt a b j f) (ha : a ≤ j) (hj : j < b) (p1 : Per (j + 1) b f g) (s1 : Srt lt (j + 1) b g) (p2 : Per a j g h) (s2 : Srt lt a j h) : Srt lt a b h := by
  have ej : h j = f j := by rw [p2.out (by omega), p1.out (by omega)]
  have el : ∀ k, a ≤ k → k < j → lt (h k) (f j) = true := by
    refine p2.all (P := fun x => lt x (f j) = true) fun k k1 k2 => ?_
    rw [p1.out (by omega)]; exact hd.1 k k1 k2
  have er : ∀ k, j + 1 ≤ k → k < b → lt (h k) (f j) = false := by
    intro k k1 k2
    rw [p2.out (by omega)]
    exact p1.all (P := fun x => lt x (f j) = false) (fun k k1 k2 => hd.2 k (by omega) k2) k k1 k2
  intro i k i1 i2 i3
  by_cases c1 : k < j
  · exact s2 i k i1 i2 c1
  · by_cases c2 : i < j
    · have h1 := O.asym _ _ (el i i1 c2)
      by_cases c3 : k = j
      · subst c3; rw [ej]; exact h1
      · exact O.tr _ _ _ h1 (er k (by omega) i3)
    · by_cases c3 : i = j
      · subst c3; rw [ej]; exact er k (by omega) i3
      · have := s1 i k (by omega) i2 i3
        rw [p2.out (by omega), p2.out (by omega)]; exact this
/-- Those that equal the pivot are in order, and the others are greater. -/
theorem eq_join (O : Od lt) {a b i : Nat} {f h : Nat → α} (he : Eq' lt a b i (i - 1) f) (hi : a < i) (hib : i ≤ b) (hm : ∀ k, a ≤ k → k < b → lt (f k) (f a) = false) (p : Per i b f h) (s : Srt lt i b h) : Srt lt a b h := by
  have hg : ∀ k, i ≤ k → k < b → lt (f a) (h k) = true := p.all (P := fun x => lt (f a) x = true) fun k k1 k2 => he.2 k (by omega) k2
  have hle : ∀ k, a ≤ k → k < i → lt (f a) (h k) = false ∧ lt (h k) (f a) = false := by
    intro k k1 k2
    rw [p.out (by omega)]
    refine ⟨?_, hm k k1 (by omega)⟩
    by_cases e : k = a
    · subst e; exact O.refl _
    · exact he.1 k (by omega) k2
  intro x y x1 x2 x3
  by_cases c : i ≤ x
  · exact s x y c x2 x3
  · have hx := hle x x1 (by omega)
    by_cases c2 : y < i
    · exact O.tr _ _ _ hx.1 (hle y (by omega) c2).2
    · exact O.tr _ _ _ hx.1 (O.asym _ _ (hg y (by omega) x3))
end
end Go.Proofs.Ytaekgifbehoipaa.So
/- Rows of things of several cells that a sort works on: reading, exchanging, what stays. Conditions stand in each lemma. -/
namespace Go.Proofs.Ytaekgifbehoipaa.So
open Go Go.Proofs.Ytaekgifbehoipaa.Eva
set_option linter.unusedVariables false
set_option linter.unusedSimpArgs false

/-- Elements: their cells, and the value that a load gives. -/
structure El {α : Type} (c : α → List AV) (sz : Nat) (e : α → AV) : Prop where
  len : ∀ x, (c x).length = sz
  pos : 0 < sz
  cells : ∀ x, cellsOf (e x) = c x
  tup : ∀ x, (e x).isTup = false
  sc : ∀ x, (c x).all AV.scalar = true
/-- A row of n elements, the whole of an object from n0 on; or none. -/
def Fs {α : Type} (n0 : Nat) (h : List Ob) (v : AV) (c : α → List AV) (sz n : Nat) (f : Nat → α) : Prop :=
  (n = 0 ∧ lenvA false v = some (.int .i64 0) ∧ cellsOf v = [v] ∧ v.isTup = false ∧ ∀ id, ¬ idOf v id) ∨ ∃ id ep, v = .sl false id ep sz 0 n ∧ rdObj h id ep = some ⟨flat c (arr n f), ep, sz, true, true⟩ ∧ n0 ≤ id
/-- All but the object of v stays. -/
def Kp (v : AV) (h h' : List Ob) : Prop := h.length ≤ h'.length ∧ ∀ id ep o, ¬ idOf v id → rdObj h id ep = some o → rdObj h' id ep = some o
theorem Kp.refl {v : AV} {h : List Ob} : Kp v h h := ⟨Nat.le_refl _, fun _ _ _ _ h => h⟩
theorem Kp.trans {v : AV} {h h' h'' : List Ob} (a : Kp v h h') (b : Kp v h' h'') : Kp v h h'' := ⟨Nat.le_trans a.1 b.1, fun id ep o hi ho => b.2 id ep o hi (a.2 id ep o hi ho)⟩
theorem Kp.app {v : AV} {h : List Ob} (o : List Ob) : Kp v h (h ++ o) := ⟨by simp, fun _ _ _ _ h => rd_keep h⟩
section
variable {α : Type} {c : α → List AV} {sz n n0 : Nat} {e : α → AV} {h : List Ob} {v : AV} {f : Nat → α}
theorem flat_set (hc : ∀ x, (c x).length = sz) (h0 : 0 < sz) {l : List α} {i : Nat} {x : α} (hi : i < l.length) : wr (flat c l) (i * sz) (c x) = flat c (l.set i x) := by
  unfold wr
  have hl := flat_len hc l
  split
  · rename_i h1
    rw [hc, hl] at h1
    have h2 : l.length = 1 := by
      have : l.length * sz = 1 * sz := by omega
      exact Nat.eq_of_mul_eq_mul_right h0 this
    match l, h2 with
    | [a], _ =>
      have : i = 0 := by simp at hi; omega
      subst this
      simp [flat]
  · rw [List.set_eq_take_append_cons_drop, if_pos hi]
    have e1 : flat c (l.take i ++ x :: l.drop (i + 1)) = flat c (l.take i) ++ (c x ++ flat c (l.drop (i + 1))) := by simp [flat]
    rw [e1, flat_take' hc, flat_drop hc, hc, Nat.succ_mul, List.append_assoc]
theorem Fs.real (A : Fs n0 h v c sz n f) {i : Nat} (hi : i < n) : ∃ id ep, v = .sl false id ep sz 0 n ∧ rdObj h id ep = some ⟨flat c (arr n f), ep, sz, true, true⟩ ∧ n0 ≤ id := by
  rcases A with ⟨h0, _⟩ | A
  · omega
  · exact A
theorem Fs.len (A : Fs n0 h v c sz n f) : lenvA false v = some (.int .i64 n) := by
  rcases A with ⟨rfl, h1, _⟩ | ⟨id, ep, rfl, h2, h3⟩
  · exact h1
  · rfl
theorem Fs.cells (A : Fs n0 h v c sz n f) : cellsOf v = [v] := by
  rcases A with ⟨rfl, h1, h2, _⟩ | ⟨id, ep, rfl, h2, h3⟩
  · exact h2
  · rfl
theorem Fs.isTup (A : Fs n0 h v c sz n f) : v.isTup = false := by
  rcases A with ⟨rfl, h1, h2, h3, _⟩ | ⟨id, ep, rfl, h2, h3⟩
  · exact h3
  · rfl
theorem Fs.ge (A : Fs n0 h v c sz n f) {id : Nat} (hid : idOf v id) : n0 ≤ id := by
  rcases A with ⟨rfl, h1, h2, h3, h4⟩ | ⟨id, ep, rfl, h2, h3⟩
  · exact absurd hid (h4 _)
  · obtain ⟨_, rfl⟩ := hid; exact h3
theorem Fs.lt (A : Fs n0 h v c sz n f) {id : Nat} (hid : idOf v id) : id < h.length := by
  rcases A with ⟨rfl, h1, h2, h3, h4⟩ | ⟨id, ep, rfl, h2, h3⟩
  · exact absurd hid (h4 _)
  · obtain ⟨_, rfl⟩ := hid; exact rd_lt h2
theorem Fs.mono {h' : List Ob} (A : Fs n0 h v c sz n f) (hm : ∀ id ep o, idOf v id → rdObj h id ep = some o → rdObj h' id ep = some o) : Fs n0 h' v c sz n f := by
  rcases A with A | ⟨id, ep, rfl, h2, h3⟩
  · exact Or.inl A
  · exact Or.inr ⟨id, ep, rfl, hm _ _ _ ⟨rfl, rfl⟩ h2, h3⟩
theorem Fs.keep (A : Fs n0 h v c sz n f) (o : List Ob) : Fs n0 (h ++ o) v c sz n f := A.mono fun _ _ _ _ ho => rd_keep ho
theorem Fs.down {n1 : Nat} (A : Fs n0 h v c sz n f) (hn : n1 ≤ n0) : Fs n1 h v c sz n f := by
  rcases A with A | ⟨id, ep, rfl, h2, h3⟩
  · exact Or.inl A
  · exact Or.inr ⟨id, ep, rfl, h2, by omega⟩
theorem Fs.ext {g : Nat → α} (A : Fs n0 h v c sz n f) (he : ∀ i, i < n → f i = g i) : Fs n0 h v c sz n g := by
  rcases A with A | ⟨id, ep, rfl, h2, h3⟩
  · exact Or.inl A
  · exact Or.inr ⟨id, ep, rfl, by rw [← arr_ext he]; exact h2, h3⟩
theorem Fs.ok (A : Fs n0 h v c sz n f) {kk : IntKind} {i : Nat} (hi : i < n) : idxOk sz v (.int kk (i : Int)) := by
  obtain ⟨id, ep, rfl, h2, h3⟩ := A.real hi
  exact ⟨by omega, by omega, rfl, rfl⟩
theorem Fs.sl (L : El c sz e) (A : Fs n0 h v c sz n f) {i : Nat} (hi : i < n) : SlL h v c sz (arr n f) := by
  obtain ⟨id, ep, rfl, h2, h3⟩ := A.real hi
  refine ⟨L.len, L.pos, flat_len L.len _, Or.inr ⟨id, ep, 0, _, by rw [arr_len], h2, ?_, ?_⟩⟩
  · simp only [flat_len L.len, Nat.zero_add, Nat.le_refl]
  · rw [List.drop_zero, ← flat_len L.len, List.take_length]
theorem Fs.ldn (L : El c sz e) (A : Fs n0 h v c sz n f) {kk : IntKind} {i : Nat} (hi : i < n) : ldnA sz h (idxV sz v (.int kk (i : Int))) = some (.agg (c (f i))) :=
  (A.sl L hi).ldn (by omega) (by rw [Int.toNat_natCast]; exact arr_get hi)
theorem Fs.ld0 (L : El c sz e) (A : Fs n0 h v c sz n f) {kk : IntKind} {i : Nat} (hi : i < n) : ld1A h (idxV sz v (.int kk (i : Int))) = getC (c (f i)) 0 :=
  (A.sl L hi).ld0 (by omega) (by rw [Int.toNat_natCast]; exact arr_get hi)
theorem Fs.ldE (L : El c sz e) (he : ∀ x, e x = .agg (c x)) (A : Fs n0 h v c sz n f) {kk : IntKind} {i : Nat} (hi : i < n) : ldnA sz h (idxV sz v (.int kk (i : Int))) = some (e (f i)) := by rw [he]; exact A.ldn L hi
theorem Fs.ldI (L : El c sz e) (he : ∀ x, getC (c x) 0 = some (e x)) (A : Fs n0 h v c sz n f) {kk : IntKind} {i : Nat} (hi : i < n) : ld1A h (idxV sz v (.int kk (i : Int))) = some (e (f i)) := by rw [A.ld0 L hi, he]
theorem Fs.stO (L : El c sz e) (A : Fs n0 h v c sz n f) {kk : IntKind} {i : Nat} (hi : i < n) (y : α) : stOk n0 sz h (idxV sz v (.int kk (i : Int))) (e y) := by
  obtain ⟨id, ep, rfl, h2, h3⟩ := A.real hi
  rw [idxV_sl, stOk_ptr, h2]
  show (cellsOf (e y)).length = sz ∧ 0 + (i : Int).toNat * sz + sz ≤ (flat c (arr n f)).length ∧ (e y).isTup = false ∧ true = true ∧ n0 ≤ id
  rw [L.cells, L.tup, L.len, flat_len L.len, arr_len, Int.toNat_natCast, Nat.zero_add]
  refine ⟨rfl, ?_, rfl, rfl, h3⟩
  have : (i + 1) * sz ≤ n * sz := Nat.mul_le_mul_right _ (by omega)
  rw [Nat.succ_mul] at this
  exact this
theorem Fs.st (L : El c sz e) (A : Fs n0 h v c sz n f) {kk : IntKind} {i : Nat} (hi : i < n) (y : α) :
    Fs n0 (stH h (idxV sz v (.int kk (i : Int))) (e y)) v c sz n (put f i y) ∧ Kp v h (stH h (idxV sz v (.int kk (i : Int))) (e y)) ∧ (stH h (idxV sz v (.int kk (i : Int))) (e y)).length = h.length ∧ (stH h (idxV sz v (.int kk (i : Int))) (e y)).take n0 = h.take n0 := by
  obtain ⟨id, ep, rfl, h2, h3⟩ := A.real hi
  have hlt := rd_lt h2
  have he : stH h (idxV sz (.sl false id ep sz 0 n) (.int kk (i : Int))) (e y) = h.set id ⟨flat c (arr n (put f i y)), ep, sz, true, true⟩ := by
    rw [idxV_sl, stH_ptr, h2]
    simp only [putObj, L.cells, L.sc, Int.toNat_natCast, Nat.zero_add, Bool.and_true]
    rw [flat_set L.len L.pos (by rw [arr_len]; exact hi), arr_set]
  rw [he]
  refine ⟨Or.inr ⟨id, ep, rfl, rd_set_same (o := ⟨flat c (arr n (put f i y)), ep, sz, true, true⟩) hlt, h3⟩, ⟨by simp, fun id' ep' o hne ho => ?_⟩, by simp, List.take_set_of_le h3⟩
  rw [rd_set_ne (fun e => hne ⟨rfl, e⟩)]; exact ho
/-- Two are exchanged, by two stores. -/
theorem Fs.sw (L : El c sz e) (A : Fs n0 h v c sz n f) {kk : IntKind} {i j : Nat} (hi : i < n) (hj : j < n) :
    stOk n0 sz h (idxV sz v (.int kk (i : Int))) (e (f j)) ∧ stOk n0 sz (stH h (idxV sz v (.int kk (i : Int))) (e (f j))) (idxV sz v (.int kk (j : Int))) (e (f i)) ∧
    Fs n0 (stH (stH h (idxV sz v (.int kk (i : Int))) (e (f j))) (idxV sz v (.int kk (j : Int))) (e (f i))) v c sz n (swp f i j) ∧ Kp v h (stH (stH h (idxV sz v (.int kk (i : Int))) (e (f j))) (idxV sz v (.int kk (j : Int))) (e (f i))) ∧
    (stH (stH h (idxV sz v (.int kk (i : Int))) (e (f j))) (idxV sz v (.int kk (j : Int))) (e (f i))).length = h.length := by
  obtain ⟨a1, a2, a3, -⟩ := A.st L (kk := kk) hi (f j)
  obtain ⟨b1, b2, b3, -⟩ := a1.st L (kk := kk) hj (f i)
  exact ⟨A.stO L hi _, a1.stO L hj _, b1, a2.trans b2, by rw [b3, a3]⟩
end
/-- What a call does that sorts or exchanges within a row: in objects from n0 on, only in those of the row. -/
theorem row_call {α : Type} {c : α → List AV} {sz n n0 : Nat} {v : AV} {f : Nat → α} {E : Nat → Option CF} {g : Nat} {cf : CF} {P : AV → (Nat → α) → Prop} (hE : E g = some cf) {args : List AV} (hn : args.length = cf.np) (hnt : args.length ≤ cf.nt) {h : List Ob} (h0 : n0 ≤ h.length) (A : Fs n0 h v c sz n f)
    (hw : wc E n0 cf.nt cf.code (fun e x h' => exOk e = true ∧ ∃ r, (rvq cf.nt x h' cf.res).map mkRes = some r ∧ plainV r = true ∧ ∃ f', Fs n0 h' v c sz n f' ∧ Kp v h h' ∧ P r f') (ofL args) h) :
    ∃ r h2 f', mcall E n0 g args h = some (r, h2) ∧ n0 ≤ h2.length ∧ Fs n0 h2 v c sz n f' ∧ Kp v h h2 ∧ P r f' := by
  obtain ⟨r, h', h2, wl, wa, k1, k2, k3, k4, k5, k6, f', g1, g2, g3⟩ := call_mutV (P := fun r h' => ∃ f', Fs n0 h' v c sz n f' ∧ Kp v h h' ∧ P r f') hE hn hnt h0 ((wc_sound _ _ _ _ h0 hw).mono fun e x h' _ _ hq => by
    obtain ⟨a, r, b, b2, f', c1, c2, c3⟩ := hq
    exact ⟨a, r, b, b2, c2.1, f', c1, c2, c3⟩)
  have hm : ∀ id ep o, id < h.length → rdObj h' id ep = some o → rdObj h2 id ep = some o := fun id ep o hid ho => rd_take k6 hid ho
  exact ⟨r, h2, f', mcall_some.2 ⟨wl, wa, k1, k2, k3, by omega, k4⟩, by omega, g1.mono fun id ep o hid ho => hm id ep o (A.lt hid) ho, ⟨k5, fun id ep o hid ho => hm id ep o (rd_lt ho) (g2.2 id ep o hid ho)⟩, g3⟩
end Go.Proofs.Ytaekgifbehoipaa.So
/- Slices of whole numbers. Conditions: none. -/
namespace Go.Proofs.Ytaekgifbehoipaa.Fl
open Go Go.Proofs.Ytaekgifbehoipaa.Eva
def intC (x : Int) : List AV := [.int .i64 x]
theorem dv_i (d : DV) (h : goodD (.int .i64) d) : ∃ x : Int, True ∧ ∀ n, layD n (.int .i64) d = (intC x, []) := by
  obtain ⟨n1, rfl, lo1, hi1⟩ := good_i64 h
  exact ⟨n1, trivial, fun n => rfl⟩
end Go.Proofs.Ytaekgifbehoipaa.Fl
/- Length of a number in binary. Conditions stand in each lemma. -/
namespace Go.Proofs.Ytaekgifbehoipaa.Fl
open Go Go.Proofs.Ytaekgifbehoipaa.Eva Go.Proofs.Ytaekgifbehoipaa.CodeAll
set_option linter.unusedVariables false
set_option linter.unusedSimpArgs false
set_option maxRecDepth 10000
set_option maxHeartbeats 4000000

/-- The number of binary digits. -/
def len2 (x : Nat) : Nat := if x = 0 then 0 else x.log2 + 1
theorem len2_div {x k : Nat} (h : 2 ^ k ≤ x) : len2 x = len2 (x / 2 ^ k) + k := by
  have hx : x ≠ 0 := by have := Nat.two_pow_pos k; omega
  have hq : x / 2 ^ k ≠ 0 := by
    have : 1 ≤ x / 2 ^ k := (Nat.le_div_iff_mul_le (Nat.two_pow_pos k)).2 (by omega)
    omega
  simp only [len2, if_neg hx, if_neg hq]
  have e1 := Nat.log2_self_le hx
  have e2 := Nat.lt_log2_self (n := x)
  have hk : k ≤ x.log2 := by rw [Nat.le_log2 hx]; exact h
  have : (x / 2 ^ k).log2 = x.log2 - k := by
    rw [Nat.log2_eq_iff hq]
    constructor
    · rw [Nat.le_div_iff_mul_le (Nat.two_pow_pos k), ← Nat.pow_add]
      have : x.log2 - k + k = x.log2 := by omega
      rw [this]; exact e1
    · rw [Nat.div_lt_iff_lt_mul (Nat.two_pow_pos k), ← Nat.pow_add]
      have : x.log2 - k + 1 + k = x.log2 + 1 := by omega
      rw [this]; exact e2
  omega
theorem len2_le {x k : Nat} (h : x < 2 ^ k) : len2 x ≤ k := by
  unfold len2
  split
  · omega
  · rename_i hx
    have := (Nat.log2_lt hx).2 h
    omega
theorem len2_spec {x : Nat} (hx : x ≠ 0) : 2 ^ (len2 x - 1) ≤ x ∧ x < 2 ^ len2 x ∧ 1 ≤ len2 x := by
  simp only [len2, if_neg hx]
  exact ⟨Nat.log2_self_le hx, Nat.lt_log2_self, by omega⟩
theorem idx_getElem? {b : ByteArray} {i : Nat} {x : UInt8} (h : b.data.toList[i]? = some x) : b[i]? = some x := by
  have hi : i < b.data.toList.length := (List.getElem?_eq_some_iff.1 h).1
  have hi' : i < b.size := by simpa using hi
  rw [getElem?_pos b i hi']
  rw [List.getElem?_eq_getElem hi] at h
  simp only [Option.some.injEq] at h
  rw [← h]; simp [ByteArray.getElem_eq_getElem_data]
theorem tab_all : ∀ v : Fin 256, (#[0, 1, 2, 2, 3, 3, 3, 3, 4, 4, 4, 4, 4, 4, 4, 4, 5, 5, 5, 5, 5, 5, 5, 5, 5, 5, 5, 5, 5, 5, 5, 5, 6, 6, 6, 6, 6, 6, 6, 6, 6, 6, 6, 6, 6, 6, 6, 6, 6, 6, 6, 6, 6, 6, 6, 6, 6, 6, 6, 6, 6, 6, 6, 6, 7, 7, 7, 7, 7, 7, 7, 7, 7, 7, 7, 7, 7, 7, 7, 7, 7, 7, 7, 7, 7, 7, 7, 7, 7, 7, 7, 7, 7, 7, 7, 7, 7, 7, 7, 7, 7, 7, 7, 7, 7, 7, 7, 7, 7, 7, 7, 7, 7, 7, 7, 7, 7, 7, 7, 7, 7, 7, 7, 7, 7, 7, 7, 7, 8, 8, 8, 8, 8, 8, 8, 8, 8, 8, 8, 8, 8, 8, 8, 8, 8, 8, 8, 8, 8, 8, 8, 8, 8, 8, 8, 8, 8, 8, 8, 8, 8, 8, 8, 8, 8, 8, 8, 8, 8, 8, 8, 8, 8, 8, 8, 8, 8, 8, 8, 8, 8, 8, 8, 8, 8, 8, 8, 8, 8, 8, 8, 8, 8, 8, 8, 8, 8, 8, 8, 8, 8, 8, 8, 8, 8, 8, 8, 8, 8, 8, 8, 8, 8, 8, 8, 8, 8, 8, 8, 8, 8, 8, 8, 8, 8, 8, 8, 8, 8, 8, 8, 8, 8, 8, 8, 8, 8, 8, 8, 8, 8, 8, 8, 8, 8, 8, 8, 8, 8, 8, 8, 8, 8, 8, 8, 8] : Array UInt8).toList[v.val]? = some (UInt8.ofNat (len2 v.val)) := by decide +kernel
theorem tab_at (v : Nat) (h : v < 256) : ixsA (.str ⟨#[0, 1, 2, 2, 3, 3, 3, 3, 4, 4, 4, 4, 4, 4, 4, 4, 5, 5, 5, 5, 5, 5, 5, 5, 5, 5, 5, 5, 5, 5, 5, 5, 6, 6, 6, 6, 6, 6, 6, 6, 6, 6, 6, 6, 6, 6, 6, 6, 6, 6, 6, 6, 6, 6, 6, 6, 6, 6, 6, 6, 6, 6, 6, 6, 7, 7, 7, 7, 7, 7, 7, 7, 7, 7, 7, 7, 7, 7, 7, 7, 7, 7, 7, 7, 7, 7, 7, 7, 7, 7, 7, 7, 7, 7, 7, 7, 7, 7, 7, 7, 7, 7, 7, 7, 7, 7, 7, 7, 7, 7, 7, 7, 7, 7, 7, 7, 7, 7, 7, 7, 7, 7, 7, 7, 7, 7, 7, 7, 8, 8, 8, 8, 8, 8, 8, 8, 8, 8, 8, 8, 8, 8, 8, 8, 8, 8, 8, 8, 8, 8, 8, 8, 8, 8, 8, 8, 8, 8, 8, 8, 8, 8, 8, 8, 8, 8, 8, 8, 8, 8, 8, 8, 8, 8, 8, 8, 8, 8, 8, 8, 8, 8, 8, 8, 8, 8, 8, 8, 8, 8, 8, 8, 8, 8, 8, 8, 8, 8, 8, 8, 8, 8, 8, 8, 8, 8, 8, 8, 8, 8, 8, 8, 8, 8, 8, 8, 8, 8, 8, 8, 8, 8, 8, 8, 8, 8, 8, 8, 8, 8, 8, 8, 8, 8, 8, 8, 8, 8, 8, 8, 8, 8, 8, 8, 8, 8, 8, 8, 8, 8, 8, 8, 8, 8, 8, 8]⟩) (.int .u8 (v : Int)) = some (.int .u8 (len2 v : Int)) := by
  have e := idx_getElem? (b := ⟨#[0, 1, 2, 2, 3, 3, 3, 3, 4, 4, 4, 4, 4, 4, 4, 4, 5, 5, 5, 5, 5, 5, 5, 5, 5, 5, 5, 5, 5, 5, 5, 5, 6, 6, 6, 6, 6, 6, 6, 6, 6, 6, 6, 6, 6, 6, 6, 6, 6, 6, 6, 6, 6, 6, 6, 6, 6, 6, 6, 6, 6, 6, 6, 6, 7, 7, 7, 7, 7, 7, 7, 7, 7, 7, 7, 7, 7, 7, 7, 7, 7, 7, 7, 7, 7, 7, 7, 7, 7, 7, 7, 7, 7, 7, 7, 7, 7, 7, 7, 7, 7, 7, 7, 7, 7, 7, 7, 7, 7, 7, 7, 7, 7, 7, 7, 7, 7, 7, 7, 7, 7, 7, 7, 7, 7, 7, 7, 7, 8, 8, 8, 8, 8, 8, 8, 8, 8, 8, 8, 8, 8, 8, 8, 8, 8, 8, 8, 8, 8, 8, 8, 8, 8, 8, 8, 8, 8, 8, 8, 8, 8, 8, 8, 8, 8, 8, 8, 8, 8, 8, 8, 8, 8, 8, 8, 8, 8, 8, 8, 8, 8, 8, 8, 8, 8, 8, 8, 8, 8, 8, 8, 8, 8, 8, 8, 8, 8, 8, 8, 8, 8, 8, 8, 8, 8, 8, 8, 8, 8, 8, 8, 8, 8, 8, 8, 8, 8, 8, 8, 8, 8, 8, 8, 8, 8, 8, 8, 8, 8, 8, 8, 8, 8, 8, 8, 8, 8, 8, 8, 8, 8, 8, 8, 8, 8, 8, 8, 8, 8, 8, 8, 8, 8, 8, 8, 8]⟩) (tab_all ⟨v, h⟩)
  have e2 := ixsA_i (k := .u8) e
  have hl : len2 v ≤ 8 := len2_le (k := 8) (by omega)
  rw [e2]
  simp only [Option.some.injEq, AV.int.injEq, true_and]
  rw [UInt8.toNat_ofNat_of_lt' (show len2 v < 256 by omega)]

theorem len64_pc {x : Nat} (hx : x < M64) (H : List Ob) : pcall E 118 [.int .u64 (x : Int)] H = some (.int .i64 (len2 x : Int)) := by
  refine pcall_some.2 (call_plain e118 rfl (Nat.le_of_ble_eq_true rfl) rfl ?_)
  have fin : ∀ (y k : Nat), y < 256 → k ≤ 56 → IntKind.u8.wrap (y : Int) = (y : Int) ∧ ixsA (.str ⟨#[0, 1, 2, 2, 3, 3, 3, 3, 4, 4, 4, 4, 4, 4, 4, 4, 5, 5, 5, 5, 5, 5, 5, 5, 5, 5, 5, 5, 5, 5, 5, 5, 6, 6, 6, 6, 6, 6, 6, 6, 6, 6, 6, 6, 6, 6, 6, 6, 6, 6, 6, 6, 6, 6, 6, 6, 6, 6, 6, 6, 6, 6, 6, 6, 7, 7, 7, 7, 7, 7, 7, 7, 7, 7, 7, 7, 7, 7, 7, 7, 7, 7, 7, 7, 7, 7, 7, 7, 7, 7, 7, 7, 7, 7, 7, 7, 7, 7, 7, 7, 7, 7, 7, 7, 7, 7, 7, 7, 7, 7, 7, 7, 7, 7, 7, 7, 7, 7, 7, 7, 7, 7, 7, 7, 7, 7, 7, 7, 8, 8, 8, 8, 8, 8, 8, 8, 8, 8, 8, 8, 8, 8, 8, 8, 8, 8, 8, 8, 8, 8, 8, 8, 8, 8, 8, 8, 8, 8, 8, 8, 8, 8, 8, 8, 8, 8, 8, 8, 8, 8, 8, 8, 8, 8, 8, 8, 8, 8, 8, 8, 8, 8, 8, 8, 8, 8, 8, 8, 8, 8, 8, 8, 8, 8, 8, 8, 8, 8, 8, 8, 8, 8, 8, 8, 8, 8, 8, 8, 8, 8, 8, 8, 8, 8, 8, 8, 8, 8, 8, 8, 8, 8, 8, 8, 8, 8, 8, 8, 8, 8, 8, 8, 8, 8, 8, 8, 8, 8, 8, 8, 8, 8, 8, 8, 8, 8, 8, 8, 8, 8, 8, 8, 8, 8, 8, 8]⟩) (.int .u8 (y : Int)) = some (.int .u8 (len2 y : Int)) ∧ IntKind.i64.wrap (len2 y : Int) = (len2 y : Int) ∧ IntKind.i64.wrap ((k : Int) + (len2 y : Int)) = ((len2 y + k : Nat) : Int) := by
    intro y k hy hk
    have hl : len2 y ≤ 8 := len2_le (k := 8) (by omega)
    refine ⟨?_, tab_at y hy, wrap64 (by omega) (by omega), ?_⟩
    · simp only [IntKind.wrap, IntKind.bits, IntKind.signed]; simp; omega
    · rw [wrap64 (by omega) (by omega)]; omega
  have wa : IntKind.i64.wrap (32 + 16) = 48 := by decide
  have wb : IntKind.i64.wrap (0 + 16) = 16 := by decide
  have wc1 : IntKind.i64.wrap (48 + 8) = 56 := by decide
  have wd : IntKind.i64.wrap (32 + 8) = 40 := by decide
  have we : IntKind.i64.wrap (16 + 8) = 24 := by decide
  have wf : IntKind.i64.wrap (0 + 8) = 8 := by decide
  have s32 := fun x : Nat => shrk (kk := .u64) x 32 32 rfl (by decide)
  have s16 := fun x : Nat => shrk (kk := .u64) x 16 16 rfl (by decide)
  have s8 := fun x : Nat => shrk (kk := .u64) x 8 8 rfl (by decide)
  unfold M64 at hx
  by_cases h1 : 4294967296 ≤ x
  · have c1 : decide ((4294967296 : Int) ≤ (x : Int)) = true := decide_eq_true (by omega)
    have hl1 := len2_div (k := 32) (x := x) (by omega)
    by_cases h2 : 65536 ≤ x / 2 ^ 32
    · have c2 : decide ((65536 : Int) ≤ ((x / 2 ^ 32 : Nat) : Int)) = true := decide_eq_true (by omega)
      have hl2 := len2_div (k := 16) (x := x / 2 ^ 32) (by omega)
      by_cases h3 : 256 ≤ x / 2 ^ 32 / 2 ^ 16
      · have c3 : decide ((256 : Int) ≤ ((x / 2 ^ 32 / 2 ^ 16 : Nat) : Int)) = true := decide_eq_true (by omega)
        have hl3 := len2_div (k := 8) (x := x / 2 ^ 32 / 2 ^ 16) (by omega)
        obtain ⟨f1, f2, f3, f4⟩ := fin (x / 2 ^ 32 / 2 ^ 16 / 2 ^ 8) 56 (by omega) (by omega)
        have hR : len2 (x / 2 ^ 32 / 2 ^ 16 / 2 ^ 8) + 56 = len2 x := by omega
        rw [hR] at f4
        have f5 : IntKind.i64.wrap ((56 : Int) + (len2 (x / 2 ^ 32 / 2 ^ 16 / 2 ^ 8) : Int)) = (len2 x : Int) := f4
        simp (config := {maxSteps := 4000000}) only [c118, c1, c2, c3, s32, s16, s8, cviA_i, wa, wb, wc1, wd, we, wf, f1, f2, f3, f5, SS, bne_self_eq_false, wr_def, obOf, List.all_cons, List.all_nil, List.map_cons, List.map_nil, List.length_cons, List.length_nil, List.take_zero, List.take_succ_cons, List.take_nil, List.drop_zero, List.drop_succ_cons, List.drop_nil, Nat.reduceAdd, Nat.reduceMul, Nat.reduceSub, if_true, Nat.reduceLT, Nat.reduceLeDiff, ite_true, ite_false, Nat.reduceEqDiff, if_false, reduceCtorEq, ne_eq, List.getD, List.getElem?_cons_zero, List.getElem?_cons_succ, Option.getD_some, Option.bind_some, Option.map_some, Option.isSome_some, reduceIte, List.length_append, List.append_assoc, List.cons_append, List.nil_append, Option.some.injEq, forall_const, implies_true, Int.reduceNeg, eq_self, Prod.mk.injEq, List.self_eq_append_right, List.append_nil, exists_eq_left, exists_eq_left', exists_and_left, exists_eq_right, exists_and_right]
      · have c3 : decide ((256 : Int) ≤ ((x / 2 ^ 32 / 2 ^ 16 : Nat) : Int)) = false := decide_eq_false (by omega)
        obtain ⟨f1, f2, f3, f4⟩ := fin (x / 2 ^ 32 / 2 ^ 16) 48 (by omega) (by omega)
        have hR : len2 (x / 2 ^ 32 / 2 ^ 16) + 48 = len2 x := by omega
        rw [hR] at f4
        have f5 : IntKind.i64.wrap ((48 : Int) + (len2 (x / 2 ^ 32 / 2 ^ 16) : Int)) = (len2 x : Int) := f4
        simp (config := {maxSteps := 4000000}) only [c118, c1, c2, c3, s32, s16, s8, cviA_i, wa, wb, wc1, wd, we, wf, f1, f2, f3, f5, SS, bne_self_eq_false, wr_def, obOf, List.all_cons, List.all_nil, List.map_cons, List.map_nil, List.length_cons, List.length_nil, List.take_zero, List.take_succ_cons, List.take_nil, List.drop_zero, List.drop_succ_cons, List.drop_nil, Nat.reduceAdd, Nat.reduceMul, Nat.reduceSub, if_true, Nat.reduceLT, Nat.reduceLeDiff, ite_true, ite_false, Nat.reduceEqDiff, if_false, reduceCtorEq, ne_eq, List.getD, List.getElem?_cons_zero, List.getElem?_cons_succ, Option.getD_some, Option.bind_some, Option.map_some, Option.isSome_some, reduceIte, List.length_append, List.append_assoc, List.cons_append, List.nil_append, Option.some.injEq, forall_const, implies_true, Int.reduceNeg, eq_self, Prod.mk.injEq, List.self_eq_append_right, List.append_nil, exists_eq_left, exists_eq_left', exists_and_left, exists_eq_right, exists_and_right]
    · have c2 : decide ((65536 : Int) ≤ ((x / 2 ^ 32 : Nat) : Int)) = false := decide_eq_false (by omega)
      by_cases h3 : 256 ≤ x / 2 ^ 32
      · have c3 : decide ((256 : Int) ≤ ((x / 2 ^ 32 : Nat) : Int)) = true := decide_eq_true (by omega)
        have hl3 := len2_div (k := 8) (x := x / 2 ^ 32) (by omega)
        obtain ⟨f1, f2, f3, f4⟩ := fin (x / 2 ^ 32 / 2 ^ 8) 40 (by omega) (by omega)
        have hR : len2 (x / 2 ^ 32 / 2 ^ 8) + 40 = len2 x := by omega
        rw [hR] at f4
        have f5 : IntKind.i64.wrap ((40 : Int) + (len2 (x / 2 ^ 32 / 2 ^ 8) : Int)) = (len2 x : Int) := f4
        simp (config := {maxSteps := 4000000}) only [c118, c1, c2, c3, s32, s16, s8, cviA_i, wa, wb, wc1, wd, we, wf, f1, f2, f3, f5, SS, bne_self_eq_false, wr_def, obOf, List.all_cons, List.all_nil, List.map_cons, List.map_nil, List.length_cons, List.length_nil, List.take_zero, List.take_succ_cons, List.take_nil, List.drop_zero, List.drop_succ_cons, List.drop_nil, Nat.reduceAdd, Nat.reduceMul, Nat.reduceSub, if_true, Nat.reduceLT, Nat.reduceLeDiff, ite_true, ite_false, Nat.reduceEqDiff, if_false, reduceCtorEq, ne_eq, List.getD, List.getElem?_cons_zero, List.getElem?_cons_succ, Option.getD_some, Option.bind_some, Option.map_some, Option.isSome_some, reduceIte, List.length_append, List.append_assoc, List.cons_append, List.nil_append, Option.some.injEq, forall_const, implies_true, Int.reduceNeg, eq_self, Prod.mk.injEq, List.self_eq_append_right, List.append_nil, exists_eq_left, exists_eq_left', exists_and_left, exists_eq_right, exists_and_right]
      · have c3 : decide ((256 : Int) ≤ ((x / 2 ^ 32 : Nat) : Int)) = false := decide_eq_false (by omega)
        obtain ⟨f1, f2, f3, f4⟩ := fin (x / 2 ^ 32) 32 (by omega) (by omega)
        have hR : len2 (x / 2 ^ 32) + 32 = len2 x := by omega
        rw [hR] at f4
        have f5 : IntKind.i64.wrap ((32 : Int) + (len2 (x / 2 ^ 32) : Int)) = (len2 x : Int) := f4
        simp (config := {maxSteps := 4000000}) only [c118, c1, c2, c3, s32, s16, s8, cviA_i, wa, wb, wc1, wd, we, wf, f1, f2, f3, f5, SS, bne_self_eq_false, wr_def, obOf, List.all_cons, List.all_nil, List.map_cons, List.map_nil, List.length_cons, List.length_nil, List.take_zero, List.take_succ_cons, List.take_nil, List.drop_zero, List.drop_succ_cons, List.drop_nil, Nat.reduceAdd, Nat.reduceMul, Nat.reduceSub, if_true, Nat.reduceLT, Nat.reduceLeDiff, ite_true, ite_false, Nat.reduceEqDiff, if_false, reduceCtorEq, ne_eq, List.getD, List.getElem?_cons_zero, List.getElem?_cons_succ, Option.getD_some, Option.bind_some, Option.map_some, Option.isSome_some, reduceIte, List.length_append, List.append_assoc, List.cons_append, List.nil_append, Option.some.injEq, forall_const, implies_true, Int.reduceNeg, eq_self, Prod.mk.injEq, List.self_eq_append_right, List.append_nil, exists_eq_left, exists_eq_left', exists_and_left, exists_eq_right, exists_and_right]
  · have c1 : decide ((4294967296 : Int) ≤ (x : Int)) = false := decide_eq_false (by omega)
    by_cases h2 : 65536 ≤ x
    · have c2 : decide ((65536 : Int) ≤ ((x : Nat) : Int)) = true := decide_eq_true (by omega)
      have hl2 := len2_div (k := 16) (x := x) (by omega)
      by_cases h3 : 256 ≤ x / 2 ^ 16
      · have c3 : decide ((256 : Int) ≤ ((x / 2 ^ 16 : Nat) : Int)) = true := decide_eq_true (by omega)
        have hl3 := len2_div (k := 8) (x := x / 2 ^ 16) (by omega)
        obtain ⟨f1, f2, f3, f4⟩ := fin (x / 2 ^ 16 / 2 ^ 8) 24 (by omega) (by omega)
        have hR : len2 (x / 2 ^ 16 / 2 ^ 8) + 24 = len2 x := by omega
        rw [hR] at f4
        have f5 : IntKind.i64.wrap ((24 : Int) + (len2 (x / 2 ^ 16 / 2 ^ 8) : Int)) = (len2 x : Int) := f4
        simp (config := {maxSteps := 4000000}) only [c118, c1, c2, c3, s32, s16, s8, cviA_i, wa, wb, wc1, wd, we, wf, f1, f2, f3, f5, SS, bne_self_eq_false, wr_def, obOf, List.all_cons, List.all_nil, List.map_cons, List.map_nil, List.length_cons, List.length_nil, List.take_zero, List.take_succ_cons, List.take_nil, List.drop_zero, List.drop_succ_cons, List.drop_nil, Nat.reduceAdd, Nat.reduceMul, Nat.reduceSub, if_true, Nat.reduceLT, Nat.reduceLeDiff, ite_true, ite_false, Nat.reduceEqDiff, if_false, reduceCtorEq, ne_eq, List.getD, List.getElem?_cons_zero, List.getElem?_cons_succ, Option.getD_some, Option.bind_some, Option.map_some, Option.isSome_some, reduceIte, List.length_append, List.append_assoc, List.cons_append, List.nil_append, Option.some.injEq, forall_const, implies_true, Int.reduceNeg, eq_self, Prod.mk.injEq, List.self_eq_append_right, List.append_nil, exists_eq_left, exists_eq_left', exists_and_left, exists_eq_right, exists_and_right]
      · have c3 : decide ((256 : Int) ≤ ((x / 2 ^ 16 : Nat) : Int)) = false := decide_eq_false (by omega)
        obtain ⟨f1, f2, f3, f4⟩ := fin (x / 2 ^ 16) 16 (by omega) (by omega)
        have hR : len2 (x / 2 ^ 16) + 16 = len2 x := by omega
        rw [hR] at f4
        have f5 : IntKind.i64.wrap ((16 : Int) + (len2 (x / 2 ^ 16) : Int)) = (len2 x : Int) := f4
        simp (config := {maxSteps := 4000000}) only [c118, c1, c2, c3, s32, s16, s8, cviA_i, wa, wb, wc1, wd, we, wf, f1, f2, f3, f5, SS, bne_self_eq_false, wr_def, obOf, List.all_cons, List.all_nil, List.map_cons, List.map_nil, List.length_cons, List.length_nil, List.take_zero, List.take_succ_cons, List.take_nil, List.drop_zero, List.drop_succ_cons, List.drop_nil, Nat.reduceAdd, Nat.reduceMul, Nat.reduceSub, if_true, Nat.reduceLT, Nat.reduceLeDiff, ite_true, ite_false, Nat.reduceEqDiff, if_false, reduceCtorEq, ne_eq, List.getD, List.getElem?_cons_zero, List.getElem?_cons_succ, Option.getD_some, Option.bind_some, Option.map_some, Option.isSome_some, reduceIte, List.length_append, List.append_assoc, List.cons_append, List.nil_append, Option.some.injEq, forall_const, implies_true, Int.reduceNeg, eq_self, Prod.mk.injEq, List.self_eq_append_right, List.append_nil, exists_eq_left, exists_eq_left', exists_and_left, exists_eq_right, exists_and_right]
    · have c2 : decide ((65536 : Int) ≤ ((x : Nat) : Int)) = false := decide_eq_false (by omega)
      by_cases h3 : 256 ≤ x
      · have c3 : decide ((256 : Int) ≤ ((x : Nat) : Int)) = true := decide_eq_true (by omega)
        have hl3 := len2_div (k := 8) (x := x) (by omega)
        obtain ⟨f1, f2, f3, f4⟩ := fin (x / 2 ^ 8) 8 (by omega) (by omega)
        have hR : len2 (x / 2 ^ 8) + 8 = len2 x := by omega
        rw [hR] at f4
        have f5 : IntKind.i64.wrap ((8 : Int) + (len2 (x / 2 ^ 8) : Int)) = (len2 x : Int) := f4
        simp (config := {maxSteps := 4000000}) only [c118, c1, c2, c3, s32, s16, s8, cviA_i, wa, wb, wc1, wd, we, wf, f1, f2, f3, f5, SS, bne_self_eq_false, wr_def, obOf, List.all_cons, List.all_nil, List.map_cons, List.map_nil, List.length_cons, List.length_nil, List.take_zero, List.take_succ_cons, List.take_nil, List.drop_zero, List.drop_succ_cons, List.drop_nil, Nat.reduceAdd, Nat.reduceMul, Nat.reduceSub, if_true, Nat.reduceLT, Nat.reduceLeDiff, ite_true, ite_false, Nat.reduceEqDiff, if_false, reduceCtorEq, ne_eq, List.getD, List.getElem?_cons_zero, List.getElem?_cons_succ, Option.getD_some, Option.bind_some, Option.map_some, Option.isSome_some, reduceIte, List.length_append, List.append_assoc, List.cons_append, List.nil_append, Option.some.injEq, forall_const, implies_true, Int.reduceNeg, eq_self, Prod.mk.injEq, List.self_eq_append_right, List.append_nil, exists_eq_left, exists_eq_left', exists_and_left, exists_eq_right, exists_and_right]
      · have c3 : decide ((256 : Int) ≤ ((x : Nat) : Int)) = false := decide_eq_false (by omega)
        obtain ⟨f1, f2, f3, f4⟩ := fin (x) 0 (by omega) (by omega)
        have hR : len2 (x) + 0 = len2 x := by omega
        rw [hR] at f4
        have f5 : IntKind.i64.wrap ((0 : Int) + (len2 (x) : Int)) = (len2 x : Int) := f4
        simp (config := {maxSteps := 4000000}) only [c118, c1, c2, c3, s32, s16, s8, cviA_i, wa, wb, wc1, wd, we, wf, f1, f2, f3, f5, SS, bne_self_eq_false, wr_def, obOf, List.all_cons, List.all_nil, List.map_cons, List.map_nil, List.length_cons, List.length_nil, List.take_zero, List.take_succ_cons, List.take_nil, List.drop_zero, List.drop_succ_cons, List.drop_nil, Nat.reduceAdd, Nat.reduceMul, Nat.reduceSub, if_true, Nat.reduceLT, Nat.reduceLeDiff, ite_true, ite_false, Nat.reduceEqDiff, if_false, reduceCtorEq, ne_eq, List.getD, List.getElem?_cons_zero, List.getElem?_cons_succ, Option.getD_some, Option.bind_some, Option.map_some, Option.isSome_some, reduceIte, List.length_append, List.append_assoc, List.cons_append, List.nil_append, Option.some.injEq, forall_const, implies_true, Int.reduceNeg, eq_self, Prod.mk.injEq, List.self_eq_append_right, List.append_nil, exists_eq_left, exists_eq_left', exists_and_left, exists_eq_right, exists_and_right]
end Go.Proofs.Ytaekgifbehoipaa.Fl
/- What a sort draws on beside the row: lengths in binary, random numbers, a counter. Conditions stand in each lemma. -/
namespace Go.Proofs.Ytaekgifbehoipaa.So
open Go Go.Proofs.Ytaekgifbehoipaa.Eva Go.Proofs.Ytaekgifbehoipaa.CodeAll Go.Proofs.Ytaekgifbehoipaa.Fl
set_option linter.unusedVariables false
set_option linter.unusedSimpArgs false
set_option maxRecDepth 10000
set_option maxHeartbeats 4000000

/-- Where the main loop of a sort stands: what is left is the part from a' to b'. -/
structure Pd {α : Type} (lt : α → α → Bool) (c : α → List AV) (sz n n0 : Nat) (v : AV) (H h : List Ob) (f : Nat → α) (a b a' b' : Nat) (g : Nat → α) : Prop where
  B : Fs n0 h v c sz n g
  K : Kp v H h
  P : Per a b f g
  Lw : Low lt a' b' g
  J : ∀ g', Per a' b' g g' → Srt lt a' b' g' → Srt lt a b g'
theorem Pd.step {α : Type} {lt : α → α → Bool} {c : α → List AV} {sz n n0 : Nat} {v : AV} {H h h2 : List Ob} {f : Nat → α} {a b a' b' : Nat} {g g2 : Nat → α} (S : Pd lt c sz n n0 v H h f a b a' b' g) (ha : a ≤ a') (hb : b' ≤ b) (B2 : Fs n0 h2 v c sz n g2) (K2 : Kp v h h2) (P2 : Per a' b' g g2) : Pd lt c sz n n0 v H h2 f a b a' b' g2 :=
  ⟨B2, S.K.trans K2, S.P.trans (P2.mono ha hb), S.Lw.per P2, fun g' p s => S.J g' (P2.trans p) s⟩
/-- A box with one plain thing. -/
def Bx (h : List Ob) (id : Nat) (v : AV) : Prop := rdObj h id 0 = some ⟨[v], 0, 0, true, true⟩
def Kb (id : Nat) (h h' : List Ob) : Prop := h.length ≤ h'.length ∧ ∀ id' ep o, id' ≠ id → rdObj h id' ep = some o → rdObj h' id' ep = some o
theorem Kb.refl {id : Nat} {h : List Ob} : Kb id h h := ⟨Nat.le_refl _, fun _ _ _ _ h => h⟩
theorem Kb.trans {id : Nat} {h h' h'' : List Ob} (a : Kb id h h') (b : Kb id h' h'') : Kb id h h'' := ⟨Nat.le_trans a.1 b.1, fun id ep o hi ho => b.2 id ep o hi (a.2 id ep o hi ho)⟩
theorem Kb.app {id : Nat} {h : List Ob} (o : List Ob) : Kb id h (h ++ o) := ⟨by simp, fun _ _ _ _ h => rd_keep h⟩
theorem bx_put {h : List Ob} {id : Nat} {v w : AV} (A : Bx h id v) (hw : w.scalar = true) : Bx (putObj h id 0 [w] ⟨[v], 0, 0, true, true⟩) id w ∧ Kb id h (putObj h id 0 [w] ⟨[v], 0, 0, true, true⟩) := by
  refine ⟨?_, by simp [putObj], fun id' ep o hne ho => by rw [rd_put_ne hne]; exact ho⟩
  unfold Bx at A ⊢
  rw [rd_put_same A]
  simp [wr, hw]
theorem box_call {n0 : Nat} {E : Nat → Option CF} {g id : Nat} {v : AV} {cf : CF} {P : AV → AV → Prop} (hE : E g = some cf) {args : List AV} (hn : args.length = cf.np) (hnt : args.length ≤ cf.nt) {h : List Ob} (h0 : n0 ≤ h.length) (A : Bx h id v)
    (hw : wc E n0 cf.nt cf.code (fun e x h' => exOk e = true ∧ ∃ r, (rvq cf.nt x h' cf.res).map mkRes = some r ∧ plainV r = true ∧ ∃ w, Kb id h h' ∧ Bx h' id w ∧ P r w) (ofL args) h) :
    ∃ r h2 w, mcall E n0 g args h = some (r, h2) ∧ n0 ≤ h2.length ∧ Kb id h h2 ∧ Bx h2 id w ∧ P r w := by
  obtain ⟨r, h', h2, wl, wa, k1, k2, k3, k4, k5, k6, w, g1, g2, g3⟩ := call_mutV (P := fun r h' => ∃ w, Kb id h h' ∧ Bx h' id w ∧ P r w) hE hn hnt h0 ((wc_sound _ _ _ _ h0 hw).mono fun e x h' _ _ hq => by
    obtain ⟨a, r, b, b2, f', c1, c2, c3⟩ := hq
    exact ⟨a, r, b, b2, c1.1, f', c1, c2, c3⟩)
  have hm : ∀ id ep o, id < h.length → rdObj h' id ep = some o → rdObj h2 id ep = some o := fun id ep o hid ho => rd_take k6 hid ho
  exact ⟨r, h2, w, mcall_some.2 ⟨wl, wa, k1, k2, k3, by omega, k4⟩, by omega, ⟨k5, fun id' ep o hid ho => hm id' ep o (rd_lt ho) (g1.2 id' ep o hid ho)⟩, hm id 0 _ (rd_lt A) g2, g3⟩

theorem so_ex {E : Nat → Option CF} {g : Nat} {cf : CF} (hE : E g = some cf) {args : List AV} (hn : args.length = cf.np) (hnt : args.length ≤ cf.nt) {h : List Ob} {P : AV → Prop} (hp : ∀ v, P v → plainV v = true)
    (hw : wc E h.length cf.nt cf.code (fun e f h' => exOk e = true ∧ ∃ v, (rvq cf.nt f h' cf.res).map mkRes = some v ∧ P v) (ofL args) h) : ∃ v, P v ∧ ecall E g args h = some (v, h, h.length, h.length) := by
  obtain ⟨e, f', h', k1, k2, ⟨k3, v, k4, k5⟩, k6⟩ := call_wc hE hn hnt hw
  obtain ⟨vs, hv, rfl⟩ := Option.map_eq_some_iff.1 k4
  refine ⟨_, k5, ?_⟩
  rw [k6 vs k3 hv]
  have hp := hp _ k5
  unfold fin
  simp only [Nat.lt_irrefl, if_false, refs_plain _ hp, dd, pickObjs, ren_plain _ _ hp, List.append_nil, k2]
theorem so_exW {E : Nat → Option CF} {g : Nat} {cf : CF} (hE : E g = some cf) {args : List AV} (hn : args.length = cf.np) (hnt : args.length ≤ cf.nt) {h : List Ob} {P : AV → Prop} (hp : ∀ v, P v → plainV v = true)
    (hw : W E h.length cf.nt cf.code (fun e f h' => exOk e = true ∧ ∃ v, (rvq cf.nt f h' cf.res).map mkRes = some v ∧ P v) (ofL args) h) : ∃ v, P v ∧ ecall E g args h = some (v, h, h.length, h.length) := by
  obtain ⟨e, f', h', k1, k2, k3, k4, v, k5, k6⟩ := hw
  obtain ⟨vs, hv, rfl⟩ := Option.map_eq_some_iff.1 k5
  have hr : rvs (stt cf.nt f' h' h.length h.length) cf.res = some vs := by rw [rvq_eq]; exact hv
  refine ⟨_, k6, ?_⟩
  rw [ec_call hE hn hnt, k1]
  have hp := hp _ k6
  rw [List.take_length] at k3
  simp only [retE, Option.bind_some, k4, if_true, hr, Option.map_some]
  unfold fin
  simp only [Nat.lt_irrefl, if_false, refs_plain _ hp, dd, pickObjs, ren_plain _ _ hp, List.append_nil, k3]
/-- A law, from what holds at its end. -/
theorem law_W {E : Nat → Option CF} {g : Nat} {cf : CF} (hE : E g = some cf) {args : List AV} (hn : args.length = cf.np) (hnt : args.length ≤ cf.nt) {h : List Ob}
    (hw : W E h.length cf.nt cf.code (fun e f h' => exOk e = true ∧ (rvq cf.nt f h' cf.res).map mkRes = some (.bool true)) (ofL args) h) : ∃ r, ecall E g args h = some (.bool true, r) := by
  obtain ⟨v, rfl, hc⟩ := so_exW (P := fun v => v = .bool true) hE hn hnt (by rintro _ rfl; rfl) (hw.mono fun e f h' _ _ hq => ⟨hq.1, _, hq.2, rfl⟩)
  exact ⟨_, hc⟩
theorem len_pc {x : Nat} (hx : x < M64) (H : List Ob) : pcall E 109 [.int .u64 (x : Int)] H = some (.int .i64 (len2 x : Int)) := by
  refine pcall_some.2 (call_plain e109 rfl (Nat.le_of_ble_eq_true rfl) rfl ?_)
  have h := len64_pc hx
  simp (config := {maxSteps := 4000000}) only [c109, h, SS, bne_self_eq_false, wr_def, obOf, List.all_cons, List.all_nil, List.map_cons, List.map_nil, List.length_cons, List.length_nil, List.take_zero, List.take_succ_cons, List.take_nil, List.drop_zero, List.drop_succ_cons, List.drop_nil, Nat.reduceAdd, Nat.reduceMul, Nat.reduceSub, if_true, Nat.reduceLT, Nat.reduceLeDiff, ite_true, ite_false, Nat.reduceEqDiff, if_false, reduceCtorEq, ne_eq, List.getD, List.getElem?_cons_zero, List.getElem?_cons_succ, Option.getD_some, Option.bind_some, Option.map_some, Option.isSome_some, reduceIte, List.length_append, List.append_assoc, List.cons_append, List.nil_append, Option.some.injEq, forall_const, implies_true, Int.reduceNeg, eq_self, Prod.mk.injEq, List.self_eq_append_right, List.append_nil, exists_eq_left, exists_eq_left', exists_and_left, exists_eq_right, exists_and_right]
theorem npow_pc {l : Nat} (h : l < 1125899906842625) (H : List Ob) : pcall E 157 [.int .i64 (l : Int)] H = some (.int .u64 ((2 ^ len2 l : Nat) : Int)) := by
  refine pcall_some.2 (call_plain e157 rfl (Nat.le_of_ble_eq_true rfl) rfl ?_)
  have h1 : IntKind.u64.wrap (l : Int) = (l : Int) := wu64 (by omega) (by omega)
  have hl := len2_le (k := 51) (show l < 2 ^ 51 by omega)
  have h2 := fun H => len_pc (show l < M64 by unfold M64; omega) H
  have h3 : abin .shl (.int .u64 1) (.int .i64 (len2 l : Int)) = some (.int .u64 ((2 ^ len2 l : Nat) : Int)) := by
    have := abin_shl_u (kk := .i64) 1 (len2 l)
    rw [Nat.one_mul, Nat.min_eq_left (by omega), Nat.mod_eq_of_lt (by have := Nat.pow_lt_pow_right (show 1 < 2 by omega) (show len2 l < 64 by omega); unfold M64; omega)] at this
    exact this
  simp (config := {maxSteps := 4000000}) only [c157, h1, h2, h3, SS, bne_self_eq_false, wr_def, obOf, List.all_cons, List.all_nil, List.map_cons, List.map_nil, List.length_cons, List.length_nil, List.take_zero, List.take_succ_cons, List.take_nil, List.drop_zero, List.drop_succ_cons, List.drop_nil, Nat.reduceAdd, Nat.reduceMul, Nat.reduceSub, if_true, Nat.reduceLT, Nat.reduceLeDiff, ite_true, ite_false, Nat.reduceEqDiff, if_false, reduceCtorEq, ne_eq, List.getD, List.getElem?_cons_zero, List.getElem?_cons_succ, Option.getD_some, Option.bind_some, Option.map_some, Option.isSome_some, reduceIte, List.length_append, List.append_assoc, List.cons_append, List.nil_append, Option.some.injEq, forall_const, implies_true, Int.reduceNeg, eq_self, Prod.mk.injEq, List.self_eq_append_right, List.append_nil, exists_eq_left, exists_eq_left', exists_and_left, exists_eq_right, exists_and_right]
theorem and_le (y : Int) {m : Nat} (hm : m < M64) : ∃ z : Nat, abin .and (.int .u64 y) (.int .u64 (m : Int)) = some (.int .u64 (z : Int)) ∧ z ≤ m := by
  refine ⟨(BitVec.ofInt 64 y &&& BitVec.ofInt 64 (m : Int)).toNat, ?_, ?_⟩
  · have h : (BitVec.ofInt 64 y &&& BitVec.ofInt 64 (m : Int)).toNat < 2 ^ 64 := BitVec.isLt _
    simp only [abin, if_true, Option.some.injEq, AV.int.injEq, true_and]
    exact wu64 (by omega) (by have h' : (BitVec.ofInt IntKind.u64.bits y &&& BitVec.ofInt IntKind.u64.bits (m : Int)).toNat < 2 ^ 64 := h; omega)
  · rw [BitVec.toNat_and, BitVec.toNat_ofInt, BitVec.toNat_ofInt]
    refine Nat.le_trans Nat.and_le_right ?_
    unfold M64 at hm
    omega
theorem next_m {n0 id : Nat} {x : Int} {H : List Ob} (A : Bx H id (.int .u64 x)) (hid : n0 ≤ id) (h0 : n0 ≤ H.length) : ∃ r h2 w, mcall E n0 158 [.ptr id 0 0] H = some (r, h2) ∧ n0 ≤ h2.length ∧ Kb id H h2 ∧ Bx h2 id w ∧ ∃ y, r = .int .u64 y ∧ w = .int .u64 y := by
  refine box_call (P := fun r w => ∃ y, r = .int .u64 y ∧ w = .int .u64 y) e158 rfl (Nat.le_of_ble_eq_true rfl) h0 A ?_
  obtain ⟨a1, ha1⟩ : ∃ y, abin .shl (.int .u64 x) (.int .u64 13) = some (.int .u64 y) := ⟨_, rfl⟩
  obtain ⟨x1, hx1⟩ : ∃ y, abin .xor (.int .u64 x) (.int .u64 a1) = some (.int .u64 y) := ⟨_, rfl⟩
  obtain ⟨a2, ha2⟩ : ∃ y, abin .shr (.int .u64 x1) (.int .u64 7) = some (.int .u64 y) := ⟨_, rfl⟩
  obtain ⟨x2, hx2⟩ : ∃ y, abin .xor (.int .u64 x1) (.int .u64 a2) = some (.int .u64 y) := ⟨_, rfl⟩
  obtain ⟨a3, ha3⟩ : ∃ y, abin .shl (.int .u64 x2) (.int .u64 17) = some (.int .u64 y) := ⟨_, rfl⟩
  obtain ⟨x3, hx3⟩ : ∃ y, abin .xor (.int .u64 x2) (.int .u64 a3) = some (.int .u64 y) := ⟨_, rfl⟩
  obtain ⟨B1, K1⟩ := bx_put A (w := .int .u64 x1) rfl
  obtain ⟨B2, K2⟩ := bx_put B1 (w := .int .u64 x2) rfl
  obtain ⟨B3, K3⟩ := bx_put B2 (w := .int .u64 x3) rfl
  have r0 : rdObj H id 0 = _ := A
  have r1 : rdObj _ id 0 = _ := B1
  have r2 : rdObj _ id 0 = _ := B2
  have r3 : rdObj _ id 0 = _ := B3
  simp (config := {maxSteps := 4000000}) only [c158, r0, r1, r2, r3, ha1, ha2, ha3, hx1, hx2, hx3, hid, SS, bne_self_eq_false, wr_def, obOf, List.all_cons, List.all_nil, List.map_cons, List.map_nil, List.length_cons, List.length_nil, List.take_zero, List.take_succ_cons, List.take_nil, List.drop_zero, List.drop_succ_cons, List.drop_nil, Nat.reduceAdd, Nat.reduceMul, Nat.reduceSub, if_true, Nat.reduceLT, Nat.reduceLeDiff, ite_true, ite_false, Nat.reduceEqDiff, if_false, reduceCtorEq, ne_eq, List.getD, List.getElem?_cons_zero, List.getElem?_cons_succ, Option.getD_some, Option.bind_some, Option.map_some, Option.isSome_some, reduceIte, List.length_append, List.append_assoc, List.cons_append, List.nil_append, Option.some.injEq, forall_const, implies_true, Int.reduceNeg, eq_self, Prod.mk.injEq, List.self_eq_append_right, List.append_nil, exists_eq_left, exists_eq_left', exists_and_left, exists_eq_right, exists_and_right]
  exact ⟨rfl, (K1.trans K2).trans K3, _, B3, x3, rfl, rfl⟩
end Go.Proofs.Ytaekgifbehoipaa.So
/- Orders by which is sorted: whole numbers, and rows of whole numbers compared one after the other. No condition. -/
namespace Go.Proofs.Ytaekgifbehoipaa.So
open Go Go.Proofs.Ytaekgifbehoipaa.Eva Go.Proofs.Ytaekgifbehoipaa.CodeAll Go.Proofs.Ytaekgifbehoipaa.Fl
set_option linter.unusedVariables false
set_option linter.unusedSimpArgs false
set_option maxRecDepth 10000
set_option maxHeartbeats 4000000

theorem nan_pc (x : Int) (H : List Ob) : pcall E 104 [.int .i64 x] H = some (.bool false) := by
  refine pcall_some.2 (call_plain e104 rfl (Nat.le_of_ble_eq_true rfl) rfl ?_)
  have b : (x != x) = false := by simp
  simp (config := {maxSteps := 4000000}) only [c104, b, SS, bne_self_eq_false, wr_def, obOf, List.all_cons, List.all_nil, List.map_cons, List.map_nil, List.length_cons, List.length_nil, List.take_zero, List.take_succ_cons, List.take_nil, List.drop_zero, List.drop_succ_cons, List.drop_nil, Nat.reduceAdd, Nat.reduceMul, Nat.reduceSub, if_true, Nat.reduceLT, Nat.reduceLeDiff, ite_true, ite_false, Nat.reduceEqDiff, if_false, reduceCtorEq, ne_eq, List.getD, List.getElem?_cons_zero, List.getElem?_cons_succ, Option.getD_some, Option.bind_some, Option.map_some, Option.isSome_some, reduceIte, List.length_append, List.append_assoc, List.cons_append, List.nil_append, Option.some.injEq, forall_const, implies_true, Int.reduceNeg, eq_self, Prod.mk.injEq, List.self_eq_append_right, List.append_nil, exists_eq_left, exists_eq_left', exists_and_left, exists_eq_right, exists_and_right]
def lexc : List Int → List Int → Int
  | x :: xs, y :: ys => if x < y then -1 else if y < x then 1 else lexc xs ys
  | _, _ => 0
theorem lexc_neg : ∀ x y : List Int, lexc y x = - lexc x y
  | [], [] => rfl
  | [], _ :: _ => rfl
  | _ :: _, [] => rfl
  | x :: xs, y :: ys => by
    simp only [lexc]
    have := lexc_neg xs ys
    by_cases h1 : x < y
    · rw [if_neg (by omega), if_pos h1, if_pos h1]; rfl
    · by_cases h2 : y < x
      · rw [if_pos h2, if_neg h1, if_pos h2]
      · rw [if_neg h2, if_neg h1, if_neg h1, if_neg h2]; exact this
theorem lexc_zero : ∀ x y : List Int, x.length = y.length → lexc x y = 0 → x = y
  | [], [], _, _ => rfl
  | [], _ :: _, h, _ => by simp at h
  | _ :: _, [], h, _ => by simp at h
  | x :: xs, y :: ys, h, h0 => by
    simp only [lexc] at h0
    by_cases h1 : x < y
    · rw [if_pos h1] at h0; omega
    · rw [if_neg h1] at h0
      by_cases h2 : y < x
      · rw [if_pos h2] at h0; omega
      · rw [if_neg h2] at h0
        have : x = y := by omega
        rw [this, lexc_zero xs ys (by simpa using h) h0]
theorem lexc_tr : ∀ x y z : List Int, x.length = y.length → y.length = z.length → 0 ≤ lexc y x → 0 ≤ lexc z y → 0 ≤ lexc z x
  | [], [], [], _, _, _, _ => Int.le_refl _
  | [], _ :: _, _, h, _, _, _ => by simp at h
  | _ :: _, [], _, h, _, _, _ => by simp at h
  | [], [], _ :: _, _, h, _, _ => by simp at h
  | _ :: _, _ :: _, [], _, h, _, _ => by simp at h
  | x :: xs, y :: ys, z :: zs, h1, h2, a, b => by
    simp only [lexc] at a b ⊢
    by_cases c1 : z < x
    · rw [if_pos c1]
      by_cases c2 : y < x
      · rw [if_pos c2] at a; exact a
      · rw [if_pos (by omega)] at b; exact b
    · rw [if_neg c1]
      by_cases c2 : x < z
      · rw [if_pos c2]; omega
      · rw [if_neg c2]
        have hx : x = z := by omega
        subst hx
        by_cases c3 : y < x
        · rw [if_pos c3] at a; omega
        · rw [if_neg c3] at a
          by_cases c4 : x < y
          · rw [if_pos c4] at b; omega
          · rw [if_neg c4] at a b
            rw [if_neg c3] at b
            exact lexc_tr xs ys zs (by simpa using h1) (by simpa using h2) a b
/-- The order by keys of one length. -/
theorem od_key {α : Type} (key : α → List Int) (n : Nat) (hl : ∀ x, (key x).length = n) : Od (fun a b => decide (lexc (key a) (key b) < 0)) := by
  refine ⟨fun x y h => ?_, fun x y z h1 h2 => ?_⟩
  · simp only [decide_eq_true_eq, decide_eq_false_iff_not] at h ⊢
    rw [lexc_neg]; omega
  · simp only [decide_eq_false_iff_not] at h1 h2 ⊢
    have := lexc_tr (key x) (key y) (key z) (by rw [hl, hl]) (by rw [hl, hl]) (by omega) (by omega)
    omega
def cmp1 (x y : Int) : Int := if x < y then -1 else if y < x then 1 else 0
end Go.Proofs.Ytaekgifbehoipaa.So
/- Sorting as the library does it (kind L): contracts of its functions. Conditions stand in each lemma. -/
namespace Go.Proofs.Ytaekgifbehoipaa.So.KL
open Go Go.Proofs.Ytaekgifbehoipaa.Eva Go.Proofs.Ytaekgifbehoipaa.CodeAll Go.Proofs.Ytaekgifbehoipaa.So
set_option linter.unusedVariables false
set_option linter.unusedSimpArgs false
set_option maxRecDepth 10000
set_option maxHeartbeats 4000000

/-- What is known of the elements and of their order. -/
structure Ctx {α : Type} (c : α → List AV) (e : α → AV) (lt : α → α → Bool) (KC : AV) (q : α → α → Int) : Prop where
  L : El c 6 e
  O : Od lt
  he : ∀ x, e x = .agg (c x)
  hcmp : ∀ x y H, pcallV E KC [e x, e y] H = some (.int .i64 (q x y))
  hq : ∀ x y, decide (q x y < 0) = lt x y

section
variable {α : Type} {c : α → List AV} {e : α → AV} {lt : α → α → Bool} {KC : AV} {q : α → α → Int} (X : Ctx c e lt KC q)
include X

theorem ins_m {n0 n a b : Nat} {H : List Ob} {v : AV} {f : Nat → α} (A : Fs n0 H v c 6 n f) (h0 : n0 ≤ H.length) (hb : b ≤ n) (hn : n ≤ 1125899906842624) (ha : a ≤ n) :
    ∃ r h2 g, mcall E n0 133 [v, .int .i64 (a : Int), .int .i64 (b : Int), KC] H = some (r, h2) ∧ n0 ≤ h2.length ∧ Fs n0 h2 v c 6 n g ∧ Kp v H h2 ∧ r = .tup [] ∧ Per a b f g ∧ Srt lt a b g := by
  obtain ⟨L, O, he, hcmp, hq⟩ := X
  refine row_call (P := fun r g => r = .tup [] ∧ Per a b f g ∧ Srt lt a b g) e133 rfl (Nat.le_of_ble_eq_true rfl) h0 A ?_
  have w1 : IntKind.i64.wrap ((a : Int) + 1) = ((a + 1 : Nat) : Int) := by rw [wrap64 (by omega) (by omega)]; omega
  simp (config := {maxSteps := 4000000}) only [c133, w1, SS, bne_self_eq_false, wr_def, obOf, List.all_cons, List.all_nil, List.map_cons, List.map_nil, List.length_cons, List.length_nil, List.take_zero, List.take_succ_cons, List.take_nil, List.drop_zero, List.drop_succ_cons, List.drop_nil, Nat.reduceAdd, Nat.reduceMul, Nat.reduceSub, if_true, Nat.reduceLT, Nat.reduceLeDiff, ite_true, ite_false, Nat.reduceEqDiff, if_false, reduceCtorEq, ne_eq, List.getD, List.getElem?_cons_zero, List.getElem?_cons_succ, Option.getD_some, Option.bind_some, Option.map_some, Option.isSome_some, reduceIte, List.length_append, List.append_assoc, List.cons_append, List.nil_append, Option.some.injEq, forall_const, implies_true, Int.reduceNeg, eq_self, Prod.mk.injEq, List.self_eq_append_right, List.append_nil, exists_eq_left, exists_eq_left', exists_and_left, exists_eq_right, exists_and_right]
  refine W_loop (fun k f1 h1 => ∃ i : Nat, k = b - i ∧ a + 1 ≤ i ∧ f1 0 = v ∧ f1 1 = .int .i64 (a : Int) ∧ f1 2 = .int .i64 (b : Int) ∧ f1 3 = KC ∧ f1 8 = .int .i64 (i : Int) ∧ (i ≤ a + 1 ∨ i ≤ b) ∧ ∃ g, Fs n0 h1 v c 6 n g ∧ Kp v H h1 ∧ Per a b f g ∧ Srt lt a i g) h0 _ ⟨a + 1, rfl, Nat.le_refl _, rfl, rfl, rfl, rfl, rfl, Or.inl (Nat.le_refl _), f, A, Kp.refl, .rfl, srt_one (Nat.le_refl _)⟩ ?_
  rintro k f1 h1 hn1 ht ⟨i, rfl, hi, e0, e1, e2, e3, e6, hib, g, B, K, P, S⟩
  by_cases hil : i < b
  · have hc1 : decide ((i : Int) < (b : Int)) = true := decide_eq_true (by omega)
    have wi : IntKind.i64.wrap ((i : Int) + 1) = ((i + 1 : Nat) : Int) := by rw [wrap64 (by omega) (by omega)]; omega
    simp (config := {maxSteps := 4000000}) only [e0, e1, e2, e3, e6, hc1, SS, bne_self_eq_false, wr_def, obOf, List.all_cons, List.all_nil, List.map_cons, List.map_nil, List.length_cons, List.length_nil, List.take_zero, List.take_succ_cons, List.take_nil, List.drop_zero, List.drop_succ_cons, List.drop_nil, Nat.reduceAdd, Nat.reduceMul, Nat.reduceSub, if_true, Nat.reduceLT, Nat.reduceLeDiff, ite_true, ite_false, Nat.reduceEqDiff, if_false, reduceCtorEq, ne_eq, List.getD, List.getElem?_cons_zero, List.getElem?_cons_succ, Option.getD_some, Option.bind_some, Option.map_some, Option.isSome_some, reduceIte, List.length_append, List.append_assoc, List.cons_append, List.nil_append, Option.some.injEq, forall_const, implies_true, Int.reduceNeg, eq_self, Prod.mk.injEq, List.self_eq_append_right, List.append_nil, exists_eq_left, exists_eq_left', exists_and_left, exists_eq_right, exists_and_right]
    refine W_loop (fun k f2 h2 => ∃ j : Nat, k = j + 1 ∧ a ≤ j ∧ j ≤ i ∧ f2 0 = v ∧ f2 1 = .int .i64 (a : Int) ∧ f2 2 = .int .i64 (b : Int) ∧ f2 3 = KC ∧ f2 8 = .int .i64 (i : Int) ∧ f2 9 = .int .i64 (j : Int) ∧ ∃ g, Fs n0 h2 v c 6 n g ∧ Kp v H h2 ∧ Per a b f g ∧ Inn lt a i j g) hn1 _ ⟨i, rfl, by omega, Nat.le_refl _, e0, e1, e2, e3, e6, rfl, g, B, K, P, Inn.init S⟩ ?_
    clear e0 e1 e2 e3 e6 B K P S
    rintro k f2 h2 hn2 ht2 ⟨j, rfl, hj, hji, e0, e1, e2, e3, e6, e7, g, B, K, P, S⟩
    by_cases haj : a < j
    · have hc2 : decide ((a : Int) < (j : Int)) = true := decide_eq_true (by omega)
      have wj : IntKind.i64.wrap ((j : Int) - 1) = ((j - 1 : Nat) : Int) := by rw [wrap64 (by omega) (by omega)]; omega
      have oj := B.ok (kk := .i64) (i := j) (by omega)
      have ok := B.ok (kk := .i64) (i := j - 1) (by omega)
      have dj := Fs.ldE L he B (kk := .i64) (i := j) (by omega)
      have dk := Fs.ldE L he B (kk := .i64) (i := j - 1) (by omega)
      cases hl : lt (g j) (g (j - 1))
      · simp (config := {maxSteps := 4000000}) only [e0, e1, e2, e3, e6, e7, hc2, wj, wi, oj, ok, isPtr_idx oj, isPtr_idx ok, dj, dk, hcmp, hq, hl, hn2, SS, bne_self_eq_false, wr_def, obOf, List.all_cons, List.all_nil, List.map_cons, List.map_nil, List.length_cons, List.length_nil, List.take_zero, List.take_succ_cons, List.take_nil, List.drop_zero, List.drop_succ_cons, List.drop_nil, Nat.reduceAdd, Nat.reduceMul, Nat.reduceSub, if_true, Nat.reduceLT, Nat.reduceLeDiff, ite_true, ite_false, Nat.reduceEqDiff, if_false, reduceCtorEq, ne_eq, List.getD, List.getElem?_cons_zero, List.getElem?_cons_succ, Option.getD_some, Option.bind_some, Option.map_some, Option.isSome_some, reduceIte, List.length_append, List.append_assoc, List.cons_append, List.nil_append, Option.some.injEq, forall_const, implies_true, Int.reduceNeg, eq_self, Prod.mk.injEq, List.self_eq_append_right, List.append_nil, exists_eq_left, exists_eq_left', exists_and_left, exists_eq_right, exists_and_right]
        exact ⟨_, by omega, i + 1, rfl, by omega, rfl, by omega, g, B, K, P, Inn.fin O S hj hji (Or.inr hl)⟩
      · obtain ⟨s1, s2, B', K', hlen⟩ := B.sw L (kk := .i64) (i := j) (j := j - 1) (by omega) (by omega)
        simp (config := {maxSteps := 4000000}) only [e0, e1, e2, e3, e6, e7, hc2, wj, wi, oj, ok, isPtr_idx oj, isPtr_idx ok, dj, dk, hcmp, hq, hl, hn2, s1, s2, SS, bne_self_eq_false, wr_def, obOf, List.all_cons, List.all_nil, List.map_cons, List.map_nil, List.length_cons, List.length_nil, List.take_zero, List.take_succ_cons, List.take_nil, List.drop_zero, List.drop_succ_cons, List.drop_nil, Nat.reduceAdd, Nat.reduceMul, Nat.reduceSub, if_true, Nat.reduceLT, Nat.reduceLeDiff, ite_true, ite_false, Nat.reduceEqDiff, if_false, reduceCtorEq, ne_eq, List.getD, List.getElem?_cons_zero, List.getElem?_cons_succ, Option.getD_some, Option.bind_some, Option.map_some, Option.isSome_some, reduceIte, List.length_append, List.append_assoc, List.cons_append, List.nil_append, Option.some.injEq, forall_const, implies_true, Int.reduceNeg, eq_self, Prod.mk.injEq, List.self_eq_append_right, List.append_nil, exists_eq_left, exists_eq_left', exists_and_left, exists_eq_right, exists_and_right]
        exact ⟨_, by omega, j - 1, rfl, by omega, by omega, rfl, _, B', K.trans K', P.sw (by omega) (by omega) (by omega) (by omega), Inn.step O S haj hji hl⟩
    · have hc2 : decide ((a : Int) < (j : Int)) = false := decide_eq_false (by omega)
      simp (config := {maxSteps := 4000000}) only [e0, e1, e2, e3, e6, e7, hc2, wi, SS, bne_self_eq_false, wr_def, obOf, List.all_cons, List.all_nil, List.map_cons, List.map_nil, List.length_cons, List.length_nil, List.take_zero, List.take_succ_cons, List.take_nil, List.drop_zero, List.drop_succ_cons, List.drop_nil, Nat.reduceAdd, Nat.reduceMul, Nat.reduceSub, if_true, Nat.reduceLT, Nat.reduceLeDiff, ite_true, ite_false, Nat.reduceEqDiff, if_false, reduceCtorEq, ne_eq, List.getD, List.getElem?_cons_zero, List.getElem?_cons_succ, Option.getD_some, Option.bind_some, Option.map_some, Option.isSome_some, reduceIte, List.length_append, List.append_assoc, List.cons_append, List.nil_append, Option.some.injEq, forall_const, implies_true, Int.reduceNeg, eq_self, Prod.mk.injEq, List.self_eq_append_right, List.append_nil, exists_eq_left, exists_eq_left', exists_and_left, exists_eq_right, exists_and_right]
      exact ⟨_, by omega, i + 1, rfl, by omega, rfl, by omega, g, B, K, P, Inn.fin O S hj hji (Or.inl (by omega))⟩
  · have hc1 : decide ((i : Int) < (b : Int)) = false := decide_eq_false (by omega)
    simp (config := {maxSteps := 4000000}) only [e0, e1, e2, e3, e6, hc1, SS, bne_self_eq_false, wr_def, obOf, List.all_cons, List.all_nil, List.map_cons, List.map_nil, List.length_cons, List.length_nil, List.take_zero, List.take_succ_cons, List.take_nil, List.drop_zero, List.drop_succ_cons, List.drop_nil, Nat.reduceAdd, Nat.reduceMul, Nat.reduceSub, if_true, Nat.reduceLT, Nat.reduceLeDiff, ite_true, ite_false, Nat.reduceEqDiff, if_false, reduceCtorEq, ne_eq, List.getD, List.getElem?_cons_zero, List.getElem?_cons_succ, Option.getD_some, Option.bind_some, Option.map_some, Option.isSome_some, reduceIte, List.length_append, List.append_assoc, List.cons_append, List.nil_append, Option.some.injEq, forall_const, implies_true, Int.reduceNeg, eq_self, Prod.mk.injEq, List.self_eq_append_right, List.append_nil, exists_eq_left, exists_eq_left', exists_and_left, exists_eq_right, exists_and_right]
    exact ⟨rfl, g, B, K, rfl, P, fun x y h1 h2 h3 => S x y h1 h2 (by omega)⟩
theorem sift_m {n0 n F lo hi : Nat} {H : List Ob} {v : AV} {f : Nat → α} (A : Fs n0 H v c 6 n f) (h0 : n0 ≤ H.length) (hb : F + hi ≤ n) (hn : n ≤ 1125899906842624) (hl : lo ≤ hi) (hp : Hp lt F (lo + 1) hi f) :
    ∃ r h2 g, mcall E n0 161 [v, .int .i64 (lo : Int), .int .i64 (hi : Int), .int .i64 (F : Int), KC] H = some (r, h2) ∧ n0 ≤ h2.length ∧ Fs n0 h2 v c 6 n g ∧ Kp v H h2 ∧ r = .tup [] ∧ Per F (F + hi) f g ∧ Hp lt F lo hi g := by
  obtain ⟨L, O, he, hcmp, hq⟩ := X
  refine row_call (P := fun r g => r = .tup [] ∧ Per F (F + hi) f g ∧ Hp lt F lo hi g) e161 rfl (Nat.le_of_ble_eq_true rfl) h0 A ?_
  simp (config := {maxSteps := 4000000}) only [c161, SS, bne_self_eq_false, wr_def, obOf, List.all_cons, List.all_nil, List.map_cons, List.map_nil, List.length_cons, List.length_nil, List.take_zero, List.take_succ_cons, List.take_nil, List.drop_zero, List.drop_succ_cons, List.drop_nil, Nat.reduceAdd, Nat.reduceMul, Nat.reduceSub, if_true, Nat.reduceLT, Nat.reduceLeDiff, ite_true, ite_false, Nat.reduceEqDiff, if_false, reduceCtorEq, ne_eq, List.getD, List.getElem?_cons_zero, List.getElem?_cons_succ, Option.getD_some, Option.bind_some, Option.map_some, Option.isSome_some, reduceIte, List.length_append, List.append_assoc, List.cons_append, List.nil_append, Option.some.injEq, forall_const, implies_true, Int.reduceNeg, eq_self, Prod.mk.injEq, List.self_eq_append_right, List.append_nil, exists_eq_left, exists_eq_left', exists_and_left, exists_eq_right, exists_and_right]
  refine W_loop (fun k f1 h1 => ∃ r : Nat, k = hi - r ∧ lo ≤ r ∧ r ≤ hi ∧ f1 0 = v ∧ f1 1 = .int .i64 (lo : Int) ∧ f1 2 = .int .i64 (hi : Int) ∧ f1 3 = .int .i64 (F : Int) ∧ f1 4 = KC ∧ f1 10 = .int .i64 (r : Int) ∧ ∃ g, Fs n0 h1 v c 6 n g ∧ Kp v H h1 ∧ Per F (F + hi) f g ∧ Hx lt F lo hi r g) h0 _ ⟨lo, rfl, Nat.le_refl _, hl, rfl, rfl, rfl, rfl, rfl, rfl, f, A, Kp.refl, .rfl, Hx.init hp⟩ ?_
  rintro k f1 h1 hn1 ht ⟨r, rfl, hr, hrh, e0, e1, e2, e3, e4, e8, g, B, K, P, S⟩
  have wa : IntKind.i64.wrap (2 * (r : Int)) = ((2 * r : Nat) : Int) := by rw [wrap64 (by omega) (by omega)]; omega
  have wb : IntKind.i64.wrap (((2 * r : Nat) : Int) + 1) = ((2 * r + 1 : Nat) : Int) := by rw [wrap64 (by omega) (by omega)]; omega
  have wc' : IntKind.i64.wrap (((2 * r + 1 : Nat) : Int) + 1) = ((2 * r + 2 : Nat) : Int) := by rw [wrap64 (by omega) (by omega)]; omega
  have wd : IntKind.i64.wrap ((F : Int) + ((2 * r + 1 : Nat) : Int)) = ((F + (2 * r + 1) : Nat) : Int) := by rw [wrap64 (by omega) (by omega)]; omega
  have we : IntKind.i64.wrap (((F + (2 * r + 1) : Nat) : Int) + 1) = ((F + (2 * r + 2) : Nat) : Int) := by rw [wrap64 (by omega) (by omega)]; omega
  have wf : IntKind.i64.wrap ((F : Int) + (r : Int)) = ((F + r : Nat) : Int) := by rw [wrap64 (by omega) (by omega)]; omega
  have wg : IntKind.i64.wrap ((F : Int) + ((2 * r + 2 : Nat) : Int)) = ((F + (2 * r + 2) : Nat) : Int) := by rw [wrap64 (by omega) (by omega)]; omega
  by_cases c1 : 2 * r + 1 < hi
  rotate_left
  · have b1 : decide ((hi : Int) ≤ ((2 * r + 1 : Nat) : Int)) = true := decide_eq_true (by omega)
    simp (config := {maxSteps := 4000000}) only [e0, e1, e2, e3, e4, e8, wa, wb, b1, SS, bne_self_eq_false, wr_def, obOf, List.all_cons, List.all_nil, List.map_cons, List.map_nil, List.length_cons, List.length_nil, List.take_zero, List.take_succ_cons, List.take_nil, List.drop_zero, List.drop_succ_cons, List.drop_nil, Nat.reduceAdd, Nat.reduceMul, Nat.reduceSub, if_true, Nat.reduceLT, Nat.reduceLeDiff, ite_true, ite_false, Nat.reduceEqDiff, if_false, reduceCtorEq, ne_eq, List.getD, List.getElem?_cons_zero, List.getElem?_cons_succ, Option.getD_some, Option.bind_some, Option.map_some, Option.isSome_some, reduceIte, List.length_append, List.append_assoc, List.cons_append, List.nil_append, Option.some.injEq, forall_const, implies_true, Int.reduceNeg, eq_self, Prod.mk.injEq, List.self_eq_append_right, List.append_nil, exists_eq_left, exists_eq_left', exists_and_left, exists_eq_right, exists_and_right]
    exact ⟨rfl, g, B, K, rfl, P, Hx.none S (by omega)⟩
  have b1 : decide ((hi : Int) ≤ ((2 * r + 1 : Nat) : Int)) = false := decide_eq_false (by omega)
  have o0 := B.ok (kk := .i64) (i := F + r) (by omega)
  have o1 := B.ok (kk := .i64) (i := F + (2 * r + 1)) (by omega)
  have d0 := Fs.ldE L he B (kk := .i64) (i := F + r) (by omega)
  have d1 := Fs.ldE L he B (kk := .i64) (i := F + (2 * r + 1)) (by omega)
  have left : (2 * r + 2 < hi → lt (g (F + (2 * r + 1))) (g (F + (2 * r + 2))) = false) → Big lt F hi r (2 * r + 1) g := big_l O c1
  by_cases c2 : 2 * r + 2 < hi
  · have b2 : decide (((2 * r + 2 : Nat) : Int) < (hi : Int)) = true := decide_eq_true (by omega)
    have o2 := B.ok (kk := .i64) (i := F + (2 * r + 2)) (by omega)
    have d2 := Fs.ldE L he B (kk := .i64) (i := F + (2 * r + 2)) (by omega)
    cases l1 : lt (g (F + (2 * r + 1))) (g (F + (2 * r + 2)))
    · have big := left fun _ => l1
      cases l2 : lt (g (F + r)) (g (F + (2 * r + 1)))
      · simp (config := {maxSteps := 8000000}) only [e0, e1, e2, e3, e4, e8, wa, wb, wc', wd, we, wf, wg, b1, b2, o0, o1, o2, isPtr_idx o0, isPtr_idx o1, isPtr_idx o2, d0, d1, d2, hcmp, hq, l1, l2, hn1, SS, bne_self_eq_false, wr_def, obOf, List.all_cons, List.all_nil, List.map_cons, List.map_nil, List.length_cons, List.length_nil, List.take_zero, List.take_succ_cons, List.take_nil, List.drop_zero, List.drop_succ_cons, List.drop_nil, Nat.reduceAdd, Nat.reduceMul, Nat.reduceSub, if_true, Nat.reduceLT, Nat.reduceLeDiff, ite_true, ite_false, Nat.reduceEqDiff, if_false, reduceCtorEq, ne_eq, List.getD, List.getElem?_cons_zero, List.getElem?_cons_succ, Option.getD_some, Option.bind_some, Option.map_some, Option.isSome_some, reduceIte, List.length_append, List.append_assoc, List.cons_append, List.nil_append, Option.some.injEq, forall_const, implies_true, Int.reduceNeg, eq_self, Prod.mk.injEq, List.self_eq_append_right, List.append_nil, exists_eq_left, exists_eq_left', exists_and_left, exists_eq_right, exists_and_right]
        exact ⟨rfl, g, B, K, rfl, P, Hx.done O S big l2⟩
      · obtain ⟨s1, s2, B', K', -⟩ := B.sw L (kk := .i64) (i := F + r) (j := F + (2 * r + 1)) (by omega) (by omega)
        simp (config := {maxSteps := 8000000}) only [e0, e1, e2, e3, e4, e8, wa, wb, wc', wd, we, wf, wg, b1, b2, o0, o1, o2, isPtr_idx o0, isPtr_idx o1, isPtr_idx o2, d0, d1, d2, hcmp, hq, l1, l2, hn1, s1, s2, SS, bne_self_eq_false, wr_def, obOf, List.all_cons, List.all_nil, List.map_cons, List.map_nil, List.length_cons, List.length_nil, List.take_zero, List.take_succ_cons, List.take_nil, List.drop_zero, List.drop_succ_cons, List.drop_nil, Nat.reduceAdd, Nat.reduceMul, Nat.reduceSub, if_true, Nat.reduceLT, Nat.reduceLeDiff, ite_true, ite_false, Nat.reduceEqDiff, if_false, reduceCtorEq, ne_eq, List.getD, List.getElem?_cons_zero, List.getElem?_cons_succ, Option.getD_some, Option.bind_some, Option.map_some, Option.isSome_some, reduceIte, List.length_append, List.append_assoc, List.cons_append, List.nil_append, Option.some.injEq, forall_const, implies_true, Int.reduceNeg, eq_self, Prod.mk.injEq, List.self_eq_append_right, List.append_nil, exists_eq_left, exists_eq_left', exists_and_left, exists_eq_right, exists_and_right]
        exact ⟨_, by omega, 2 * r + 1, rfl, by omega, by omega, rfl, _, B', K.trans K', P.sw (by omega) (by omega) (by omega) (by omega), Hx.step O S hr big l2⟩
    · have big := big_r (F := F) O c2 l1
      cases l2 : lt (g (F + r)) (g (F + (2 * r + 2)))
      · simp (config := {maxSteps := 8000000}) only [e0, e1, e2, e3, e4, e8, wa, wb, wc', wd, we, wf, wg, b1, b2, o0, o1, o2, isPtr_idx o0, isPtr_idx o1, isPtr_idx o2, d0, d1, d2, hcmp, hq, l1, l2, hn1, SS, bne_self_eq_false, wr_def, obOf, List.all_cons, List.all_nil, List.map_cons, List.map_nil, List.length_cons, List.length_nil, List.take_zero, List.take_succ_cons, List.take_nil, List.drop_zero, List.drop_succ_cons, List.drop_nil, Nat.reduceAdd, Nat.reduceMul, Nat.reduceSub, if_true, Nat.reduceLT, Nat.reduceLeDiff, ite_true, ite_false, Nat.reduceEqDiff, if_false, reduceCtorEq, ne_eq, List.getD, List.getElem?_cons_zero, List.getElem?_cons_succ, Option.getD_some, Option.bind_some, Option.map_some, Option.isSome_some, reduceIte, List.length_append, List.append_assoc, List.cons_append, List.nil_append, Option.some.injEq, forall_const, implies_true, Int.reduceNeg, eq_self, Prod.mk.injEq, List.self_eq_append_right, List.append_nil, exists_eq_left, exists_eq_left', exists_and_left, exists_eq_right, exists_and_right]
        exact ⟨rfl, g, B, K, rfl, P, Hx.done O S big l2⟩
      · obtain ⟨s1, s2, B', K', -⟩ := B.sw L (kk := .i64) (i := F + r) (j := F + (2 * r + 2)) (by omega) (by omega)
        simp (config := {maxSteps := 8000000}) only [e0, e1, e2, e3, e4, e8, wa, wb, wc', wd, we, wf, wg, b1, b2, o0, o1, o2, isPtr_idx o0, isPtr_idx o1, isPtr_idx o2, d0, d1, d2, hcmp, hq, l1, l2, hn1, s1, s2, SS, bne_self_eq_false, wr_def, obOf, List.all_cons, List.all_nil, List.map_cons, List.map_nil, List.length_cons, List.length_nil, List.take_zero, List.take_succ_cons, List.take_nil, List.drop_zero, List.drop_succ_cons, List.drop_nil, Nat.reduceAdd, Nat.reduceMul, Nat.reduceSub, if_true, Nat.reduceLT, Nat.reduceLeDiff, ite_true, ite_false, Nat.reduceEqDiff, if_false, reduceCtorEq, ne_eq, List.getD, List.getElem?_cons_zero, List.getElem?_cons_succ, Option.getD_some, Option.bind_some, Option.map_some, Option.isSome_some, reduceIte, List.length_append, List.append_assoc, List.cons_append, List.nil_append, Option.some.injEq, forall_const, implies_true, Int.reduceNeg, eq_self, Prod.mk.injEq, List.self_eq_append_right, List.append_nil, exists_eq_left, exists_eq_left', exists_and_left, exists_eq_right, exists_and_right]
        exact ⟨_, by omega, 2 * r + 2, rfl, by omega, by omega, rfl, _, B', K.trans K', P.sw (by omega) (by omega) (by omega) (by omega), Hx.step O S hr big l2⟩
  · have b2 : decide (((2 * r + 2 : Nat) : Int) < (hi : Int)) = false := decide_eq_false (by omega)
    have big := left fun h => absurd h c2
    cases l2 : lt (g (F + r)) (g (F + (2 * r + 1)))
    · simp (config := {maxSteps := 8000000}) only [e0, e1, e2, e3, e4, e8, wa, wb, wc', wd, we, wf, wg, b1, b2, o0, o1, isPtr_idx o0, isPtr_idx o1, d0, d1, hcmp, hq, l2, hn1, SS, bne_self_eq_false, wr_def, obOf, List.all_cons, List.all_nil, List.map_cons, List.map_nil, List.length_cons, List.length_nil, List.take_zero, List.take_succ_cons, List.take_nil, List.drop_zero, List.drop_succ_cons, List.drop_nil, Nat.reduceAdd, Nat.reduceMul, Nat.reduceSub, if_true, Nat.reduceLT, Nat.reduceLeDiff, ite_true, ite_false, Nat.reduceEqDiff, if_false, reduceCtorEq, ne_eq, List.getD, List.getElem?_cons_zero, List.getElem?_cons_succ, Option.getD_some, Option.bind_some, Option.map_some, Option.isSome_some, reduceIte, List.length_append, List.append_assoc, List.cons_append, List.nil_append, Option.some.injEq, forall_const, implies_true, Int.reduceNeg, eq_self, Prod.mk.injEq, List.self_eq_append_right, List.append_nil, exists_eq_left, exists_eq_left', exists_and_left, exists_eq_right, exists_and_right]
      exact ⟨rfl, g, B, K, rfl, P, Hx.done O S big l2⟩
    · obtain ⟨s1, s2, B', K', -⟩ := B.sw L (kk := .i64) (i := F + r) (j := F + (2 * r + 1)) (by omega) (by omega)
      simp (config := {maxSteps := 8000000}) only [e0, e1, e2, e3, e4, e8, wa, wb, wc', wd, we, wf, wg, b1, b2, o0, o1, isPtr_idx o0, isPtr_idx o1, d0, d1, hcmp, hq, l2, hn1, s1, s2, SS, bne_self_eq_false, wr_def, obOf, List.all_cons, List.all_nil, List.map_cons, List.map_nil, List.length_cons, List.length_nil, List.take_zero, List.take_succ_cons, List.take_nil, List.drop_zero, List.drop_succ_cons, List.drop_nil, Nat.reduceAdd, Nat.reduceMul, Nat.reduceSub, if_true, Nat.reduceLT, Nat.reduceLeDiff, ite_true, ite_false, Nat.reduceEqDiff, if_false, reduceCtorEq, ne_eq, List.getD, List.getElem?_cons_zero, List.getElem?_cons_succ, Option.getD_some, Option.bind_some, Option.map_some, Option.isSome_some, reduceIte, List.length_append, List.append_assoc, List.cons_append, List.nil_append, Option.some.injEq, forall_const, implies_true, Int.reduceNeg, eq_self, Prod.mk.injEq, List.self_eq_append_right, List.append_nil, exists_eq_left, exists_eq_left', exists_and_left, exists_eq_right, exists_and_right]
      exact ⟨_, by omega, 2 * r + 1, rfl, by omega, by omega, rfl, _, B', K.trans K', P.sw (by omega) (by omega) (by omega) (by omega), Hx.step O S hr big l2⟩

theorem heap_m {n0 n a b : Nat} {H : List Ob} {v : AV} {f : Nat → α} (A : Fs n0 H v c 6 n f) (h0 : n0 ≤ H.length) (hb : b ≤ n) (hn : n ≤ 1125899906842624) (ha : a < b) :
    ∃ r h2 g, mcall E n0 134 [v, .int .i64 (a : Int), .int .i64 (b : Int), KC] H = some (r, h2) ∧ n0 ≤ h2.length ∧ Fs n0 h2 v c 6 n g ∧ Kp v H h2 ∧ r = .tup [] ∧ Per a b f g ∧ Srt lt a b g := by
  have sift := @sift_m _ c e lt KC q X n0 n a
  obtain ⟨L, O, he, hcmp, hq⟩ := X
  refine row_call (P := fun r g => r = .tup [] ∧ Per a b f g ∧ Srt lt a b g) e134 rfl (Nat.le_of_ble_eq_true rfl) h0 A ?_
  have w1 : IntKind.i64.wrap ((b : Int) - (a : Int)) = ((b - a : Nat) : Int) := by rw [wrap64 (by omega) (by omega)]; omega
  have w2 : IntKind.i64.wrap (((b - a : Nat) : Int) - 1) = ((b - a - 1 : Nat) : Int) := by rw [wrap64 (by omega) (by omega)]; omega
  have w3 : abin .quo (.int .i64 ((b - a - 1 : Nat) : Int)) (.int .i64 2) = some (.int .i64 ((((b - a - 1) / 2 + 1 : Nat) : Int) - 1)) := by
    rw [abin_quo _ _ _ (by decide)]
    have : ((b - a - 1 : Nat) : Int).tdiv 2 = ((((b - a - 1) / 2 + 1 : Nat) : Int) - 1) := by rw [Int.tdiv_eq_ediv_of_nonneg (by omega)]; omega
    rw [this, wrap64 (by omega) (by omega)]
  have wm : ∀ m : Nat, m < b - a + 1 → IntKind.i64.wrap ((m : Int) - 1) = (m : Int) - 1 := fun m hm => wrap64 (by omega) (by omega)
  simp (config := {maxSteps := 4000000}) only [c134, w1, w2, w3, SS, bne_self_eq_false, wr_def, obOf, List.all_cons, List.all_nil, List.map_cons, List.map_nil, List.length_cons, List.length_nil, List.take_zero, List.take_succ_cons, List.take_nil, List.drop_zero, List.drop_succ_cons, List.drop_nil, Nat.reduceAdd, Nat.reduceMul, Nat.reduceSub, if_true, Nat.reduceLT, Nat.reduceLeDiff, ite_true, ite_false, Nat.reduceEqDiff, if_false, reduceCtorEq, ne_eq, List.getD, List.getElem?_cons_zero, List.getElem?_cons_succ, Option.getD_some, Option.bind_some, Option.map_some, Option.isSome_some, reduceIte, List.length_append, List.append_assoc, List.cons_append, List.nil_append, Option.some.injEq, forall_const, implies_true, Int.reduceNeg, eq_self, Prod.mk.injEq, List.self_eq_append_right, List.append_nil, exists_eq_left, exists_eq_left', exists_and_left, exists_eq_right, exists_and_right]
  refine W.mono (Q := fun ex f1 h1 => ex = .ex 0 ∧ f1 0 = v ∧ f1 8 = .int .i64 (a : Int) ∧ f1 9 = .int .i64 0 ∧ f1 10 = .int .i64 ((b - a : Nat) : Int) ∧ f1 3 = KC ∧ ∃ g, Fs n0 h1 v c 6 n g ∧ Kp v H h1 ∧ Per a b f g ∧ Hp lt a 0 (b - a) g)
    (W_loop (fun k f1 h1 => ∃ m : Nat, k = m + 1 ∧ m ≤ (b - a - 1) / 2 + 1 ∧ f1 0 = v ∧ f1 8 = .int .i64 (a : Int) ∧ f1 9 = .int .i64 0 ∧ f1 10 = .int .i64 ((b - a : Nat) : Int) ∧ f1 3 = KC ∧ f1 11 = .int .i64 ((m : Int) - 1) ∧ ∃ g, Fs n0 h1 v c 6 n g ∧ Kp v H h1 ∧ Per a b f g ∧ Hp lt a m (b - a) g) h0 _ ⟨(b - a - 1) / 2 + 1, rfl, Nat.le_refl _, rfl, rfl, rfl, rfl, rfl, rfl, f, A, Kp.refl, .rfl, fun k d h1 h2 h3 => by omega⟩ ?_) ?_
  · rintro k f1 h1 hn1 ht ⟨m, hk, hm, e0, e6, e7, e8, e3, e9, g, B, K, P, S⟩
    by_cases hm0 : m = 0
    · subst hm0
      have b1 : decide ((0 : Int) ≤ ((0 : Nat) : Int) - 1) = false := by decide
      simp (config := {maxSteps := 4000000}) only [e0, e6, e7, e8, e3, e9, b1, SS, bne_self_eq_false, wr_def, obOf, List.all_cons, List.all_nil, List.map_cons, List.map_nil, List.length_cons, List.length_nil, List.take_zero, List.take_succ_cons, List.take_nil, List.drop_zero, List.drop_succ_cons, List.drop_nil, Nat.reduceAdd, Nat.reduceMul, Nat.reduceSub, if_true, Nat.reduceLT, Nat.reduceLeDiff, ite_true, ite_false, Nat.reduceEqDiff, if_false, reduceCtorEq, ne_eq, List.getD, List.getElem?_cons_zero, List.getElem?_cons_succ, Option.getD_some, Option.bind_some, Option.map_some, Option.isSome_some, reduceIte, List.length_append, List.append_assoc, List.cons_append, List.nil_append, Option.some.injEq, forall_const, implies_true, Int.reduceNeg, eq_self, Prod.mk.injEq, List.self_eq_append_right, List.append_nil, exists_eq_left, exists_eq_left', exists_and_left, exists_eq_right, exists_and_right]
      exact ⟨g, B, K, P, S⟩
    · obtain ⟨i, rfl⟩ : ∃ i, m = i + 1 := ⟨m - 1, by omega⟩
      have ei : ((i + 1 : Nat) : Int) - 1 = (i : Int) := by omega
      rw [ei] at e9
      have b1 : decide ((0 : Int) ≤ (i : Int)) = true := decide_eq_true (by omega)
      have wi := wm i (by omega)
      obtain ⟨r, h2, g2, hm2, hl2, B2, K2, rfl, P2, S2⟩ := sift (lo := i) (hi := b - a) B hn1 (by omega) hn (by omega) S
      simp (config := {maxSteps := 4000000}) only [e0, e6, e7, e8, e3, e9, b1, wi, rg_callm, mcallV_fn, hm2, SS, bne_self_eq_false, wr_def, obOf, List.all_cons, List.all_nil, List.map_cons, List.map_nil, List.length_cons, List.length_nil, List.take_zero, List.take_succ_cons, List.take_nil, List.drop_zero, List.drop_succ_cons, List.drop_nil, Nat.reduceAdd, Nat.reduceMul, Nat.reduceSub, if_true, Nat.reduceLT, Nat.reduceLeDiff, ite_true, ite_false, Nat.reduceEqDiff, if_false, reduceCtorEq, ne_eq, List.getD, List.getElem?_cons_zero, List.getElem?_cons_succ, Option.getD_some, Option.bind_some, Option.map_some, Option.isSome_some, reduceIte, List.length_append, List.append_assoc, List.cons_append, List.nil_append, Option.some.injEq, forall_const, implies_true, Int.reduceNeg, eq_self, Prod.mk.injEq, List.self_eq_append_right, List.append_nil, exists_eq_left, exists_eq_left', exists_and_left, exists_eq_right, exists_and_right]
      exact ⟨_, by omega, i, rfl, by omega, rfl, g2, B2, K.trans K2, P.trans (P2.mono (Nat.le_refl _) (by omega)), S2⟩
  · rintro ex f1 h1 hn1 ht ⟨rfl, e0, e6, e7, e8, e3, g, B, K, P, S⟩
    have w4 : ((b - a - 1 : Nat) : Int) = ((b - a : Nat) : Int) - 1 := by omega
    simp (config := {maxSteps := 4000000}) only [e0, e6, e7, e8, e3, w2, SS, bne_self_eq_false, wr_def, obOf, List.all_cons, List.all_nil, List.map_cons, List.map_nil, List.length_cons, List.length_nil, List.take_zero, List.take_succ_cons, List.take_nil, List.drop_zero, List.drop_succ_cons, List.drop_nil, Nat.reduceAdd, Nat.reduceMul, Nat.reduceSub, if_true, Nat.reduceLT, Nat.reduceLeDiff, ite_true, ite_false, Nat.reduceEqDiff, if_false, reduceCtorEq, ne_eq, List.getD, List.getElem?_cons_zero, List.getElem?_cons_succ, Option.getD_some, Option.bind_some, Option.map_some, Option.isSome_some, reduceIte, List.length_append, List.append_assoc, List.cons_append, List.nil_append, Option.some.injEq, forall_const, implies_true, Int.reduceNeg, eq_self, Prod.mk.injEq, List.self_eq_append_right, List.append_nil, exists_eq_left, exists_eq_left', exists_and_left, exists_eq_right, exists_and_right]
    rw [w4]
    refine W_loop (fun k f1 h1 => ∃ m : Nat, k = m + 1 ∧ m ≤ b - a ∧ f1 0 = v ∧ f1 8 = .int .i64 (a : Int) ∧ f1 9 = .int .i64 0 ∧ f1 3 = KC ∧ f1 12 = .int .i64 ((m : Int) - 1) ∧ ∃ g, Fs n0 h1 v c 6 n g ∧ Kp v H h1 ∧ Per a b f g ∧ Pop lt a m (b - a) g) hn1 _ ⟨b - a, rfl, Nat.le_refl _, e0, e6, e7, e3, rfl, g, B, K, P, Pop.init S⟩ ?_
    clear e0 e6 e7 e8 e3 B K P S
    rintro k f2 h2 hn2 ht2 ⟨m, hk, hm, e0, e6, e7, e3, e10, g, B, K, P, S⟩
    by_cases hm0 : m = 0
    · subst hm0
      have b1 : decide ((0 : Int) ≤ ((0 : Nat) : Int) - 1) = false := by decide
      have hS := S.fin
      have hab : a + (b - a) = b := by omega
      rw [hab] at hS
      simp (config := {maxSteps := 4000000}) only [e0, e6, e7, e3, e10, b1, SS, bne_self_eq_false, wr_def, obOf, List.all_cons, List.all_nil, List.map_cons, List.map_nil, List.length_cons, List.length_nil, List.take_zero, List.take_succ_cons, List.take_nil, List.drop_zero, List.drop_succ_cons, List.drop_nil, Nat.reduceAdd, Nat.reduceMul, Nat.reduceSub, if_true, Nat.reduceLT, Nat.reduceLeDiff, ite_true, ite_false, Nat.reduceEqDiff, if_false, reduceCtorEq, ne_eq, List.getD, List.getElem?_cons_zero, List.getElem?_cons_succ, Option.getD_some, Option.bind_some, Option.map_some, Option.isSome_some, reduceIte, List.length_append, List.append_assoc, List.cons_append, List.nil_append, Option.some.injEq, forall_const, implies_true, Int.reduceNeg, eq_self, Prod.mk.injEq, List.self_eq_append_right, List.append_nil, exists_eq_left, exists_eq_left', exists_and_left, exists_eq_right, exists_and_right]
      exact ⟨rfl, g, B, K, rfl, P, hS⟩
    · obtain ⟨i, rfl⟩ : ∃ i, m = i + 1 := ⟨m - 1, by omega⟩
      have ei : ((i + 1 : Nat) : Int) - 1 = (i : Int) := by omega
      rw [ei] at e10
      have b1 : decide ((0 : Int) ≤ (i : Int)) = true := decide_eq_true (by omega)
      have wi := wm i (by omega)
      have wf : IntKind.i64.wrap ((a : Int) + (i : Int)) = ((a + i : Nat) : Int) := by rw [wrap64 (by omega) (by omega)]; omega
      have o0 := B.ok (kk := .i64) (i := a) (by omega)
      have o1 := B.ok (kk := .i64) (i := a + i) (by omega)
      have d0 := Fs.ldE L he B (kk := .i64) (i := a) (by omega)
      have d1 := Fs.ldE L he B (kk := .i64) (i := a + i) (by omega)
      obtain ⟨s1, s2, B', K', hlen⟩ := B.sw L (kk := .i64) (i := a) (j := a + i) (by omega) (by omega)
      obtain ⟨r, h3, g3, hm3, hl3, B3, K3, rfl, P3, S3⟩ := sift (lo := 0) (hi := i) B' (by rw [hlen]; exact hn2) (by omega) hn (by omega) S.pre
      rw [show ((0 : Nat) : Int) = 0 from rfl] at hm3
      simp (config := {maxSteps := 4000000}) only [e0, e6, e7, e3, e10, b1, wi, wf, o0, o1, isPtr_idx o0, isPtr_idx o1, d0, d1, s1, s2, rg_callm, mcallV_fn, hm3, SS, bne_self_eq_false, wr_def, obOf, List.all_cons, List.all_nil, List.map_cons, List.map_nil, List.length_cons, List.length_nil, List.take_zero, List.take_succ_cons, List.take_nil, List.drop_zero, List.drop_succ_cons, List.drop_nil, Nat.reduceAdd, Nat.reduceMul, Nat.reduceSub, if_true, Nat.reduceLT, Nat.reduceLeDiff, ite_true, ite_false, Nat.reduceEqDiff, if_false, reduceCtorEq, ne_eq, List.getD, List.getElem?_cons_zero, List.getElem?_cons_succ, Option.getD_some, Option.bind_some, Option.map_some, Option.isSome_some, reduceIte, List.length_append, List.append_assoc, List.cons_append, List.nil_append, Option.some.injEq, forall_const, implies_true, Int.reduceNeg, eq_self, Prod.mk.injEq, List.self_eq_append_right, List.append_nil, exists_eq_left, exists_eq_left', exists_and_left, exists_eq_right, exists_and_right]
      exact ⟨_, by omega, i, rfl, by omega, rfl, g3, B3, (K.trans K').trans K3, (P.sw (by omega) (by omega) (by omega) (by omega)).trans (P3.mono (Nat.le_refl _) (by omega)), S.step O (by omega) P3 S3⟩
end
end Go.Proofs.Ytaekgifbehoipaa.So.KL
