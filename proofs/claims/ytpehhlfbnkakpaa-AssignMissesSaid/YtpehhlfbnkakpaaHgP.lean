/- Assignments of least sum: the plain facts of shortest alternating ways with potentials. Conditions stand in each lemma. -/
import Init
namespace Go.Proofs.Ytpehhlfbnkakpaa.Hg
set_option linter.unusedVariables false
set_option linter.unusedSimpArgs false

/-- The sum below n. -/
def sumN : Nat → (Nat → Int) → Int
  | 0, _ => 0
  | n + 1, f => sumN n f + f n
theorem sumN_congr {f g : Nat → Int} : ∀ {n : Nat}, (∀ i, i < n → f i = g i) → sumN n f = sumN n g
  | 0, _ => rfl
  | n + 1, h => by simp only [sumN]; rw [sumN_congr (fun i hi => h i (by omega)), h n (by omega)]
theorem sumN_le {f g : Nat → Int} : ∀ {n : Nat}, (∀ i, i < n → f i ≤ g i) → sumN n f ≤ sumN n g
  | 0, _ => Int.le_refl _
  | n + 1, h => by
    simp only [sumN]
    have := sumN_le (n := n) (fun i hi => h i (by omega)); have := h n (by omega); omega
theorem sumN_add {f g : Nat → Int} : ∀ {n : Nat}, sumN n (fun i => f i + g i) = sumN n f + sumN n g
  | 0 => rfl
  | n + 1 => by simp only [sumN]; rw [sumN_add]; omega
theorem sumN_zero : ∀ {n : Nat}, sumN n (fun _ => 0) = 0
  | 0 => rfl
  | n + 1 => by simp only [sumN]; rw [sumN_zero]; rfl
theorem sumN_const {c : Int} : ∀ {n : Nat}, sumN n (fun _ => c) = n * c
  | 0 => by simp [sumN]
  | n + 1 => by simp only [sumN]; rw [sumN_const]; rw [Int.natCast_add, Int.add_mul]; simp
theorem sumN_single {a : Nat} {f : Nat → Int} : ∀ {n : Nat}, a < n → sumN n (fun k => if k = a then f k else 0) = f a
  | 0, h => by omega
  | n + 1, h => by
    simp only [sumN]
    by_cases ha : a < n
    · rw [sumN_single ha, if_neg (by omega)]; omega
    · have : a = n := by omega
      subst this
      rw [if_pos rfl, sumN_congr (g := fun _ => 0) (fun i hi => if_neg (by omega)), sumN_zero]; omega

/-- Different numbers below C for the numbers below R. -/
structure Inj (R C : Nat) (σ : Nat → Nat) : Prop where
  lt : ∀ i, i < R → σ i < C
  inj : ∀ i j, i < R → j < R → σ i = σ j → i = j
open Classical in
theorem reindex {C : Nat} {σ : Nat → Nat} (g : Nat → Int) : ∀ {R : Nat}, Inj R C σ → sumN R (fun i => g (σ i)) = sumN C (fun k => if ∃ i, i < R ∧ σ i = k then g k else 0)
  | 0, _ => by
    rw [sumN_congr (g := fun _ => 0) (fun k hk => if_neg (by rintro ⟨i, hi, _⟩; omega)), sumN_zero]; rfl
  | R + 1, hI => by
    have hI' : Inj R C σ := ⟨fun i hi => hI.lt i (by omega), fun i j hi hj => hI.inj i j (by omega) (by omega)⟩
    simp only [sumN]
    rw [reindex g hI', ← sumN_single (f := g) (hI.lt R (by omega)), ← sumN_add]
    apply sumN_congr
    intro k hk
    by_cases h1 : ∃ i, i < R ∧ σ i = k
    · rw [if_pos h1]
      obtain ⟨i, hi, he⟩ := h1
      rw [if_pos (show ∃ i, i < R + 1 ∧ σ i = k from ⟨i, by omega, he⟩), if_neg, Int.add_zero]
      intro e
      have := hI.inj i R (by omega) (by omega) (he.trans e); omega
    · rw [if_neg h1]
      by_cases h2 : k = σ R
      · rw [if_pos h2, if_pos ⟨R, by omega, h2.symm⟩, Int.zero_add]
      · rw [if_neg h2, if_neg, Int.add_zero]
        rintro ⟨i, hi, he⟩
        by_cases h3 : i = R
        · subst h3; exact h2 he.symm
        · exact h1 ⟨i, by omega, he⟩
theorem pigeon {R C : Nat} {σ : Nat → Nat} (hI : Inj R C σ) : R ≤ C := by
  have h1 := reindex (fun _ => 1) hI
  have h2 : sumN R (fun _ => (1 : Int)) = R := by rw [sumN_const]; omega
  have h3 : sumN C (fun _ => (1 : Int)) = C := by rw [sumN_const]; omega
  have h4 := sumN_le (n := C) (f := fun k => if ∃ i, i < R ∧ σ i = k then (1 : Int) else 0) (g := fun _ => 1) (fun k _ => by
    split <;> omega)
  omega

theorem or_lt {m k : Nat} {p : Prop} (h : m + 1 ≤ k ∨ p) : m ≤ k ∨ p := h.imp_left (by omega)
def upd {α : Type} (f : Nat → α) (i : Nat) (x : α) : Nat → α := fun k => if k = i then x else f k
theorem upd_same {α : Type} {f : Nat → α} {i : Nat} {x : α} : upd f i x i = x := if_pos rfl
theorem upd_ne {α : Type} {f : Nat → α} {i k : Nat} {x : α} (h : k ≠ i) : upd f i x k = f k := if_neg h

/-- What is left of a cost. -/
def sl (M : Nat → Nat → Int) (u v : Nat → Int) (i k : Nat) : Int := M (i - 1) (k - 1) - u i - v k

/-- After r rows. -/
structure Base (M : Nat → Nat → Int) (C r : Nat) (u v : Nat → Int) (fo : Nat → Nat) : Prop where
  tight : ∀ k, 1 ≤ k → k ≤ C → fo k ≠ 0 → sl M u v (fo k) k = 0
  pos : ∀ i k, 1 ≤ i → i ≤ r → 1 ≤ k → k ≤ C → 0 ≤ sl M u v i k
  vneg : ∀ k, 1 ≤ k → k ≤ C → v k ≤ 0
  vfree : ∀ k, 1 ≤ k → k ≤ C → fo k = 0 → v k = 0
  ofr : ∀ k, 1 ≤ k → k ≤ C → fo k ≤ r
  inj : ∀ j k, 1 ≤ j → j ≤ C → 1 ≤ k → k ≤ C → fo j = fo k → fo j ≠ 0 → j = k
  sur : ∀ i, 1 ≤ i → i ≤ r → ∃ k, 1 ≤ k ∧ k ≤ C ∧ fo k = i
  upos : ∀ i, 0 ≤ u i
  u0 : u 0 = 0
  uzero : ∀ i, r < i → u i = 0
  uN : ∀ i, u i ≤ 1125899906842624
  v0 : -(r * 1125899906842624) ≤ v 0 ∧ v 0 ≤ 0

/-- The way back to 0. -/
inductive Tr (way : Nat → Nat) : List Nat → Prop
  | nil : Tr way [0]
  | cons {k : Nat} {l : List Nat} : k ≠ 0 → k ∉ l → way k ∈ l → Tr way l → Tr way (k :: l)

structure Ph (M : Nat → Nat → Int) (C r : Nat) (u v : Nat → Int) (fo : Nat → Nat) (least : Nat → Int) (way : Nat → Nat) (done : Nat → Bool) (a : Nat) (l : List Nat) : Prop where
  tight : ∀ k, 1 ≤ k → k ≤ C → fo k ≠ 0 → sl M u v (fo k) k = 0
  pos : ∀ i k, 1 ≤ i → i ≤ r + 1 → 1 ≤ k → k ≤ C → 0 ≤ sl M u v i k
  vneg : ∀ k, 1 ≤ k → k ≤ C → v k ≤ 0
  vfree : ∀ k, 1 ≤ k → k ≤ C → fo k = 0 → v k = 0
  ofr : ∀ k, 1 ≤ k → k ≤ C → fo k ≤ r
  inj : ∀ j k, 1 ≤ j → j ≤ C → 1 ≤ k → k ≤ C → fo j = fo k → fo j ≠ 0 → j = k
  sur : ∀ i, 1 ≤ i → i ≤ r → ∃ k, 1 ≤ k ∧ k ≤ C ∧ fo k = i
  upos : ∀ i, 0 ≤ u i
  u0 : u 0 = 0
  uzero : ∀ i, r + 1 < i → u i = 0
  v0 : -(r * 1125899906842624) ≤ v 0 + u (r + 1) ∧ v 0 ≤ 0
  of0 : fo 0 = r + 1
  trl : Tr way (a :: l)
  dn : ∀ k, done k = true ↔ k ∈ l
  inC : ∀ k, k ∈ a :: l → k ≤ C
  occ : ∀ k, k ∈ l → fo k ≠ 0
  tw : ∀ k, k ∈ a :: l → k ≠ 0 → sl M u v (fo (way k)) k = 0
  lst0 : l = [] → ∀ k, 1 ≤ k → k ≤ C → least k = 4503599627370496
  lst1 : l ≠ [] → ∀ k, 1 ≤ k → k ≤ C → k ∉ l → least k = sl M u v (fo (way k)) k ∧ way k ∈ l ∧ ∀ j, j ∈ l → least k ≤ sl M u v (fo j) k

theorem Tr.zero {way : Nat → Nat} {l : List Nat} (t : Tr way l) : 0 ∈ l := by
  induction t with
  | nil => simp
  | cons _ _ _ _ ih => exact List.mem_cons_of_mem _ ih
theorem Tr.suffix {way : Nat → Nat} : ∀ {l : List Nat} {j : Nat}, Tr way l → j ∈ l → ∃ b, Tr way (j :: b) ∧ b.length < l.length ∧ ∀ k, k ∈ j :: b → k ∈ l
  | [], j, t, h => by cases h
  | k :: l, j, t, h => by
    by_cases hj : j = k
    · subst hj; exact ⟨l, t, by simp, fun _ h => h⟩
    · have hm : j ∈ l := by simpa [hj] using h
      cases t with
      | nil => simp at hm
      | cons h1 h2 h3 h4 =>
        obtain ⟨b, k1, k2, k3⟩ := Tr.suffix h4 hm
        exact ⟨b, k1, by simp; omega, fun k hk => List.mem_cons_of_mem _ (k3 k hk)⟩
theorem Tr.congr {way way' : Nat → Nat} {l : List Nat} (t : Tr way l) (h : ∀ k, k ∈ l → k ≠ 0 → way' k = way k) : Tr way' l := by
  induction t with
  | nil => exact .nil
  | @cons k l h1 h2 h3 h4 ih => exact .cons h1 h2 (by rw [h k (by simp) h1]; exact h3) (ih fun j hj => h j (List.mem_cons_of_mem _ hj))
theorem Tr.head_not {way : Nat → Nat} {k : Nat} {l : List Nat} (t : Tr way (k :: l)) : k ∉ l := by
  cases t with
  | nil => simp
  | cons _ h _ _ => exact h
theorem Tr.head_way {way : Nat → Nat} {k : Nat} {l : List Nat} (t : Tr way (k :: l)) (hk : k ≠ 0) : way k ∈ l := by
  cases t with
  | nil => exact absurd rfl hk
  | cons _ _ h _ => exact h
theorem Tr.head_zero {way : Nat → Nat} {l : List Nat} (t : Tr way (0 :: l)) : l = [] := by
  cases t with
  | nil => rfl
  | cons h => exact absurd rfl h

section
variable {M : Nat → Nat → Int} {C r : Nat} {u v : Nat → Int} {fo : Nat → Nat} {least : Nat → Int} {way : Nat → Nat} {done : Nat → Bool} {a : Nat} {l : List Nat}
theorem Base.free (B : Base M C r u v fo) (hr : r < C) : ∃ f, 1 ≤ f ∧ f ≤ C ∧ fo f = 0 := by
  apply Classical.byContradiction
  intro hno
  have hne : ∀ f, 1 ≤ f → f ≤ C → fo f ≠ 0 := fun f h1 h2 h3 => hno ⟨f, h1, h2, h3⟩
  have : Inj C r (fun k => fo (k + 1) - 1) := ⟨fun i hi => by
      have := hne (i + 1) (by omega) (by omega); have := B.ofr (i + 1) (by omega) (by omega); omega,
    fun i j hi hj he => by
      have h1 := hne (i + 1) (by omega) (by omega); have h2 := hne (j + 1) (by omega) (by omega)
      have := B.inj (i + 1) (j + 1) (by omega) (by omega) (by omega) (by omega) (by omega) h1
      omega⟩
  have := pigeon this
  omega
theorem Base.start (B : Base M C r u v fo) (hM : ∀ i k, 0 ≤ M i k ∧ M i k ≤ 1125899906842624) (fo' : Nat → Nat) (h0 : fo' 0 = r + 1) (hf : ∀ k, 1 ≤ k → fo' k = fo k) (least : Nat → Int) (hl : ∀ k, 1 ≤ k → k ≤ C → least k = 4503599627370496) (way : Nat → Nat) (done : Nat → Bool) (hd : ∀ k, done k = false) :
    Ph M C r u v fo' least way done 0 [] where
  tight k h1 h2 h3 := by rw [hf k h1] at h3 ⊢; exact B.tight k h1 h2 h3
  pos i k h1 h2 h3 h4 := by
    by_cases hi : i ≤ r
    · exact B.pos i k h1 hi h3 h4
    · have := B.uzero i (by omega); have := B.vneg k h3 h4; have := hM (i - 1) (k - 1)
      unfold sl; omega
  vneg := B.vneg
  vfree k h1 h2 h3 := B.vfree k h1 h2 (by rw [← hf k h1]; exact h3)
  ofr k h1 h2 := by rw [hf k h1]; exact B.ofr k h1 h2
  inj j k h1 h2 h3 h4 h5 h6 := by rw [hf j h1] at h5 h6; rw [hf k h3] at h5; exact B.inj j k h1 h2 h3 h4 h5 h6
  sur i h1 h2 := by obtain ⟨k, k1, k2, k3⟩ := B.sur i h1 h2; exact ⟨k, k1, k2, by rw [hf k k1]; exact k3⟩
  upos := B.upos
  u0 := B.u0
  uzero i h := B.uzero i (by omega)
  v0 := by have := B.v0; have := B.uzero (r + 1) (by omega); omega
  of0 := h0
  trl := .nil
  dn k := by simp [hd]
  inC k h := by simp at h; omega
  occ k h := by simp at h
  tw k h h0 := by simp at h; exact absurd h h0
  lst0 _ := hl
  lst1 h := absurd rfl h

theorem Ph.free (P : Ph M C r u v fo least way done a l) (hr : r < C) : ∃ f, 1 ≤ f ∧ f ≤ C ∧ fo f = 0 := by
  apply Classical.byContradiction
  intro hno
  have hne : ∀ f, 1 ≤ f → f ≤ C → fo f ≠ 0 := fun f h1 h2 h3 => hno ⟨f, h1, h2, h3⟩
  have : Inj C r (fun k => fo (k + 1) - 1) := ⟨fun i hi => by
      have := hne (i + 1) (by omega) (by omega); have := P.ofr (i + 1) (by omega) (by omega); omega,
    fun i j hi hj he => by
      have h1 := hne (i + 1) (by omega) (by omega); have h2 := hne (j + 1) (by omega) (by omega)
      have := P.inj (i + 1) (j + 1) (by omega) (by omega) (by omega) (by omega) (by omega) h1
      omega⟩
  have := pigeon this
  omega
theorem Ph.uN (P : Ph M C r u v fo least way done a l) (hr : r < C) (hM : ∀ i k, 0 ≤ M i k ∧ M i k ≤ 1125899906842624) (i : Nat) : u i ≤ 1125899906842624 := by
  by_cases h0 : i = 0
  · subst h0; have := P.u0; omega
  by_cases h1 : i ≤ r + 1
  · obtain ⟨f, f1, f2, f3⟩ := P.free hr
    have h2 := P.pos i f (by omega) h1 f1 f2
    have h3 := P.vfree f f1 f2 f3
    have h4 := hM (i - 1) (f - 1)
    unfold sl at h2; omega
  · have := P.uzero i (by omega); omega
theorem Ph.vN (P : Ph M C r u v fo least way done a l) (hr : r < C) (hM : ∀ i k, 0 ≤ M i k ∧ M i k ≤ 1125899906842624) (k : Nat) (h1 : 1 ≤ k) (h2 : k ≤ C) : -1125899906842624 ≤ v k := by
  by_cases h0 : fo k = 0
  · have := P.vfree k h1 h2 h0; omega
  · have h3 := P.tight k h1 h2 h0
    have h4 := P.uN hr hM (fo k)
    have h5 := hM (fo k - 1) (k - 1)
    unfold sl at h3; omega
theorem Ph.slN (P : Ph M C r u v fo least way done a l) (hr : r < C) (hM : ∀ i k, 0 ≤ M i k ∧ M i k ≤ 1125899906842624) (i k : Nat) (h1 : 1 ≤ k) (h2 : k ≤ C) : sl M u v i k ≤ 2251799813685248 := by
  have := P.vN hr hM k h1 h2; have := P.upos i; have := hM (i - 1) (k - 1); unfold sl; omega
theorem Ph.ofN (P : Ph M C r u v fo least way done a l) (k : Nat) (h : k ≤ C) : fo k ≤ r + 1 := by
  by_cases h0 : k = 0
  · subst h0; have := P.of0; omega
  · have := P.ofr k (by omega) h; omega
theorem Ph.inj0 (P : Ph M C r u v fo least way done a l) (j k : Nat) (h1 : j ≤ C) (h2 : k ≤ C) (h3 : fo j = fo k) (h4 : fo j ≠ 0) : j = k := by
  by_cases hj : j = 0
  · by_cases hk : k = 0
    · omega
    · have := P.ofr k (by omega) h2; have := P.of0; subst hj; omega
  · by_cases hk : k = 0
    · have := P.ofr j (by omega) h1; have := P.of0; subst hk; omega
    · exact P.inj j k (by omega) h1 (by omega) h2 h3 h4
end

/-- The search for the next column: the columns before m are looked at. -/
structure Scn (M : Nat → Nat → Int) (u v : Nat → Int) (least : Nat → Int) (way : Nat → Nat) (S : Nat → Bool) (i a m : Nat) (least' : Nat → Int) (way' : Nat → Nat) (delta : Int) (next : Nat) : Prop where
  d1 : ∀ k, 1 ≤ k → k < m → S k = false → (sl M u v i k < least k → least' k = sl M u v i k ∧ way' k = a) ∧ (least k ≤ sl M u v i k → least' k = least k ∧ way' k = way k)
  d2 : ∀ k, (k = 0 ∨ m ≤ k ∨ S k = true) → least' k = least k ∧ way' k = way k
  mn : ∀ k, 1 ≤ k → k < m → S k = false → delta ≤ least' k
  nx : (next = 0 ∧ delta = 4503599627370496) ∨ (1 ≤ next ∧ next < m ∧ S next = false ∧ least' next = delta ∧ delta < 4503599627370496)
section
variable {M : Nat → Nat → Int} {u v : Nat → Int} {least : Nat → Int} {way : Nat → Nat} {S : Nat → Bool} {i a m : Nat} {least' : Nat → Int} {way' : Nat → Nat} {delta : Int} {next : Nat}
theorem Scn.init : Scn M u v least way S i a 1 least way 4503599627370496 0 :=
  ⟨fun k h1 h2 => by omega, fun k _ => ⟨rfl, rfl⟩, fun k h1 h2 => by omega, Or.inl ⟨rfl, rfl⟩⟩
theorem Scn.skip (h : Scn M u v least way S i a m least' way' delta next) (hS : S m = true) : Scn M u v least way S i a (m + 1) least' way' delta next := by
  have hne : ∀ k, S k = false → k ≠ m := fun k hk e => by subst e; rw [hS] at hk; cases hk
  refine ⟨fun k h1 h2 h3 => h.d1 k h1 (by have := hne k h3; omega) h3, fun k hk => h.d2 k ?_, fun k h1 h2 h3 => h.mn k h1 (by have := hne k h3; omega) h3, ?_⟩
  · rcases hk with hk | hk | hk
    · exact Or.inl hk
    · exact Or.inr (Or.inl (by omega))
    · exact Or.inr (Or.inr hk)
  · rcases h.nx with h1 | ⟨h1, h2, h3⟩
    · exact Or.inl h1
    · exact Or.inr ⟨h1, by omega, h3⟩
theorem Scn.step (h : Scn M u v least way S i a m least' way' delta next) (hm : 1 ≤ m) (hS : S m = false) {L : Nat → Int} {W : Nat → Nat} {D : Int} {X : Nat}
    (h1 : (sl M u v i m < least' m ∧ L = upd least' m (sl M u v i m) ∧ W = upd way' m a) ∨ (least' m ≤ sl M u v i m ∧ L = least' ∧ W = way'))
    (h2 : (L m < delta ∧ D = L m ∧ X = m) ∨ (delta ≤ L m ∧ D = delta ∧ X = next)) : Scn M u v least way S i a (m + 1) L W D X := by
  have hL : ∀ k, k ≠ m → L k = least' k ∧ W k = way' k := by
    intro k hk
    rcases h1 with ⟨_, rfl, rfl⟩ | ⟨_, rfl, rfl⟩
    · exact ⟨upd_ne hk, upd_ne hk⟩
    · exact ⟨rfl, rfl⟩
  have ho := h.d2 m (Or.inr (Or.inl (Nat.le_refl _)))
  have hDl : D ≤ delta := by rcases h2 with ⟨_, rfl, _⟩ | ⟨_, rfl, _⟩ <;> omega
  refine ⟨fun k k1 k2 k3 => ?_, fun k hk => ?_, fun k k1 k2 k3 => ?_, ?_⟩
  · by_cases e : k = m
    · subst e
      rcases h1 with ⟨g1, rfl, rfl⟩ | ⟨g1, rfl, rfl⟩
      · exact ⟨fun _ => ⟨upd_same, upd_same⟩, fun g => by rw [ho.1] at g1; omega⟩
      · exact ⟨fun g => by rw [ho.1] at g1; omega, fun _ => ho⟩
    · rw [(hL k e).1, (hL k e).2]; exact h.d1 k k1 (by omega) k3
  · have hk' : k ≠ m := by
      rintro rfl
      rcases hk with hk | hk | hk
      · omega
      · omega
      · rw [hS] at hk; cases hk
    rw [(hL k hk').1, (hL k hk').2]
    exact h.d2 k (by rcases hk with hk | hk | hk; · exact Or.inl hk
                     · exact Or.inr (Or.inl (by omega))
                     · exact Or.inr (Or.inr hk))
  · by_cases e : k = m
    · subst e
      rcases h2 with ⟨_, rfl, _⟩ | ⟨g, rfl, _⟩
      · exact Int.le_refl _
      · exact g
    · rw [(hL k e).1]; exact Int.le_trans hDl (h.mn k k1 (by omega) k3)
  · rcases h2 with ⟨g, rfl, rfl⟩ | ⟨g, rfl, rfl⟩
    · refine Or.inr ⟨hm, by omega, hS, rfl, ?_⟩
      rcases h.nx with ⟨_, g2⟩ | ⟨_, _, _, _, g2⟩ <;> omega
    · rcases h.nx with g1 | ⟨g1, g2, g3, g4, g5⟩
      · exact Or.inl g1
      · exact Or.inr ⟨g1, by omega, g3, by rw [(hL X (by omega)).1]; exact g4, g5⟩
end
/-- The potentials moved, for the columns before m. -/
structure Shf (S : Nat → Bool) (fo : Nat → Nat) (δ : Int) (u v least : Nat → Int) (m : Nat) (u' v' least' : Nat → Int) : Prop where
  u1 : ∀ k, k < m → S k = true → u' (fo k) = u (fo k) + δ
  u2 : ∀ i, (∀ k, k < m → S k = true → fo k ≠ i) → u' i = u i
  v1 : ∀ k, k < m → S k = true → v' k = v k - δ
  v2 : ∀ k, (m ≤ k ∨ S k = false) → v' k = v k
  l1 : ∀ k, k < m → S k = false → least' k = least k - δ
  l2 : ∀ k, (m ≤ k ∨ S k = true) → least' k = least k
section
variable {S : Nat → Bool} {fo : Nat → Nat} {δ : Int} {u v least : Nat → Int} {m : Nat} {u' v' least' : Nat → Int}
theorem Shf.init : Shf S fo δ u v least 0 u v least :=
  ⟨fun k h => by omega, fun _ _ => rfl, fun k h => by omega, fun _ _ => rfl, fun k h => by omega, fun _ _ => rfl⟩
theorem Shf.inn (h : Shf S fo δ u v least m u' v' least') (hS : S m = true) (hi : ∀ k, k < m → S k = true → fo k ≠ fo m) : Shf S fo δ u v least (m + 1) (upd u' (fo m) (u' (fo m) + δ)) (upd v' m (v' m - δ)) least' := by
  have hne : ∀ k, S k = false → k ≠ m := fun k hk e => by subst e; rw [hS] at hk; cases hk
  refine ⟨fun k k1 k2 => ?_, fun i k1 => ?_, fun k k1 k2 => ?_, fun k k1 => ?_, fun k k1 k2 => h.l1 k (by have := hne k k2; omega) k2, fun k k1 => h.l2 k (or_lt k1)⟩
  · by_cases e : k = m
    · subst e; rw [upd_same, h.u2 (fo k) (fun j j1 j2 => hi j j1 j2)]
    · rw [upd_ne (hi k (by omega) k2)]; exact h.u1 k (by omega) k2
  · rw [upd_ne (fun e => k1 m (by omega) hS e.symm)]; exact h.u2 i (fun j j1 j2 => k1 j (by omega) j2)
  · by_cases e : k = m
    · subst e; rw [upd_same, h.v2 k (Or.inl (Nat.le_refl _))]
    · rw [upd_ne e]; exact h.v1 k (by omega) k2
  · have : k ≠ m := by
      rcases k1 with k1 | k1
      · omega
      · exact hne k k1
    rw [upd_ne this]; exact h.v2 k (or_lt k1)
theorem Shf.out (h : Shf S fo δ u v least m u' v' least') (hS : S m = false) : Shf S fo δ u v least (m + 1) u' v' (upd least' m (least' m - δ)) := by
  have hne : ∀ k, S k = true → k ≠ m := fun k hk e => by subst e; rw [hS] at hk; cases hk
  refine ⟨fun k k1 k2 => h.u1 k (by have := hne k k2; omega) k2, fun i k1 => h.u2 i (fun j j1 j2 => k1 j (by omega) j2), fun k k1 k2 => h.v1 k (by have := hne k k2; omega) k2, fun k k1 => h.v2 k (or_lt k1), fun k k1 k2 => ?_, fun k k1 => ?_⟩
  · by_cases e : k = m
    · subst e; rw [upd_same, h.l2 k (Or.inl (Nat.le_refl _))]
    · rw [upd_ne e]; exact h.l1 k (by omega) k2
  · have : k ≠ m := by
      rcases k1 with k1 | k1
      · omega
      · exact hne k k1
    rw [upd_ne this]; exact h.l2 k (or_lt k1)
end
end Go.Proofs.Ytpehhlfbnkakpaa.Hg
