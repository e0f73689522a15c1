/- Assignments of least sum: the steps of a phase, the way back, the answer. Conditions stand in each lemma. -/
import Derived.Test.YtpehhlfbnkakpaaHgP
namespace Go.Proofs.Ytpehhlfbnkakpaa.Hg
set_option linter.unusedVariables false
set_option linter.unusedSimpArgs false

theorem Tr.mem_way {way : Nat → Nat} {l : List Nat} (t : Tr way l) : ∀ k, k ∈ l → k ≠ 0 → way k ∈ l := by
  induction t with
  | nil => intro k hk h0; simp at hk; exact absurd hk h0
  | @cons j l h1 h2 h3 h4 ih =>
    intro k hk h0
    by_cases e : k = j
    · subst e; exact List.mem_cons_of_mem _ h3
    · exact List.mem_cons_of_mem _ (ih k (by simpa [e] using hk) h0)
section
variable {M : Nat → Nat → Int} {C r : Nat} {u v : Nat → Int} {fo : Nat → Nat} {least : Nat → Int} {way : Nat → Nat} {done : Nat → Bool} {a : Nat} {l : List Nat}
  {least' : Nat → Int} {way' : Nat → Nat} {δ : Int} {nx : Nat}
theorem Ph.mem (P : Ph M C r u v fo least way done a l) (k : Nat) : upd done a true k = true ↔ k ∈ a :: l := by
  by_cases e : k = a
  · subst e; simp [upd_same]
  · rw [upd_ne e, P.dn]; simp [e]
theorem Ph.nmem (P : Ph M C r u v fo least way done a l) (k : Nat) : upd done a true k = false ↔ k ∉ a :: l := by
  rw [← P.mem k]; simp
/-- What the search has found for a column that is not done. -/
theorem Ph.found (P : Ph M C r u v fo least way done a l) (hr : r < C) (hM : ∀ i k, 0 ≤ M i k ∧ M i k ≤ 1125899906842624) (Sc : Scn M u v least way (upd done a true) (fo a) a (C + 1) least' way' δ nx)
    (k : Nat) (h1 : 1 ≤ k) (h2 : k ≤ C) (h3 : k ∉ a :: l) : least' k = sl M u v (fo (way' k)) k ∧ way' k ∈ a :: l ∧ ∀ j, j ∈ a :: l → least' k ≤ sl M u v (fo j) k := by
  have hS := (P.nmem k).2 h3
  obtain ⟨d1, d2⟩ := Sc.d1 k h1 (by omega) hS
  have hs := P.slN hr hM (fo a) k h1 h2
  by_cases hl : l = []
  · have h4 := P.lst0 hl k h1 h2
    obtain ⟨e1, e2⟩ := d1 (by omega)
    subst hl
    exact ⟨by rw [e2]; exact e1, by rw [e2]; simp, fun j hj => by simp at hj; subst hj; rw [e1]; exact Int.le_refl _⟩
  · obtain ⟨g1, g2, g3⟩ := P.lst1 hl k h1 h2 (fun h => h3 (List.mem_cons_of_mem _ h))
    by_cases hc : sl M u v (fo a) k < least k
    · obtain ⟨e1, e2⟩ := d1 hc
      refine ⟨by rw [e2]; exact e1, by rw [e2]; simp, fun j hj => ?_⟩
      rw [e1]
      rcases List.mem_cons.1 hj with rfl | hj
      · exact Int.le_refl _
      · have := g3 j hj; omega
    · obtain ⟨e1, e2⟩ := d2 (by omega)
      refine ⟨by rw [e1, e2]; exact g1, by rw [e2]; exact List.mem_cons_of_mem _ g2, fun j hj => ?_⟩
      rw [e1]
      rcases List.mem_cons.1 hj with rfl | hj
      · omega
      · exact g3 j hj
theorem Ph.occ' (P : Ph M C r u v fo least way done a l) (ha : fo a ≠ 0) (k : Nat) (h : k ∈ a :: l) : fo k ≠ 0 := by
  rcases List.mem_cons.1 h with rfl | h
  · exact ha
  · exact P.occ k h
theorem Ph.next (P : Ph M C r u v fo least way done a l) (hr : r < C) (hM : ∀ i k, 0 ≤ M i k ∧ M i k ≤ 1125899906842624) (ha : fo a ≠ 0) (Sc : Scn M u v least way (upd done a true) (fo a) a (C + 1) least' way' δ nx) :
    1 ≤ nx ∧ nx ≤ C ∧ nx ∉ a :: l ∧ least' nx = δ ∧ 0 ≤ δ ∧ δ ≤ 1125899906842624 := by
  obtain ⟨f, f1, f2, f3⟩ := P.free hr
  have hf : f ∉ a :: l := fun h => P.occ' ha f h f3
  obtain ⟨-, -, h3⟩ := P.found hr hM Sc f f1 f2 hf
  have h4 := h3 0 P.trl.zero
  rw [P.of0] at h4
  have h5 := Sc.mn f f1 (by omega) ((P.nmem f).2 hf)
  have h6 := P.vfree f f1 f2 f3
  have h7 := hM (r + 1 - 1) (f - 1)
  have h8 := P.upos (r + 1)
  have h9 : δ ≤ 1125899906842624 := by unfold sl at h4; omega
  rcases Sc.nx with ⟨_, h⟩ | ⟨k1, k2, k3, k4, k5⟩
  · omega
  have k3' := (P.nmem nx).1 k3
  refine ⟨k1, by omega, k3', k4, ?_, h9⟩
  obtain ⟨g1, g2, _⟩ := P.found hr hM Sc nx k1 (by omega) k3'
  have h10 := P.occ' ha _ g2
  have h11 := P.ofN _ (P.inC _ g2)
  have := P.pos (fo (way' nx)) nx (by omega) h11 k1 (by omega)
  omega
theorem Ph.step (P : Ph M C r u v fo least way done a l) (hr : r < C) (hM : ∀ i k, 0 ≤ M i k ∧ M i k ≤ 1125899906842624) (ha : fo a ≠ 0) (Sc : Scn M u v least way (upd done a true) (fo a) a (C + 1) least' way' δ nx)
    {u' v' least'' : Nat → Int} (Sh : Shf (upd done a true) fo δ u v least' (C + 1) u' v' least'') : Ph M C r u' v' fo least'' way' (upd done a true) nx (a :: l) := by
  obtain ⟨n1, n2, n3, n4, n5, n6⟩ := P.next hr hM ha Sc
  have hin : ∀ k, k ∈ a :: l → u' (fo k) = u (fo k) + δ ∧ v' k = v k - δ := fun k hk => by
    have := P.inC k hk
    exact ⟨Sh.u1 k (by omega) ((P.mem k).2 hk), Sh.v1 k (by omega) ((P.mem k).2 hk)⟩
  have hv : ∀ k, k ∉ a :: l → v' k = v k := fun k hk => Sh.v2 k (Or.inr ((P.nmem k).2 hk))
  have hu : ∀ i, (∀ k, k ∈ a :: l → fo k ≠ i) → u' i = u i := fun i h => Sh.u2 i fun k _ hk => h k ((P.mem k).1 hk)
  have hu2 : ∀ i, u' i = u i ∨ u' i = u i + δ := by
    intro i
    by_cases h : ∀ k, k ∈ a :: l → fo k ≠ i
    · exact Or.inl (hu i h)
    · simp only [Classical.not_forall, Classical.not_not] at h
      obtain ⟨k, hk, rfl⟩ := h
      exact Or.inr (hin k hk).1
  have hout : ∀ k, k ≤ C → k ∉ a :: l → fo k ≠ 0 → u' (fo k) = u (fo k) := by
    intro k h1 h2 h3
    refine hu _ fun j hj e => ?_
    have := P.inj0 j k (P.inC j hj) h1 e (P.occ' ha j hj)
    subst this; exact h2 hj
  have hl : ∀ k, k ≤ C → k ∉ a :: l → least'' k = least' k - δ := fun k h1 h2 => Sh.l1 k (by omega) ((P.nmem k).2 h2)
  have hway : ∀ k, k ∈ a :: l → way' k = way k := fun k hk => (Sc.d2 k (Or.inr (Or.inr ((P.mem k).2 hk)))).2
  refine ⟨fun k h1 h2 h3 => ?_, fun i k h1 h2 h3 h4 => ?_, fun k h1 h2 => ?_, fun k h1 h2 h3 => ?_, P.ofr, P.inj, P.sur, fun i => ?_, ?_, fun i hi => ?_, ?_, P.of0, ?_, P.mem, fun k hk => ?_, fun k hk => P.occ' ha k hk, fun k hk h0 => ?_, fun h => by simp at h, fun _ k h1 h2 h3 => ?_⟩
  · have := P.tight k h1 h2 h3
    by_cases hk : k ∈ a :: l
    · have := hin k hk; unfold sl at *; omega
    · have := hv k hk; have := hout k h2 hk h3; unfold sl at *; omega
  · have hp := P.pos i k h1 h2 h3 h4
    obtain ⟨j, j1, j2⟩ : ∃ j, j ≤ C ∧ fo j = i := by
      by_cases h : i = r + 1
      · exact ⟨0, by omega, by rw [P.of0]; exact h.symm⟩
      · obtain ⟨j, _, g2, g3⟩ := P.sur i h1 (by omega); exact ⟨j, g2, g3⟩
    by_cases hk : k ∈ a :: l
    · have := (hin k hk).2; have := hu2 i; unfold sl at *; omega
    · have h5 := hv k hk
      by_cases hj : j ∈ a :: l
      · have h6 := (hin j hj).1
        have h7 := (P.found hr hM Sc k h3 h4 hk).2.2 j hj
        have h8 := Sc.mn k h3 (by omega) ((P.nmem k).2 hk)
        rw [j2] at h6 h7
        unfold sl at *; omega
      · have h6 := hout j j1 hj (by omega)
        rw [j2] at h6
        unfold sl at *; omega
  · have := P.vneg k h1 h2
    by_cases hk : k ∈ a :: l
    · have := (hin k hk).2; omega
    · have := hv k hk; omega
  · rw [hv k fun hk => P.occ' ha k hk h3]; exact P.vfree k h1 h2 h3
  · have := P.upos i; have := hu2 i; omega
  · rw [hu 0 fun k hk => P.occ' ha k hk]; exact P.u0
  · rw [hu i fun k hk => by have := P.ofN k (P.inC k hk); omega]; exact P.uzero i hi
  · have h1 := hin 0 P.trl.zero; have h2 := P.v0; rw [P.of0] at h1; omega
  · obtain ⟨_, g2, _⟩ := P.found hr hM Sc nx n1 n2 n3
    exact .cons (by omega) n3 g2 (P.trl.congr fun k hk _ => hway k hk)
  · rcases List.mem_cons.1 hk with rfl | hk
    · exact n2
    · exact P.inC k hk
  · rcases List.mem_cons.1 hk with rfl | hk
    · obtain ⟨g1, g2, _⟩ := P.found hr hM Sc k n1 n2 n3
      have := (hin _ g2).1; have := hv k n3; unfold sl at *; omega
    · rw [hway k hk]
      have h1 := P.tw k hk h0
      have h2 := (hin _ (P.trl.mem_way k hk h0)).1
      have h3 := (hin k hk).2
      unfold sl at *; omega
  · obtain ⟨g1, g2, g3⟩ := P.found hr hM Sc k h1 h2 h3
    have h4 := hl k h2 h3
    have h5 := hv k h3
    refine ⟨?_, g2, fun j hj => ?_⟩
    · have := (hin _ g2).1; unfold sl at *; omega
    · have := (hin j hj).1; have := g3 j hj; unfold sl at *; omega
end

/-- The way back: the column a is to be given anew. -/
structure Bk (M : Nat → Nat → Int) (C r : Nat) (u v : Nat → Int) (way : Nat → Nat) (fo : Nat → Nat) (a : Nat) (b : List Nat) : Prop where
  tr : Tr way (a :: b)
  inC : ∀ k, k ∈ a :: b → k ≤ C
  occ : ∀ k, k ∈ b → fo k ≠ 0
  tw : ∀ k, k ∈ a :: b → k ≠ 0 → sl M u v (fo (way k)) k = 0
  tight : ∀ k, 1 ≤ k → k ≤ C → k ≠ a → fo k ≠ 0 → sl M u v (fo k) k = 0
  inj : ∀ j k, j ≤ C → k ≤ C → j ≠ a → k ≠ a → fo j = fo k → fo j ≠ 0 → j = k
  sur : ∀ i, 1 ≤ i → i ≤ r + 1 → ∃ k, k ≤ C ∧ k ≠ a ∧ fo k = i
  ofr : ∀ k, k ≤ C → fo k ≤ r + 1
  vfree : ∀ k, 1 ≤ k → k ≤ C → k ≠ a → fo k = 0 → v k = 0
section
variable {M : Nat → Nat → Int} {C r : Nat} {u v : Nat → Int} {fo : Nat → Nat} {least : Nat → Int} {way : Nat → Nat} {done : Nat → Bool} {a : Nat} {l : List Nat} {b : List Nat}
theorem Ph.back (P : Ph M C r u v fo least way done a l) (ha : fo a = 0) : Bk M C r u v way fo a l := by
  have h0 : a ≠ 0 := fun e => by subst e; have := P.of0; omega
  exact ⟨P.trl, P.inC, P.occ, P.tw, fun k h1 h2 _ h3 => P.tight k h1 h2 h3, fun j k h1 h2 _ _ h3 h4 => P.inj0 j k h1 h2 h3 h4, fun i h1 h2 => by
    by_cases h : i = r + 1
    · exact ⟨0, by omega, fun e => h0 e.symm, by rw [P.of0]; exact h.symm⟩
    · obtain ⟨k, k1, k2, k3⟩ := P.sur i h1 (by omega)
      exact ⟨k, k2, fun e => by subst e; omega, k3⟩, P.ofN, fun k h1 h2 _ h3 => P.vfree k h1 h2 h3⟩
theorem Bk.step (B : Bk M C r u v way fo a b) (ha : a ≠ 0) : ∃ b', b'.length < b.length ∧ Bk M C r u v way (upd fo a (fo (way a))) (way a) b' := by
  have hw := B.tr.head_way ha
  have hn := B.tr.head_not
  have ht : Tr way b := by
    have := B.tr
    cases this with
    | nil => exact absurd rfl ha
    | cons _ _ _ h => exact h
  obtain ⟨b', t, hlen, hsub⟩ := ht.suffix hw
  have hwa : way a ≠ a := fun e => hn (by rw [← e]; exact hw)
  have hne : ∀ k, k ∈ way a :: b' → k ≠ a := fun k hk e => hn (by rw [← e]; exact hsub k hk)
  have hoc := B.occ _ hw
  refine ⟨b', hlen, t, fun k hk => B.inC k (List.mem_cons_of_mem _ (hsub k hk)), fun k hk => ?_, fun k hk h0 => ?_, fun k h1 h2 h3 h4 => ?_, fun j k h1 h2 h3 h4 h5 h6 => ?_, fun i h1 h2 => ?_, fun k hk => ?_, fun k h1 h2 h3 h4 => ?_⟩
  · rw [upd_ne (hne k (List.mem_cons_of_mem _ hk))]; exact B.occ k (hsub k (List.mem_cons_of_mem _ hk))
  · rw [upd_ne (hne _ (t.mem_way k hk h0))]; exact B.tw k (List.mem_cons_of_mem _ (hsub k hk)) h0
  · by_cases e : k = a
    · subst e; rw [upd_same]; exact B.tw k (by simp) ha
    · rw [upd_ne e] at h4 ⊢; exact B.tight k h1 h2 e h4
  · by_cases ej : j = a
    · by_cases ek : k = a
      · omega
      · subst ej
        rw [upd_same] at h5 h6; rw [upd_ne ek] at h5
        exact absurd (B.inj (way j) k (B.inC _ (List.mem_cons_of_mem _ hw)) h2 hwa ek h5 h6) (fun e => h4 e.symm)
    · by_cases ek : k = a
      · subst ek
        rw [upd_ne ej] at h5 h6; rw [upd_same] at h5
        exact absurd (B.inj j (way k) h1 (B.inC _ (List.mem_cons_of_mem _ hw)) ej hwa h5 h6) h3
      · rw [upd_ne ej] at h5 h6; rw [upd_ne ek] at h5
        exact B.inj j k h1 h2 ej ek h5 h6
  · obtain ⟨k, k1, k2, k3⟩ := B.sur i h1 h2
    by_cases e : k = way a
    · subst e
      exact ⟨a, B.inC a (by simp), fun e => hwa e.symm, by rw [upd_same]; exact k3⟩
    · exact ⟨k, k1, e, by rw [upd_ne k2]; exact k3⟩
  · by_cases e : k = a
    · subst e; rw [upd_same]; exact B.ofr _ (B.inC _ (List.mem_cons_of_mem _ hw))
    · rw [upd_ne e]; exact B.ofr k hk
  · by_cases e : k = a
    · subst e; rw [upd_same] at h4; exact absurd h4 hoc
    · rw [upd_ne e] at h4; exact B.vfree k h1 h2 e h4
theorem Bk.fin {fo0 : Nat → Nat} (B : Bk M C r u v way fo 0 b) (P : Ph M C r u v fo0 least way done a l) (hr : r < C) (hM : ∀ i k, 0 ≤ M i k ∧ M i k ≤ 1125899906842624) : Base M C (r + 1) u v fo where
  tight k h1 h2 h3 := B.tight k h1 h2 (by omega) h3
  pos := P.pos
  vneg := P.vneg
  vfree k h1 h2 h3 := B.vfree k h1 h2 (by omega) h3
  ofr k _ h2 := B.ofr k h2
  inj j k h1 h2 h3 h4 h5 h6 := B.inj j k h2 h4 (by omega) (by omega) h5 h6
  sur i h1 h2 := by obtain ⟨k, k1, k2, k3⟩ := B.sur i h1 h2; exact ⟨k, by omega, k1, k3⟩
  upos := P.upos
  u0 := P.u0
  uzero := P.uzero
  uN := P.uN hr hM
  v0 := by have := P.v0; have := P.uN hr hM (r + 1); rw [Int.natCast_add, Int.add_mul]; omega
theorem Base.init : Base M C 0 (fun _ => 0) (fun _ => 0) (fun _ => 0) :=
  ⟨fun k _ _ h => absurd rfl h, fun i k h1 h2 => by omega, fun _ _ _ => Int.le_refl _, fun _ _ _ _ => rfl, fun _ _ _ => Nat.le_refl _, fun _ _ _ _ _ _ _ h => absurd rfl h, fun i h1 h2 => by omega, fun _ => Int.le_refl _, rfl, fun _ _ => rfl, fun _ => by decide, by constructor <;> simp⟩
end
/-- T is the least sum of M over R rows and C columns. -/
def Least (M : Nat → Nat → Int) (R C : Nat) (T : Int) : Prop :=
  (∃ σ, Inj R C σ ∧ T = sumN R (fun i => M i (σ i))) ∧ ∀ σ, Inj R C σ → T ≤ sumN R (fun i => M i (σ i))
open Classical in
theorem Base.least {M : Nat → Nat → Int} {C R : Nat} {u v : Nat → Int} {fo : Nat → Nat} (B : Base M C R u v fo) : Least M R C (sumN C (fun k => if 0 < fo (k + 1) then M (fo (k + 1) - 1) k else 0)) := by
  have h0 : ∀ i, ∃ k, i < R → k < C ∧ fo (k + 1) = i + 1 := by
    intro i
    by_cases hi : i < R
    · obtain ⟨k, k1, k2, k3⟩ := B.sur (i + 1) (by omega) (by omega)
      exact ⟨k - 1, fun _ => ⟨by omega, by rw [show k - 1 + 1 = k by omega]; exact k3⟩⟩
    · exact ⟨0, fun h => absurd h hi⟩
  obtain ⟨σ, hσ⟩ := Classical.skolem.1 h0
  have hI : Inj R C σ := ⟨fun i hi => (hσ i hi).1, fun i j hi hj e => by
    have h1 := (hσ i hi).2; have h2 := (hσ j hj).2; rw [e] at h1; omega⟩
  have hT : sumN C (fun k => if 0 < fo (k + 1) then M (fo (k + 1) - 1) k else 0) = sumN R (fun i => M i (σ i)) := by
    have h1 : sumN R (fun i => M i (σ i)) = sumN R (fun i => (fun k => M (fo (k + 1) - 1) k) (σ i)) := sumN_congr fun i hi => by
      show M i (σ i) = M (fo (σ i + 1) - 1) (σ i)
      rw [(hσ i hi).2, Nat.add_sub_cancel]
    rw [h1, reindex (fun k => M (fo (k + 1) - 1) k) hI]
    apply sumN_congr
    intro k hk
    by_cases hp : 0 < fo (k + 1)
    · rw [if_pos hp, if_pos]
      have hr := B.ofr (k + 1) (by omega) (by omega)
      refine ⟨fo (k + 1) - 1, by omega, ?_⟩
      have h2 := hσ (fo (k + 1) - 1) (by omega)
      have := B.inj (σ (fo (k + 1) - 1) + 1) (k + 1) (by omega) (by omega) (by omega) (by omega) (by rw [h2.2]; omega) (by rw [h2.2]; omega)
      omega
    · rw [if_neg hp, if_neg]
      rintro ⟨i, hi, rfl⟩
      have := (hσ i hi).2; omega
  refine ⟨⟨σ, hI, hT⟩, fun τ hτ => ?_⟩
  have key : ∀ τ, Inj R C τ → sumN R (fun i => u (i + 1)) + sumN C (fun k => if ∃ i, i < R ∧ τ i = k then v (k + 1) else 0) = sumN R (fun i => u (i + 1) + v (τ i + 1)) := by
    intro τ hτ
    rw [← reindex (fun k => v (k + 1)) hτ, sumN_add]
  have h2 : sumN R (fun i => M i (σ i)) = sumN R (fun i => u (i + 1) + v (σ i + 1)) := sumN_congr fun i hi => by
    have h3 := hσ i hi
    have h4 := B.tight (σ i + 1) (by omega) (by omega) (by rw [h3.2]; omega)
    rw [h3.2] at h4
    simp only [sl, Nat.add_sub_cancel] at h4
    omega
  have h3 : sumN R (fun i => u (i + 1) + v (τ i + 1)) ≤ sumN R (fun i => M i (τ i)) := sumN_le fun i hi => by
    have h4 := hτ.lt i hi
    have h5 := B.pos (i + 1) (τ i + 1) (by omega) (by omega) (by omega) (by omega)
    simp only [sl, Nat.add_sub_cancel] at h5
    omega
  have h4 : sumN C (fun k => if ∃ i, i < R ∧ σ i = k then v (k + 1) else 0) ≤ sumN C (fun k => if ∃ i, i < R ∧ τ i = k then v (k + 1) else 0) := sumN_le fun k hk => by
    have h5 := B.vneg (k + 1) (by omega) (by omega)
    by_cases hc : ∃ i, i < R ∧ σ i = k
    · rw [if_pos hc]
      split <;> omega
    · rw [if_neg hc]
      have : fo (k + 1) = 0 := Classical.byContradiction fun hne => hc (by
        have hr := B.ofr (k + 1) (by omega) (by omega)
        refine ⟨fo (k + 1) - 1, by omega, ?_⟩
        have h2 := hσ (fo (k + 1) - 1) (by omega)
        have := B.inj (σ (fo (k + 1) - 1) + 1) (k + 1) (by omega) (by omega) (by omega) (by omega) (by rw [h2.2]; omega) (by rw [h2.2]; omega)
        omega)
      have := B.vfree (k + 1) (by omega) (by omega) this
      split <;> omega
  have h5 := key σ hI
  have h6 := key τ hτ
  omega
theorem Least.unique {M : Nat → Nat → Int} {R C : Nat} {T T' : Int} (h : Least M R C T) (h' : Least M R C T') : T = T' := by
  obtain ⟨⟨σ, h1, h2⟩, h3⟩ := h
  obtain ⟨⟨τ, k1, k2⟩, k3⟩ := h'
  have := h3 τ k1; have := k3 σ h1; omega
end Go.Proofs.Ytpehhlfbnkakpaa.Hg
