/- Slices of slices that come in as arguments. Conditions stand in each lemma. -/
import Derived.Test.YtpehhlfbnkakpaaEvaI2
import Derived.Test.YtpehhlfbnkakpaaEvaY
namespace Go.Proofs.Ytpehhlfbnkakpaa.Eva
open Go
set_option linter.unusedVariables false
set_option linter.unusedSimpArgs false

def avc (u : AV) : List AV := [u]
theorem flat_avc (vs : List AV) : flat avc vs = vs := by
  induction vs with
  | nil => rfl
  | cons x xs ih => simp only [flat, List.map_cons, List.flatten_cons] at ih ⊢; rw [ih]; rfl
/-- A slice of slices that is read. -/
structure NsS {α : Type} (c : α → List AV) (sz : Nat) (h : List Ob) (v : AV) (vs : List AV) (rows : List (List α)) : Prop where
  out : SlL h v avc 1 vs
  len : vs.length = rows.length
  inn : ∀ (i : Nat) u r, vs[i]? = some u → rows[i]? = some r → SlL h u c sz r ∧ FgL h u
theorem lay_rows {α : Type} {c : α → List AV} {P : α → Prop} {e : AT} {b : Nat} (hd : ∀ d, goodD e d → ∃ x, P x ∧ ∀ n, layD n e d = (c x, [])) (hsz : ∀ x, (c x).length = e.sz) (h0 : 0 < e.sz) (hsc : ∀ x, (c x).all AV.scalar = true) :
    ∀ l : List DV, (∀ d ∈ l, goodD (.sl e b) d) → ∃ rows : List (List α), rows.length = l.length ∧ (∀ r ∈ rows, (∀ x ∈ r, P x) ∧ r.length * b ≤ lim) ∧ ∀ n, ∃ vs o, layE (.sl e b) n l = (vs, o) ∧ vs.length = l.length ∧ ∀ h h' : List Ob, h.length = n → ∀ (i : Nat) u r, vs[i]? = some u → rows[i]? = some r → SlL (h ++ (o ++ h')) u c e.sz r ∧ FgL (h ++ (o ++ h')) u
  | [], _ => ⟨[], rfl, by simp, fun n => ⟨[], [], rfl, rfl, fun h h' _ i u r hu => by simp at hu⟩⟩
  | d :: l, hl => by
    obtain ⟨xs, p1, p2, p3⟩ := in_slf hd hsz h0 (hl d (by simp)) hsc
    obtain ⟨rows, q1, q2, q3⟩ := lay_rows hd hsz h0 hsc l (fun d hd => hl d (by simp [hd]))
    refine ⟨xs :: rows, by simp [q1], fun r hr => ?_, fun n => ?_⟩
    · rcases List.mem_cons.1 hr with rfl | hr
      · exact ⟨p1, p2⟩
      · exact q2 r hr
    · obtain ⟨v, o, e1, e2⟩ := p3 n
      obtain ⟨vs, o', e3, e4, e5⟩ := q3 (n + o.length)
      refine ⟨v :: vs, o ++ o', by simp only [layE, e1, e3, List.cons_append, List.nil_append], by simp [e4], fun h h' hn i u r hu hr => ?_⟩
      cases i with
      | zero =>
        simp only [List.getElem?_cons_zero, Option.some.injEq] at hu hr
        subst hu; subst hr
        have := e2 h (o' ++ h') hn
        rw [List.append_assoc]; exact this
      | succ i =>
        simp only [List.getElem?_cons_succ] at hu hr
        have := e5 (h ++ o) h' (by simp [hn]) i u r hu hr
        rw [List.append_assoc]
        rw [List.append_assoc] at this
        exact this
theorem in_sls {α : Type} {c : α → List AV} {P : α → Prop} {e : AT} {b B : Nat} (hd : ∀ d, goodD e d → ∃ x, P x ∧ ∀ n, layD n e d = (c x, [])) (hsz : ∀ x, (c x).length = e.sz) (h0 : 0 < e.sz) {d : DV} (h : goodD (.sl (.sl e b) B) d) (hsc : ∀ x, (c x).all AV.scalar = true := by intro x; rfl) :
    ∃ rows : List (List α), (∀ r ∈ rows, (∀ x ∈ r, P x) ∧ r.length * b ≤ lim) ∧ rows.length * B ≤ lim ∧ ∀ n, ∃ v o, layD n (.sl (.sl e b) B) d = ([v], o) ∧ ∀ h h' : List Ob, h.length = n → ∃ vs, NsS c e.sz (h ++ (o ++ h')) v vs rows := by
  obtain ⟨sh, l, rfl, h1, h2, h3, h4⟩ := good_sl h
  obtain ⟨rows, k1, k2, k3⟩ := lay_rows hd hsz h0 hsc l h4
  refine ⟨rows, k2, by rw [k1]; exact h3, fun n => ?_⟩
  by_cases s0 : sh = 0
  · have hl := h2 (by omega)
    subst hl
    have : rows = [] := List.length_eq_zero_iff.1 k1
    subst this
    exact ⟨.sl true 0 0 0 0 0, [], by simp only [layD, if_pos s0], fun h h' _ => ⟨[], ⟨fun _ => rfl, by decide, by simp [flat], Or.inl ⟨rfl, by simp⟩⟩, rfl, fun i u r hu => by simp at hu⟩⟩
  · by_cases s1 : sh = 1
    · have hl := h2 (by omega)
      subst hl
      have : rows = [] := List.length_eq_zero_iff.1 k1
      subst this
      exact ⟨.s0 false, [], by simp only [layD, if_neg s0, if_pos s1], fun h h' _ => ⟨[], ⟨fun _ => rfl, by decide, by simp [flat], Or.inl ⟨rfl, by simp⟩⟩, rfl, fun i u r hu => by simp at hu⟩⟩
    · obtain ⟨vs, o, e1, e2, e3⟩ := k3 n
      refine ⟨.sl false (n + o.length) 0 1 0 l.length, o ++ [⟨vs, 0, 1, false, vs.all AV.scalar⟩], by simp only [layD, if_neg s0, if_neg s1, e1]; rfl, fun h h' hn => ⟨vs, ⟨fun _ => rfl, by decide, by rw [flat_avc]; simp, Or.inr ⟨n + o.length, 0, 0, ⟨vs, 0, 1, false, vs.all AV.scalar⟩, by rw [e2], ?_, ?_, ?_⟩⟩, by rw [e2, k1], fun i u r hu hr => ?_⟩⟩
      · subst hn; unfold rdObj
        have : (h ++ (o ++ [(⟨vs, 0, 1, false, vs.all AV.scalar⟩ : Ob)] ++ h'))[h.length + o.length]? = some ⟨vs, 0, 1, false, vs.all AV.scalar⟩ := by
          rw [List.getElem?_append_right (by omega), Nat.add_sub_cancel_left, List.append_assoc, List.getElem?_append_right (Nat.le_refl _), Nat.sub_self]
          rfl
        rw [this]; rfl
      · simp
      · rw [flat_avc]; simp
      · have := e3 h ([⟨vs, 0, 1, false, vs.all AV.scalar⟩] ++ h') hn i u r hu hr
        rw [List.append_assoc]; exact this
end Go.Proofs.Ytpehhlfbnkakpaa.Eva
