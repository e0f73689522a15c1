/- Slices that come in as arguments. Conditions stand in each lemma. -/
import Derived.Test.YtaekgifbehoipaaEvaX
import Derived.Test.YtaekgifbehoipaaEvaS
namespace Go.Proofs.Ytaekgifbehoipaa.Eva
open Go
set_option linter.unusedVariables false
set_option linter.unusedSimpArgs false
/-! ### Slices that come in -/
theorem lay_list {α : Type} {c : α → List AV} {P : α → Prop} {e : AT} (hd : ∀ d, goodD e d → ∃ x, P x ∧ ∀ n, layD n e d = (c x, [])) : ∀ l : List DV, (∀ d ∈ l, goodD e d) → ∃ xs : List α, xs.length = l.length ∧ (∀ x ∈ xs, P x) ∧ ∀ n, layE e n l = (flat c xs, [])
  | [], _ => ⟨[], rfl, by simp, fun n => rfl⟩
  | d :: l, hl => by
    obtain ⟨x, hx, h1⟩ := hd d (hl d (by simp))
    obtain ⟨xs, h2, h3, h4⟩ := lay_list hd l (fun d hd => hl d (by simp [hd]))
    refine ⟨x :: xs, by simp [h2], by simp; exact ⟨hx, h3⟩, fun n => ?_⟩
    simp only [layE, h1, List.length_nil, Nat.add_zero, h4, List.append_nil, flat, List.map_cons, List.flatten_cons]
theorem in_sl {α : Type} {c : α → List AV} {P : α → Prop} {e : AT} {B : Nat} (hd : ∀ d, goodD e d → ∃ x, P x ∧ ∀ n, layD n e d = (c x, [])) (hsz : ∀ x, (c x).length = e.sz) (h0 : 0 < e.sz) {d : DV} (h : goodD (.sl e B) d) :
    ∃ xs : List α, (∀ x ∈ xs, P x) ∧ xs.length * B ≤ lim ∧ ∀ n, ∃ v o, layD n (.sl e B) d = ([v], o) ∧ ∀ h h' : List Ob, h.length = n → SlL (h ++ (o ++ h')) v c e.sz xs := by
  obtain ⟨sh, l, rfl, h1, h2, h3, h4⟩ := good_sl h
  obtain ⟨xs, k1, k2, k3⟩ := lay_list hd l h4
  refine ⟨xs, k2, by rw [k1]; exact h3, fun n => ?_⟩
  by_cases s0 : sh = 0
  · have hl := h2 (by omega)
    subst hl
    have : xs = [] := List.length_eq_zero_iff.1 k1
    subst this
    exact ⟨.sl true 0 0 0 0 0, [], by simp only [layD, if_pos s0], fun h h' _ => ⟨hsz, h0, by simp [flat], Or.inl ⟨rfl, by simp⟩⟩⟩
  · by_cases s1 : sh = 1
    · have hl := h2 (by omega)
      subst hl
      have : xs = [] := List.length_eq_zero_iff.1 k1
      subst this
      exact ⟨.s0 false, [], by simp only [layD, if_neg s0, if_pos s1], fun h h' _ => ⟨hsz, h0, by simp [flat], Or.inl ⟨rfl, by simp⟩⟩⟩
    · refine ⟨.sl false n 0 e.sz 0 l.length, [⟨flat c xs, 0, e.sz, false, (flat c xs).all AV.scalar⟩], by simp only [layD, if_neg s0, if_neg s1, k3, List.length_nil, Nat.add_zero, List.nil_append], fun h h' hn => ⟨hsz, h0, flat_len hsz xs, Or.inr ⟨n, 0, 0, ⟨flat c xs, 0, e.sz, false, (flat c xs).all AV.scalar⟩, by simp [k1], ?_, ?_, ?_⟩⟩⟩
      · subst hn; unfold rdObj; simp
      · simp [flat_len hsz]
      · rw [List.drop_zero, ← flat_len hsz xs, List.take_length]
end Go.Proofs.Ytaekgifbehoipaa.Eva
