/- How an argument that came in is laid open: structs, slices of structs, slices of slices, strings, by the shape of its type. -/
import Derived.Test.YtehgapcmngdcnaaWWords
import Derived.ChangeArms
import Derived.ChangeSlices
import Derived.SizedLaws
import Derived.OpenShut
import Derived.WideShapes
namespace Go.Proofs.Ytehgapcmngdcnaa.Opens
open Go.ChangeShapes Go.WideShapes Go.RowKit Go.Proofs.YtehgapcmngdcnaaW.PrintWords
set_option linter.unusedVariables false

/-- A 64-bit number. -/
def I64 (n : Int) : Prop := -9223372036854775808 ≤ n ∧ n ≤ 9223372036854775807
def U8 (n : Int) : Prop := 0 ≤ n ∧ n ≤ 255
def Any {α : Type} (_ : α) : Prop := True
/-- What is read at type t is one of the values that d tells, and it is good. -/
def Opens (P : Program) (t : TypeId) {α : Type} (d : Kd α) (G : α → Prop) : Prop :=
  ∀ {H : Type} {enc : TypeId × Value → H} {w : World} {spare : Nat → Bool} {held : Bool} {fuel : Nat} {cs : List Value} {x : DataW H × List MemPlace},
    DataW.trod enc P w 0 spare held fuel t cs = some x → (∀ n ∈ x.1.weights P t, n ≤ 140737488351232) → ∃ a : α, d.K w a cs ∧ G a

section
variable {P : Program} {t e : TypeId}
theorem opens_i64 (hu : P.underlying t = some (.int .i64)) : Opens P t (Kd.int .i64) I64 := by
  intro H enc w spare held fuel cs x h _
  obtain ⟨n, rfl, _, hw⟩ := DataW.trod_int hu h
  exact ⟨n, rfl, bounds_i64 hw⟩
theorem opens_u8 (hu : P.underlying t = some (.int .u8)) : Opens P t (Kd.int .u8) U8 := by
  intro H enc w spare held fuel cs x h _
  obtain ⟨n, rfl, _, hw⟩ := DataW.trod_int hu h
  exact ⟨n, rfl, bounds_u8 hw⟩
theorem opens_bool (hu : P.underlying t = some .bool) : Opens P t Kd.bool Any := by
  intro H enc w spare held fuel cs x h _
  obtain ⟨b, rfl, _⟩ := DataW.trod_bool hu h
  exact ⟨b, rfl, trivial⟩
theorem opens_string (hu : P.underlying t = some .string) : Opens P t Kd.string (fun s => s.size ≤ 140737488351232) := by
  intro H enc w spare held fuel cs x h hz
  obtain ⟨s, rfl, hx, _⟩ := DataW.trod_string hu h
  refine ⟨s, rfl, ?_⟩
  have := hz s.data.toList.length (by rw [hx]; simp [DataW.weights])
  simpa using this
theorem Opens.iso {α β : Type} {d : Kd α} {G : α → Prop} (h : Opens P t d G) (f : β → α) (g : α → β) (hfg : ∀ y, f (g y) = y) : Opens P t (Kd.iso d f) (fun b => G (f b)) := by
  intro H enc w spare held fuel cs x hx hz
  obtain ⟨a, hK, hG⟩ := h hx hz
  exact ⟨g a, by show d.K w (f (g a)) cs; rw [hfg]; exact hK, by show G (f (g a)); rw [hfg]; exact hG⟩
theorem Opens.imp {α : Type} {d : Kd α} {G G' : α → Prop} (h : Opens P t d G) (hi : ∀ a, G a → G' a) : Opens P t d G' := by
  intro H enc w spare held fuel cs x hx hz
  obtain ⟨a, hK, hG⟩ := h hx hz
  exact ⟨a, hK, hi a hG⟩

/-! ### structs: field after field -/
def Fields {H : Type} (enc : TypeId × Value → H) (P : Program) (w : World) (spare : Nat → Bool) (held : Bool) (fuel : Nat) : List TypeId → List Value → List (DataW H × List MemPlace) → Prop
  | [], cs, xs => cs = [] ∧ xs = []
  | t :: ts, cs, xs => ∃ x r, xs = x :: r ∧ DataW.trod enc P w 0 spare held fuel t (cs.take (P.cellsOf t)) = some x ∧ Fields enc P w spare held fuel ts (cs.drop (P.cellsOf t)) r
def OpensF (P : Program) (ts : List TypeId) {α : Type} (d : Kd α) (G : α → Prop) : Prop :=
  ∀ {H : Type} {enc : TypeId × Value → H} {w : World} {spare : Nat → Bool} {held : Bool} {fuel : Nat} {cs : List Value} {xs : List (DataW H × List MemPlace)},
    Fields enc P w spare held fuel ts cs xs → (∀ n ∈ DataW.weightsEach P ts (xs.map (·.1)), n ≤ 140737488351232) → ∃ a : α, d.K w a cs ∧ G a
theorem OpensF.one {α : Type} {d : Kd α} {G : α → Prop} (h : Opens P t d G) : OpensF P [t] d G := by
  intro H enc w spare held fuel cs xs hf hz
  obtain ⟨x, r, rfl, hx, h0, rfl⟩ := hf
  have e : cs.take (P.cellsOf t) = cs := by
    have := List.take_append_drop (P.cellsOf t) cs
    rw [h0, List.append_nil] at this
    exact this
  rw [e] at hx
  exact h hx (fun n hn => hz n (by simp [DataW.weightsEach, hn]))
theorem OpensF.cons {α β : Type} {ts : List TypeId} {d : Kd α} {D : Kd β} {G : α → Prop} {G' : β → Prop} (h : Opens P t d G) (hs : OpensF P ts D G') : OpensF P (t :: ts) (Kd.pair d D) (fun x => G x.1 ∧ G' x.2) := by
  intro H enc w spare held fuel cs xs hf hz
  obtain ⟨x, r, rfl, hx, h0⟩ := hf
  obtain ⟨a, hK, hG⟩ := h hx (fun n hn => hz n (by simp [DataW.weightsEach, hn]))
  obtain ⟨b, hK', hG'⟩ := hs h0 (fun n hn => hz n (by simp only [List.map_cons, DataW.weightsEach, List.mem_append]; exact Or.inr hn))
  exact ⟨(a, b), ⟨_, _, (List.take_append_drop (P.cellsOf t) cs).symm, hK, hK'⟩, hG, hG'⟩
/-- Do the fields follow one another without a gap? -/
def offs (P : Program) : Nat → List Field → Bool
  | _, [] => true
  | o, f :: r => f.offset == o && offs P (o + P.cellsOf f.type) r
theorem fields_of {H : Type} {enc : TypeId × Value → H} {w : World} {spare : Nat → Bool} {held : Bool} {fuel : Nat} : ∀ {fs : List Field} {o : Nat} {cs : List Value} {xs : List (DataW H × List MemPlace)},
    offs P o fs = true → cs.length = o + (fs.map fun f => P.cellsOf f.type).sum → xs.length = fs.length →
    (∀ (i : Nat) (f : Field), fs[i]? = some f → DataW.trod enc P w 0 spare held fuel f.type ((cs.drop f.offset).take (P.cellsOf f.type)) = xs[i]?) → Fields enc P w spare held fuel (fs.map (·.type)) (cs.drop o) xs
  | [], o, cs, xs, _, hl, hx, _ => by
    refine ⟨List.drop_eq_nil_of_le (by simp at hl; omega), ?_⟩
    cases xs with
    | nil => rfl
    | cons _ _ => simp at hx
  | f :: r, o, cs, xs, ho, hl, hx, h => by
    simp only [offs, Bool.and_eq_true, beq_iff_eq] at ho
    cases xs with
    | nil => simp at hx
    | cons x xs =>
      refine ⟨x, xs, rfl, ?_, ?_⟩
      · have := h 0 f rfl
        rw [ho.1] at this
        exact this
      · rw [List.drop_drop]
        refine fields_of ho.2 ?_ (by simpa using hx) (fun i g hg => ?_)
        · simp only [List.map_cons, List.sum_cons] at hl
          show cs.length = o + P.cellsOf f.type + _
          omega
        · exact h (i + 1) g (by simpa using hg)
theorem opens_struct {α : Type} {d : Kd α} {G : α → Prop} {fs : Array Field} (hu : P.underlying t = some (.struct fs)) (ho : offs P 0 fs.toList = true) (hc : P.cellsOf t = (fs.toList.map fun f => P.cellsOf f.type).sum)
    (h : OpensF P (fs.toList.map (·.type)) d G) : Opens P t d G := by
  intro H enc w spare held fuel cs x hx hz
  obtain ⟨xs, m, rfl, rfl, hl, hxl, hf⟩ := DataW.trod_struct hu hx
  have F := fields_of (P := P) (fs := fs.toList) (o := 0) (cs := cs) (xs := xs) ho (by rw [Nat.zero_add, ← hc]; exact hl) (by simpa using hxl) (fun i f hi => hf i f (by simpa using hi))
  refine h F (fun n hn => hz n ?_)
  simp only [DataW.weights, hu]
  exact hn

/-! ### slices -/
theorem add_add (a : Addr) (i j : Nat) : (a.add i).add j = a.add (i + j) := by
  unfold Addr.add
  by_cases hi : i = 0
  · subst hi; simp
  · by_cases hj : j = 0
    · subst hj; simp [hi]
    · simp [hi, hj, Nat.add_assoc]
theorem list_of {α : Type} (Q : Nat → α → Prop) : ∀ n, (∀ i, i < n → ∃ a, Q i a) → ∃ l : List α, l.length = n ∧ ∀ i a, l[i]? = some a → Q i a
  | 0, _ => ⟨[], rfl, fun i a h => by simp at h⟩
  | n + 1, h => by
    obtain ⟨l, hl, hQ⟩ := list_of Q n (fun i hi => h i (by omega))
    obtain ⟨a, ha⟩ := h n (by omega)
    refine ⟨l ++ [a], by simp [hl], fun i b hb => ?_⟩
    by_cases hi : i < l.length
    · rw [List.getElem?_append_left hi] at hb
      exact hQ i b hb
    · rw [List.getElem?_append_right (by omega)] at hb
      have : i - l.length = 0 := by
        rcases Nat.eq_zero_or_pos (i - l.length) with h0 | h0
        · exact h0
        · rw [List.getElem?_eq_none (by simp; omega)] at hb; cases hb
      rw [this] at hb
      simp at hb
      subst hb
      have : i = n := by omega
      subst this
      exact ha
theorem weightsAll_mem {H : Type} : ∀ {l : List (DataW H)} {i : Nat} {d : DataW H}, l[i]? = some d → ∀ n ∈ d.weights P e, n ∈ DataW.weightsAll P e l
  | [], _, _, h, _, _ => by simp at h
  | x :: r, 0, d, h, n, hn => by
    simp at h; subst h
    simp only [DataW.weightsAll, List.mem_append]
    exact Or.inl hn
  | x :: r, i + 1, d, h, n, hn => by
    simp only [DataW.weightsAll, List.mem_append]
    exact Or.inr (weightsAll_mem (l := r) (i := i) (by simpa using h) n hn)
theorem opens_slice {α : Type} {d : Kd α} {G : α → Prop} {B : Nat} (hu : P.underlying t = some (.slice e)) (hc : P.cellsOf e = d.sz) (hB : P.bytesOf e = B) (h : Opens P e d G) (q : Nat) :
    Opens P t (Kd.slice q d) (fun l => l.length * B ≤ 140737488351232 ∧ ∀ a ∈ l, G a) := by
  intro H enc w spare held fuel cs x hx hz
  rcases DataW.trod_slice hu hx with ⟨rfl, rfl⟩ | ⟨a, len, cap, elems, rest, m, rfl, rfl, rfl, hb, hl, hm, hlen, hel, _, _⟩
  · exact ⟨[], ⟨none, 0, rfl, Nat.le_refl _, rfl, by simp, fun h => by simp at h⟩, by simp, fun a ha => by simp at ha⟩
  · have hz' : ∀ n ∈ DataW.weights P t (.slice (elems.map (·.1)) (rest.map (·.1))), n ≤ 140737488351232 := hz
    have each : ∀ i, i < len → ∃ y, (∃ c, c.length = d.sz ∧ d.K w y c ∧ ∀ j u, c[j]? = some u → w.cell? (a.add (i * d.sz + j)) = some u) ∧ G y := by
      intro i hi
      have h1 := hel i hi
      obtain ⟨z, hz1⟩ : ∃ z, elems[i]? = some z := ⟨elems[i]'(by omega), List.getElem?_eq_getElem (by omega)⟩
      rw [hz1, Option.bind_eq_some_iff] at h1
      obtain ⟨c, hcs, hy⟩ := h1
      have hw : ∀ n ∈ z.1.weights P e, n ≤ 140737488351232 := by
        intro n hn
        refine hz' n ?_
        simp only [DataW.weights, hu, List.mem_cons, List.mem_append]
        exact Or.inr (Or.inl (weightsAll_mem (i := i) (d := z.1) (by simp [hz1]) n hn))
      obtain ⟨y, hK, hG⟩ := h hy hw
      obtain ⟨_, hlc, hcell⟩ := World.cells?_some hcs
      refine ⟨y, ⟨c, by omega, hK, fun j u hj => ?_⟩, hG⟩
      have hjl : j < c.length := (List.getElem?_eq_some_iff.1 hj).1
      have := hcell j (by omega)
      rw [add_add, hc] at this
      rw [this]
      exact hj
    obtain ⟨l, hll, hQ⟩ := list_of _ len each
    have hmax : len ≤ 9223372036854775807 := by unfold maxLen at hm; omega
    refine ⟨l, ⟨some a, cap, by rw [hll], by omega, rfl, by omega, fun _ => ⟨a, rfl, fun j p hj => (hQ j p hj).1⟩⟩, ?_, fun y hy => ?_⟩
    · have := hz' ((elems.map (·.1)).length * B + (rest.map (·.1)).length * B) (by simp only [DataW.weights, hu, hB, List.mem_cons, ← Nat.add_mul]; exact Or.inl trivial)
      simp only [List.length_map] at this
      rw [hll, ← hlen]
      omega
    · obtain ⟨j, hj⟩ := List.getElem?_of_mem hy
      exact (hQ j y hj).2
/-- What a value of a type of that shape looks like. -/
theorem agg_of {w : World} {r : Reach} {base : Nat} {v : Value} {fs : Array Field} (hu : P.underlying t = some (.struct fs)) (h : Value.okWide P w r base t v) : ∃ cs : List Value, v = .agg cs.toArray ∧ v.cells.toList = cs := by
  simp only [Value.okWide, hu] at h
  obtain ⟨cs, rfl, _⟩ := h
  exact ⟨cs.toList, by simp, by simp [Value.cells]⟩
/-- One argument out of all: its weights. -/
theorem weights_of {H : Type} {ts : List TypeId} {ds : List (DataW H)} (h : (DataW.weightsEach P ts ds).all (· ≤ reachBytes) = true) {j : Nat} {d : DataW H} (ht : ts[j]? = some t) (hd : ds[j]? = some d) : ∀ n ∈ d.weights P t, n ≤ 140737488351232 := by
  intro n hn
  have := List.all_eq_true.1 h n (DataW.weights_mem_each ht hd n hn)
  have h2 : n ≤ reachBytes := of_decide_eq_true this
  unfold reachBytes at h2
  omega
end
end Go.Proofs.Ytehgapcmngdcnaa.Opens
