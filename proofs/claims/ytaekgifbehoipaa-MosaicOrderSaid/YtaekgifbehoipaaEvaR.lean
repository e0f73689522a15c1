/- What comes in: arguments of ints, bools, strings, structs and slices, laid as objects that are only read. Conditions stand in each lemma. -/
import Derived.Test.YtaekgifbehoipaaEvaO
import Derived.ChangeArms
import Derived.ChangeSlices
import Derived.SizedLaws
import Derived.OpenShut
import Derived.WideShapes
import Derived.DataReads
namespace Go.Proofs.Ytaekgifbehoipaa.Eva
open Go
set_option linter.unusedVariables false
set_option linter.unusedSimpArgs false

/-- The shape of a type. -/
inductive AT where
  | int (k : IntKind)
  | bool
  | str
  | st (fs : List AT)
  | sl (e : AT) (B : Nat)

mutual
def AT.sz : AT → Nat
  | .st fs => AT.szL fs
  | _ => 1
def AT.szL : List AT → Nat
  | [] => 0
  | f :: r => f.sz + AT.szL r
end

def offsB (P : Program) : Nat → List Field → Bool
  | _, [] => true
  | o, f :: r => f.offset == o && offsB P (o + P.cellsOf f.type) r

mutual
/-- Has the type this shape? -/
def fits (P : Program) : AT → TypeId → Bool
  | .int k, t => P.cellsOf t == 1 && (match P.underlying t with | some (.int k') => decide (k' = k) | _ => false)
  | .bool, t => P.cellsOf t == 1 && (match P.underlying t with | some .bool => true | _ => false)
  | .str, t => P.cellsOf t == 1 && (match P.underlying t with | some .string => true | _ => false)
  | .st fs, t => (match P.underlying t with
    | some (.struct fl) => P.cellsOf t == AT.szL fs && offsB P 0 fl.toList && fitsL P fs (fl.toList.map (·.type))
    | _ => false)
  | .sl e B, t => P.cellsOf t == 1 && (match P.underlying t with
    | some (.slice et) => fits P e et && P.bytesOf et == B && e.sz != 0
    | _ => false)
def fitsL (P : Program) : List AT → List TypeId → Bool
  | [], [] => true
  | a :: as, t :: ts => fits P a t && fitsL P as ts
  | _, _ => false
end

theorem fits_sz {P : Program} : ∀ {a : AT} {t : TypeId}, fits P a t = true → P.cellsOf t = a.sz
  | .int k, t, h => by simp only [fits, Bool.and_eq_true, beq_iff_eq] at h; simpa [AT.sz] using h.1
  | .bool, t, h => by simp only [fits, Bool.and_eq_true, beq_iff_eq] at h; simpa [AT.sz] using h.1
  | .str, t, h => by simp only [fits, Bool.and_eq_true, beq_iff_eq] at h; simpa [AT.sz] using h.1
  | .sl e B, t, h => by simp only [fits, Bool.and_eq_true, beq_iff_eq] at h; simpa [AT.sz] using h.1
  | .st fs, t, h => by
    simp only [fits] at h
    split at h
    · simp only [Bool.and_eq_true, beq_iff_eq] at h; simpa [AT.sz] using h.1.1
    · cases h

/-- What an argument tells. A slice: 0 is nil, 1 has no room, 2 has room. -/
inductive DV where
  | i (n : Int)
  | b (b : Bool)
  | s (s : ByteArray)
  | st (l : List DV)
  | sl (sh : Nat) (l : List DV)

abbrev lim : Nat := 140737488351232

mutual
def goodD : AT → DV → Prop
  | .int k, .i n => k.min ≤ n ∧ n ≤ k.max
  | .bool, .b _ => True
  | .str, .s s => s.size ≤ lim
  | .st fs, .st l => goodL fs l
  | .sl e B, .sl sh l => sh ≤ 2 ∧ (sh ≠ 2 → l = []) ∧ l.length * B ≤ lim ∧ ∀ d ∈ l, goodD e d
  | _, _ => False
def goodL : List AT → List DV → Prop
  | [], [] => True
  | a :: as, d :: ds => goodD a d ∧ goodL as ds
  | _, _ => False
end

mutual
/-- The cells, and the objects that they point to. -/
def layD (n : Nat) : AT → DV → List AV × List Ob
  | .int k, .i x => ([.int k x], [])
  | .bool, .b x => ([.bool x], [])
  | .str, .s x => ([.str x], [])
  | .st fs, .st l => layL n fs l
  | .sl e _, .sl sh l =>
    if sh = 0 then ([.sl true 0 0 0 0 0], [])
    else if sh = 1 then ([.s0 false], [])
    else
      let r := layE e n l
      ([.sl false (n + r.2.length) 0 e.sz 0 l.length], r.2 ++ [⟨r.1, 0, e.sz, false, r.1.all AV.scalar⟩])
  | _, _ => ([], [])
def layL (n : Nat) : List AT → List DV → List AV × List Ob
  | a :: as, d :: ds =>
    let x := layD n a d
    let y := layL (n + x.2.length) as ds
    (x.1 ++ y.1, x.2 ++ y.2)
  | _, _ => ([], [])
def layE (e : AT) (n : Nat) : List DV → List AV × List Ob
  | d :: ds =>
    let x := layD n e d
    let y := layE e (n + x.2.length) ds
    (x.1 ++ y.1, x.2 ++ y.2)
  | [] => ([], [])
end

def RO (h : List Ob) : Prop := ∀ o ∈ h, o.rw = false

/-- In world w these cells hold what d tells. -/
def Lays (w : World) (lay : Nat → List AV × List Ob) (cs : List Value) : Prop :=
  (∀ u ∈ cs, u.oneCell' = true) ∧ ∀ (m : Mp) (h : List Ob), HRel m (lk h) w → RO h → ∃ m', m.le m' ∧ HRel m' (lk (h ++ (lay h.length).2)) w ∧ RO (h ++ (lay h.length).2) ∧ VReps m' (lay h.length).1 cs

theorem Lays.none {w : World} : Lays w (fun _ => ([], [])) [] :=
  ⟨by simp, fun m h H R => ⟨m, Mp.le.refl m, by simpa using H, by simpa using R, vreps_nil⟩⟩
theorem Lays.scalar {w : World} {x : AV} {v : Value} (h : ∀ m, VRep m x v) (h1 : v.oneCell' = true) : Lays w (fun _ => ([x], [])) [v] :=
  ⟨by simpa using h1, fun m hp H R => ⟨m, Mp.le.refl m, by simpa using H, by simpa using R, vreps_cons.2 ⟨h m, vreps_nil⟩⟩⟩
theorem Lays.append {w : World} {a b : Nat → List AV × List Ob} {cs ds : List Value} (h1 : Lays w a cs) (h2 : Lays w b ds) : Lays w (fun n => ((a n).1 ++ (b (n + (a n).2.length)).1, (a n).2 ++ (b (n + (a n).2.length)).2)) (cs ++ ds) := by
  refine ⟨fun u hu => (List.mem_append.1 hu).elim (h1.1 u) (h2.1 u), fun m h H R => ?_⟩
  obtain ⟨m1, e1, H1, R1, v1⟩ := h1.2 m h H R
  obtain ⟨m2, e2, H2, R2, v2⟩ := h2.2 m1 _ H1 R1
  rw [List.length_append] at H2 R2 v2
  rw [List.append_assoc] at H2 R2
  exact ⟨m2, e1.trans e2, H2, R2, (v1.mono e2).append v2⟩

/-- An object that is only read. -/
theorem add_ro {m : Mp} {h : List Ob} {w : World} (H : HRel m (lk h) w) (R : RO h) {l : Loc} {o : Ob} {C : Array Value} {ty : TypeId} {fr : Nat × Nat} (hb : w.heap[l.b]? = some (.cells C ty fr)) (hfit : l.base + l.cap ≤ C.size) (hlen : o.cs.length ≤ l.cap)
    (hrw : o.rw = false) (hep : o.ep = 0) (hfl : o.fl = o.cs.all AV.scalar) (hcells : ∀ j c, o.cs[j]? = some c → ∃ v, C[l.base + j]? = some v ∧ VRep m c v ∧ v.oneCell' = true) :
    m.le (m.put h.length 0 l) ∧ HRel (m.put h.length 0 l) (lk (h ++ [o])) w ∧ RO (h ++ [o]) := by
  have hn : ∀ ep, m h.length ep = none := fun ep => by
    cases e : m h.length ep with
    | none => rfl
    | some l => exact absurd (H.dom_lt e) (by omega)
  have hle : m.le (m.put h.length 0 l) := Mp.le_put (hn 0)
  have two : ∀ i y z, lk (h ++ [o]) i = some y → m.put h.length 0 l i y.ep = some z → (i = h.length ∧ y = o ∧ z = l) ∨ (lk h i = some y ∧ m i y.ep = some z) := fun i y z f1 f2 => by
    rw [lk_app] at f1
    split at f1
    · rename_i hlt
      rw [Mp.put_id _ _ _ _ _ _ (Nat.ne_of_lt hlt)] at f2
      exact .inr ⟨f1, f2⟩
    · split at f1
      · rename_i heq
        simp only [Option.some.injEq] at f1
        subst f1; subst heq
        rw [hep, Mp.put_same] at f2
        simp only [Option.some.injEq] at f2
        exact .inl ⟨rfl, rfl, f2.symm⟩
      · cases f1
  have R' : RO (h ++ [o]) := fun x hx => by
    rcases List.mem_append.1 hx with hx | hx
    · exact R x hx
    · simp only [List.mem_singleton] at hx; rw [hx]; exact hrw
  have blt : l.b < w.heap.size := (Array.getElem?_eq_some_iff.1 hb).1
  refine ⟨hle, ⟨fun i x lx e1 e2 => ?_, fun i x lx i' x' lx' e1 e2 e3 e4 e5 _ => ?_, fun i ep lx e1 => ?_, fun i x e1 e2 => ?_⟩, R'⟩
  · rcases two i x lx e1 e2 with ⟨rfl, rfl, rfl⟩ | ⟨f1, f2⟩
    · refine ⟨C, ty, fr, hb, fun e => by rw [hrw] at e; (cases e), hfit, hlen, fun j c hj => ?_⟩
      obtain ⟨v, k1, k2, k3⟩ := hcells j c hj
      exact ⟨v, k1, VRep.mono hle _ _ k2, k3⟩
    · obtain ⟨cs, t, fr', k1, k2, k3, k4, k5⟩ := H.cells i x lx f1 f2
      refine ⟨cs, t, fr', k1, k2, k3, k4, fun j c hj => ?_⟩
      obtain ⟨v, k6, k7, k8⟩ := k5 j c hj
      exact ⟨v, k6, VRep.mono hle _ _ k7, k8⟩
  · have := R' x (List.mem_of_getElem? e1)
    rw [this] at e5; cases e5
  · by_cases c : i = h.length ∧ ep = 0
    · obtain ⟨rfl, rfl⟩ := c
      rw [Mp.put_same] at e1
      simp only [Option.some.injEq] at e1
      subst e1
      exact ⟨⟨o, by rw [lk_app]; simp, by omega⟩, blt⟩
    · have e2 : m i ep = some lx := by simpa [Mp.put, c] using e1
      obtain ⟨⟨x, f1, f2⟩, f3⟩ := H.dom i ep lx e2
      exact ⟨⟨x, by rw [lk_app, if_pos (lk_lt f1)]; exact f1, f2⟩, f3⟩
  · rw [lk_app] at e1
    split at e1
    · exact H.fl i x e1 e2
    · split at e1
      · simp only [Option.some.injEq] at e1; subst e1; rw [hfl] at e2; exact all_scalar e2
      · cases e1

/-! ### structs: field after field -/
def FieldsR {H : Type} (enc : TypeId × Value → H) (P : Program) (w : World) (spare : Nat → Bool) (held : Bool) (fuel : Nat) : List TypeId → List Value → List (DataW H × List MemPlace) → Prop
  | [], cs, xs => cs = [] ∧ xs = []
  | t :: ts, cs, xs => ∃ x r, xs = x :: r ∧ DataW.trod enc P w 0 spare held fuel t (cs.take (P.cellsOf t)) = some x ∧ FieldsR enc P w spare held fuel ts (cs.drop (P.cellsOf t)) r

theorem fieldsR_of {H : Type} {P : Program} {enc : TypeId × Value → H} {w : World} {spare : Nat → Bool} {held : Bool} {fuel : Nat} : ∀ {fs : List Field} {o : Nat} {cs : List Value} {xs : List (DataW H × List MemPlace)},
    offsB P o fs = true → cs.length = o + (fs.map fun f => P.cellsOf f.type).sum → xs.length = fs.length →
    (∀ (i : Nat) (f : Field), fs[i]? = some f → DataW.trod enc P w 0 spare held fuel f.type ((cs.drop f.offset).take (P.cellsOf f.type)) = xs[i]?) → FieldsR enc P w spare held fuel (fs.map (·.type)) (cs.drop o) xs
  | [], o, cs, xs, _, hl, hx, _ => by
    refine ⟨List.drop_eq_nil_of_le (by simp at hl; omega), ?_⟩
    cases xs with
    | nil => rfl
    | cons _ _ => simp at hx
  | f :: r, o, cs, xs, ho, hl, hx, h => by
    simp only [offsB, Bool.and_eq_true, beq_iff_eq] at ho
    cases xs with
    | nil => simp at hx
    | cons x xs =>
      refine ⟨x, xs, rfl, ?_, ?_⟩
      · have := h 0 f rfl
        rw [ho.1] at this
        exact this
      · rw [List.drop_drop]
        refine fieldsR_of ho.2 ?_ (by simpa using hx) (fun i g hg => ?_)
        · simp only [List.map_cons, List.sum_cons] at hl
          show cs.length = o + P.cellsOf f.type + _
          omega
        · exact h (i + 1) g (by simpa using hg)

theorem szL_sum {P : Program} : ∀ {as : List AT} {ts : List TypeId}, fitsL P as ts = true → AT.szL as = (ts.map P.cellsOf).sum
  | [], [], _ => by simp [AT.szL]
  | [], _ :: _, h => by simp [fitsL] at h
  | _ :: _, [], h => by simp [fitsL] at h
  | a :: as, t :: ts, h => by
    simp only [fitsL, Bool.and_eq_true] at h
    simp only [AT.szL, List.map_cons, List.sum_cons]
    rw [fits_sz h.1, szL_sum h.2]

theorem addR_add (a : Addr) (i j : Nat) : (a.add i).add j = a.add (i + j) := by
  unfold Addr.add
  by_cases hi : i = 0
  · subst hi; simp
  · by_cases hj : j = 0
    · subst hj; simp [hi]
    · simp [hi, hj, Nat.add_assoc]
theorem listR_of {α : Type} (Q : Nat → α → Prop) : ∀ n, (∀ i, i < n → ∃ a, Q i a) → ∃ l : List α, l.length = n ∧ ∀ i a, l[i]? = some a → Q i a
  | 0, _ => ⟨[], rfl, fun i a h => by simp at h⟩
  | n + 1, h => by
    obtain ⟨l, hl, hQ⟩ := listR_of Q n (fun i hi => h i (by omega))
    obtain ⟨a, ha⟩ := h n (by omega)
    refine ⟨l ++ [a], by simp [hl], fun i b hb => ?_⟩
    by_cases hi : i < l.length
    · rw [List.getElem?_append_left hi] at hb
      exact hQ i b hb
    · rw [List.getElem?_append_right (by omega)] at hb
      have : i - l.length = 0 := by
        rcases Nat.eq_zero_or_pos (i - l.length) with h0 | h0
        · exact h0
        · rw [List.getElem?_eq_none (by simp; omega)] at hb; cases hb
      rw [this] at hb
      simp at hb
      subst hb
      have : i = n := by omega
      subst this
      exact ha
theorem weightsR_mem {H : Type} {P : Program} {e : TypeId} : ∀ {l : List (DataW H)} {i : Nat} {d : DataW H}, l[i]? = some d → ∀ n ∈ d.weights P e, n ∈ DataW.weightsAll P e l
  | [], _, _, h, _, _ => by simp at h
  | x :: r, 0, d, h, n, hn => by
    simp at h; subst h
    simp only [DataW.weightsAll, List.mem_append]
    exact Or.inl hn
  | x :: r, i + 1, d, h, n, hn => by
    simp only [DataW.weightsAll, List.mem_append]
    exact Or.inr (weightsR_mem (l := r) (i := i) (by simpa using h) n hn)

/-- Elements, one after the other. -/
theorem lays_elems {w : World} {e : AT} : ∀ (l : List (DV × List Value)), (∀ p ∈ l, Lays w (fun n => layD n e p.1) p.2) → Lays w (fun n => layE e n (l.map (·.1))) (l.flatMap (·.2))
  | [], _ => by
    have := Lays.none (w := w)
    simpa [layE] using this
  | p :: l, h => by
    have := (h p List.mem_cons_self).append (lays_elems l fun q hq => h q (List.mem_cons_of_mem _ hq))
    simpa only [List.map_cons, List.flatMap_cons, layE] using this

section
variable {P : Program} {H : Type} {enc : TypeId × Value → H} {w : World} {held : Bool}

theorem cell_row {a : Addr} {v : Value} (h : w.cell? a = some v) : ∃ C ty fr, w.heap[a.block]? = some (.cells C ty fr) ∧ a.spot = none ∧ C[a.off]? = some v := by
  unfold World.cell? at h
  split at h
  · rename_i C ty fr hb
    split at h
    · cases h
    · rename_i hs
      exact ⟨C, ty, fr, hb, by simpa using hs, h⟩
  · cases h

mutual
theorem lay_trod : ∀ (a : AT) (t : TypeId), fits P a t = true → ∀ {fuel : Nat} {cs : List Value} {x : DataW H × List MemPlace}, DataW.trod enc P w 0 (fun _ => true) held fuel t cs = some x → (∀ n ∈ x.1.weights P t, n ≤ lim) →
    ∃ d, goodD a d ∧ Lays w (fun n => layD n a d) cs ∧ cs.length = a.sz
  | .int k, t, hf, fuel, cs, x, hx, hz => by
    simp only [fits, Bool.and_eq_true] at hf
    have hu : P.underlying t = some (.int k) := by
      have := hf.2
      split at this
      · rename_i k' h; rw [h, of_decide_eq_true this]
      · cases this
    obtain ⟨n, rfl, _, hw⟩ := DataW.trod_int hu hx
    refine ⟨.i n, ?_, Lays.scalar (fun m => vr_int) rfl, rfl⟩
    simp only [Lit.wf, Bool.and_eq_true, decide_eq_true_eq] at hw
    exact hw
  | .bool, t, hf, fuel, cs, x, hx, hz => by
    simp only [fits, Bool.and_eq_true] at hf
    have hu : P.underlying t = some .bool := by
      have := hf.2
      split at this
      · rename_i h; exact h
      · cases this
    obtain ⟨b, rfl, _⟩ := DataW.trod_bool hu hx
    exact ⟨.b b, trivial, Lays.scalar (fun m => vr_bool) rfl, rfl⟩
  | .str, t, hf, fuel, cs, x, hx, hz => by
    simp only [fits, Bool.and_eq_true] at hf
    have hu : P.underlying t = some .string := by
      have := hf.2
      split at this
      · rename_i h; exact h
      · cases this
    obtain ⟨s, rfl, hx, _⟩ := DataW.trod_string hu hx
    refine ⟨.s s, ?_, Lays.scalar (fun m => vr_str) rfl, rfl⟩
    have := hz s.data.toList.length (by rw [hx]; simp [DataW.weights])
    simpa [goodD] using this
  | .st fs, t, hf, fuel, cs, x, hx, hz => by
    simp only [fits] at hf
    split at hf
    · rename_i fl hu
      simp only [Bool.and_eq_true, beq_iff_eq] at hf
      obtain ⟨⟨h1, h2⟩, h3⟩ := hf
      obtain ⟨xs, m, rfl, rfl, hl, hxl, hfl⟩ := DataW.trod_struct hu hx
      have hsum := szL_sum h3
      rw [List.map_map] at hsum
      have F := fieldsR_of (P := P) (fs := fl.toList) (o := 0) (cs := cs) (xs := xs) h2 (by rw [Nat.zero_add, hl, h1, hsum]; rfl) (by simpa using hxl) (fun i f hi => hfl i f (by simpa using hi))
      obtain ⟨ds, g1, g2⟩ := layL_trod fs _ h3 F (fun n hn => hz n (by simp only [DataW.weights, hu]; exact hn))
      exact ⟨.st ds, by simpa only [goodD] using g1, by rw [List.drop_zero] at g2; simpa only [layD] using g2, by rw [hl, h1]; simp [AT.sz]⟩
    · cases hf
  | .sl e B, t, hf, fuel, cs, x, hx, hz => by
    simp only [fits, Bool.and_eq_true] at hf
    have hf2 := hf.2
    split at hf2
    · rename_i et hu
      simp only [Bool.and_eq_true, beq_iff_eq, bne_iff_ne, ne_eq] at hf2
      obtain ⟨⟨h1, h2⟩, h3⟩ := hf2
      have hsz := fits_sz h1
      rcases DataW.trod_slice hu hx with ⟨rfl, rfl⟩ | ⟨a, len, cap, elems, rest, m, rfl, rfl, rfl, hb, hl, hm, hlen, hel, hrest, _⟩
      · refine ⟨.sl 0 [], ⟨by omega, fun _ => rfl, by simp, by simp⟩, ?_, rfl⟩
        simpa [layD] using Lays.scalar (w := w) (x := .sl true 0 0 0 0 0) (v := .slice none 0 0) (fun m => by simp [VRep]) rfl
      · have hz' : ∀ n ∈ DataW.weights P t (.slice (elems.map (·.1)) (rest.map (·.1))), n ≤ lim := hz
        obtain ⟨hr1, hr2⟩ := hrest rfl
        have hB : len * B ≤ lim := by
          have := hz' ((elems.map (·.1)).length * B + (rest.map (·.1)).length * B) (by simp only [DataW.weights, hu, h2, List.mem_cons, ← Nat.add_mul]; exact Or.inl trivial)
          simp only [List.length_map] at this
          rw [← hlen]; omega
        by_cases hcap : cap = 0
        · subst hcap
          obtain rfl : len = 0 := by omega
          refine ⟨.sl 1 [], ⟨by omega, fun _ => rfl, by simp, by simp⟩, ?_, rfl⟩
          simpa [layD] using Lays.scalar (w := w) (x := .s0 false) (v := .slice (some a) 0 0) (fun m => by simp [VRep]) rfl
        · -- every cell of the row can be read
          have hread : ∀ j, j < cap * e.sz → ∃ v, w.cell? (a.add j) = some v := by
            intro j hj
            have hq : j / e.sz < cap := Nat.div_lt_of_lt_mul (by rw [Nat.mul_comm]; exact hj)
            have hmod : j % e.sz < e.sz := Nat.mod_lt _ (by omega)
            have hrow : ∃ c, w.cells? 0 (a.add (j / e.sz * e.sz)) e.sz = some c := by
              rcases Nat.lt_or_ge (j / e.sz) len with h | h
              · have h4 := hel (j / e.sz) h
                rw [List.getElem?_eq_getElem (by omega), Option.bind_eq_some_iff, hsz] at h4
                obtain ⟨c, hc, _⟩ := h4
                exact ⟨c, hc⟩
              · have h4 := hr2 (j / e.sz - len) (by omega)
                rw [List.getElem?_eq_getElem (by omega), Option.bind_eq_some_iff, hsz, show len + (j / e.sz - len) = j / e.sz by omega] at h4
                obtain ⟨c, hc, _⟩ := h4
                exact ⟨c, hc⟩
            obtain ⟨c, hc⟩ := hrow
            obtain ⟨_, hlc, hcell⟩ := World.cells?_some hc
            have := hcell (j % e.sz) hmod
            rw [addR_add, Nat.div_add_mod' j e.sz, List.getElem?_eq_getElem (by omega)] at this
            exact ⟨_, this⟩
          have hpos : 0 < cap * e.sz := Nat.mul_pos (by omega) (by omega)
          obtain ⟨v0, hv0⟩ := hread 0 hpos
          obtain ⟨C, ty, fr, hC, hspot, _⟩ := cell_row hv0
          have hadd0 : a.add 0 = a := by simp [Addr.add]
          rw [hadd0] at hC hspot
          have hCget : ∀ j v, w.cell? (a.add j) = some v → C[a.off + j]? = some v := by
            intro j v hv
            obtain ⟨C', ty', fr', hC', _, hv'⟩ := cell_row hv
            have hbl : (a.add j).block = a.block := by unfold Addr.add; split <;> rfl
            have hof : (a.add j).off = a.off + j := by unfold Addr.add; split <;> simp_all
            rw [hbl, hC] at hC'
            simp only [Option.some.injEq, Go.Obj.cells.injEq] at hC'
            rw [hC'.1, ← hof]; exact hv'
          have hCsize : a.off + cap * e.sz ≤ C.size := by
            obtain ⟨v, hv⟩ := hread (cap * e.sz - 1) (by omega)
            have := (Array.getElem?_eq_some_iff.1 (hCget _ _ hv)).1
            omega
          -- the elements
          have each : ∀ i, i < len → ∃ y : DV × List Value, (goodD e y.1 ∧ Lays w (fun n => layD n e y.1) y.2 ∧ y.2.length = e.sz) ∧ ∀ j u, y.2[j]? = some u → w.cell? (a.add (i * e.sz + j)) = some u := by
            intro i hi
            have h4 := hel i hi
            obtain ⟨z, hz1⟩ : ∃ z, elems[i]? = some z := ⟨elems[i]'(by omega), List.getElem?_eq_getElem (by omega)⟩
            rw [hz1, Option.bind_eq_some_iff] at h4
            obtain ⟨c, hcs, hy⟩ := h4
            obtain ⟨d, g1, g2, g3⟩ := lay_trod e et h1 hy (fun n hn => hz' n (by
              simp only [DataW.weights, hu, List.mem_cons, List.mem_append]
              exact Or.inr (Or.inl (weightsR_mem (i := i) (d := z.1) (by simp [hz1]) n hn))))
            obtain ⟨_, hlc, hcell⟩ := World.cells?_some hcs
            refine ⟨(d, c), ⟨g1, g2, g3⟩, fun j u hj => ?_⟩
            have hjl : j < c.length := (List.getElem?_eq_some_iff.1 hj).1
            have := hcell j (by omega)
            rw [addR_add, hsz] at this
            rw [this]
            exact hj
          obtain ⟨L, hL, hQ⟩ := listR_of _ len each
          have hmem : ∀ p ∈ L, goodD e p.1 ∧ Lays w (fun n => layD n e p.1) p.2 ∧ p.2.length = e.sz := fun p hp => by
            obtain ⟨j, hj⟩ := List.getElem?_of_mem hp
            exact (hQ j p hj).1
          have hE := lays_elems L fun p hp => (hmem p hp).2.1
          have hflat : ∀ (L : List (DV × List Value)) (i0 : Nat), (∀ p ∈ L, p.2.length = e.sz) → (∀ i p, L[i]? = some p → ∀ j u, p.2[j]? = some u → w.cell? (a.add ((i0 + i) * e.sz + j)) = some u) →
              (L.flatMap (·.2)).length = L.length * e.sz ∧ ∀ j u, (L.flatMap (·.2))[j]? = some u → w.cell? (a.add (i0 * e.sz + j)) = some u := by
            intro L
            induction L with
            | nil => intro i0 _ _; simp
            | cons p L ih =>
              intro i0 hl1 hl2
              have hp := hl1 p List.mem_cons_self
              obtain ⟨q1, q2⟩ := ih (i0 + 1) (fun p hp => hl1 p (List.mem_cons_of_mem _ hp)) (fun i p hi j u hj => by
                have := hl2 (i + 1) p (by simpa using hi) j u hj
                rwa [show i0 + 1 + i = i0 + (i + 1) by omega])
              refine ⟨by simp only [List.flatMap_cons, List.length_append, q1, hp, List.length_cons, Nat.succ_mul]; omega, fun j u hj => ?_⟩
              simp only [List.flatMap_cons] at hj
              by_cases hjl : j < p.2.length
              · rw [List.getElem?_append_left hjl] at hj
                exact hl2 0 p rfl j u hj
              · rw [List.getElem?_append_right (by omega)] at hj
                have := q2 _ u hj
                rw [hp, Nat.succ_mul] at this
                rwa [show i0 * e.sz + j = i0 * e.sz + e.sz + (j - e.sz) by omega]
          obtain ⟨f1, f2⟩ := hflat L 0 (fun p hp => (hmem p hp).2.2) (fun i p hi j u hj => by rw [Nat.zero_add]; exact (hQ i p hi).2 j u hj)
          refine ⟨.sl 2 (L.map (·.1)), ⟨by omega, by simp, by rw [List.length_map, hL]; exact hB, fun d hd => ?_⟩, ⟨by simp [Value.oneCell'], fun mm h HH R => ?_⟩, rfl⟩
          · obtain ⟨p, hp, rfl⟩ := List.mem_map.1 hd
            exact (hmem p hp).1
          · obtain ⟨m1, k1, k2, k3, k4⟩ := hE.2 mm h HH R
            have hlen1 : (layE e h.length (L.map (·.1))).1.length = len * e.sz := by rw [VReps.length k4, f1, hL]
            obtain ⟨a1, a2, a3⟩ := add_ro (o := ⟨(layE e h.length (L.map (·.1))).1, 0, e.sz, false, (layE e h.length (L.map (·.1))).1.all AV.scalar⟩) (l := ⟨a.block, a.off, cap * e.sz⟩) k2 k3 hC hCsize
              (by show (layE e h.length (L.map (·.1))).1.length ≤ cap * e.sz; rw [hlen1]; exact Nat.mul_le_mul_right _ hl) rfl rfl rfl (fun j c hj => by
                obtain ⟨v, v1, v2⟩ := VReps.get k4 hj
                refine ⟨v, hCget _ _ ?_, v2, hE.1 v (List.mem_of_getElem? v1)⟩
                have := f2 j v v1
                rwa [Nat.zero_mul, Nat.zero_add] at this)
            refine ⟨_, k1.trans a1, ?_, ?_, ?_⟩
            · have e1 : layD h.length (.sl e B) (.sl 2 (L.map (·.1))) = ([.sl false (h.length + (layE e h.length (L.map (·.1))).2.length) 0 e.sz 0 (L.map (·.1)).length], (layE e h.length (L.map (·.1))).2 ++ [⟨(layE e h.length (L.map (·.1))).1, 0, e.sz, false, (layE e h.length (L.map (·.1))).1.all AV.scalar⟩]) := by simp [layD]
              show HRel _ (lk (h ++ (layD h.length (.sl e B) (.sl 2 (L.map (·.1)))).2)) w
              rw [e1]
              simp only [← List.append_assoc]
              exact a2
            · simp only [layD]
              rw [if_neg (by omega), if_neg (by omega)]
              simp only [← List.append_assoc]
              exact a3
            · simp only [layD]
              rw [if_neg (by omega), if_neg (by omega)]
              refine vreps_cons.2 ⟨?_, vreps_nil⟩
              simp only [VRep]
              refine .inr ⟨trivial, _, by rw [← List.length_append]; exact Mp.put_same _ _ _ _, .inr ⟨cap, ?_, ?_, by simp⟩⟩
              · simp only [List.length_map, hL, Nat.add_zero]
                rw [← hspot]
              · simpa [hL] using hl
    · cases hf2
theorem layL_trod : ∀ (as : List AT) (ts : List TypeId), fitsL P as ts = true → ∀ {fuel : Nat} {cs : List Value} {xs : List (DataW H × List MemPlace)}, FieldsR enc P w (fun _ => true) held fuel ts cs xs → (∀ n ∈ DataW.weightsEach P ts (xs.map (·.1)), n ≤ lim) →
    ∃ ds, goodL as ds ∧ Lays w (fun n => layL n as ds) cs
  | [], [], _, fuel, cs, xs, hF, hz => by
    obtain ⟨rfl, rfl⟩ := hF
    exact ⟨[], trivial, by simpa [layL] using Lays.none (w := w)⟩
  | [], _ :: _, h, _, _, _, _, _ => by simp [fitsL] at h
  | _ :: _, [], h, _, _, _, _, _ => by simp [fitsL] at h
  | a :: as, t :: ts, h, fuel, cs, xs, hF, hz => by
    simp only [fitsL, Bool.and_eq_true] at h
    obtain ⟨x, r, rfl, hx, hF'⟩ := hF
    obtain ⟨d, g1, g2, g3⟩ := lay_trod a t h.1 hx (fun n hn => hz n (by simp [DataW.weightsEach, hn]))
    obtain ⟨ds, k1, k2⟩ := layL_trod as ts h.2 hF' (fun n hn => hz n (by simp only [List.map_cons, DataW.weightsEach, List.mem_append]; exact Or.inr hn))
    refine ⟨d :: ds, ⟨g1, k1⟩, ?_⟩
    have := g2.append k2
    rw [List.take_append_drop] at this
    simpa only [layL] using this
end
end
end Go.Proofs.Ytaekgifbehoipaa.Eva
