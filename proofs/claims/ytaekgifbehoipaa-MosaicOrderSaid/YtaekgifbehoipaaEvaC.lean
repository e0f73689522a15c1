/- The relation between values of the abstract machine and values of the model, between heaps, and between moments; its plain laws. Conditions stand in each lemma. -/
import Derived.Test.YtaekgifbehoipaaEvaB
namespace Go.Proofs.Ytaekgifbehoipaa.Eva
open Go
set_option linter.unusedVariables false
set_option linter.unusedSimpArgs false

structure Loc where
  b : Nat
  base : Nat
  cap : Nat

abbrev Mp := Nat → Nat → Option Loc

def Mp.le (m m' : Mp) : Prop := ∀ id ep l, m id ep = some l → m' id ep = some l
theorem Mp.le.refl (m : Mp) : m.le m := fun _ _ _ h => h
theorem Mp.le.trans {m m' m'' : Mp} (h : m.le m') (h' : m'.le m'') : m.le m'' := fun _ _ _ e => h' _ _ _ (h _ _ _ e)

mutual
def VRep (m : Mp) : AV → Value → Prop
  | .int k n, v => v = .int k n
  | .bool b, v => v = .bool b
  | .str s, v => v = .string s
  | .flt k b, v => v = .float k b
  | .np, v => v = .pointer none
  | .nf, v => v = .nilFunc
  | .ni, v => v = .nilIface
  | .agg cs, v => ∃ a : Array Value, v = .agg a ∧ VReps m cs a.toList ∧ ∀ u ∈ a.toList, u.oneCell' = true
  | .tup vs, v => ∃ a : Array Value, v = .tuple a ∧ VReps m vs a.toList
  | .sl nl id ep sz off len, v =>
    (nl = true ∧ v = .slice none 0 0 ∧ len = 0) ∨ (nl = false ∧ ∃ l, m id ep = some l ∧
      ((len = 0 ∧ ∃ a, v = .slice (some a) 0 0) ∨ ∃ cap, v = .slice (some ⟨l.b, l.base + off, none⟩) len cap ∧ len ≤ cap ∧ off + cap * sz ≤ l.cap))
  | .s0 nl, v => (nl = true ∧ v = .slice none 0 0) ∨ (nl = false ∧ ∃ a, v = .slice (some a) 0 0)
  | .ptr id ep off, v => ∃ l, m id ep = some l ∧ v = .pointer (some ⟨l.b, l.base + off, none⟩)
  | .fn f cap, v => ∃ a : Array Value, v = .func (.func f) #[] a ∧ VReps m cap a.toList
def VReps (m : Mp) : List AV → List Value → Prop
  | [], l => l = []
  | a :: r, l => ∃ v l', l = v :: l' ∧ VRep m a v ∧ VReps m r l'
end

theorem vreps_nil {m : Mp} : VReps m [] [] := by simp [VReps]
theorem vreps_cons {m : Mp} {a : AV} {r : List AV} {v : Value} {l : List Value} : VReps m (a :: r) (v :: l) ↔ VRep m a v ∧ VReps m r l := by
  simp only [VReps]
  constructor
  · rintro ⟨v', l', e, h⟩
    simp only [List.cons.injEq] at e
    obtain ⟨rfl, rfl⟩ := e
    exact h
  · exact fun h => ⟨v, l, rfl, h⟩

theorem vreps_iff {m : Mp} : ∀ {as : List AV} {vs : List Value}, VReps m as vs ↔ as.length = vs.length ∧ ∀ (i : Nat) (a : AV) (v : Value), as[i]? = some a → vs[i]? = some v → VRep m a v
  | [], vs => by
    constructor
    · intro h; simp [VReps] at h; subst h; simp
    · rintro ⟨h, _⟩; simp [VReps]; exact List.length_eq_zero_iff.1 (by simpa using h.symm)
  | a :: r, [] => by simp [VReps]
  | a :: r, v :: l => by
    rw [vreps_cons, vreps_iff (as := r)]
    constructor
    · rintro ⟨h, hl, hr⟩
      refine ⟨by simp [hl], fun i => ?_⟩
      cases i with
      | zero => intro a' v' h1 h2; simp at h1 h2; subst h1; subst h2; exact h
      | succ i => intro a' v' h1 h2; exact hr i a' v' (by simpa using h1) (by simpa using h2)
    · rintro ⟨hl, h⟩
      exact ⟨h 0 a v (by simp) (by simp), by simpa using hl, fun i a' v' h1 h2 => h (i + 1) a' v' (by simpa using h1) (by simpa using h2)⟩

theorem VReps.length {m : Mp} {as : List AV} {vs : List Value} (h : VReps m as vs) : as.length = vs.length := (vreps_iff.1 h).1
theorem VReps.get {m : Mp} {as : List AV} {vs : List Value} (h : VReps m as vs) {i : Nat} {a : AV} (ha : as[i]? = some a) : ∃ v, vs[i]? = some v ∧ VRep m a v := by
  obtain ⟨hl, hr⟩ := vreps_iff.1 h
  have hi : i < as.length := (List.getElem?_eq_some_iff.1 ha).1
  exact ⟨vs[i], List.getElem?_eq_getElem (hl ▸ hi), hr i a _ ha (List.getElem?_eq_getElem (hl ▸ hi))⟩
theorem VReps.getV {m : Mp} {as : List AV} {vs : List Value} (h : VReps m as vs) {i : Nat} {v : Value} (ha : vs[i]? = some v) : ∃ a, as[i]? = some a ∧ VRep m a v := by
  obtain ⟨hl, hr⟩ := vreps_iff.1 h
  have hi : i < vs.length := (List.getElem?_eq_some_iff.1 ha).1
  exact ⟨as[i], List.getElem?_eq_getElem (hl ▸ hi), hr i _ v (List.getElem?_eq_getElem (hl ▸ hi)) ha⟩
theorem VReps.append {m : Mp} : ∀ {as : List AV} {vs : List Value} {bs : List AV} {us : List Value}, VReps m as vs → VReps m bs us → VReps m (as ++ bs) (vs ++ us)
  | [], vs, bs, us, h, h' => by simp [VReps] at h; subst h; simpa using h'
  | a :: r, vs, bs, us, h, h' => by
    obtain ⟨v, l, rfl, h1, h2⟩ := h
    exact vreps_cons.2 ⟨h1, VReps.append h2 h'⟩
theorem VReps.take {m : Mp} {as : List AV} {vs : List Value} (h : VReps m as vs) (n : Nat) : VReps m (as.take n) (vs.take n) := by
  obtain ⟨hl, hr⟩ := vreps_iff.1 h
  refine vreps_iff.2 ⟨by simp [hl], fun i a v h1 h2 => ?_⟩
  rw [List.getElem?_take] at h1 h2
  split at h1 <;> split at h2 <;> simp_all
  exact hr i a v h1 h2
theorem VReps.drop {m : Mp} {as : List AV} {vs : List Value} (h : VReps m as vs) (n : Nat) : VReps m (as.drop n) (vs.drop n) := by
  obtain ⟨hl, hr⟩ := vreps_iff.1 h
  refine vreps_iff.2 ⟨by simp [hl], fun i a v h1 h2 => ?_⟩
  rw [List.getElem?_drop] at h1 h2
  exact hr _ a v h1 h2
theorem VReps.set {m : Mp} {as : List AV} {vs : List Value} (h : VReps m as vs) (n : Nat) {a : AV} {v : Value} (hv : VRep m a v) : VReps m (as.set n a) (vs.set n v) := by
  obtain ⟨hl, hr⟩ := vreps_iff.1 h
  refine vreps_iff.2 ⟨by simp [hl], fun i a' v' h1 h2 => ?_⟩
  rw [List.getElem?_set] at h1 h2
  by_cases e : n = i
  · subst e
    simp only [if_true] at h1 h2
    split at h1 <;> split at h2 <;> simp_all
  · rw [if_neg e] at h1 h2
    exact hr _ _ _ h1 h2
theorem VReps.replicate {m : Mp} {a : AV} {v : Value} (h : VRep m a v) (n : Nat) : VReps m (List.replicate n a) (List.replicate n v) := by
  refine vreps_iff.2 ⟨by simp, fun i a' v' h1 h2 => ?_⟩
  rw [List.getElem?_replicate] at h1 h2
  split at h1 <;> simp_all
theorem VReps.map {m : Mp} {α : Type} (f : α → AV) (g : α → Value) : ∀ (l : List α), (∀ x ∈ l, VRep m (f x) (g x)) → VReps m (l.map f) (l.map g)
  | [], _ => vreps_nil
  | x :: l, h => vreps_cons.2 ⟨h x (by simp), VReps.map f g l fun y hy => h y (by simp [hy])⟩

mutual
theorem VRep.mono {m m' : Mp} (h : m.le m') : ∀ (a : AV) (v : Value), VRep m a v → VRep m' a v
  | .int _ _, _, e | .bool _, _, e | .str _, _, e | .flt _ _, _, e | .np, _, e | .nf, _, e | .ni, _, e | .s0 _, _, e => by simpa only [VRep] using e
  | .agg cs, v, e => by
    simp only [VRep] at e ⊢
    obtain ⟨a, h1, h2, h3⟩ := e
    exact ⟨a, h1, VReps.mono h cs _ h2, h3⟩
  | .tup cs, v, e => by
    simp only [VRep] at e ⊢
    obtain ⟨a, h1, h2⟩ := e
    exact ⟨a, h1, VReps.mono h cs _ h2⟩
  | .sl nl id ep sz off len, v, e => by
    simp only [VRep] at e ⊢
    rcases e with e | ⟨e, l, h1, h2⟩
    · exact .inl e
    · exact .inr ⟨e, l, h _ _ _ h1, h2⟩
  | .ptr id ep off, v, e => by
    simp only [VRep] at e ⊢
    obtain ⟨l, h1, h2⟩ := e
    exact ⟨l, h _ _ _ h1, h2⟩
  | .fn f cap, v, e => by
    simp only [VRep] at e ⊢
    obtain ⟨a, h1, h2⟩ := e
    exact ⟨a, h1, VReps.mono h cap _ h2⟩
theorem VReps.mono {m m' : Mp} (h : m.le m') : ∀ (as : List AV) (vs : List Value), VReps m as vs → VReps m' as vs
  | [], vs, e => by simpa only [VReps] using e
  | a :: r, vs, e => by
    simp only [VReps] at e ⊢
    obtain ⟨v, l, h1, h2, h3⟩ := e
    exact ⟨v, l, h1, VRep.mono h a v h2, VReps.mono h r l h3⟩
end

theorem VRep.of_scalar {m m' : Mp} {a : AV} {v : Value} (hs : a.scalar = true) (h : VRep m a v) : VRep m' a v := by
  cases a <;> simp [AV.scalar] at hs <;> simpa only [VRep] using h

theorem vrep_one {m : Mp} {a : AV} {v : Value} (h : VRep m a v) (h1 : a.one = true) : v.oneCell' = true := by
  cases a <;> simp [AV.one, AV.isTup, AV.isAgg] at h1 <;> simp only [VRep] at h
  case sl => rcases h with ⟨_, rfl, _⟩ | ⟨_, _, _, ⟨_, _, rfl⟩ | ⟨_, rfl, _⟩⟩ <;> rfl
  case s0 => rcases h with ⟨_, rfl⟩ | ⟨_, _, rfl⟩ <;> rfl
  case ptr => obtain ⟨_, _, rfl⟩ := h; rfl
  case fn => obtain ⟨_, rfl, _⟩ := h; rfl
  all_goals (subst h; rfl)

theorem vrep_cells {m : Mp} {a : AV} {v : Value} (h : VRep m a v) (h1 : a.isTup = false) : VReps m (cellsOf a) v.cells.toList ∧ ∀ u ∈ v.cells.toList, u.oneCell' = true := by
  by_cases hg : a.isAgg = true
  · cases a <;> simp [AV.isAgg] at hg
    simp only [VRep] at h
    obtain ⟨b, rfl, h2, h3⟩ := h
    exact ⟨h2, h3⟩
  · have ho : a.one = true := by simp [AV.one, h1, hg]
    have hv := vrep_one h ho
    have hc : v.cells = #[v] := by cases v <;> simp [Value.oneCell'] at hv <;> rfl
    have ha : cellsOf a = [a] := by cases a <;> simp [AV.isAgg] at hg <;> rfl
    rw [hc, ha]
    exact ⟨vreps_cons.2 ⟨h, vreps_nil⟩, by simpa using hv⟩

theorem vr_int {m : Mp} {k : IntKind} {n : Int} : VRep m (.int k n) (.int k n) := by simp only [VRep]
theorem vr_bool {m : Mp} {b : Bool} : VRep m (.bool b) (.bool b) := by simp only [VRep]
theorem vr_str {m : Mp} {b : ByteArray} : VRep m (.str b) (.string b) := by simp only [VRep]

/-! ### Constants and operands -/
theorem vrep_val1 {m : Mp} {v : Value} {a : AV} (h : cVal1 v = some a) : VRep m a v ∧ a.one = true := by
  unfold cVal1 at h
  split at h <;> first
    | (simp at h; done)
    | (simp only [Option.some.injEq] at h; subst h; refine ⟨?_, rfl⟩; simp [VRep]; done)
    | skip
  split at h
  · rename_i f a b hh
    simp only [Option.some.injEq] at h
    subst h
    refine ⟨?_, rfl⟩
    simp only [VRep]
    have ha : a = #[] := by simpa using hh.1
    have hb : b = #[] := by simpa using hh.2
    exact ⟨#[], by simp [ha, hb], vreps_nil⟩
  · cases h
theorem vreps_vals {m : Mp} : ∀ {vs : List Value} {as : List AV}, cVals vs = some as → VReps m as vs ∧ ∀ u ∈ vs, u.oneCell' = true
  | [], as, h => by simp [cVals] at h; subst h; exact ⟨vreps_nil, by simp⟩
  | v :: r, as, h => by
    simp only [cVals] at h
    split at h
    · rename_i a l h1 h2
      simp only [Option.some.injEq] at h
      subst h
      obtain ⟨e1, e2⟩ := vrep_val1 (m := m) h1
      obtain ⟨e3, e4⟩ := vreps_vals (m := m) h2
      refine ⟨vreps_cons.2 ⟨e1, e3⟩, ?_⟩
      intro u hu
      rcases List.mem_cons.1 hu with rfl | hu
      · exact vrep_one e1 e2
      · exact e4 u hu
    · cases h
theorem vrep_val {m : Mp} {v : Value} {a : AV} (h : cVal v = some a) : VRep m a v := by
  unfold cVal at h
  split at h
  · rename_i cs
    cases hc : cVals cs.toList with
    | none => simp [hc] at h
    | some l =>
      simp [hc] at h
      subst h
      simp only [VRep]
      obtain ⟨h1, h2⟩ := vreps_vals (m := m) hc
      exact ⟨cs, rfl, h1, h2⟩
  · exact (vrep_val1 h).1

theorem vrep_und {m : Mp} {v : Value} : VRep m und v ↔ v = undef := by
  simp only [VRep, VReps]
  constructor
  · rintro ⟨a, rfl, h⟩
    simp at h
    subst h; rfl
  · rintro rfl; exact ⟨#[], rfl, rfl⟩

/-- The slots. -/
def TRep (m : Mp) (ts : List AV) (a : Act) : Prop := VReps m ts a.tmps.toList

theorem vrep_tmp {m : Mp} {ts : List AV} {a : Act} (h : TRep m ts a) (i : Nat) : VRep m (ts.getD i und) (a.tmps.getD i undef) := by
  have hl := VReps.length h
  by_cases hi : i < ts.length
  · have h1 : ts[i]? = some ts[i] := List.getElem?_eq_getElem hi
    obtain ⟨v, hv, hr⟩ := VReps.get h h1
    have e1 : ts.getD i und = ts[i] := by simp [List.getD, h1]
    have e2 : a.tmps.getD i undef = v := by
      have : a.tmps[i]? = some v := by simpa using hv
      simp [Array.getD_eq_getD_getElem?, this]
    rw [e1, e2]; exact hr
  · have e1 : ts.getD i und = und := by simp [List.getD, List.getElem?_eq_none (Nat.le_of_not_lt hi)]
    have e2 : a.tmps.getD i undef = undef := by
      have : a.tmps[i]? = none := Array.getElem?_eq_none (by simp at hl; omega)
      simp [Array.getD_eq_getD_getElem?, this]
    rw [e1, e2]; exact vrep_und.2 rfl

theorem vrep_opd {m : Mp} {ts : List AV} {a : Act} (h : TRep m ts a) {x : Operand} {y : Opd} (hx : cOpd x = some y) : VRep m (evO ts y) (a.eval x) := by
  cases x with
  | tmp t => simp [cOpd] at hx; subst hx; exact vrep_tmp h t
  | const v =>
    simp only [cOpd] at hx
    cases hv : cVal v with
    | none => simp [hv] at hx
    | some b => simp [hv] at hx; subst hx; exact vrep_val hv
  | func f => simp [cOpd] at hx; subst hx; simp only [evO, Act.eval, VRep]; exact ⟨#[], rfl, vreps_nil⟩
  | global g => simp [cOpd] at hx
theorem vreps_opds {m : Mp} {ts : List AV} {a : Act} (h : TRep m ts a) : ∀ {xs : List Operand} {ys : List Opd}, cOpds xs = some ys → VReps m (ys.map (evO ts)) (xs.map a.eval)
  | [], ys, e => by simp [cOpds] at e; subst e; exact vreps_nil
  | x :: r, ys, e => by
    simp only [cOpds] at e
    split at e
    · rename_i b l h1 h2
      simp only [Option.some.injEq] at e
      subst e
      exact vreps_cons.2 ⟨vrep_opd h h1, vreps_opds h h2⟩
    · cases e

theorem trep_put {m : Mp} {ts : List AV} {a : Act} (h : TRep m ts a) {v : AV} {c : Value} (hv : VRep m v c) (d : Option Nat) : TRep m (putT ts d v) (a.put d c) := by
  cases d with
  | none => exact h
  | some d =>
    unfold TRep putT Act.put
    simp only [Array.toList_setIfInBounds]
    exact VReps.set h d hv

/-! ### Heaps -/
/-- No cell of so many is frozen. -/
def NoFz (fr : Nat × Nat) (n : Nat) : Prop := fr.1 = fr.2 ∨ n ≤ fr.1
theorem noFz0 (n : Nat) : NoFz (0, 0) n := Or.inl rfl
theorem noFzE (n : Nat) : NoFz (n, n + 1) n := Or.inr (Nat.le_refl _)
theorem NoFz.no {fr : Nat × Nat} {n j : Nat} (h : NoFz fr n) (hj : j < n) : ¬ (fr.1 ≤ j ∧ j < fr.2) := by unfold NoFz at h; omega
abbrev Hp := Nat → Option Ob
def lk (h : List Ob) : Hp := fun id => h[id]?

structure HRel (m : Mp) (h : Hp) (w : World) : Prop where
  cells : ∀ id o l, h id = some o → m id o.ep = some l → ∃ cs t fr, w.heap[l.b]? = some (.cells cs t fr) ∧ (o.rw = true → NoFz fr cs.size) ∧ l.base + l.cap ≤ cs.size ∧ o.cs.length ≤ l.cap ∧
    ∀ j c, o.cs[j]? = some c → ∃ v, cs[l.base + j]? = some v ∧ VRep m c v ∧ v.oneCell' = true
  disj : ∀ id o l id' o' l', h id = some o → m id o.ep = some l → h id' = some o' → m id' o'.ep = some l' → o.rw = true → l.b = l'.b → id = id'
  dom : ∀ id ep l, m id ep = some l → (∃ o, h id = some o ∧ ep ≤ o.ep) ∧ l.b < w.heap.size
  fl : ∀ id o, h id = some o → o.fl = true → ∀ c ∈ o.cs, c.scalar = true

mutual
/-- All objects that a value points to are below a number. -/
def bndV (n : Nat) : AV → Bool
  | .sl nl id _ _ _ _ => nl || id < n
  | .ptr id _ _ => id < n
  | .agg cs => bndL n cs
  | .tup vs => bndL n vs
  | .fn _ cap => bndL n cap
  | _ => true
def bndL (n : Nat) : List AV → Bool
  | [] => true
  | v :: r => bndV n v && bndL n r
end
theorem bndV_scalar {n : Nat} {v : AV} (h : v.scalar = true) : bndV n v = true := by
  cases v <;> simp [AV.scalar] at h <;> simp [bndV]

def Bnd (n : Nat) (m : Mp) (h : Hp) : Prop := ∀ id o l, id < n → h id = some o → m id o.ep = some l → ∀ c ∈ o.cs, bndV n c = true

/-- The streams stay. -/
def Env3 (w w' : World) : Prop := w'.os = w.os ∧ w'.tape = w.tape ∧ w'.output = w.output

/-- From one moment to a later one. -/
structure Tr (t u : Nat) (m : Mp) (h : Hp) (w : World) (m' : Mp) (h' : Hp) (w' : World) : Prop where
  ext : m.le m'
  keep : ∀ id o, h id = some o → ∃ o', h' id = some o' ∧ o'.rw = o.rw ∧ o.ep ≤ o'.ep
  same : ∀ id o, id < t → h id = some o → h' id = some o
  wsz : w.heap.size ≤ w'.heap.size
  blk : ∀ b, b < w.heap.size → (∀ id o l, t ≤ id → h id = some o → o.rw = true → m id o.ep = some l → l.b ≠ b) → w'.heap[b]? = w.heap[b]?
  new : ∀ id o' l', h' id = some o' → o'.rw = true → m' id o'.ep = some l' → w.heap.size ≤ l'.b ∨ ∃ o l, h id = some o ∧ o.rw = true ∧ m id o.ep = some l ∧ l.b = l'.b
  bnd : ∀ n, n ≤ u → Bnd n m h → Bnd n m' h'
  unm : ∀ id o, h id = some o → (∀ ep, m id ep = none) → h' id = some o ∧ ∀ ep, m' id ep = none
  env : Env3 w w'

theorem Tr.refl (t u : Nat) (m : Mp) (h : Hp) (w : World) : Tr t u m h w m h w where
  ext := Mp.le.refl m
  keep := fun id o e => ⟨o, e, rfl, Nat.le_refl _⟩
  same := fun _ _ _ e => e
  wsz := Nat.le_refl _
  blk := fun _ _ _ => rfl
  new := fun id o' l' e1 e2 e3 => .inr ⟨o', l', e1, e2, e3, rfl⟩
  bnd := fun _ _ e => e
  unm := fun _ _ e1 e2 => ⟨e1, e2⟩
  env := ⟨rfl, rfl, rfl⟩

theorem Tr.mono {t u t' u' : Nat} {m : Mp} {h : Hp} {w : World} {m' : Mp} {h' : Hp} {w' : World} (H : Tr t u m h w m' h' w') (ht : t' ≤ t) (hu : u' ≤ u) : Tr t' u' m h w m' h' w' where
  ext := H.ext
  keep := H.keep
  same := fun id o hi e => H.same id o (by omega) e
  wsz := H.wsz
  blk := fun b hb hh => H.blk b hb fun id o l hi => hh id o l (by omega)
  new := H.new
  bnd := fun n hn => H.bnd n (by omega)
  unm := H.unm
  env := H.env

theorem Tr.trans {t u : Nat} {m m' m'' : Mp} {h h' h'' : Hp} {w w' w'' : World} (H : Tr t u m h w m' h' w') (H' : Tr t u m' h' w' m'' h'' w'') : Tr t u m h w m'' h'' w'' where
  ext := H.ext.trans H'.ext
  keep := fun id o e => by
    obtain ⟨o', h1, h2, h3⟩ := H.keep id o e
    obtain ⟨o'', h4, h5, h6⟩ := H'.keep id o' h1
    exact ⟨o'', h4, h5.trans h2, by omega⟩
  same := fun id o hi e => H'.same id o hi (H.same id o hi e)
  wsz := Nat.le_trans H.wsz H'.wsz
  blk := fun b hb hh => by
    rw [H'.blk b (Nat.lt_of_lt_of_le hb H.wsz) fun id o' l' hi e1 e2 e3 => ?_, H.blk b hb hh]
    rcases H.new id o' l' e1 e2 e3 with h1 | ⟨o, l, h1, h2, h3, h4⟩
    · omega
    · rw [← h4]; exact hh id o l hi h1 h2 h3
  new := fun id o'' l'' e1 e2 e3 => by
    rcases H'.new id o'' l'' e1 e2 e3 with h1 | ⟨o', l', h1, h2, h3, h4⟩
    · exact .inl (Nat.le_trans H.wsz h1)
    · rcases H.new id o' l' h1 h2 h3 with h5 | ⟨o, l, h5, h6, h7, h8⟩
      · exact .inl (h4 ▸ h5)
      · exact .inr ⟨o, l, h5, h6, h7, h8.trans h4⟩
  bnd := fun n hn e => H'.bnd n hn (H.bnd n hn e)
  unm := fun id o e1 e2 => by
    obtain ⟨h1, h2⟩ := H.unm id o e1 e2
    exact H'.unm id o h1 h2
  env := ⟨H'.env.1.trans H.env.1, H'.env.2.1.trans H.env.2.1, H'.env.2.2.trans H.env.2.2⟩

theorem HRel.dom_lt {m : Mp} {h : List Ob} {w : World} (H : HRel m (lk h) w) {id ep : Nat} {l : Loc} (e : m id ep = some l) : id < h.length := by
  obtain ⟨⟨o, ho, _⟩, _⟩ := H.dom id ep l e
  exact (List.getElem?_eq_some_iff.1 ho).1

mutual
theorem bnd_of_vrep {m : Mp} {n : Nat} (hm : ∀ id ep l, m id ep = some l → id < n) : ∀ (a : AV) (v : Value), VRep m a v → bndV n a = true
  | .int _ _, _, e | .bool _, _, e | .str _, _, e | .flt _ _, _, e | .np, _, e | .nf, _, e | .ni, _, e | .s0 _, _, e => by simp [bndV]
  | .agg cs, v, e => by
    simp only [VRep] at e
    obtain ⟨a, h1, h2, h3⟩ := e
    simpa only [bndV] using bnd_of_vreps hm cs _ h2
  | .tup cs, v, e => by
    simp only [VRep] at e
    obtain ⟨a, h1, h2⟩ := e
    simpa only [bndV] using bnd_of_vreps hm cs _ h2
  | .sl nl id ep sz off len, v, e => by
    simp only [VRep] at e
    rcases e with ⟨e, _⟩ | ⟨e, l, h1, h2⟩
    · simp [bndV, e]
    · simp [bndV, hm _ _ _ h1]
  | .ptr id ep off, v, e => by
    simp only [VRep] at e
    obtain ⟨l, h1, h2⟩ := e
    simp [bndV, hm _ _ _ h1]
  | .fn f cap, v, e => by
    simp only [VRep] at e
    obtain ⟨a, h1, h2⟩ := e
    simpa only [bndV] using bnd_of_vreps hm cap _ h2
theorem bnd_of_vreps {m : Mp} {n : Nat} (hm : ∀ id ep l, m id ep = some l → id < n) : ∀ (as : List AV) (vs : List Value), VReps m as vs → bndL n as = true
  | [], vs, e => by simp [bndL]
  | a :: r, vs, e => by
    simp only [VReps] at e
    obtain ⟨v, l, h1, h2, h3⟩ := e
    simp [bndL, bnd_of_vrep hm a v h2, bnd_of_vreps hm r l h3]
end

theorem HRel.bnd {m : Mp} {h : List Ob} {w : World} (H : HRel m (lk h) w) : Bnd h.length m (lk h) := by
  intro id o l hi ho hl c hc
  obtain ⟨cs, t, fr, h1, h2, h3, h4, h5⟩ := H.cells id o l ho hl
  obtain ⟨j, hj, e⟩ := List.getElem_of_mem hc
  obtain ⟨v, h6, h7, h8⟩ := h5 j c (by rw [List.getElem?_eq_getElem hj, e])
  exact bnd_of_vrep (fun _ _ _ e => H.dom_lt e) c v h7
end Go.Proofs.Ytaekgifbehoipaa.Eva
