/- Steps of memory: reading a stretch of an object, making an object, writing into one, growing one; each keeps the relation. Conditions stand in each lemma. -/
import Derived.Test.YtaekgifbehoipaaEvaC
namespace Go.Proofs.Ytaekgifbehoipaa.Eva
open Go
set_option linter.unusedVariables false
set_option linter.unusedSimpArgs false

theorem rdObj_some {h : List Ob} {id ep : Nat} {o : Ob} (e : rdObj h id ep = some o) : lk h id = some o ∧ o.ep = ep := by
  unfold rdObj at e
  cases hh : h[id]? with
  | none => simp [hh] at e
  | some x =>
    simp only [hh] at e
    split at e
    · simp only [Option.some.injEq] at e; subst e; exact ⟨hh, by assumption⟩
    · cases e

theorem HRel.heap_eq {m : Mp} {h : Hp} {w w' : World} (H : HRel m h w) (e : w'.heap = w.heap) : HRel m h w' where
  cells := fun id o l h1 h2 => by rw [e]; exact H.cells id o l h1 h2
  disj := H.disj
  dom := fun id ep l h1 => by rw [e]; exact H.dom id ep l h1
  fl := H.fl
theorem Tr.heap_eq {t u : Nat} {m m' : Mp} {h h' : Hp} {w w' w'' : World} (H : Tr t u m h w m' h' w') (e : w''.heap = w'.heap) (e3 : Env3 w' w'') : Tr t u m h w m' h' w'' where
  ext := H.ext
  keep := H.keep
  same := H.same
  wsz := by rw [e]; exact H.wsz
  blk := fun b hb hh => by rw [e]; exact H.blk b hb hh
  new := H.new
  bnd := H.bnd
  unm := H.unm
  env := ⟨e3.1.trans H.env.1, e3.2.1.trans H.env.2.1, e3.2.2.trans H.env.2.2⟩

/-- A stretch of an object is read. -/
theorem HRel.range {m : Mp} {h : Hp} {w : World} (H : HRel m h w) {id : Nat} {o : Ob} {l : Loc} (ho : h id = some o) (hl : m id o.ep = some l) {off n : Nat} (hn : off + n ≤ o.cs.length) :
    ∃ vs : List Value, vs.length = n ∧ VReps m ((o.cs.drop off).take n) vs ∧ (∀ u ∈ vs, u.oneCell' = true) ∧ ∀ j v, vs[j]? = some v → w.cell? ⟨l.b, l.base + off + j, none⟩ = some v := by
  obtain ⟨cs, t, fr, h1, h2, h3, h4, h5⟩ := H.cells id o l ho hl
  have hlen : ((cs.toList.drop (l.base + off)).take n).length = n := by simp; omega
  have key : ∀ j, j < n → ∃ c v, o.cs[off + j]? = some c ∧ cs[l.base + off + j]? = some v ∧ VRep m c v ∧ v.oneCell' = true := fun j hj => by
    have hc : o.cs[off + j]? = some o.cs[off + j] := List.getElem?_eq_getElem (by omega)
    obtain ⟨v, e1, e2, e3⟩ := h5 (off + j) _ hc
    exact ⟨_, v, hc, by rw [Nat.add_assoc]; exact e1, e2, e3⟩
  refine ⟨(cs.toList.drop (l.base + off)).take n, hlen, vreps_iff.2 ⟨by simp; omega, fun i a v e1 e2 => ?_⟩, fun u hu => ?_, fun j v e => ?_⟩
  · rw [List.getElem?_take] at e1 e2
    by_cases hi : i < n
    · rw [if_pos hi] at e1 e2
      rw [List.getElem?_drop] at e1 e2
      obtain ⟨c, v', k1, k2, k3, _⟩ := key i hi
      rw [k1] at e1
      have k2' : cs.toList[l.base + off + i]? = some v' := by simpa using k2
      rw [k2'] at e2
      simp only [Option.some.injEq] at e1 e2
      subst e1; subst e2; exact k3
    · rw [if_neg hi] at e1; cases e1
  · obtain ⟨j, hj, e⟩ := List.getElem_of_mem hu
    have hj' : j < n := hlen ▸ hj
    obtain ⟨c, v', k1, k2, k3, k4⟩ := key j hj'
    have e2 : ((cs.toList.drop (l.base + off)).take n)[j]? = some v' := by
      rw [List.getElem?_take, if_pos hj', List.getElem?_drop]; simpa using k2
    rw [List.getElem?_eq_getElem hj, e] at e2
    simp only [Option.some.injEq] at e2
    subst e2; exact k4
  · have hj' : j < n := by
      have := (List.getElem?_eq_some_iff.1 e).1
      omega
    rw [List.getElem?_take, if_pos hj', List.getElem?_drop] at e
    rw [cell_of_row w l.b (l.base + off + j) cs t fr h1]
    simpa using e

def Mp.put (m : Mp) (id ep : Nat) (l : Loc) : Mp := fun i e => if i = id ∧ e = ep then some l else m i e
theorem Mp.put_same (m : Mp) (id ep : Nat) (l : Loc) : m.put id ep l id ep = some l := by simp [Mp.put]
theorem Mp.put_id (m : Mp) (id ep i e : Nat) (l : Loc) (h : i ≠ id) : m.put id ep l i e = m i e := by simp [Mp.put, h]
theorem Mp.put_ep (m : Mp) (id ep i e : Nat) (l : Loc) (h : e ≠ ep) : m.put id ep l i e = m i e := by simp [Mp.put, h]
theorem Mp.le_put {m : Mp} {id ep : Nat} {l : Loc} (h : m id ep = none) : m.le (m.put id ep l) := fun i e x hx => by
  by_cases c : i = id ∧ e = ep
  · obtain ⟨rfl, rfl⟩ := c; rw [h] at hx; cases hx
  · simp [Mp.put, c, hx]

theorem lk_lt {h : List Ob} {id : Nat} {o : Ob} (e : lk h id = some o) : id < h.length := (List.getElem?_eq_some_iff.1 e).1
theorem lk_app {h : List Ob} {o : Ob} {id : Nat} : lk (h ++ [o]) id = if id < h.length then lk h id else if id = h.length then some o else none := by
  unfold lk
  rw [List.getElem?_append]
  split
  · rfl
  · by_cases e : id = h.length
    · subst e; simp
    · have : id - h.length ≠ 0 := by omega
      simp [e, this]

/-- A new object. -/
theorem alloc_rel {m : Mp} {h : List Ob} {w w' : World} {o : Ob} {vals spare : List Value} {arr : Array Value} {ty : TypeId} (H : HRel m (lk h) w) (hen : Env3 w w')
    {fr : Nat × Nat} (hw : w'.heap = w.heap.push (.cells arr ty fr)) (hep : o.ep = 0) (hc : VReps m o.cs vals) (h1 : ∀ u ∈ vals, u.oneCell' = true) (harr : arr.toList = vals ++ spare)
    (hfl : o.fl = true → ∀ c ∈ o.cs, c.scalar = true) (t : Nat) {u : Nat} (hu : u ≤ h.length) (hfr : NoFz fr arr.size := by exact noFz0 _) :
    HRel (m.put h.length 0 ⟨w.heap.size, 0, arr.size⟩) (lk (h ++ [o])) w' ∧ Tr t u m (lk h) w (m.put h.length 0 ⟨w.heap.size, 0, arr.size⟩) (lk (h ++ [o])) w' := by
  have hn : m h.length 0 = none := by
    cases e : m h.length 0 with
    | none => rfl
    | some l => exact absurd (H.dom_lt e) (by omega)
  have hn' : ∀ ep, m h.length ep = none := fun ep => by
    cases e : m h.length ep with
    | none => rfl
    | some l => exact absurd (H.dom_lt e) (by omega)
  have hle : m.le (m.put h.length 0 ⟨w.heap.size, 0, arr.size⟩) := Mp.le_put hn
  have hsz : arr.size = vals.length + spare.length := by rw [← Array.length_toList, harr]; simp
  have hlen := VReps.length hc
  have old : ∀ b, b < w.heap.size → w'.heap[b]? = w.heap[b]? := fun b hb => by rw [hw, Array.getElem?_push]; simp [Nat.ne_of_lt hb]
  have nw : w'.heap[w.heap.size]? = some (.cells arr ty fr) := by rw [hw]; simp
  refine ⟨⟨fun id x l e1 e2 => ?_, fun id x l id' x' l' e1 e2 e3 e4 e5 e6 => ?_, fun id ep l e1 => ?_, fun id x e1 e2 => ?_⟩, ⟨hle, fun id x e1 => ?_, fun id x _ e1 => ?_, ?_, fun b hb _ => old b hb, fun id x l e1 e2 e3 => ?_, fun n hn e => ?_, fun id x e1 e2 => ?_, hen⟩⟩
  · rw [lk_app] at e1
    split at e1
    · rename_i hlt
      rw [Mp.put_id _ _ _ _ _ _ (Nat.ne_of_lt hlt)] at e2
      obtain ⟨cs, t, fr, k1, k2, k3, k4, k5⟩ := H.cells id x l e1 e2
      refine ⟨cs, t, fr, by rw [old _ (H.dom _ _ _ e2).2]; exact k1, k2, k3, k4, fun j c hj => ?_⟩
      obtain ⟨v, k6, k7, k8⟩ := k5 j c hj
      exact ⟨v, k6, VRep.mono hle _ _ k7, k8⟩
    · split at e1
      · rename_i heq
        simp only [Option.some.injEq] at e1
        subst e1; subst heq
        rw [hep, Mp.put_same] at e2
        simp only [Option.some.injEq] at e2
        subst e2
        refine ⟨arr, ty, fr, nw, fun _ => hfr, by simp, by simp; omega, fun j c hj => ?_⟩
        obtain ⟨v, k1, k2⟩ := VReps.get hc hj
        have hj' : j < vals.length := (List.getElem?_eq_some_iff.1 k1).1
        refine ⟨v, ?_, VRep.mono hle _ _ k2, h1 v (List.mem_of_getElem? k1)⟩
        rw [Nat.zero_add, ← Array.getElem?_toList, harr, List.getElem?_append_left hj']
        exact k1
      · cases e1
  · have hb : ∀ i y z, lk (h ++ [o]) i = some y → m.put h.length 0 ⟨w.heap.size, 0, arr.size⟩ i y.ep = some z → (i = h.length ∧ z.b = w.heap.size) ∨ (i < h.length ∧ lk h i = some y ∧ m i y.ep = some z ∧ z.b < w.heap.size) := fun i y z f1 f2 => by
      rw [lk_app] at f1
      split at f1
      · rename_i hlt
        rw [Mp.put_id _ _ _ _ _ _ (Nat.ne_of_lt hlt)] at f2
        exact .inr ⟨hlt, f1, f2, (H.dom _ _ _ f2).2⟩
      · split at f1
        · rename_i heq
          simp only [Option.some.injEq] at f1
          subst f1; subst heq
          rw [hep, Mp.put_same] at f2
          simp only [Option.some.injEq] at f2
          subst f2
          exact .inl ⟨rfl, rfl⟩
        · cases f1
    rcases hb id x l e1 e2 with ⟨a1, a2⟩ | ⟨a1, a2, a3, a4⟩ <;> rcases hb id' x' l' e3 e4 with ⟨b1, b2⟩ | ⟨b1, b2, b3, b4⟩
    · rw [a1, b1]
    · omega
    · omega
    · exact H.disj id x l id' x' l' a2 a3 b2 b3 e5 e6
  · by_cases c : id = h.length ∧ ep = 0
    · obtain ⟨rfl, rfl⟩ := c
      rw [Mp.put_same] at e1
      simp only [Option.some.injEq] at e1
      subst e1
      exact ⟨⟨o, by rw [lk_app]; simp, by omega⟩, by rw [hw]; simp⟩
    · have e2 : m id ep = some l := by simpa [Mp.put, c] using e1
      obtain ⟨⟨x, f1, f2⟩, f3⟩ := H.dom id ep l e2
      exact ⟨⟨x, by rw [lk_app, if_pos (lk_lt f1)]; exact f1, f2⟩, by rw [hw]; simp; omega⟩
  · rw [lk_app] at e1
    split at e1
    · exact H.fl id x e1 e2
    · split at e1
      · simp only [Option.some.injEq] at e1; subst e1; exact hfl e2
      · cases e1
  · exact ⟨x, by rw [lk_app, if_pos (lk_lt e1)]; exact e1, rfl, Nat.le_refl _⟩
  · rw [lk_app, if_pos (lk_lt e1)]; exact e1
  · rw [hw]; simp
  · rw [lk_app] at e1
    split at e1
    · rename_i hlt
      rw [Mp.put_id _ _ _ _ _ _ (Nat.ne_of_lt hlt)] at e3
      exact .inr ⟨x, l, e1, e2, e3, rfl⟩
    · split at e1
      · rename_i heq
        simp only [Option.some.injEq] at e1
        subst e1; subst heq
        rw [hep, Mp.put_same] at e3
        simp only [Option.some.injEq] at e3
        subst e3
        exact .inl (Nat.le_refl _)
      · cases e1
  · intro id x l hid e1 e2 c hc'
    have hlt : id < h.length := by omega
    rw [lk_app, if_pos hlt] at e1
    rw [Mp.put_id _ _ _ _ _ _ (Nat.ne_of_lt hlt)] at e2
    exact e id x l hid e1 e2 c hc'
  · have hlt := lk_lt e1
    exact ⟨by rw [lk_app, if_pos hlt]; exact e1, fun ep => by rw [Mp.put_id _ _ _ _ _ _ (Nat.ne_of_lt hlt)]; exact e2 ep⟩

theorem lk_set {h : List Ob} {id i : Nat} {o : Ob} (hid : id < h.length) : lk (h.set id o) i = if i = id then some o else lk h i := by
  unfold lk
  rw [List.getElem?_set]
  by_cases e : id = i
  · subst e; simp [hid]
  · have : ¬ i = id := fun h => e h.symm
    simp [e, this]

theorem env_setRow {w : World} {b : Nat} {r : Array Value} : Env3 w (w.setRow b r) := ⟨rfl, rfl, rfl⟩

/-- An object's cells change in place, its block with it. -/
theorem write_rel {m : Mp} {h : List Ob} {w w' : World} {id : Nat} {o o' : Ob} {l : Loc} {cs cs' : Array Value} {ty : TypeId} (H : HRel m (lk h) w) (hen : Env3 w w') (ho : lk h id = some o) (hl : m id o.ep = some l)
    (hrw : o.rw = true) (hrw' : o'.rw = true) (hep : o'.ep = o.ep) {fr fr' : Nat × Nat} (hb : w.heap[l.b]? = some (.cells cs ty fr))
    (hsz : w'.heap.size = w.heap.size) (hw : w'.heap[l.b]? = some (.cells cs' ty fr')) (hfr : NoFz fr' cs.size) (hoth : ∀ k, k ≠ l.b → w'.heap[k]? = w.heap[k]?) (hcs : cs'.size = cs.size) (hlen : o'.cs.length ≤ l.cap)
    (hcells : ∀ j c, o'.cs[j]? = some c → ∃ v, cs'[l.base + j]? = some v ∧ VRep m c v ∧ v.oneCell' = true) (hfl : o'.fl = true → ∀ c ∈ o'.cs, c.scalar = true)
    {t u : Nat} (ht : t ≤ id) (hu : id < u → ∀ n, id < n → n ≤ u → (∀ c ∈ o.cs, bndV n c = true) → ∀ c ∈ o'.cs, bndV n c = true) :
    HRel m (lk (h.set id o')) w' ∧ Tr t u m (lk h) w m (lk (h.set id o')) w' := by
  have hid := lk_lt ho
  refine ⟨⟨fun i x lx e1 e2 => ?_, fun i x lx i' x' lx' e1 e2 e3 e4 e5 e6 => ?_, fun i ep lx e1 => ?_, fun i x e1 e2 => ?_⟩, ⟨Mp.le.refl m, fun i x e1 => ?_, fun i x hi e1 => ?_, by omega, fun b hb' hh => ?_, fun i x lx e1 e2 e3 => ?_, fun n hn e => ?_, fun i x e1 e2 => ?_, hen⟩⟩
  · rw [lk_set hid] at e1
    split at e1
    · rename_i heq
      simp only [Option.some.injEq] at e1
      subst e1; subst heq
      rw [hep, hl] at e2
      simp only [Option.some.injEq] at e2
      subst e2
      obtain ⟨cs0, t0, fr0, k1, k2, k3, k4, k5⟩ := H.cells _ o l ho hl
      rw [hb] at k1
      simp only [Option.some.injEq, Go.Obj.cells.injEq] at k1
      obtain ⟨rfl, rfl, rfl⟩ := k1
      exact ⟨cs', ty, fr', hw, fun h => by rw [hcs]; exact hfr, by rw [hcs]; exact k3, hlen, hcells⟩
    · rename_i hne
      obtain ⟨cs0, t0, fr0, k1, k2, k3, k4, k5⟩ := H.cells i x lx e1 e2
      have hbne : lx.b ≠ l.b := fun e => hne (H.disj id o l i x lx ho hl e1 e2 hrw e.symm).symm
      exact ⟨cs0, t0, fr0, by rw [hoth _ hbne]; exact k1, k2, k3, k4, k5⟩
  · have conv : ∀ i x lx, lk (h.set id o') i = some x → m i x.ep = some lx → ∃ y, lk h i = some y ∧ m i y.ep = some lx ∧ y.rw = x.rw := fun i x lx f1 f2 => by
      rw [lk_set hid] at f1
      split at f1
      · rename_i heq
        simp only [Option.some.injEq] at f1
        subst f1; subst heq
        exact ⟨o, ho, by rw [← hep]; exact f2, by rw [hrw, hrw']⟩
      · exact ⟨x, f1, f2, rfl⟩
    obtain ⟨y, y1, y2, y3⟩ := conv i x lx e1 e2
    obtain ⟨y', y1', y2', y3'⟩ := conv i' x' lx' e3 e4
    exact H.disj i y lx i' y' lx' y1 y2 y1' y2' (y3.trans e5) e6
  · obtain ⟨⟨x, f1, f2⟩, f3⟩ := H.dom i ep lx e1
    refine ⟨?_, by omega⟩
    by_cases e : i = id
    · subst e
      rw [f1] at ho
      simp only [Option.some.injEq] at ho
      subst ho
      exact ⟨o', by rw [lk_set hid]; simp, by omega⟩
    · exact ⟨x, by rw [lk_set hid, if_neg e]; exact f1, f2⟩
  · rw [lk_set hid] at e1
    split at e1
    · simp only [Option.some.injEq] at e1; subst e1; exact hfl e2
    · exact H.fl i x e1 e2
  · by_cases e : i = id
    · subst e
      rw [e1] at ho
      simp only [Option.some.injEq] at ho
      subst ho
      exact ⟨o', by rw [lk_set hid]; simp, by rw [hrw, hrw'], by omega⟩
    · exact ⟨x, by rw [lk_set hid, if_neg e]; exact e1, rfl, Nat.le_refl _⟩
  · rw [lk_set hid, if_neg (by omega)]; exact e1
  · exact hoth b fun e => hh id o l ht ho hrw hl e.symm
  · rw [lk_set hid] at e1
    split at e1
    · rename_i heq
      simp only [Option.some.injEq] at e1
      subst e1; subst heq
      exact .inr ⟨o, lx, ho, hrw, by rw [← hep]; exact e3, rfl⟩
    · exact .inr ⟨x, lx, e1, e2, e3, rfl⟩
  · intro i x lx hi e1 e2 c hc
    rw [lk_set hid] at e1
    split at e1
    · rename_i heq
      simp only [Option.some.injEq] at e1
      subst e1; subst heq
      exact hu (by omega) n hi hn (fun c hc => e _ o l hi ho hl c hc) c hc
    · exact e i x lx hi e1 e2 c hc
  · have hne : i ≠ id := fun h => by
      subst h
      rw [e2] at hl
      cases hl
    exact ⟨by rw [lk_set hid, if_neg hne]; exact e1, e2⟩

/-- An object gets a new stretch of cells: in its own block, or in a new one. -/
theorem grow_rel {m : Mp} {h : List Ob} {w w' : World} {id : Nat} {o o' : Ob} {l l' : Loc} {cs' : Array Value} {ty : TypeId} (H : HRel m (lk h) w) (hen : Env3 w w') (ho : lk h id = some o) (hl : m id o.ep = some l)
    (hrw : o.rw = true) (hrw' : o'.rw = true) (hep : o'.ep = o.ep + 1)
    (hsz : w.heap.size ≤ w'.heap.size) (hl' : l'.b < w'.heap.size) {fr : Nat × Nat} (hw : w'.heap[l'.b]? = some (.cells cs' ty fr)) (hwhere : (l'.b = l.b) ∨ w.heap.size ≤ l'.b) (hoth : ∀ k, k < w.heap.size → k ≠ l'.b → w'.heap[k]? = w.heap[k]?)
    (hfit : l'.base + l'.cap ≤ cs'.size) (hlen : o'.cs.length ≤ l'.cap)
    (hcells : ∀ j c, o'.cs[j]? = some c → ∃ v, cs'[l'.base + j]? = some v ∧ VRep m c v ∧ v.oneCell' = true) (hfl : o'.fl = true → ∀ c ∈ o'.cs, c.scalar = true)
    {t u : Nat} (ht : t ≤ id) (hu : id < u → ∀ n, id < n → n ≤ u → (∀ c ∈ o.cs, bndV n c = true) → ∀ c ∈ o'.cs, bndV n c = true) (hfr : NoFz fr cs'.size := by exact noFz0 _) :
    HRel (m.put id (o.ep + 1) l') (lk (h.set id o')) w' ∧ Tr t u m (lk h) w (m.put id (o.ep + 1) l') (lk (h.set id o')) w' := by
  have hid := lk_lt ho
  have hnone : m id (o.ep + 1) = none := by
    cases e : m id (o.ep + 1) with
    | none => rfl
    | some lx =>
      obtain ⟨⟨x, f1, f2⟩, _⟩ := H.dom _ _ _ e
      rw [ho] at f1
      simp only [Option.some.injEq] at f1
      subst f1
      omega
  have hle : m.le (m.put id (o.ep + 1) l') := Mp.le_put hnone
  have hb := (H.dom _ _ _ hl).2
  have conv : ∀ i x lx, lk (h.set id o') i = some x → m.put id (o.ep + 1) l' i x.ep = some lx → (i = id ∧ x = o' ∧ lx = l') ∨ (i ≠ id ∧ lk h i = some x ∧ m i x.ep = some lx) := fun i x lx f1 f2 => by
    rw [lk_set hid] at f1
    split at f1
    · rename_i heq
      simp only [Option.some.injEq] at f1
      subst f1; subst heq
      rw [hep, Mp.put_same] at f2
      simp only [Option.some.injEq] at f2
      exact .inl ⟨rfl, rfl, f2.symm⟩
    · rename_i hne
      rw [Mp.put_id _ _ _ _ _ _ hne] at f2
      exact .inr ⟨hne, f1, f2⟩
  have apart : ∀ i x lx, i ≠ id → lk h i = some x → m i x.ep = some lx → lx.b ≠ l'.b := fun i x lx hne f1 f2 e => by
    have hx := (H.dom _ _ _ f2).2
    rcases hwhere with e' | e'
    · exact hne (H.disj id o l i x lx ho hl f1 f2 hrw (by rw [e, e'])).symm
    · omega
  refine ⟨⟨fun i x lx e1 e2 => ?_, fun i x lx i' x' lx' e1 e2 e3 e4 e5 e6 => ?_, fun i ep lx e1 => ?_, fun i x e1 e2 => ?_⟩, ⟨hle, fun i x e1 => ?_, fun i x hi e1 => ?_, hsz, fun b hb' hh => ?_, fun i x lx e1 e2 e3 => ?_, fun n hn e => ?_, fun i x e1 e2 => ?_, hen⟩⟩
  · rcases conv i x lx e1 e2 with ⟨rfl, rfl, rfl⟩ | ⟨hne, f1, f2⟩
    · refine ⟨cs', ty, fr, hw, fun _ => hfr, hfit, hlen, fun j c hj => ?_⟩
      obtain ⟨v, k1, k2, k3⟩ := hcells j c hj
      exact ⟨v, k1, VRep.mono hle _ _ k2, k3⟩
    · obtain ⟨cs0, t0, fr0, k1, k2, k3, k4, k5⟩ := H.cells i x lx f1 f2
      refine ⟨cs0, t0, fr0, by rw [hoth _ (H.dom _ _ _ f2).2 (apart i x lx hne f1 f2)]; exact k1, k2, k3, k4, fun j c hj => ?_⟩
      obtain ⟨v, k6, k7, k8⟩ := k5 j c hj
      exact ⟨v, k6, VRep.mono hle _ _ k7, k8⟩
  · rcases conv i x lx e1 e2 with ⟨rfl, rfl, rfl⟩ | ⟨hne, f1, f2⟩ <;> rcases conv i' x' lx' e3 e4 with ⟨rfl, rfl, rfl⟩ | ⟨hne', f1', f2'⟩
    · rfl
    · exact absurd e6.symm (apart _ _ _ hne' f1' f2')
    · exact absurd e6 (apart _ _ _ hne f1 f2)
    · exact H.disj i x lx i' x' lx' f1 f2 f1' f2' e5 e6
  · by_cases c : i = id ∧ ep = o.ep + 1
    · obtain ⟨rfl, rfl⟩ := c
      rw [Mp.put_same] at e1
      simp only [Option.some.injEq] at e1
      subst e1
      exact ⟨⟨o', by rw [lk_set hid]; simp, by omega⟩, hl'⟩
    · have e2 : m i ep = some lx := by simpa [Mp.put, c] using e1
      obtain ⟨⟨x, f1, f2⟩, f3⟩ := H.dom i ep lx e2
      refine ⟨?_, by omega⟩
      by_cases e : i = id
      · subst e
        rw [f1] at ho
        simp only [Option.some.injEq] at ho
        subst ho
        exact ⟨o', by rw [lk_set hid]; simp, by omega⟩
      · exact ⟨x, by rw [lk_set hid, if_neg e]; exact f1, f2⟩
  · rw [lk_set hid] at e1
    split at e1
    · simp only [Option.some.injEq] at e1; subst e1; exact hfl e2
    · exact H.fl i x e1 e2
  · by_cases e : i = id
    · subst e
      rw [e1] at ho
      simp only [Option.some.injEq] at ho
      subst ho
      exact ⟨o', by rw [lk_set hid]; simp, by rw [hrw, hrw'], by omega⟩
    · exact ⟨x, by rw [lk_set hid, if_neg e]; exact e1, rfl, Nat.le_refl _⟩
  · rw [lk_set hid, if_neg (by omega)]; exact e1
  · refine hoth b hb' fun e => ?_
    rcases hwhere with e' | e'
    · exact hh id o l ht ho hrw hl (by rw [← e', e])
    · omega
  · rcases conv i x lx e1 e3 with ⟨rfl, rfl, rfl⟩ | ⟨hne, f1, f2⟩
    · rcases hwhere with e' | e'
      · exact .inr ⟨o, l, ho, hrw, hl, e'.symm⟩
      · exact .inl e'
    · exact .inr ⟨x, lx, f1, e2, f2, rfl⟩
  · intro i x lx hi e1 e2 c hc
    rcases conv i x lx e1 e2 with ⟨rfl, rfl, rfl⟩ | ⟨hne, f1, f2⟩
    · exact hu (by omega) n hi hn (fun c hc => e _ o l hi ho hl c hc) c hc
    · exact e i x lx hi f1 f2 c hc
  · have hne : i ≠ id := fun h => by
      subst h
      rw [e2] at hl
      cases hl
    exact ⟨by rw [lk_set hid, if_neg hne]; exact e1, fun ep => by rw [Mp.put_id _ _ _ _ _ _ hne]; exact e2 ep⟩
end Go.Proofs.Ytaekgifbehoipaa.Eva
