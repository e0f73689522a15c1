/- A region whose order is drawn: every order answers as the drawn one. Conditions stand in each lemma. -/
import Derived.Test.YtaekgifbehoipaaEvaM
namespace Go.Proofs.Ytaekgifbehoipaa.Eva
open Go
set_option linter.unusedVariables false
set_option linter.unusedSimpArgs false

/-- An object that nothing stands for yet is added. -/
theorem ext_unm {m : Mp} {h : List Ob} {w : World} {ob : Ob} (H : HRel m (lk h) w) (hfl : ob.fl = true → ∀ c ∈ ob.cs, c.scalar = true) : HRel m (lk (h ++ [ob])) w := by
  have back : ∀ id o l, lk (h ++ [ob]) id = some o → m id o.ep = some l → lk h id = some o := fun id o l e1 e2 => by
    rw [lk_app, if_pos (H.dom_lt e2)] at e1; exact e1
  refine ⟨fun id o l e1 e2 => H.cells id o l (back id o l e1 e2) e2, fun id o l id' o' l' e1 e2 e3 e4 => H.disj id o l id' o' l' (back _ _ _ e1 e2) e2 (back _ _ _ e3 e4) e4, fun id ep l e1 => ?_, fun id o e1 e2 => ?_⟩
  · obtain ⟨⟨o, f1, f2⟩, f3⟩ := H.dom id ep l e1
    exact ⟨⟨o, by rw [lk_app, if_pos (lk_lt f1)]; exact f1, f2⟩, f3⟩
  · rw [lk_app] at e1
    split at e1
    · exact H.fl id o e1 e2
    · split at e1
      · simp only [Option.some.injEq] at e1; subst e1; exact hfl e2
      · cases e1
theorem tr_unm {t u : Nat} {m0 m : Mp} {h0 h : List Ob} {w0 w : World} {ob : Ob} (H : HRel m (lk h) w) (T : Tr t u m0 (lk h0) w0 m (lk h) w) : Tr t u m0 (lk h0) w0 m (lk (h ++ [ob])) w := by
  have back : ∀ id o l, lk (h ++ [ob]) id = some o → m id o.ep = some l → lk h id = some o := fun id o l e1 e2 => by
    rw [lk_app, if_pos (H.dom_lt e2)] at e1; exact e1
  have fwd : ∀ id o, lk h id = some o → lk (h ++ [ob]) id = some o := fun id o e => by rw [lk_app, if_pos (lk_lt e)]; exact e
  refine ⟨T.ext, fun id o e => ?_, fun id o hi e => fwd _ _ (T.same id o hi e), T.wsz, T.blk, fun id o l e1 e2 e3 => T.new id o l (back _ _ _ e1 e3) e2 e3, fun n hn e => ?_, fun id o e1 e2 => ?_, T.env⟩
  · obtain ⟨o', f1, f2⟩ := T.keep id o e
    exact ⟨o', fwd _ _ f1, f2⟩
  · intro id o l hid e1 e2
    exact T.bnd n hn e id o l hid (back _ _ _ e1 e2) e2
  · obtain ⟨f1, f2⟩ := T.unm id o e1 e2
    exact ⟨fwd _ _ f1, f2⟩

/-- An object that was waiting gets its block. -/
theorem alloc_pending {t u : Nat} {m0 m : Mp} {h0 h : List Ob} {w0 w w' : World} {o : Ob} {id : Nat} {vals spare : List Value} {arr : Array Value} {ty : TypeId} (H : HRel m (lk h) w) (T : Tr t u m0 (lk h0) w0 m (lk h) w)
    (hid : lk h id = some o) (hun : ∀ ep, m id ep = none) (hge : h0.length ≤ id) (hu : u ≤ h0.length) (hen : Env3 w w')
    (hw : w'.heap = w.heap.push (.cells arr ty (0, 0))) (hep : o.ep = 0) (hc : VReps m o.cs vals) (h1 : ∀ u ∈ vals, u.oneCell' = true) (harr : arr.toList = vals ++ spare) :
    HRel (m.put id 0 ⟨w.heap.size, 0, arr.size⟩) (lk h) w' ∧ Tr t u m0 (lk h0) w0 (m.put id 0 ⟨w.heap.size, 0, arr.size⟩) (lk h) w' := by
  have hle : m.le (m.put id 0 ⟨w.heap.size, 0, arr.size⟩) := Mp.le_put (hun 0)
  have hsz : arr.size = vals.length + spare.length := by rw [← Array.length_toList, harr]; simp
  have hlen := VReps.length hc
  have old : ∀ b, b < w.heap.size → w'.heap[b]? = w.heap[b]? := fun b hb => by rw [hw, Array.getElem?_push]; simp [Nat.ne_of_lt hb]
  have nw : w'.heap[w.heap.size]? = some (.cells arr ty (0, 0)) := by rw [hw]; simp
  have two : ∀ i y z, lk h i = some y → m.put id 0 ⟨w.heap.size, 0, arr.size⟩ i y.ep = some z → (i = id ∧ y = o ∧ z = ⟨w.heap.size, 0, arr.size⟩) ∨ (i ≠ id ∧ m i y.ep = some z ∧ z.b < w.heap.size) := fun i y z f1 f2 => by
    by_cases e : i = id
    · subst e
      rw [hid] at f1
      simp only [Option.some.injEq] at f1
      subst f1
      rw [hep, Mp.put_same] at f2
      simp only [Option.some.injEq] at f2
      exact .inl ⟨rfl, rfl, f2.symm⟩
    · rw [Mp.put_id _ _ _ _ _ _ e] at f2
      exact .inr ⟨e, f2, (H.dom _ _ _ f2).2⟩
  refine ⟨⟨fun i x l e1 e2 => ?_, fun i x l i' x' l' e1 e2 e3 e4 e5 e6 => ?_, fun i ep l e1 => ?_, H.fl⟩, ⟨T.ext.trans hle, T.keep, T.same, ?_, fun b hb hh => ?_, fun i x l e1 e2 e3 => ?_, fun n hn e => ?_, fun i x e1 e2 => ?_, ⟨hen.1.trans T.env.1, hen.2.1.trans T.env.2.1, hen.2.2.trans T.env.2.2⟩⟩⟩
  · rcases two i x l e1 e2 with ⟨rfl, rfl, rfl⟩ | ⟨e, f1, f2⟩
    · refine ⟨arr, ty, (0, 0), nw, fun _ => noFz0 _, by simp, by simp; omega, fun j c hj => ?_⟩
      obtain ⟨v, k1, k2⟩ := VReps.get hc hj
      have hj' : j < vals.length := (List.getElem?_eq_some_iff.1 k1).1
      refine ⟨v, ?_, VRep.mono hle _ _ k2, h1 v (List.mem_of_getElem? k1)⟩
      rw [Nat.zero_add, ← Array.getElem?_toList, harr, List.getElem?_append_left hj']
      exact k1
    · obtain ⟨cs, t, fr, k1, k2, k3, k4, k5⟩ := H.cells i x l e1 f1
      refine ⟨cs, t, fr, by rw [old _ f2]; exact k1, k2, k3, k4, fun j c hj => ?_⟩
      obtain ⟨v, k6, k7, k8⟩ := k5 j c hj
      exact ⟨v, k6, VRep.mono hle _ _ k7, k8⟩
  · rcases two i x l e1 e2 with ⟨rfl, rfl, rfl⟩ | ⟨e, f1, f2⟩ <;> rcases two i' x' l' e3 e4 with ⟨rfl, rfl, rfl⟩ | ⟨e', f1', f2'⟩
    · rfl
    · simp only at e6; omega
    · simp only at e6; omega
    · exact H.disj i x l i' x' l' e1 f1 e3 f1' e5 e6
  · by_cases c : i = id ∧ ep = 0
    · obtain ⟨rfl, rfl⟩ := c
      rw [Mp.put_same] at e1
      simp only [Option.some.injEq] at e1
      subst e1
      exact ⟨⟨o, hid, by omega⟩, by rw [hw]; simp⟩
    · have e2 : m i ep = some l := by simpa [Mp.put, c] using e1
      obtain ⟨f1, f3⟩ := H.dom i ep l e2
      exact ⟨f1, by rw [hw]; simp; omega⟩
  · have := T.wsz; rw [hw]; simp; omega
  · rw [old b (Nat.lt_of_lt_of_le hb T.wsz)]; exact T.blk b hb hh
  · rcases two i x l e1 e3 with ⟨rfl, rfl, rfl⟩ | ⟨e, f1, f2⟩
    · exact .inl T.wsz
    · exact T.new i x l e1 e2 f1
  · intro i x l hi e1 e2
    have hne : i ≠ id := by omega
    rw [Mp.put_id _ _ _ _ _ _ hne] at e2
    exact T.bnd n hn e i x l hi e1 e2
  · obtain ⟨f1, f2⟩ := T.unm i x e1 e2
    have hne : i ≠ id := by have := lk_lt e1; omega
    exact ⟨f1, fun ep => by rw [Mp.put_id _ _ _ _ _ _ hne]; exact f2 ep⟩

structure Drawn (P : Program) (ops : Array Oper) (call : CallF) (n : Nat) (pos : Nat → Nat) (ins : Nat → Ins) (σ : Nat → St) (An : Nat → Nat → Prop) : Prop where
  run : ∀ k, k < n → aIns call (ins k) (σ k) = some (σ (k + 1))
  st : ∀ k, k < n → ∃ o, ops[pos k]? = some o ∧ Stands P ops o (ins k)
  surj : ∀ i, i < ops.size → ∃ k, k < n ∧ pos k = i
  inj : ∀ j k, j < n → k < n → pos j = pos k → j = k
  dir : ∀ k, k < n → ∀ x ∈ direct ops (pos k), ∃ q, q < k ∧ pos q = x
  anc : ∀ C : Nat → Prop, (∀ i, C i → ∀ x ∈ direct ops i, C x) → ∀ p q, p < n → (∀ x ∈ direct ops (pos p), C x) → An p q → C (pos q)
  loud : ∀ p q, p < n → q < p → (ins q).op.loud = true → An p q
  own : ∀ p q t, p < n → q < n → p ≠ q → (ins q).dst = some t → (ins p).dst ≠ some t
  tmp : ∀ p q t, p < n → q < n → p ≠ q → (ins q).dst = some t → t ∈ tmpsOf (ins p) → An p q ∨ (An q p ∧ (ins p).op.reads ≠ some (.t t))
  selfr : ∀ p t, p < n → (ins p).dst = some t → (ins p).op.reads ≠ some (.t t)
  av : ∀ p k y, p < k → k < n → ¬ An k p → (ins k).op.loud = true → (ins p).op.reads = some y → if (ins k).op.isC then (ins k).q = true else y ∈ (ins k).av

theorem reads_opds {i : I} {y : Opd} (h : i.reads = some y) : y ∈ i.opds := by
  cases i <;> simp [I.reads] at h <;> subst h <;> simp [I.opds]

section
variable {P : Program} {ops : Array Oper} {call : CallF} {n : Nat} {pos : Nat → Nat} {ins : Nat → Ins} {σ : Nat → St} {An : Nat → Nat → Prop} (D : Drawn P ops call n pos ins σ An)
include D

theorem Drawn.lt {p q : Nat} (hp : p < n) (hq : q < n) (h : An p q) : q < p := by
  obtain ⟨r, h1, h2⟩ := D.anc (fun x => ∃ q, q < p ∧ pos q = x) (fun i hi x hx => by
    obtain ⟨q, hq, rfl⟩ := hi
    obtain ⟨r, h1, h2⟩ := D.dir q (by omega) x hx
    exact ⟨r, by omega, h2⟩) p q hp (D.dir p hp) h
  have := D.inj r q (by omega) hq h2
  omega

theorem Drawn.slen : ∀ k, k ≤ n → (σ k).ts.length = (σ 0).ts.length := by
  intro k
  induction k with
  | zero => intro _; rfl
  | succ k ih =>
    intro h
    obtain ⟨v, h1, _⟩ := aIns_cases (D.run k (by omega))
    rw [h1, ← ih (by omega)]
    unfold putT
    split <;> simp

theorem Drawn.slot {t p q : Nat} (hpq : p ≤ q) (hq : q ≤ n) (h : ∀ j, p ≤ j → j < q → (ins j).dst ≠ some t) : (σ q).ts.getD t und = (σ p).ts.getD t und := by
  induction q with
  | zero => rw [show p = 0 by omega]
  | succ q ih =>
    by_cases e : p = q + 1
    · rw [e]
    · rw [← ih (by omega) (by omega) fun j h1 h2 => h j h1 (by omega)]
      obtain ⟨v, h1, _⟩ := aIns_cases (D.run q (by omega))
      have hd := h q (by omega) (by omega)
      rw [h1]
      unfold putT
      split
      · rename_i d hd'
        have : d ≠ t := fun hh => hd (by rw [hd', hh])
        simp [List.getD_eq_getElem?_getD, List.getElem?_set_ne this]
      · rfl

/-- A quiet step, or one that makes an object. -/
theorem Drawn.still {k : Nat} (hk : k < n) (hl : (ins k).op.loud = false) : (σ (k + 1)).wl = (σ k).wl ∧ (σ (k + 1)).wa = (σ k).wa ∧
    ((σ (k + 1)).h = (σ k).h ∨ ((ins k).op.isN = true ∧ ∃ ob, (σ (k + 1)).h = (σ k).h ++ [ob] ∧ ob.ep = 0 ∧ (ob.fl = true → ∀ c ∈ ob.cs, c.scalar = true))) := by
  obtain ⟨v, _, ⟨_, _, h1, h2, h3⟩ | ⟨_, _, _, h1⟩ | ⟨_, h1⟩⟩ := aIns_cases (D.run k hk)
  · exact ⟨h2, h3, .inl h1⟩
  · by_cases hN : (ins k).op.isN = true
    · obtain ⟨ob, e, e1, e2⟩ := aop_N hN h1
      simp only [newObj, Mem.mk.injEq] at e
      exact ⟨e.2.1, e.2.2, .inr ⟨hN, ob, e.1, e1, e2⟩⟩
    · have e := aop_quiet hl (by simpa using hN) h1
      simp only [Mem.mk.injEq] at e
      exact ⟨e.2.1, e.2.2, .inl e.1⟩
  · exfalso
    cases hc : (ins k).op <;> simp [hc, I.isC] at h1
    simp [hc, I.loud] at hl

structure Inv (m0 : Mp) (h0 : List Ob) (w0 : World) (n : Nat) (ins : Nat → Ins) (σ : Nat → St) (S : Nat → Bool) (k : Nat) (m : Mp) (ts : List AV) (a : Act) (w : World) : Prop where
  kn : k ≤ n
  pre : ∀ j, j < k → (ins j).op.loud = true → S j = true
  post : ∀ j, k ≤ j → j < n → S j = false
  len : ts.length = (σ 0).ts.length
  done : ∀ t q, q < n → (ins q).dst = some t → S q = true → ts.getD t und = (σ n).ts.getD t und
  todo : ∀ t, (∀ q, q < n → (ins q).dst = some t → S q = false) → ts.getD t und = (σ 0).ts.getD t und
  ht : TRep m ts a
  hd : a.defers = []
  H : HRel m (lk (σ k).h) w
  T : Tr (σ k).wl (σ k).wa m0 (lk h0) w0 m (lk (σ k).h) w
  e1 : (σ k).wl ≤ h0.length
  e2 : (σ k).wa ≤ h0.length
  e3 : h0.length ≤ (σ 0).h.length
  W : ∀ p q, p ≤ q → q ≤ k → (σ p).h.length ≤ (σ q).h.length
  U : ∀ p ob, p < k → S p = false → (ins p).op.isN = true → lk (σ (p + 1)).h (σ p).h.length = some ob → (∀ ep, m (σ p).h.length ep = none) ∧ lk (σ k).h (σ p).h.length = some ob
  V : ∀ p y id ep off ob, p < k → S p = false → (ins p).op.reads = some y → evO (σ p).ts y = .ptr id ep off → lk (σ p).h id = some ob → lk (σ k).h id = some ob

variable {m0 : Mp} {h0 : List Ob} {w0 : World} {S : Nat → Bool}

theorem Drawn.adv1 {k : Nat} {m : Mp} {ts : List AV} {a : Act} {w : World} (I : Inv m0 h0 w0 n ins σ S k m ts a w) (hk : k < n) (hl : (ins k).op.loud = false) : Inv m0 h0 w0 n ins σ S (k + 1) m ts a w := by
  obtain ⟨s1, s2, s3⟩ := D.still hk hl
  have fwd : ∀ id ob, lk (σ k).h id = some ob → lk (σ (k + 1)).h id = some ob := fun id ob e => by
    rcases s3 with s3 | ⟨_, o, s3, _⟩
    · rw [s3]; exact e
    · rw [s3, lk_app, if_pos (lk_lt e)]; exact e
  have hlen : (σ k).h.length ≤ (σ (k + 1)).h.length := by
    rcases s3 with s3 | ⟨_, o, s3, _⟩
    · rw [s3]; exact Nat.le_refl _
    · rw [s3]; simp
  refine { kn := hk, pre := fun j hj hlj => ?_, post := fun j hj => I.post j (by omega), len := I.len, done := I.done, todo := I.todo, ht := I.ht, hd := I.hd, H := ?_, T := ?_, e1 := by rw [s1]; exact I.e1, e2 := by rw [s2]; exact I.e2, e3 := I.e3, W := fun p q hpq hq => ?_, U := fun p ob hp hS hN e => ?_, V := fun p y id ep off ob hp hS hr hy e => ?_ }
  · by_cases e : j = k
    · subst e; rw [hl] at hlj; cases hlj
    · exact I.pre j (by omega) hlj
  · rcases s3 with s3 | ⟨_, o, s3, _, s4⟩
    · rw [s3]; exact I.H
    · rw [s3]; exact ext_unm I.H s4
  · rw [s1, s2]
    rcases s3 with s3 | ⟨_, o, s3, _, s4⟩
    · rw [s3]; exact I.T
    · rw [s3]; exact tr_unm I.H I.T
  · by_cases e : q = k + 1
    · subst e
      by_cases e' : p = k + 1
      · rw [e']; exact Nat.le_refl _
      · exact Nat.le_trans (I.W p k (by omega) (Nat.le_refl _)) hlen
    · exact I.W p q hpq (by omega)
  · by_cases e' : p = k
    · subst e'
      refine ⟨fun ep => ?_, e⟩
      cases hm : m (σ p).h.length ep with
      | none => rfl
      | some l => exact absurd (I.H.dom_lt hm) (by omega)
    · obtain ⟨f1, f2⟩ := I.U p ob (by omega) hS hN e
      exact ⟨f1, fwd _ _ f2⟩
  · by_cases e' : p = k
    · subst e'; exact fwd _ _ e
    · exact fwd _ _ (I.V p y id ep off ob (by omega) hS hr hy e)

theorem Drawn.adv {k p : Nat} {m : Mp} {ts : List AV} {a : Act} {w : World} (I : Inv m0 h0 w0 n ins σ S k m ts a w) (hkp : k ≤ p) (hp : p ≤ n) (hl : ∀ j, k ≤ j → j < p → (ins j).op.loud = false) : Inv m0 h0 w0 n ins σ S p m ts a w := by
  induction p with
  | zero => rw [show k = 0 by omega] at I; exact I
  | succ p ih =>
    by_cases e : k = p + 1
    · rw [← e]; exact I
    · exact D.adv1 (ih (by omega) (by omega) fun j h1 h2 => hl j h1 (by omega)) (by omega) (hl p (by omega) (by omega))

/-- What a ready operation names is what it names in the drawn order. -/
theorem Drawn.agree {k p : Nat} {m : Mp} {ts : List AV} {a : Act} {w : World} (I : Inv m0 h0 w0 n ins σ S k m ts a w) (hp : p < n) (hun : S p = false)
    (cl : ∀ p q, p < n → q < n → S p = true → An p q → S q = true) (hanc : ∀ q, q < n → An p q → S q = true) : ∀ t ∈ tmpsOf (ins p), ts.getD t und = (σ p).ts.getD t und := by
  intro t ht
  by_cases hw : ∃ q, q < n ∧ (ins q).dst = some t
  · obtain ⟨q, hq, hd⟩ := hw
    have uniq : ∀ j, j < n → (ins j).dst = some t → j = q := fun j hj hjd => Classical.byContradiction fun hne => D.own j q t hj hq hne hd hjd
    by_cases hS : S q = true
    · -- written
      have hne : p ≠ q := fun e => by subst e; rw [hun] at hS; cases hS
      have hlt : q < p := by
        rcases D.tmp p q t hp hq hne hd ht with h | ⟨h, _⟩
        · exact D.lt hp hq h
        · have := cl q p hq hp hS h
          rw [hun] at this; cases this
      rw [I.done t q hq hd hS]
      exact D.slot (by omega) (Nat.le_refl _) fun j h1 h2 hj => by have := uniq j h2 hj; omega
    · have hS' : S q = false := by simpa using hS
      have hle : p ≤ q := by
        by_cases hne : p = q
        · omega
        · rcases D.tmp p q t hp hq hne hd ht with h | ⟨h, _⟩
          · have := hanc q hq h
            rw [hS'] at this; cases this
          · exact Nat.le_of_lt (D.lt hq hp h)
      rw [I.todo t fun j hj hjd => by rw [uniq j hj hjd]; exact hS']
      exact (D.slot (Nat.zero_le _) (Nat.le_of_lt hp) fun j h1 h2 hj => by have := uniq j (by omega) hj; omega).symm
  · rw [I.todo t fun q hq hd => absurd ⟨q, hq, hd⟩ hw]
    exact (D.slot (Nat.zero_le _) (Nat.le_of_lt hp) fun j h1 h2 hj => hw ⟨j, by omega, hj⟩).symm

theorem Drawn.addr {p k : Nat} (hpk : p ≤ k) (hk : k ≤ n) (hp : p < n) {y : Opd} (hr : (ins p).op.reads = some y) : evO (σ k).ts y = evO (σ p).ts y := by
  cases y with
  | k v => rfl
  | t t =>
    refine D.slot hpk hk fun j h1 h2 hj => ?_
    by_cases e : j = p
    · subst e; exact D.selfr j t hp hj hr
    · have ht : t ∈ tmpsOf (ins p) := List.mem_append_left _ (List.mem_filterMap.2 ⟨_, reads_opds hr, rfl⟩)
      rcases D.tmp p j t hp (by omega) (Ne.symm e) hj ht with h | ⟨_, h⟩
      · have := D.lt hp (by omega) h; omega
      · exact h hr

omit D in
theorem getD_putT {ts : List AV} {d : Option Nat} {v : AV} {t : Nat} (h : d ≠ some t) : (putT ts d v).getD t und = ts.getD t und := by
  unfold putT
  split
  · rename_i e
    have : e ≠ t := fun hh => h (by rw [hh])
    simp [List.getD_eq_getElem?_getD, List.getElem?_set_ne this]
  · rfl
omit D in
theorem getD_putT_same {ts ts' : List AV} {v : AV} {t : Nat} (h : ts.length = ts'.length) : (putT ts (some t) v).getD t und = (putT ts' (some t) v).getD t und := by
  simp only [putT, List.getD_eq_getElem?_getD, List.getElem?_set_self', h]
  by_cases e : t < ts'.length
  · rw [List.getElem?_eq_getElem e, List.getElem?_eq_getElem (h ▸ e)]; rfl
  · rw [List.getElem?_eq_none (by omega), List.getElem?_eq_none (by omega)]

omit D in
theorem len_putT {ts : List AV} {d : Option Nat} {v : AV} : (putT ts d v).length = ts.length := by
  unfold putT; split <;> simp

/-- The slots after a step. -/
theorem Drawn.slots {S' : Nat → Bool} {k p : Nat} {m : Mp} {ts : List AV} {a : Act} {w : World} (I : Inv m0 h0 w0 n ins σ S k m ts a w) (hp : p < n) (hS' : ∀ q, q < n → (S' q = true ↔ S q = true ∨ q = p)) {v : AV} (hv : (σ (p + 1)).ts = putT (σ p).ts (ins p).dst v) :
    (putT ts (ins p).dst v).length = (σ 0).ts.length ∧ (∀ t q, q < n → (ins q).dst = some t → S' q = true → (putT ts (ins p).dst v).getD t und = (σ n).ts.getD t und) ∧
    ∀ t, (∀ q, q < n → (ins q).dst = some t → S' q = false) → (putT ts (ins p).dst v).getD t und = (σ 0).ts.getD t und := by
  refine ⟨by rw [len_putT]; exact I.len, fun t q hq hd hSq => ?_, fun t ht => ?_⟩
  · by_cases e : q = p
    · subst e
      rw [D.slot (p := q + 1) (q := n) (t := t) hp (Nat.le_refl _) fun j h1 h2 hj => D.own q j t hq h2 (by omega) hj hd, hv, hd]
      exact getD_putT_same (by rw [I.len, D.slen q (by omega)])
    · rw [getD_putT (D.own p q t hp hq (Ne.symm e) hd)]
      exact I.done t q hq hd (((hS' q hq).1 hSq).resolve_right e)
  · have hne : (ins p).dst ≠ some t := fun h => by
      have h1 := ht p hp h
      have h2 := (hS' p hp).2 (.inr rfl)
      rw [h1] at h2; cases h2
    rw [getD_putT hne]
    refine I.todo t fun q hq hd => ?_
    cases hs : S q with
    | false => rfl
    | true =>
      have h1 := ht q hq hd
      rw [(hS' q hq).2 (.inl hs)] at h1; cases h1

/-- One step of some order. -/
theorem Drawn.step (hS : Sound P call) {S' : Nat → Bool} {k p : Nat} {m : Mp} {ts : List AV} {a : Act} {w : World} (J : Inv m0 h0 w0 n ins σ S k m ts a w) (hp : p < n) (hun : S p = false)
    (cl : ∀ p q, p < n → q < n → S p = true → An p q → S q = true) (hanc : ∀ q, q < n → An p q → S q = true) (hS' : ∀ q, q < n → (S' q = true ↔ S q = true ∨ q = p))
    {o : Oper} (ho : Stands P ops o (ins p)) {K : Act → World → Prop} {Q : Exit → Act → World → Prop}
    (hK : ∀ k' m' ts' a' w', Inv m0 h0 w0 n ins σ S' k' m' ts' a' w' → K a' w') : if Region.wanted o (yielded ops a.tmps) then o.wp P a w K Q else K (a.put o.dst undef) w := by
  have hag := D.agree J hp hun cl hanc
  have hun' : ∀ q, q < n → S' q = false → S q = false ∧ q ≠ p := fun q hq h => by
    constructor
    · cases hs : S q with
      | false => rfl
      | true => rw [(hS' q hq).2 (.inl hs)] at h; cases h
    · rintro rfl; rw [(hS' q hq).2 (.inr rfl)] at h; cases h
  by_cases hkp : k ≤ p
  · -- at the front
    have J' := D.adv J hkp (Nat.le_of_lt hp) fun j h1 h2 => by
      cases hl : (ins j).op.loud with
      | false => rfl
      | true =>
        have h3 := hanc j (by omega) (D.loud p j hp h2 hl)
        rw [J.post j h1 (by omega)] at h3; cases h3
    obtain ⟨v, hv, he⟩ := aIns_congr (D.run p hp) hag
    obtain ⟨l1, l2, l3⟩ := D.slots J hp hS' hv
    refine ins_step (c := { ins p with av := [] }) hS ⟨ho.dst, ho.op, ho.g⟩ he J'.ht J'.hd J'.H (Nat.le_trans J'.e1 (Nat.le_trans J'.e3 (J'.W 0 p (Nat.zero_le _) (Nat.le_refl _)))) (Nat.le_trans J'.e2 (Nat.le_trans J'.e3 (J'.W 0 p (Nat.zero_le _) (Nat.le_refl _)))) fun a' w' m' ht' hd' H' T' f1 f2 f3 f4 => ?_
    refine hK (p + 1) m' _ a' w' { kn := hp, pre := fun j hj hl => ?_, post := fun j h1 h2 => ?_, len := l1, done := l2, todo := l3, ht := ht', hd := hd', H := H', T := (J'.T.mono f1 f2).trans T', e1 := Nat.le_trans f1 J'.e1, e2 := Nat.le_trans f2 J'.e2, e3 := J'.e3, W := fun i j hij hj => ?_, U := fun q ob hq hSq hN e => ?_, V := fun q y id ep off ob hq hSq hr hy e => ?_ }
    · by_cases e : j = p
      · exact (hS' j (by omega)).2 (.inr e)
      · exact (hS' j (by omega)).2 (.inl (J'.pre j (by omega) hl))
    · cases hs : S' j with
      | false => rfl
      | true =>
        rcases (hS' j h2).1 hs with h3 | h3
        · rw [J'.post j (by omega) h2] at h3; cases h3
        · omega
    · by_cases e : j = p + 1
      · subst e
        by_cases e' : i = p + 1
        · rw [e']; exact Nat.le_refl _
        · exact Nat.le_trans (J'.W i p (by omega) (Nat.le_refl _)) f3
      · exact J'.W i j hij (by omega)
    · obtain ⟨g1, g2⟩ := hun' q (by omega) hSq
      obtain ⟨u1, u2⟩ := J'.U q ob (by omega) g1 hN e
      obtain ⟨x1, x2⟩ := T'.unm _ _ u2 u1
      exact ⟨x2, x1⟩
    · obtain ⟨g1, g2⟩ := hun' q (by omega) hSq
      have hqp : q < p := by omega
      have e0 := J'.V q y id ep off ob hqp g1 hr hy e
      by_cases hl : (ins p).op.loud = true
      · have hnan : ¬ An p q := fun h => by have := hanc q (by omega) h; rw [g1] at this; cases this
        have hav := D.av q p y hqp hp hnan hl hr
        by_cases hc : (ins p).op.isC = true
        · rw [if_pos hc] at hav
          exact f4 hav hc id ob e0
        · rw [if_neg hc] at hav
          obtain ⟨v', _, ⟨_, _, h1, _⟩ | ⟨_, _, h1, h2⟩ | ⟨_, h1⟩⟩ := aIns_cases (D.run p hp)
          · rw [h1]; exact e0
          · refine aop_avoid (fun ht => ?_) h2 e0
            simp only [avoids, ht, List.all_eq_true] at h1
            have := h1 y hav
            rw [D.addr (Nat.le_of_lt hqp) (Nat.le_of_lt hp) (by omega) hr, hy] at this
            simp at this
          · exact absurd h1 hc
      · obtain ⟨_, _, s3⟩ := D.still hp (by simpa using hl)
        rcases s3 with s3 | ⟨_, o, s3, _⟩
        · rw [s3]; exact e0
        · rw [s3, lk_app, if_pos (lk_lt e0)]; exact e0
  · -- a quiet one, left behind
    have hpk : p < k := by omega
    have hl : (ins p).op.loud = false := by
      cases h : (ins p).op.loud with
      | false => rfl
      | true => have := J.pre p hpk h; rw [hun] at this; cases this
    obtain ⟨v, hv, hcase⟩ := aIns_cases (D.run p hp)
    obtain ⟨l1, l2, l3⟩ := D.slots J hp hS' hv
    have hdp : ∀ (d : Option Tmp) v, (a.put d v).defers = [] := fun d v => by cases d <;> exact J.hd
    have hpost : ∀ j, k ≤ j → j < n → S' j = false := fun j h1 h2 => by
      cases hs : S' j with
      | false => rfl
      | true =>
        rcases (hS' j h2).1 hs with h3 | h3
        · rw [J.post j h1 h2] at h3; cases h3
        · omega
    have hkn : ∀ j, j < k → j < n := fun j hj => Nat.lt_of_lt_of_le hj J.kn
    have fin : ∀ (m' : Mp) (c : Value) (w' : World), m.le m' → VRep m' v c → HRel m' (lk (σ k).h) w' → Tr (σ k).wl (σ k).wa m0 (lk h0) w0 m' (lk (σ k).h) w' →
        (∀ q ob, q < k → S' q = false → (ins q).op.isN = true → lk (σ (q + 1)).h (σ q).h.length = some ob → ∀ ep, m' (σ q).h.length ep = none) → K (a.put o.dst c) w' := by
      intro m' c w' hle hvc H' T' hU
      refine hK k m' _ _ w' ⟨J.kn, fun j hj hlj => (hS' j (hkn j hj)).2 (.inl (J.pre j hj hlj)), hpost, l1, l2, l3, ?_, hdp _ _, H', T', J.e1, J.e2, J.e3, J.W, fun q ob hq hSq hN e => ⟨hU q ob hq hSq hN e, ?_⟩, fun q y id ep off ob hq hSq => ?_⟩
      · rw [ho.dst]; exact trep_put (J.ht.mono hle) hvc _
      · exact (J.U q ob hq (hun' q (hkn q hq) hSq).1 hN e).2
      · exact J.V q y id ep off ob hq (hun' q (hkn q hq) hSq).1
    have hUm : ∀ q ob, q < k → S' q = false → (ins q).op.isN = true → lk (σ (q + 1)).h (σ q).h.length = some ob → ∀ ep, m (σ q).h.length ep = none := fun q ob hq hSq hN e => (J.U q ob hq (hun' q (hkn q hq) hSq).1 hN e).1
    have hw0 := wantedA_congr (i := ins p) hag
    have hwd : ∀ b, wantedA (σ p).ts (ins p).g = b → (ins p).op ≠ .bad ∨ b = false → (Region.wanted o (yielded ops a.tmps)) = b := fun b hb hbad => by
      rcases ho.g with ⟨hx, hg⟩ | hg
      · rcases hbad with hbad | rfl
        · exact absurd hx hbad
        · rw [hg] at hb; cases hb
      · rw [hg m ts a J.ht, hw0]; exact hb
    rcases hcase with ⟨c1, rfl, _⟩ | ⟨c1, c2, _, c3⟩ | ⟨_, c2⟩
    · rw [if_neg (by rw [hwd false c1 (.inr rfl)]; simp)]
      exact fin m undef w (Mp.le.refl m) (vrep_und.2 rfl) J.H J.T hUm
    · have hbad : (ins p).op ≠ .bad := fun hb => by rw [hb] at c3; simp [aop] at c3
      have hcop : cOp P o.op = some (ins p).op := ho.op.resolve_left hbad
      rw [if_pos (hwd true c1 (.inl hbad))]
      rw [← aop_congr (evO_congr (i := ins p) hag)] at c3
      obtain ⟨k1, k2, _⟩ := op_sound (w := w) (m := m) (hp := lk (σ k).h) hcop c2 J.ht c3
      by_cases hN : (ins p).op.isN = true
      · obtain ⟨ob, cv, arr, ty, vals, spare, n1, n2, n3, n4, n5, n6, n7, n8⟩ := k2 hN
        simp only [newObj, Mem.mk.injEq] at n1
        have hob : lk (σ (p + 1)).h (σ p).h.length = some ob := by rw [n1.1, lk_app]; simp
        obtain ⟨u1, u2⟩ := J.U p ob hpk hun hN hob
        have hal := alloc_pending (w' := w.alloc (.cells arr ty (0, 0))) J.H J.T u2 u1 (Nat.le_trans J.e3 (J.W 0 p (Nat.zero_le _) (Nat.le_of_lt hpk))) J.e2 ⟨rfl, rfl, rfl⟩ rfl n2 n4 n5 n6
        unfold Oper.wp
        rw [n3]
        refine fin _ cv _ (Mp.le_put (u1 0)) (n8 _ (Mp.put_same _ _ _ _)) hal.1 hal.2 fun q ob' hq hSq hN' e ep => ?_
        have hne : (σ q).h.length ≠ (σ p).h.length := by
          have hqp := (hun' q (hkn q hq) hSq).2
          have h1 : (σ p).h.length < (σ (p + 1)).h.length := lk_lt hob
          have h2 : (σ q).h.length < (σ (q + 1)).h.length := lk_lt e
          rcases Nat.lt_or_gt_of_ne hqp with h | h
          · have := J.W (q + 1) p (by omega) (by omega); omega
          · have := J.W (p + 1) q (by omega) (by omega); omega
        rw [Mp.put_id _ _ _ _ _ _ hne]
        exact hUm q ob' hq hSq hN' e ep
      · obtain ⟨_, cv, q1, q2⟩ := k1 hl (by simpa using hN) J.H (fun y id ep off ob hr hy e => J.V p y id ep off ob hpk hun hr (by rw [← evO_congr (i := ins p) hag y (reads_opds hr)]; exact hy) e)
        unfold Oper.wp
        rw [q1]
        exact fin m cv w (Mp.le.refl m) q2 J.H J.T hUm
    · exfalso
      cases hc : (ins p).op <;> simp [hc, I.isC] at c2
      simp [hc, I.loud] at hl

omit D in
theorem getD_true {l : Array Bool} {i : Nat} (h : i < l.size) : l.getD i true = l.getD i false := by
  simp [Array.getD_eq_getD_getElem?, Array.getElem?_eq_getElem h]

omit D in
theorem direct_mem {i x : Nat} : x ∈ direct ops i ↔ ∃ o, ops[i]? = some o ∧ ∃ e ∈ o.after, Region.binds .any e = true ∧ e.on = x := by
  unfold direct
  cases h : ops[i]? with
  | none => simp
  | some o => simp [and_assoc]

/-- Every order. -/
theorem Drawn.any (hS : Sound P call) {Q : Exit → Act → World → Prop} (hQ : ∀ a w, SRel m0 h0 w0 (σ n) a w → Q .normal a w) : ∀ (fuel : Nat) (listed : Array Bool) (U : List Nat) (k : Nat) (m : Mp) (ts : List AV) (a : Act) (w : World),
    listed.size = ops.size → U.Nodup → U.length ≤ fuel → (∀ p, p < n → (listed.getD (pos p) false = false ↔ p ∈ U)) → (∀ p ∈ U, p < n) → (∀ i, listed.getD i false = true → ∀ x ∈ direct ops i, listed.getD x false = true) →
    Inv m0 h0 w0 n ins σ (fun p => listed.getD (pos p) false) k m ts a w → wpAny P .any ops Q fuel listed a w := by
  have hpos : ∀ p, p < n → pos p < ops.size := fun p hp => by
    obtain ⟨o, ho, _⟩ := D.st p hp
    exact (Array.getElem?_eq_some_iff.1 ho).1
  -- at the end
  have hend : ∀ (listed : Array Bool) (k : Nat) (m : Mp) (ts : List AV) (a : Act) (w : World), (∀ p, p < n → listed.getD (pos p) false = true) → Inv m0 h0 w0 n ins σ (fun p => listed.getD (pos p) false) k m ts a w → Q .normal a w := by
    intro listed k m ts a w hall J
    have hk : k = n := by
      have := J.kn
      rcases Nat.lt_or_ge k n with h | h
      · have h1 : listed.getD (pos k) false = false := J.post k (Nat.le_refl _) h
        rw [hall k h] at h1; cases h1
      · omega
    subst hk
    have hts : ts = (σ k).ts := by
      have hl : ts.length = (σ k).ts.length := by rw [J.len, D.slen k (Nat.le_refl _)]
      refine List.ext_getElem hl fun t h1 h2 => ?_
      have hg : ts.getD t und = (σ k).ts.getD t und := by
        by_cases hw : ∃ q, q < k ∧ (ins q).dst = some t
        · obtain ⟨q, hq, hd⟩ := hw
          exact J.done t q hq hd (hall q hq)
        · rw [J.todo t fun q hq hd => absurd ⟨q, hq, hd⟩ hw]
          exact (D.slot (Nat.zero_le _) (Nat.le_refl _) fun j _ hj hjd => hw ⟨j, hj, hjd⟩).symm
      simpa [List.getD_eq_getElem?_getD, List.getElem?_eq_getElem h1, List.getElem?_eq_getElem h2] using hg
    subst hts
    exact hQ a w ⟨m, J.ht, J.hd, J.H, J.T, J.e1, J.e2, Nat.le_trans J.e3 (J.W 0 k (Nat.zero_le _) (Nat.le_refl _))⟩
  -- nothing is ready at the end alone
  have hready : ∀ (listed : Array Bool), listed.size = ops.size → Region.ready .any ops listed = [] → ∀ p, p < n → listed.getD (pos p) false = true := by
    intro listed hsz hr p
    induction p using Nat.strongRecOn with
    | _ p ih =>
      intro hp
      cases hl : listed.getD (pos p) false with
      | true => rfl
      | false =>
        exfalso
        obtain ⟨o, ho, _⟩ := D.st p hp
        have : pos p ∈ Region.ready .any ops listed := mem_ready.2 ⟨by rw [getD_true (hsz ▸ hpos p hp)]; exact hl, o, ho, fun e he hb => by
          obtain ⟨q, hq, hq'⟩ := D.dir p hp e.on (direct_mem.2 ⟨o, ho, e, he, hb, rfl⟩)
          rw [← hq']; exact ih q hq (by omega)⟩
        rw [hr] at this; cases this
  intro fuel
  induction fuel with
  | zero =>
    intro listed U k m ts a w hsz hnd hU hlU hUn hcl J
    have hall : ∀ p, p < n → listed.getD (pos p) false = true := fun p hp => by
      cases hl : listed.getD (pos p) false with
      | true => rfl
      | false =>
        have h1 := (hlU p hp).1 hl
        have h2 : U = [] := List.length_eq_zero_iff.1 (by omega)
        rw [h2] at h1; cases h1
    refine ⟨?_, hend listed k m ts a w hall J⟩
    cases hr : Region.ready .any ops listed with
    | nil => rfl
    | cons i l =>
      exfalso
      have hi : i ∈ Region.ready .any ops listed := by rw [hr]; exact List.mem_cons_self
      obtain ⟨h1, o, ho, _⟩ := mem_ready.1 hi
      have hlt := (Array.getElem?_eq_some_iff.1 ho).1
      obtain ⟨p, hp, rfl⟩ := D.surj i hlt
      rw [getD_true (hsz ▸ hlt), hall p hp] at h1; cases h1
  | succ fuel ih =>
    intro listed U k m ts a w hsz hnd hU hlU hUn hcl J
    refine ⟨fun hr => hend listed k m ts a w (hready listed hsz hr) J, fun i hi => ?_⟩
    obtain ⟨h1, o, ho, hdir⟩ := mem_ready.1 hi
    have hlt := (Array.getElem?_eq_some_iff.1 ho).1
    obtain ⟨p, hp, rfl⟩ := D.surj i hlt
    rw [getD_true (hsz ▸ hlt)] at h1
    have hdir' : ∀ x ∈ direct ops (pos p), listed.getD x false = true := fun x hx => by
      obtain ⟨o', ho', e, he, hb, rfl⟩ := direct_mem.1 hx
      rw [ho] at ho'
      simp only [Option.some.injEq] at ho'
      subst ho'
      exact hdir e he hb
    obtain ⟨o', ho', hst⟩ := D.st p hp
    rw [ho] at ho'
    simp only [Option.some.injEq] at ho'
    subst ho'
    have hpU : p ∈ U := (hlU p hp).1 h1
    have hnew : ∀ q, q < n → ((listed.setIfInBounds (pos p) true).getD (pos q) false = true ↔ listed.getD (pos q) false = true ∨ q = p) := fun q hq => by
      by_cases e : q = p
      · subst e
        simp [hsz, hlt]
      · have hne : pos p ≠ pos q := fun h => e (D.inj p q hp hq h).symm
        rw [getD_set_ne false hne]
        simp [e]
    have hstep := D.step hS J hp h1 (cl := fun r q hr hq h3 h4 => D.anc (fun x => listed.getD x false = true) hcl r q hr (hcl _ h3) h4)
      (fun q hq h4 => D.anc (fun x => listed.getD x false = true) hcl p q hp hdir' h4) (S' := fun q => (listed.setIfInBounds (pos p) true).getD (pos q) false) hnew hst
      (K := wpAny P .any ops Q fuel (listed.setIfInBounds (pos p) true)) (Q := Q) (fun k' m' ts' a' w' J' => by
        refine ih _ (U.erase p) k' m' ts' a' w' (by simp [hsz]) (hnd.erase p) (by rw [List.length_erase_of_mem hpU]; omega) (fun q hq => ?_) (fun q hq => hUn q (List.mem_of_mem_erase hq)) (fun j hj x hx => ?_) J'
        · rw [hnd.mem_erase_iff]
          have h5 := hnew q hq
          have h6 := hlU q hq
          cases hb : (listed.setIfInBounds (pos p) true).getD (pos q) false with
          | true =>
            rw [hb] at h5
            constructor
            · intro h; cases h
            · rintro ⟨h7, h8⟩
              rcases h5.1 rfl with h9 | h9
              · rw [h6.2 h8] at h9; cases h9
              · exact absurd h9 h7
          | false =>
            rw [hb] at h5
            have h7 : ¬ q = p := fun e => by have := h5.2 (.inr e); cases this
            have h8 : listed.getD (pos q) false = false := by
              cases hb' : listed.getD (pos q) false with
              | false => rfl
              | true => have := h5.2 (.inl hb'); cases this
            exact ⟨fun _ => ⟨h7, h6.1 h8⟩, fun _ => rfl⟩
        · by_cases e : pos p = j
          · subst e
            exact getD_set_true (hdir' x hx)
          · rw [getD_set_ne false e] at hj
            exact getD_set_true (hcl j hj x hx))
    unfold wpOp
    simp only [ho]
    split
    · rename_i hw
      rw [if_pos hw] at hstep
      exact .inl hstep
    · rename_i hw
      rw [if_neg hw] at hstep
      exact hstep
end

theorem insAt_map {P : Program} {ops : Array Oper} {i : Nat} {o : Oper} (h : ops[i]? = some o) : insAt (ops.toList.map (cIns P ops)) i = cIns P ops o := by
  unfold insAt
  have : ops.toList[i]? = some o := by simpa using h
  simp [List.getD_eq_getElem?_getD, this]

theorem draw_sound {P : Program} {ops : Array Oper} {call : CallF} {m0 : Mp} {h0 : List Ob} {w0 : World} (hS : Sound P call) {l : List Ins} (hc : cReg P ops true = .reg l) {st st' : St} (he : aReg call l st = some st') {a : Act} {w : World} (hr : SRel m0 h0 w0 st a w)
    {Q : Exit → Act → World → Prop} (hK : ∀ a' w', SRel m0 h0 w0 st' a' w' → Q .normal a' w') (id : Nat) : (Code.region id ops true).wp P Q a w := by
  unfold cReg at hc
  simp only [if_true] at hc
  generalize hord : greedy _ (direct ops) ops.size [] (List.range ops.size) = ord at hc
  split at hc
  case isFalse => cases hc
  rename_i hchk
  simp only [CC.reg.injEq] at hc
  simp only [Bool.and_eq_true, beq_iff_eq, List.all_eq_true, List.mem_range, decide_eq_true_eq] at hchk
  obtain ⟨⟨⟨⟨⟨hm, hlen⟩, hlt⟩, hsur⟩, hok⟩, htmp⟩ := hchk
  generalize hcs : ops.toList.map (cIns P ops) = cs at hc hok htmp
  generalize han : ancs ops = an at hc hok htmp
  obtain ⟨σ, s1, s2, s3⟩ := aReg_trace l st st' he
  have hspec := okOrd_spec ord [] hok
  have hcl : cs.length = ops.size := by rw [← hcs]; simp
  have hll : l.length = ops.size := by rw [← hc, place_len, hlen]
  let pos : Nat → Nat := fun p => ord.getD p 0
  let ins : Nat → Ins := fun p => placed cs an ((ord.take p).reverse ++ []) (pos p)
  have hget : ∀ p, p < ops.size → ord[p]? = some (pos p) := fun p hp => by
    simp [pos, List.getD_eq_getElem?_getD, List.getElem?_eq_getElem (hlen.symm ▸ hp : p < ord.length)]
  have hposlt : ∀ p, p < ops.size → pos p < ops.size := fun p hp => hlt _ (List.mem_of_getElem? (hget p hp))
  have hinj : ∀ j k, j < k → k < ops.size → pos j ≠ pos k := fun j k hjk hk e => by
    have := (hspec k (pos k) (hget k hk)).2.2.1 j hjk
    rw [hget j (by omega), e] at this
    exact this rfl
  have hinj' : ∀ j k, j < ops.size → k < ops.size → pos j = pos k → j = k := fun j k hj hk e => by
    rcases Nat.lt_trichotomy j k with h | h | h
    · exact absurd e (hinj j k h hk)
    · exact h
    · exact absurd e.symm (hinj k j h hj)
  have hop : ∀ p, (ins p).op = (insAt cs (pos p)).op ∧ (ins p).dst = (insAt cs (pos p)).dst ∧ (ins p).g = (insAt cs (pos p)).g := fun p => ⟨rfl, rfl, rfl⟩
  have htm : ∀ p, tmpsOf (ins p) = tmpsOf (insAt cs (pos p)) := fun p => rfl
  have hq : ∀ p q, p < ops.size → q < ops.size → p ≠ q → ∀ t, (insAt cs (pos q)).dst = some t → (insAt cs (pos p)).dst ≠ some t ∧ (t ∉ tmpsOf (insAt cs (pos p)) ∨ pos q ∈ ancAt an (pos p) ∨ (pos p ∈ ancAt an (pos q) ∧ (insAt cs (pos p)).op.reads ≠ some (.t t))) := by
    intro p q hp hq hne t ht
    unfold okTmp at htmp
    simp only [List.all_eq_true, List.mem_range] at htmp
    have h1 := htmp (pos p) (by rw [hcl]; exact hposlt p hp) (pos q) (by rw [hcl]; exact hposlt q hq)
    have hne' : ¬ (pos p == pos q) = true := by simpa using fun e => hne (hinj' p q hp hq e)
    rw [if_neg hne', ht] at h1
    simp only [Bool.and_eq_true, bne_iff_ne, ne_eq, Bool.or_eq_true, Bool.not_eq_true', List.contains_eq_mem, decide_eq_true_eq, decide_eq_false_iff_not] at h1
    refine ⟨h1.1, ?_⟩
    rcases h1.2 with (h2 | h2) | ⟨h2, h3⟩
    · exact .inl h2
    · exact .inr (.inl h2)
    · refine .inr (.inr ⟨h2, fun e => ?_⟩)
      rw [e] at h3
      simp at h3
  have D : Drawn P ops call ops.size pos ins σ (fun p q => pos q ∈ ancAt an (pos p)) := {
    run := fun k hk => s3 k (ins k) (by rw [← hc, place_get, hget k hk]; rfl)
    st := fun k hk => by
      obtain ⟨o, ho⟩ : ∃ o, ops[pos k]? = some o := ⟨_, Array.getElem?_eq_getElem (hposlt k hk)⟩
      have e := insAt_map (P := P) ho
      rw [hcs] at e
      have hs := stands_cIns (P := P) (ops := ops) (o := o)
      rw [← e] at hs
      exact ⟨o, ho, hs.dst, hs.op, hs.g⟩
    surj := fun i hi => by
      have := hsur i hi
      have hm' : i ∈ ord := by simpa using this
      obtain ⟨p, hp, e⟩ := List.getElem_of_mem hm'
      refine ⟨p, hlen ▸ hp, ?_⟩
      have h1 := hget p (hlen ▸ hp)
      rw [List.getElem?_eq_getElem hp, e] at h1
      exact (Option.some.inj h1).symm
    inj := hinj'
    dir := fun k hk x hx => by
      rcases (hspec k (pos k) (hget k hk)).1 x hx with h | ⟨q, hq, e⟩
      · cases h
      · rw [hget q (by omega)] at e
        exact ⟨q, hq, Option.some.inj e⟩
    anc := fun C hC p q hp hd h => ancs_mem C hC hd (by rw [han]; exact h)
    loud := fun p q hp hq hl => (hspec p (pos p) (hget p hp)).2.2.2 (pos q) (.inr ⟨q, hq, hget q (by omega)⟩) (by have hl' : (insAt cs (pos q)).op.loud = true := hl; exact hl')
    own := fun p q t hp hq' hne ht => (hq p q hp hq' hne t ht).1
    tmp := fun p q t hp hq' hne ht hmem => (hq p q hp hq' hne t ht).2.resolve_left (fun h => h hmem)
    selfr := fun p t hp hd hr => by
      unfold okTmp at htmp
      simp only [List.all_eq_true, List.mem_range] at htmp
      have h1 := htmp (pos p) (by rw [hcl]; exact hposlt p hp) (pos p) (by rw [hcl]; exact hposlt p hp)
      have hr' : (insAt cs (pos p)).op.reads = some (.t t) := hr
      have hd' : (insAt cs (pos p)).dst = some t := hd
      rw [if_pos (by simp), hr', hd'] at h1
      simp at h1
    av := fun p k y hpk hk hna hl hr => by
      have hmem : y ∈ avOf cs an ((ord.take k).reverse ++ []) (pos k) := by
        unfold avOf
        refine List.mem_filterMap.2 ⟨pos p, ?_, ?_⟩
        · simp only [List.append_nil, List.mem_reverse]
          exact List.mem_of_getElem? (i := p) (by rw [List.getElem?_take, if_pos hpk]; exact hget p (by omega))
        · rw [if_neg (by simpa using hna)]; exact hr
      have hl' : (insAt cs (pos k)).op.loud = true := hl
      split
      · rename_i hC
        have hC' : (insAt cs (pos k)).op.isC = true := hC
        show ((insAt cs (pos k)).op.isC && !(avOf cs an ((ord.take k).reverse ++ []) (pos k)).isEmpty) = true
        rw [hC', Bool.true_and]
        cases ha : avOf cs an ((ord.take k).reverse ++ []) (pos k) with
        | nil => rw [ha] at hmem; cases hmem
        | cons => rfl
      · rename_i hC
        have hC' : (insAt cs (pos k)).op.isC = false := by simpa using (fun h => hC h : ¬ (insAt cs (pos k)).op.isC = true)
        show y ∈ (if (insAt cs (pos k)).op.loud && !(insAt cs (pos k)).op.isC then avOf cs an ((ord.take k).reverse ++ []) (pos k) else [])
        rw [hl', hC']
        exact hmem }
  obtain ⟨m, ht, hd, H, T, e1, e2, e3⟩ := hr
  refine wp_region_any hm (D.any hS (m0 := m0) (h0 := h0) (w0 := w0) (fun a' w' h => hK a' w' (by rw [← s2, hll]; exact h)) ops.size _ (List.range ops.size) 0 m st.ts a _ (by simp) List.nodup_range (by simp) (fun p hp => ?_) (fun p hp => List.mem_range.1 hp) (fun i hi => ?_) ?_)
  · simp [hp, hposlt p hp]
  · exfalso
    by_cases h : i < ops.size
    · simp [h] at hi
    · simp [h] at hi
  · subst s1
    refine { kn := Nat.zero_le _, pre := fun j hj => absurd hj (by omega), post := fun j _ hj => ?_, len := rfl, done := fun t q hq' _ h => ?_, todo := fun _ _ => rfl, ht := ht, hd := hd, H := H.heap_eq rfl, T := T.heap_eq rfl ⟨rfl, rfl, rfl⟩, e1 := e1, e2 := e2, e3 := e3, W := fun p q h1 h2 => ?_, U := fun p ob hp => absurd hp (by omega), V := fun p y id ep off ob hp => absurd hp (by omega) }
    · simp [hposlt j hj]
    · simp [hposlt q hq'] at h
    · rw [show p = q by omega]; exact Nat.le_refl _
end Go.Proofs.Ytaekgifbehoipaa.Eva
