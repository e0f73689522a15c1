/- A region whose order is drawn. Conditions stand in each lemma. -/
import Derived.Test.YtaekgifbehoipaaEvaL
namespace Go.Proofs.Ytaekgifbehoipaa.Eva
open Go
set_option linter.unusedVariables false
set_option linter.unusedSimpArgs false

/-! ### The order -/

theorem mem_uni {x : Nat} : ∀ {b a : List Nat}, x ∈ uni a b ↔ x ∈ a ∨ x ∈ b
  | [], a => by simp [uni]
  | y :: b, a => by
    have e : uni a (y :: b) = uni (if a.contains y then a else y :: a) b := rfl
    rw [e, mem_uni (b := b)]
    by_cases h : a.contains y = true
    · rw [if_pos h]
      have h' : y ∈ a := by simpa using h
      simp only [List.mem_cons]
      constructor
      · rintro (h1 | h1)
        · exact .inl h1
        · exact .inr (.inr h1)
      · rintro (h1 | rfl | h1)
        · exact .inl h1
        · exact .inl h'
        · exact .inr h1
    · rw [if_neg h]
      simp only [List.mem_cons]
      constructor
      · rintro ((h1 | h1) | h1)
        · exact .inr (.inl h1)
        · exact .inl h1
        · exact .inr (.inr h1)
      · rintro (h1 | h1 | h1)
        · exact .inl (.inr h1)
        · exact .inl (.inl h1)
        · exact .inr h1

theorem ancs_step (C : Nat → Prop) (acc : List (List Nat)) (hacc : ∀ e, C e → ∀ x ∈ acc.getD e [], C x) : ∀ (l : List Nat) (a : List Nat), (∀ x ∈ a, C x) → (∀ e ∈ l, C e) → ∀ x ∈ l.foldl (fun l e => uni (uni l [e]) (acc.getD e [])) a, C x
  | [], a, ha, _, x, hx => ha x hx
  | e :: l, a, ha, hl, x, hx => by
    rw [List.foldl_cons] at hx
    refine ancs_step C acc hacc l _ (fun y hy => ?_) (fun e' he' => hl e' (List.mem_cons_of_mem _ he')) x hx
    rcases mem_uni.1 hy with hy | hy
    · rcases mem_uni.1 hy with hy | hy
      · exact ha y hy
      · simp only [List.mem_singleton] at hy
        subst hy
        exact hl y List.mem_cons_self
    · exact hacc e (hl e List.mem_cons_self) y hy

theorem ancs_mem {ops : Array Oper} (C : Nat → Prop) (hC : ∀ i, C i → ∀ x ∈ direct ops i, C x) {i : Nat} (hi : ∀ x ∈ direct ops i, C x) {x : Nat} (hx : x ∈ ancAt (ancs ops) i) : C x := by
  have key : ∀ n, ((List.range n).foldl (fun acc i => acc ++ [(direct ops i).foldl (fun l e => uni (uni l [e]) (acc.getD e [])) []]) []).length = n ∧
      ∀ i, (∀ x ∈ direct ops i, C x) → ∀ x ∈ ((List.range n).foldl (fun acc i => acc ++ [(direct ops i).foldl (fun l e => uni (uni l [e]) (acc.getD e [])) []]) []).getD i [], C x := by
    intro n
    induction n with
    | zero => simp
    | succ n ih =>
      rw [List.range_succ, List.foldl_append]
      simp only [List.foldl_cons, List.foldl_nil]
      generalize (List.range n).foldl (fun acc i => acc ++ [(direct ops i).foldl (fun l e => uni (uni l [e]) (acc.getD e [])) []]) [] = acc at ih ⊢
      obtain ⟨h1, h2⟩ := ih
      refine ⟨by simp [h1], fun i hi x hx => ?_⟩
      by_cases h : i < n
      · have e : (acc ++ [(direct ops n).foldl (fun l e => uni (uni l [e]) (acc.getD e [])) []]).getD i [] = acc.getD i [] := by
          simp [List.getD_eq_getElem?_getD, List.getElem?_append_left (h1.symm ▸ h)]
        rw [e] at hx
        exact h2 i hi x hx
      · by_cases h' : i = n
        · subst h'
          have e : (acc ++ [(direct ops i).foldl (fun l e => uni (uni l [e]) (acc.getD e [])) []]).getD i [] = (direct ops i).foldl (fun l e => uni (uni l [e]) (acc.getD e [])) [] := by
            simp [List.getD_eq_getElem?_getD, ← h1]
          rw [e] at hx
          exact ancs_step C acc (fun e he => h2 e (hC e he)) _ _ (by simp) hi x hx
        · exfalso
          have e : (acc ++ [(direct ops n).foldl (fun l e => uni (uni l [e]) (acc.getD e [])) []]).getD i [] = [] := by
            rw [List.getD_eq_getElem?_getD, List.getElem?_eq_none (by simp [h1]; omega)]; rfl
          rw [e] at hx
          cases hx
  exact (key ops.size).2 i hi x hx

theorem okOrd_spec {dir : Nat → List Nat} {loud : Nat → Bool} {an : List (List Nat)} : ∀ (r pre : List Nat), okOrd dir loud an pre r = true → ∀ (p i : Nat), r[p]? = some i →
    (∀ x ∈ dir i, x ∈ pre ∨ ∃ q, q < p ∧ r[q]? = some x) ∧ i ∉ pre ∧ (∀ q, q < p → r[q]? ≠ some i) ∧ ∀ e, (e ∈ pre ∨ ∃ q, q < p ∧ r[q]? = some e) → loud e = true → e ∈ ancAt an i
  | [], pre, _, p, i, hi => by simp at hi
  | j :: r, pre, h, 0, i, hi => by
    simp only [List.getElem?_cons_zero, Option.some.injEq] at hi
    subst hi
    simp only [okOrd, Bool.and_eq_true, List.all_eq_true, Bool.not_eq_true', Bool.or_eq_true] at h
    obtain ⟨⟨⟨h1, h2⟩, h3⟩, h4⟩ := h
    refine ⟨fun x hx => .inl (by simpa using h1 x hx), by simpa using h2, fun q hq => absurd hq (by omega), fun e he hl => ?_⟩
    rcases he with he | ⟨q, hq, _⟩
    · rcases h3 e he with h5 | h5
      · rw [hl] at h5; cases h5
      · simpa using h5
    · omega
  | j :: r, pre, h, p + 1, i, hi => by
    simp only [List.getElem?_cons_succ] at hi
    simp only [okOrd, Bool.and_eq_true] at h
    obtain ⟨h1, h2, h3, h4⟩ := okOrd_spec r (j :: pre) h.2 p i hi
    have conv : ∀ x, x ∈ j :: pre ∨ (∃ q, q < p ∧ r[q]? = some x) ↔ x ∈ pre ∨ ∃ q, q < p + 1 ∧ (j :: r)[q]? = some x := fun x => by
      constructor
      · rintro (h | ⟨q, hq, e⟩)
        · rcases List.mem_cons.1 h with rfl | h
          · exact .inr ⟨0, by omega, by simp⟩
          · exact .inl h
        · exact .inr ⟨q + 1, by omega, by simpa using e⟩
      · rintro (h | ⟨q, hq, e⟩)
        · exact .inl (List.mem_cons_of_mem _ h)
        · cases q with
          | zero => simp at e; subst e; exact .inl List.mem_cons_self
          | succ q => exact .inr ⟨q, by omega, by simpa using e⟩
    refine ⟨fun x hx => (conv x).1 (h1 x hx), fun hh => h2 (List.mem_cons_of_mem _ hh), fun q hq => ?_, fun e he hl => h4 e ((conv e).2 he) hl⟩
    cases q with
    | zero => simp only [List.getElem?_cons_zero, ne_eq, Option.some.injEq]; rintro rfl; exact h2 List.mem_cons_self
    | succ q => simpa using h3 q (by omega)

def placed (cs : List Ins) (an : List (List Nat)) (pre : List Nat) (i : Nat) : Ins :=
  let c := insAt cs i
  { c with av := if c.op.loud && !c.op.isC then avOf cs an pre i else [], q := c.op.isC && !(avOf cs an pre i).isEmpty }
theorem place_get {cs : List Ins} {an : List (List Nat)} : ∀ (r pre : List Nat) (p : Nat), (place cs an pre r)[p]? = (r[p]?).map (placed cs an ((r.take p).reverse ++ pre))
  | [], pre, p => by simp [place]
  | i :: r, pre, 0 => by simp [place, placed]
  | i :: r, pre, p + 1 => by
    simp only [place, List.getElem?_cons_succ, List.take_succ_cons, List.reverse_cons, List.append_assoc, List.singleton_append]
    exact place_get r (i :: pre) p
theorem place_len {cs : List Ins} {an : List (List Nat)} : ∀ (r pre : List Nat), (place cs an pre r).length = r.length
  | [], pre => rfl
  | i :: r, pre => by simp [place, place_len r]

theorem aReg_trace {call : CallF} : ∀ (l : List Ins) (st st' : St), aReg call l st = some st' → ∃ σ : Nat → St, σ 0 = st ∧ σ l.length = st' ∧ ∀ k c, l[k]? = some c → aIns call c (σ k) = some (σ (k + 1))
  | [], st, st', h => by
    simp only [aReg, Option.some.injEq] at h
    subst h
    exact ⟨fun _ => st, rfl, rfl, by simp⟩
  | i :: r, st, st', h => by
    simp only [aReg] at h
    obtain ⟨s1, h1, h2⟩ := Option.bind_eq_some_iff.1 h
    obtain ⟨σ, e1, e2, e3⟩ := aReg_trace r s1 st' h2
    refine ⟨fun k => match k with | 0 => st | k + 1 => σ k, rfl, e2, fun k c hc => ?_⟩
    cases k with
    | zero => simp at hc; subst hc; simpa [e1] using h1
    | succ k => exact e3 k c (by simpa using hc)

/-! ### One operation, seen without the model -/

theorem aop_congr {ρ ρ' : Opd → AV} {s : Mem} {i : I} (h : ∀ y ∈ i.opds, ρ y = ρ' y) : aop ρ s i = aop ρ' s i := by
  have hlay : ∀ (ps : List (Nat × Nat × Opd)) (cs : List AV), (∀ y ∈ ps.map (·.2.2), ρ y = ρ' y) → lay ρ cs ps = lay ρ' cs ps := by
    intro ps
    induction ps with
    | nil => intros; rfl
    | cons p ps ih =>
      obtain ⟨a, b, x⟩ := p
      intro cs hh
      have hx : ρ x = ρ' x := hh x (by simp)
      simp only [lay, hx]
      rw [ih _ fun y hy => hh y (by simp only [List.map_cons, List.mem_cons]; exact .inr hy)]
  have hmap : ∀ (l : List Opd), (∀ y ∈ l, ρ y = ρ' y) → l.map ρ = l.map ρ' := fun l hh => List.map_congr_left hh
  have hb : ∀ (d : Nat) (o : Option Opd), (∀ y ∈ o.toList, ρ y = ρ' y) → bound ρ d o = bound ρ' d o := fun d o hh => by
    cases o with
    | none => rfl
    | some x => simp only [bound, hh x (by simp)]
  cases i <;> simp only [I.opds] at h
  case mk zs ps => simp only [aop, hlay ps zs h]
  case mks zs sz len ps => simp only [aop, hlay ps zs h]
  case mkf f c => simp only [aop, hmap c h]
  case mnx mx x xs => simp only [aop, h x (by simp), hmap xs fun y hy => h y (by simp [hy])]
  case slc sz x lo hi => simp only [aop, h x (by simp), fun d => hb d lo fun y hy => h y (by simp only [List.mem_cons, List.mem_append]; exact .inr (.inl hy)), fun d => hb d hi fun y hy => h y (by simp only [List.mem_cons, List.mem_append]; exact .inr (.inr hy))]
  case sla n sz x lo hi => simp only [aop, h x (by simp), fun d => hb d lo fun y hy => h y (by simp only [List.mem_cons, List.mem_append]; exact .inr (.inl hy)), fun d => hb d hi fun y hy => h y (by simp only [List.mem_cons, List.mem_append]; exact .inr (.inr hy))]
  case sls x lo hi => simp only [aop, h x (by simp), fun d => hb d lo fun y hy => h y (by simp only [List.mem_cons, List.mem_append]; exact .inr (.inl hy)), fun d => hb d hi fun y hy => h y (by simp only [List.mem_cons, List.mem_append]; exact .inr (.inr hy))]
  all_goals (simp only [List.mem_cons, List.not_mem_nil, or_false, forall_eq_or_imp, forall_eq] at h; simp only [aop, h])

theorem aop_quiet {ρ : Opd → AV} {s s' : Mem} {i : I} {v : AV} (hl : i.loud = false) (hn : i.isN = false) (h : aop ρ s i = some (v, s')) : s' = s := by
  cases i <;> simp [I.loud] at hl <;> simp [I.isN] at hn <;> simp only [aop] at h <;>
    (repeat' first
      | (cases h; done)
      | (obtain ⟨_, _, h⟩ := map_some h; simp only [Prod.mk.injEq] at h; exact h.2.symm)
      | (simp only [Option.some.injEq, Prod.mk.injEq] at h; exact h.2.symm)
      | split at h)

theorem aop_N {ρ : Opd → AV} {s s' : Mem} {i : I} {v : AV} (hn : i.isN = true) (h : aop ρ s i = some (v, s')) : ∃ ob, s' = newObj s ob ∧ ob.ep = 0 ∧ (ob.fl = true → ∀ c ∈ ob.cs, c.scalar = true) := by
  cases i <;> simp [I.isN] at hn <;> simp only [aop] at h
  case new zs =>
    simp only [Option.some.injEq, Prod.mk.injEq] at h
    exact ⟨_, h.2.symm, rfl, fun hf => all_scalar hf⟩
  case box x =>
    split at h
    · cases h
    · simp only [Option.some.injEq, Prod.mk.injEq] at h
      exact ⟨_, h.2.symm, rfl, fun hf => all_scalar hf⟩
  case mks zs sz len ps =>
    obtain ⟨cs, _, h⟩ := map_some h
    simp only [Prod.mk.injEq] at h
    exact ⟨_, h.2.symm, rfl, fun hf => all_scalar hf⟩
  case mksl zs b l c =>
    split at h
    · split at h
      · simp only [Option.some.injEq, Prod.mk.injEq] at h
        refine ⟨_, h.2.symm, rfl, fun hf => ?_⟩
        have hz := all_scalar hf
        intro c hc
        simp only [zrep] at hc
        split at hc
        · exact hz c (by have := (List.mem_replicate.1 hc).2; subst this; simp)
        · obtain ⟨l', h1, h2⟩ := List.mem_flatten.1 hc
          have := (List.mem_replicate.1 h1).2
          subst this
          exact hz c h2
      · cases h
    · cases h

theorem lk_newObj {s : Mem} {ob ob' : Ob} {id : Nat} (h : lk s.h id = some ob') : lk (newObj s ob).h id = some ob' := by
  show lk (s.h ++ [ob]) id = _
  rw [lk_app, if_pos (lk_lt h)]
  exact h
theorem lk_stObj {s : Mem} {o ob : Ob} {i off id : Nat} {new : List AV} (hne : i ≠ id) (h : lk s.h id = some ob) : lk (stObj s i o off new).h id = some ob := by
  simp only [lk, stObj, List.getElem?_set_ne hne]
  exact h

theorem aop_avoid {ρ : Opd → AV} {s s' : Mem} {i : I} {v : AV} {id : Nat} {ob : Ob} (ht : tgt ρ i ≠ some id) (h : aop ρ s i = some (v, s')) (hid : lk s.h id = some ob) : lk s'.h id = some ob := by
  by_cases hn : i.isN = true
  · obtain ⟨o, rfl, _⟩ := aop_N hn h
    exact lk_newObj hid
  · by_cases hl : i.loud = true
    · cases i <;> simp [I.loud] at hl
      case csb x =>
        simp only [aop] at h
        split at h <;> (try (cases h; done))
        simp only [Option.some.injEq, Prod.mk.injEq] at h
        rw [← h.2]; exact lk_newObj hid
      case csc x =>
        simp only [aop] at h
        split at h <;> (try (cases h; done))
        split at h <;> (try (cases h; done))
        split at h <;> (try (cases h; done))
        simp only [Option.some.injEq, Prod.mk.injEq] at h
        rw [← h.2]; exact hid
      case cbs x =>
        simp only [aop] at h
        obtain ⟨_, _, h⟩ := map_some h
        simp only [Prod.mk.injEq] at h
        rw [← h.2]; exact hid
      case st n a x =>
        simp only [aop] at h
        split at h <;> (try (cases h; done))
        rename_i id' ep off hp
        simp only [tgt, hp, ne_eq, Option.some.injEq] at ht
        split at h <;> (try (cases h; done))
        split at h <;> (try (cases h; done))
        simp only [Option.some.injEq, Prod.mk.injEq] at h
        rw [← h.2]
        exact lk_stObj ht hid
      case cpy sz x y =>
        simp only [aop] at h
        split at h <;> (try (cases h; done))
        rename_i hp
        simp only [tgt, hp, ne_eq, Option.some.injEq] at ht
        obtain ⟨⟨_, _, _⟩, _, h⟩ := Option.bind_eq_some_iff.1 h
        simp only at h
        split at h
        · simp only [Option.some.injEq, Prod.mk.injEq] at h
          rw [← h.2]; exact hid
        · split at h <;> (try (cases h; done))
          split at h <;> (try (cases h; done))
          split at h <;> (try (cases h; done))
          simp only [Option.some.injEq, Prod.mk.injEq] at h
          rw [← h.2]
          exact lk_stObj ht hid
      case clr zs x =>
        simp only [aop] at h
        split at h <;> (try (cases h; done))
        rename_i hp
        simp only [tgt, hp, ne_eq, Option.some.injEq] at ht
        split at h
        · simp only [Option.some.injEq, Prod.mk.injEq] at h
          rw [← h.2]; exact hid
        · split at h <;> (try (cases h; done))
          split at h <;> (try (cases h; done))
          split at h <;> (try (cases h; done))
          simp only [Option.some.injEq, Prod.mk.injEq] at h
          rw [← h.2]
          exact lk_stObj ht hid
      case app sz bytes x y =>
        simp only [aop, aapp] at h
        obtain ⟨⟨_, _, _⟩, _, h⟩ := Option.bind_eq_some_iff.1 h
        simp only at h
        split at h <;> (try (cases h; done))
        · split at h
          · simp only [Option.some.injEq, Prod.mk.injEq] at h
            rw [← h.2]; exact hid
          · split at h <;> (try (cases h; done))
            simp only [Option.some.injEq, Prod.mk.injEq] at h
            rw [← h.2]; exact lk_newObj hid
        · split at h
          · simp only [Option.some.injEq, Prod.mk.injEq] at h
            rw [← h.2]; exact hid
          · split at h <;> (try (cases h; done))
            simp only [Option.some.injEq, Prod.mk.injEq] at h
            rw [← h.2]; exact lk_newObj hid
        · rename_i hp
          simp only [tgt, hp, ne_eq, Option.some.injEq] at ht
          split at h
          · simp only [Option.some.injEq, Prod.mk.injEq] at h
            rw [← h.2]; exact hid
          · split at h <;> (try (cases h; done))
            split at h <;> (try (cases h; done))
            split at h <;> (try (cases h; done))
            simp only [Option.some.injEq, Prod.mk.injEq] at h
            rw [← h.2]
            simp only [lk, List.getElem?_set_ne ht]
            exact hid
      case appz zs bytes x y =>
        simp only [aop, aappz] at h
        split at h <;> (try (cases h; done))
        split at h <;> (try (cases h; done))
        split at h <;> (try (cases h; done)) <;>
        · split at h
          · simp only [Option.some.injEq, Prod.mk.injEq] at h
            rw [← h.2]; exact hid
          · simp only [Option.some.injEq, Prod.mk.injEq] at h
            rw [← h.2]; exact lk_newObj hid
      case call => simp [aop] at h
    · rw [aop_quiet (by simpa using hl) (by simpa using hn) h]; exact hid

theorem evO_congr {ts ts' : List AV} {i : Ins} (h : ∀ t ∈ tmpsOf i, ts.getD t und = ts'.getD t und) : ∀ y ∈ i.op.opds, evO ts y = evO ts' y := by
  intro y hy
  cases y with
  | k v => rfl
  | t t => exact h t (by unfold tmpsOf; refine List.mem_append_left _ (List.mem_filterMap.2 ⟨_, hy, rfl⟩))
theorem wantedA_congr {ts ts' : List AV} {i : Ins} (h : ∀ t ∈ tmpsOf i, ts.getD t und = ts'.getD t und) : wantedA ts i.g = wantedA ts' i.g := by
  cases hg : i.g with
  | none => rfl
  | some p =>
    obtain ⟨g, wn⟩ := p
    simp only [wantedA]
    rw [h g (by unfold tmpsOf; rw [hg]; simp)]

/-- What a step is. -/
theorem aIns_cases {call : CallF} {c : Ins} {st st' : St} (he : aIns call c st = some st') : ∃ v, st'.ts = putT st.ts c.dst v ∧
    ((wantedA st.ts c.g = false ∧ v = und ∧ st'.h = st.h ∧ st'.wl = st.wl ∧ st'.wa = st.wa) ∨
     (wantedA st.ts c.g = true ∧ c.op.isC = false ∧ avoids (evO st.ts) c.op c.av = true ∧ aop (evO st.ts) ⟨st.h, st.wl, st.wa⟩ c.op = some (v, ⟨st'.h, st'.wl, st'.wa⟩)) ∨
     (wantedA st.ts c.g = true ∧ c.op.isC = true)) := by
  unfold aIns at he
  by_cases hw : wantedA st.ts c.g = true
  · rw [if_pos hw] at he
    by_cases hic : c.op.isC = true
    · cases hcc : c.op <;> simp [hcc, I.isC] at hic
      rename_i f xs
      rw [hcc] at he
      simp only at he
      split at he <;> (try (cases he; done))
      obtain ⟨r, hr, he⟩ := Option.bind_eq_some_iff.1 he
      split at he <;> (try (cases he; done))
      simp only [Option.some.injEq] at he
      subst he
      exact ⟨_, rfl, .inr (.inr ⟨hw, by simp [I.isC]⟩)⟩
    · have he' : avoids (evO st.ts) c.op c.av = true ∧ ∃ r, aop (evO st.ts) ⟨st.h, st.wl, st.wa⟩ c.op = some r ∧ st' = { ts := putT st.ts c.dst r.1, h := r.2.h, wl := r.2.wl, wa := r.2.wa } := by
        cases hcc : c.op <;> simp [hcc, I.isC] at hic <;> simp only [hcc] at he <;> (split at he <;> (try (cases he; done))) <;> (rename_i hav; obtain ⟨r, h1, h2⟩ := map_some he; exact ⟨hav, r, h1, h2.symm⟩)
      obtain ⟨hav, ⟨v, s'⟩, hao, rfl⟩ := he'
      exact ⟨v, rfl, .inr (.inl ⟨hw, by simpa using hic, hav, hao⟩)⟩
  · rw [if_neg hw] at he
    simp only [Option.some.injEq] at he
    subst he
    exact ⟨und, rfl, .inl ⟨by simpa using hw, rfl, rfl, rfl, rfl⟩⟩

theorem aIns_congr {call : CallF} {c : Ins} {st st' : St} (he : aIns call c st = some st') {ts : List AV} (hts : ∀ t ∈ tmpsOf c, ts.getD t und = st.ts.getD t und) :
    ∃ v, st'.ts = putT st.ts c.dst v ∧ aIns call { c with av := [] } { st with ts := ts } = some { st' with ts := putT ts c.dst v } := by
  have ho := evO_congr (i := c) hts
  have hw0 := wantedA_congr (i := c) hts
  unfold aIns at he ⊢
  simp only [hw0]
  by_cases hw : wantedA st.ts c.g = true
  · rw [if_pos hw] at he ⊢
    by_cases hic : c.op.isC = true
    · cases hcc : c.op <;> simp [hcc, I.isC] at hic
      rename_i f xs
      rw [hcc] at he ho
      simp only [I.opds, List.mem_cons, forall_eq_or_imp] at ho
      simp only at he ⊢
      rw [ho.1, List.map_congr_left ho.2]
      split at he <;> (try (cases he; done))
      obtain ⟨r, hr, he⟩ := Option.bind_eq_some_iff.1 he
      rw [hr]
      simp only [Option.bind_some]
      split at he <;> (try (cases he; done))
      rename_i hq
      rw [if_neg hq]
      simp only [Option.some.injEq] at he
      subst he
      exact ⟨_, rfl, rfl⟩
    · have hav : ∀ ρ, avoids ρ c.op [] = true := fun ρ => by unfold avoids; split <;> simp
      have ha := aop_congr (s := ⟨st.h, st.wl, st.wa⟩) ho
      cases hcc : c.op <;> simp [hcc, I.isC] at hic <;> simp only [hcc] at he hav ha ⊢ <;> rw [if_pos (hav _), ha] <;> (split at he <;> (try (cases he; done))) <;> (obtain ⟨r, h1, h2⟩ := map_some he; subst h2; rw [h1]; exact ⟨_, rfl, rfl⟩)
  · rw [if_neg hw] at he ⊢
    simp only [Option.some.injEq] at he
    subst he
    exact ⟨und, rfl, rfl⟩
end Go.Proofs.Ytaekgifbehoipaa.Eva
