/- Calls that make objects, and slices that are built by append. Conditions stand in each lemma. -/
import Derived.Test.YtaekgifbehoipaaEvaV
namespace Go.Proofs.Ytaekgifbehoipaa.Eva
open Go
set_option linter.unusedVariables false
set_option linter.unusedSimpArgs false

/-- A call that adds objects and leaves the others as they are: its value and the new objects. -/
noncomputable def ncall (E : Nat → Option CF) (k : Nat) (args : List AV) (h : List Ob) : Option (AV × List Ob) := open Classical in match ecall E k args h with
  | some (v, h', a, b) => if h'.take h.length = h ∧ a = h.length ∧ b = h.length then some (v, h'.drop h.length) else none
  | none => none
theorem ncall_some {E : Nat → Option CF} {k : Nat} {args : List AV} {h : List Ob} {v : AV} {ns : List Ob} : ncall E k args h = some (v, ns) ↔ ecall E k args h = some (v, h ++ ns, h.length, h.length) := by
  unfold ncall
  constructor
  · intro e
    split at e
    · rename_i w h' a b hc
      split at e
      · rename_i hh
        obtain ⟨h1, rfl, rfl⟩ := hh
        simp only [Option.some.injEq, Prod.mk.injEq] at e
        obtain ⟨rfl, rfl⟩ := e
        rw [hc]
        simp only [Option.some.injEq, Prod.mk.injEq, true_and, and_true]
        conv => rhs; rw [← h1, List.length_take]
        conv => lhs; rw [← List.take_append_drop h.length h']
        rw [h1]
        have hl : h.length ≤ h'.length := by
          have := congrArg List.length h1
          rw [List.length_take] at this; omega
        rw [Nat.min_eq_left hl]
      · cases e
    · cases e
  · intro e
    rw [e]
    simp
noncomputable def ncallV (E : Nat → Option CF) (g : AV) (args : List AV) (h : List Ob) : Option (AV × List Ob) := (fnOf g).bind fun p => ncall E p.1 (args ++ p.2) h
theorem ncallV_fn (E : Nat → Option CF) (k : Nat) (caps args : List AV) (h : List Ob) : ncallV E (.fn k caps) args h = ncall E k (args ++ caps) h := Eq.trans rfl rfl

section
variable {E : Nat → Option CF} {n0 n : Nat} {f : Fr} {h : List Ob} {l : List Ins} {K : Fr → List Ob → Prop} {d : Option Nat} {av : List Opd} {q : Bool}

theorem rg_calln {g : Opd} {xs : List Opd} (hp : (ncallV E (ev n f g) (xs.map (ev n f)) h).isSome = true) : rg E n0 n (⟨d, .call g xs, none, av, q⟩ :: l) K f h =
    (n0 ≤ h.length ∧ rg E n0 n l K (updO f d ((ncallV E (ev n f g) (xs.map (ev n f)) h).getD (und, [])).1) (h ++ ((ncallV E (ev n f g) (xs.map (ev n f)) h).getD (und, [])).2)) := by
  obtain ⟨⟨v, ns⟩, hv⟩ := Option.isSome_iff_exists.1 hp
  rw [hv]
  obtain ⟨⟨k, caps⟩, hg, hc⟩ := Option.bind_eq_some_iff.1 hv
  have hg' : ev n f g = .fn k caps := by
    cases hx : ev n f g <;> rw [hx] at hg <;> simp [fnOf] at hg
    rw [hg.1, hg.2]
  have hc' := ncall_some.1 hc
  rw [rg_call, hg']
  simp only [Option.getD_some]
  apply propext
  constructor
  · rintro ⟨k', caps', e, v', hh, wl, wa, e1, h1, h2, h3, h5, h6, h4⟩
    simp only [AV.fn.injEq] at e
    obtain ⟨rfl, rfl⟩ := e
    rw [hc'] at e1
    simp only [Option.some.injEq, Prod.mk.injEq] at e1
    obtain ⟨rfl, rfl, rfl, rfl⟩ := e1
    exact ⟨h1, h4⟩
  · rintro ⟨h1, h2⟩
    exact ⟨k, caps, rfl, v, h ++ ns, _, _, hc', h1, h1, fun _ => Nat.le_refl _, by simp; omega, take_app h1, h2⟩

/-- A slice that is being built: nil, or the whole of an object from n0 on. -/
def IsL (n0 : Nat) (h : List Ob) (v : AV) (sz : Nat) (fl : Bool) (cs : List AV) (k : Nat) : Prop :=
  (v = .sl true 0 0 0 0 0 ∧ cs = [] ∧ k = 0) ∨ (∃ id ep, v = .sl false id ep sz 0 k ∧ rdObj h id ep = some ⟨cs, ep, sz, true, fl⟩ ∧ n0 ≤ id ∧ k ≠ 0)

theorem IsL.nil {sz : Nat} {fl : Bool} : IsL n0 h (.sl true 0 0 0 0 0) sz fl [] 0 := Or.inl ⟨rfl, rfl, rfl⟩
theorem IsL.keep {v : AV} {sz k : Nat} {fl : Bool} {cs : List AV} (H : IsL n0 h v sz fl cs k) (o : List Ob) : IsL n0 (h ++ o) v sz fl cs k := by
  rcases H with H | ⟨id, ep, h1, h2, h3, h4⟩
  · exact Or.inl H
  · exact Or.inr ⟨id, ep, h1, rd_keep h2, h3, h4⟩
/-- The object that a slice being built lies in. -/
def idOf : AV → Nat → Prop
  | .sl nl id _ _ _ _, j => nl = false ∧ j = id
  | _, _ => False

theorem rd_set_ne {h : List Ob} {id id' ep : Nat} {o : Ob} (hne : id' ≠ id) : rdObj (h.set id o) id' ep = rdObj h id' ep := by
  unfold rdObj; rw [List.getElem?_set_ne (Ne.symm hne)]
theorem rd_set_same {h : List Ob} {id : Nat} {o : Ob} (hlt : id < h.length) : rdObj (h.set id o) id o.ep = some o := by
  unfold rdObj; rw [List.getElem?_set_self hlt]; simp
theorem rd_last {h : List Ob} {o : Ob} : rdObj (h ++ [o]) h.length o.ep = some o := by
  unfold rdObj; simp

/-- One element, just made, is appended. -/
theorem app_one {v : AV} {sz bytes k : Nat} {fl fl' : Bool} {cs c : List AV} (H : IsL n0 h v sz fl cs k) (hcs : cs.length = k * sz) (hc : c.length = sz) (hb : (k + 1) * bytes ≤ appLim) (hn : n0 ≤ h.length) :
    appOk n0 sz bytes (h ++ [⟨c, 0, sz, true, fl'⟩]) v (.sl false h.length 0 sz 0 1) ∧
    IsL n0 (appH n0 sz bytes (h ++ [⟨c, 0, sz, true, fl'⟩]) v (.sl false h.length 0 sz 0 1)) (appV n0 sz bytes (h ++ [⟨c, 0, sz, true, fl'⟩]) v (.sl false h.length 0 sz 0 1)) sz (if k = 0 then fl' else fl && fl') (cs ++ c) (k + 1) ∧
    (∀ id ep o, rdObj h id ep = some o → ¬ idOf v id → rdObj (appH n0 sz bytes (h ++ [⟨c, 0, sz, true, fl'⟩]) v (.sl false h.length 0 sz 0 1)) id ep = some o) ∧
    h.length ≤ (appH n0 sz bytes (h ++ [⟨c, 0, sz, true, fl'⟩]) v (.sl false h.length 0 sz 0 1)).length := by
  have hr : rdObj (h ++ [⟨c, 0, sz, true, fl'⟩]) h.length 0 = some ⟨c, 0, sz, true, fl'⟩ := rd_last (o := ⟨c, 0, sz, true, fl'⟩)
  have hcont : content sz ⟨h ++ [⟨c, 0, sz, true, fl'⟩], n0, n0⟩ (.sl false h.length 0 sz 0 1) = some (c, 1, fl') := by
    simp only [content, hr, Nat.one_ne_zero, if_false, Bool.false_eq_true, if_true]
    rw [if_pos (by simp [hc])]
    simp only [List.drop_zero, Nat.one_mul]
    rw [List.take_of_length_le (by omega)]
  rcases H with ⟨rfl, rfl, rfl⟩ | ⟨id, ep, rfl, h2, h3, h4⟩
  · have ha : aapp sz bytes ⟨h ++ [⟨c, 0, sz, true, fl'⟩], n0, n0⟩ (.sl true 0 0 0 0 0) (.sl false h.length 0 sz 0 1) = some (.sl false (h.length + 1) 0 sz 0 1, ⟨(h ++ [⟨c, 0, sz, true, fl'⟩]) ++ [⟨c, 0, sz, true, fl'⟩], n0, n0⟩) := by
      simp only [aapp, hcont, Option.bind_some, Nat.one_ne_zero, if_false]
      rw [if_pos (by simpa using hb)]
      simp [newObj]
    simp only [appOk, appV, appH, ha, if_true, List.nil_append, Nat.zero_add]
    refine ⟨⟨trivial, trivial, ?_, ?_⟩, Or.inr ⟨h.length + 1, 0, rfl, ?_, by omega, by omega⟩, fun id ep o ho _ => rd_keep (rd_keep ho), by simp⟩
    · rw [take_app (by simp; omega)]
    · simp; omega
    · have := rd_last (h := h ++ [⟨c, 0, sz, true, fl'⟩]) (o := ⟨c, 0, sz, true, fl'⟩)
      simpa using this
  · have h2' : rdObj (h ++ [⟨c, 0, sz, true, fl'⟩]) id ep = some ⟨cs, ep, sz, true, fl⟩ := rd_keep h2
    have hlt := rd_lt h2
    have ha : aapp sz bytes ⟨h ++ [⟨c, 0, sz, true, fl'⟩], n0, n0⟩ (.sl false id ep sz 0 k) (.sl false h.length 0 sz 0 1) = some (.sl false id (ep + 1) sz 0 (k + 1), ⟨(h ++ [(⟨c, 0, sz, true, fl'⟩ : Ob)]).set id ⟨cs ++ c, ep + 1, sz, true, fl && fl'⟩, n0, n0⟩) := by
      simp only [aapp, hcont, Option.bind_some, Nat.one_ne_zero, if_false, h2']
      rw [if_pos ⟨trivial, hb⟩, if_pos ⟨trivial, by omega⟩]
      simp only [List.drop_zero]
      rw [List.take_of_length_le (by omega), Nat.min_eq_left h3]
      cases fl' <;> rfl
    simp only [appOk, appV, appH, ha, if_neg h4]
    refine ⟨⟨trivial, trivial, ?_, ?_⟩, Or.inr ⟨id, ep + 1, rfl, ?_, h3, by omega⟩, fun id' ep' o ho hne => ?_, by simp⟩
    · rw [List.take_set_of_le h3, take_app hn]
    · simp; omega
    · exact rd_set_same (o := ⟨cs ++ c, ep + 1, sz, true, fl && fl'⟩) (by simp; omega)
    · rw [rd_set_ne (fun e => hne ⟨rfl, e⟩)]; exact rd_keep ho

/-- An append, and what comes after. -/
def appK (n0 sz bytes : Nat) (h : List Ob) (x y : AV) (K : AV → List Ob → Prop) : Prop := appOk n0 sz bytes h x y ∧ K (appV n0 sz bytes h x y) (appH n0 sz bytes h x y)
theorem rg_appk {sz bytes : Nat} {x y : Opd} : rg E n0 n (⟨d, .app sz bytes x y, none, av, q⟩ :: l) K f h = (avoids (ev n f) (.app sz bytes x y) av = true ∧ appK n0 sz bytes h (ev n f x) (ev n f y) (fun v' h' => rg E n0 n l K (updO f d v') h')) := by
  rw [rg_app]; unfold appK; exact propext ⟨fun ⟨a, b, c⟩ => ⟨b, a, c⟩, fun ⟨a, b, c⟩ => ⟨b, a, c⟩⟩
/-- One element that lies in an object is appended. -/
theorem appK_at {P : AV → List Ob → Prop} {v : AV} {sz bytes k j : Nat} {fl fl' rw' : Bool} {cs c : List AV} (H : IsL n0 h v sz fl cs k) (hr : rdObj h j 0 = some ⟨c, 0, sz, rw', fl'⟩) (hcs : cs.length = k * sz) (hc : c.length = sz) (hb : (k + 1) * bytes ≤ appLim) (hn : n0 ≤ h.length)
    (hK : ∀ v' h', IsL n0 h' v' sz (if k = 0 then fl' else fl && fl') (cs ++ c) (k + 1) → (∀ id ep o, rdObj h id ep = some o → ¬ idOf v id → rdObj h' id ep = some o) → h.length ≤ h'.length → (idOf v' h.length ∨ ∀ id, idOf v' id → idOf v id) → P v' h') :
    appK n0 sz bytes h v (.sl false j 0 sz 0 1) P := by
  have hcont : content sz ⟨h, n0, n0⟩ (.sl false j 0 sz 0 1) = some (c, 1, fl') := by
    simp only [content, hr, Nat.one_ne_zero, if_false, Bool.false_eq_true, if_true]
    rw [if_pos (by simp [hc])]
    simp only [List.drop_zero, Nat.one_mul]
    rw [List.take_of_length_le (by omega)]
  unfold appK
  rcases H with ⟨rfl, rfl, rfl⟩ | ⟨id, ep, rfl, h2, h3, h4⟩
  · have ha : aapp sz bytes ⟨h, n0, n0⟩ (.sl true 0 0 0 0 0) (.sl false j 0 sz 0 1) = some (.sl false h.length 0 sz 0 1, ⟨h ++ [⟨c, 0, sz, true, fl'⟩], n0, n0⟩) := by
      simp only [aapp, hcont, Option.bind_some, Nat.one_ne_zero, if_false]
      rw [if_pos (by simpa using hb)]
      simp [newObj]
    simp only [appOk, appV, appH, ha]
    refine ⟨⟨trivial, trivial, take_app hn, by simp; omega⟩, hK _ _ (Or.inr ⟨h.length, 0, rfl, rd_last (o := ⟨c, 0, sz, true, fl'⟩), hn, by omega⟩) (fun id ep o ho _ => rd_keep ho) (by simp) (Or.inl ⟨rfl, rfl⟩)⟩
  · have hlt := rd_lt h2
    have ha : aapp sz bytes ⟨h, n0, n0⟩ (.sl false id ep sz 0 k) (.sl false j 0 sz 0 1) = some (.sl false id (ep + 1) sz 0 (k + 1), ⟨h.set id ⟨cs ++ c, ep + 1, sz, true, fl && fl'⟩, n0, n0⟩) := by
      simp only [aapp, hcont, Option.bind_some, Nat.one_ne_zero, if_false, h2]
      rw [if_pos ⟨trivial, hb⟩, if_pos ⟨trivial, by omega⟩]
      simp only [List.drop_zero]
      rw [List.take_of_length_le (by omega), Nat.min_eq_left h3]
      cases fl' <;> rfl
    simp only [appOk, appV, appH, ha]
    refine ⟨⟨trivial, trivial, List.take_set_of_le h3, by simp; omega⟩, hK _ _ (Or.inr ⟨id, ep + 1, rfl, ?_, h3, by omega⟩) (fun id' ep' o ho hne => ?_) (by simp) (Or.inr fun _ hx => hx)⟩
    · rw [if_neg h4]; exact rd_set_same (o := ⟨cs ++ c, ep + 1, sz, true, fl && fl'⟩) hlt
    · rw [rd_set_ne (fun e => hne ⟨rfl, e⟩)]; exact ho

/-- What a call returns that has built a slice. -/
def outV (n0 : Nat) (sz k : Nat) : AV := if k = 0 then .sl true 0 0 0 0 0 else .sl false n0 0 sz 0 k
def outO (sz k : Nat) (cs : List AV) : List Ob := if k = 0 then [] else [⟨cs, 0, sz, true, true⟩]
theorem fin_list {v : AV} {sz k : Nat} {cs : List AV} {n : Nat} {f : Fr} (H : IsL n0 h v sz true cs k) (vs : List AV) (hp : plainV (.tup vs) = true) :
    fin n0 (.tup (v :: vs)) (stt n f h n0 n0) = (.tup (outV n0 sz k :: vs), h.take n0 ++ outO sz k cs, n0, n0) := by
  have hr : refs n0 (.tup vs) = [] := refs_plain n0 hp
  have hn := fun σ => ren_plain n0 σ (v := .tup vs) hp
  simp only [refs] at hr
  simp only [ren, AV.tup.injEq] at hn
  rcases H with ⟨rfl, rfl, rfl⟩ | ⟨id, ep, rfl, h2, h3, h4⟩
  · simp only [fin, Nat.lt_irrefl, if_false, refs, refsL, hr, true_or, if_true, List.append_nil, dd, pickObjs, ren, renL, hn, outV, outO]
  · have h5 : ¬ id < n0 := by omega
    have h6 : ¬ (False ∨ id < n0) := by simp [h5]
    simp only [fin, Nat.lt_irrefl, if_false, refs, refsL, hr, Bool.false_eq_true, if_neg h6, List.append_nil, dd, List.contains_nil, pickObjs, h2, if_true, ren, renL, hn, outV, outO, if_neg h4]
    simp [List.idxOf, h5]

/-- A call that returns a slice it has built, and a number. -/
theorem call_list {g : Nat} {cf : CF} (hE : E g = some cf) {args : List AV} (hn : args.length = cf.np) (hnt : args.length ≤ cf.nt) {h : List Ob} {sz k : Nat} {cs : List AV} {er : Int}
    (hw : wc E h.length cf.nt cf.code (fun e f h' => exOk e = true ∧ ∃ v, rvq cf.nt f h' cf.res = some [v, .int .i64 er] ∧ IsL h.length h' v sz true cs k) (ofL args) h) :
    ecall E g args h = some (.tup [outV h.length sz k, .int .i64 er], h ++ outO sz k cs, h.length, h.length) := by
  obtain ⟨e, f', h', k1, k2, ⟨k3, v, k4, k5⟩, k6⟩ := call_wc hE hn hnt hw
  rw [k6 _ k3 k4]
  have := fin_list (n := cf.nt) (f := f') k5 [.int .i64 er] rfl
  simp only [mkRes, this, k2]
/-- A call that returns a slice it has built. -/
theorem call_list1 {g : Nat} {cf : CF} (hE : E g = some cf) {args : List AV} (hn : args.length = cf.np) (hnt : args.length ≤ cf.nt) {h : List Ob} {sz k : Nat} {cs : List AV}
    (hw : wc E h.length cf.nt cf.code (fun e f h' => exOk e = true ∧ ∃ v, rvq cf.nt f h' cf.res = some [v] ∧ IsL h.length h' v sz true cs k) (ofL args) h) :
    ecall E g args h = some (outV h.length sz k, h ++ outO sz k cs, h.length, h.length) := by
  obtain ⟨e, f', h', k1, k2, ⟨k3, v, k4, k5⟩, k6⟩ := call_wc hE hn hnt hw
  rw [k6 _ k3 k4]
  have : fin h.length v (stt cf.nt f' h' h.length h.length) = (outV h.length sz k, h'.take h.length ++ outO sz k cs, h.length, h.length) := by
    rcases k5 with ⟨rfl, rfl, rfl⟩ | ⟨id, ep, rfl, h2, h3, h4⟩
    · simp only [fin, Nat.lt_irrefl, if_false, refs, refsL, true_or, if_true, List.append_nil, dd, pickObjs, ren, renL, outV, outO]
    · have h5 : ¬ id < h.length := by omega
      have h6 : ¬ (False ∨ id < h.length) := by simp [h5]
      simp only [fin, Nat.lt_irrefl, if_false, refs, refsL, Bool.false_eq_true, if_neg h6, List.append_nil, dd, List.contains_nil, pickObjs, h2, if_true, ren, renL, outV, outO, if_neg h4]
      simp [List.idxOf, h5]
  simp only [mkRes, this, k2]
/-! ### Slices that are read -/
/-- v is a slice of k elements of sz cells each, which read cs. -/
def RdL (h : List Ob) (v : AV) (sz : Nat) (cs : List AV) (k : Nat) : Prop :=
  cs.length = k * sz ∧ ((k = 0 ∧ ((∃ nl, v = .s0 nl) ∨ v = .sl true 0 0 0 0 0)) ∨ ∃ id ep off o, v = .sl false id ep sz off k ∧ rdObj h id ep = some o ∧ off + k * sz ≤ o.cs.length ∧ (o.cs.drop off).take (k * sz) = cs)
section
variable {v : AV} {sz k : Nat} {cs : List AV}
theorem RdL.keep (H : RdL h v sz cs k) (o : List Ob) : RdL (h ++ o) v sz cs k := by
  obtain ⟨h0, h1 | ⟨id, ep, off, ob, h1, h2, h3, h4⟩⟩ := H
  · exact ⟨h0, Or.inl h1⟩
  · exact ⟨h0, Or.inr ⟨id, ep, off, ob, h1, rd_keep h2, h3, h4⟩⟩
theorem RdL.mono {h' : List Ob} (H : RdL h v sz cs k) (hm : ∀ id ep o, idOf v id → rdObj h id ep = some o → rdObj h' id ep = some o) : RdL h' v sz cs k := by
  obtain ⟨h0, h1 | ⟨id, ep, off, ob, h1, h2, h3, h4⟩⟩ := H
  · exact ⟨h0, Or.inl h1⟩
  · exact ⟨h0, Or.inr ⟨id, ep, off, ob, h1, hm _ _ _ (by subst h1; exact ⟨rfl, rfl⟩) h2, h3, h4⟩⟩
theorem IsL.rd {fl : Bool} (H : IsL n0 h v sz fl cs k) (hcs : cs.length = k * sz) : RdL h v sz cs k := by
  rcases H with ⟨rfl, rfl, rfl⟩ | ⟨id, ep, h1, h2, h3, h4⟩
  · exact ⟨hcs, Or.inl ⟨rfl, Or.inr rfl⟩⟩
  · exact ⟨hcs, Or.inr ⟨id, ep, 0, _, h1, h2, by simp [hcs], by simp [← hcs]⟩⟩
theorem RdL.len (H : RdL h v sz cs k) : lenvA false v = some (.int .i64 k) := by
  obtain ⟨h0, ⟨rfl, ⟨nl, rfl⟩ | rfl⟩ | ⟨id, ep, off, ob, rfl, h2, h3, h4⟩⟩ := H <;> rfl
theorem RdL.ok (H : RdL h v sz cs k) {i : Int} {kk : IntKind} (h0 : 0 ≤ i) (h1 : i < k) : idxOk sz v (.int kk i) := by
  obtain ⟨_, ⟨rfl, _⟩ | ⟨id, ep, off, ob, rfl, h2, h3, h4⟩⟩ := H
  · omega
  · exact ⟨h0, h1, rfl, rfl⟩
theorem take_drop_take (l : List AV) (off a b n : Nat) (hb : b + n ≤ a) : (((l.drop off).take a).drop b).take n = (l.drop (off + b)).take n := by
  rw [List.drop_take, List.take_take, List.drop_drop, Nat.min_eq_left (by omega)]
theorem mul_in {i k sz : Nat} (h : i < k) : i * sz + sz ≤ k * sz := by rw [← Nat.succ_mul]; exact Nat.mul_le_mul_right _ h
theorem RdL.ldn (H : RdL h v sz cs k) {i : Int} {kk : IntKind} (h0 : 0 ≤ i) (h1 : i < k) : ldnA sz h (idxV sz v (.int kk i)) = some (.agg ((cs.drop (i.toNat * sz)).take sz)) := by
  obtain ⟨_, ⟨rfl, _⟩ | ⟨id, ep, off, ob, rfl, h2, h3, rfl⟩⟩ := H
  · omega
  · have := mul_in (sz := sz) (show i.toNat < k by omega)
    rw [idxV_sl, ldnA_ptr, h2]
    simp only [Option.bind_some]
    rw [if_pos (by omega), take_drop_take _ _ _ _ _ this]
theorem RdL.ldc (H : RdL h v sz cs k) {i : Int} {kk : IntKind} (h0 : 0 ≤ i) (h1 : i < k) {j : Nat} (hj : j < sz) : ld1A h (fadA j (idxV sz v (.int kk i))) = getC cs (i.toNat * sz + j) := by
  obtain ⟨_, ⟨rfl, _⟩ | ⟨id, ep, off, ob, rfl, h2, h3, rfl⟩⟩ := H
  · omega
  · have := mul_in (sz := sz) (show i.toNat < k by omega)
    rw [idxV_sl, fadA_ptr, ld1A_ptr, h2]
    simp only [Option.bind_some, getC]
    rw [List.getElem?_take, if_pos (by omega), List.getElem?_drop, Nat.add_assoc]
theorem RdL.ld0 (H : RdL h v sz cs k) {i : Int} {kk : IntKind} (h0 : 0 ≤ i) (h1 : i < k) (hj : 0 < sz) : ld1A h (idxV sz v (.int kk i)) = getC cs (i.toNat * sz) := by
  obtain ⟨_, ⟨rfl, _⟩ | ⟨id, ep, off, ob, rfl, h2, h3, rfl⟩⟩ := H
  · omega
  · have := mul_in (sz := sz) (show i.toNat < k by omega)
    rw [idxV_sl, ld1A_ptr, h2]
    simp only [Option.bind_some, getC]
    rw [List.getElem?_take, if_pos (by omega), List.getElem?_drop]
end

/-- What is returned reads so. -/
theorem out_rd {sz k : Nat} {cs : List AV} (hcs : cs.length = k * sz) : RdL (h ++ outO sz k cs) (outV h.length sz k) sz cs k := by
  unfold outV outO
  by_cases hk : k = 0
  · subst hk
    exact ⟨hcs, Or.inl ⟨rfl, Or.inr rfl⟩⟩
  · rw [if_neg hk, if_neg hk]
    exact ⟨hcs, Or.inr ⟨_, 0, 0, ⟨cs, 0, sz, true, true⟩, rfl, rd_last (o := ⟨cs, 0, sz, true, true⟩), by simp [hcs], by simp [← hcs]⟩⟩

theorem flat_drop {α : Type} {c : α → List AV} {k : Nat} (hc : ∀ x, (c x).length = k) : ∀ (l : List α) (n : Nat), flat c (l.drop n) = (flat c l).drop (n * k)
  | [], n => by simp [flat]
  | x :: l, 0 => by simp
  | x :: l, n + 1 => by
    have := flat_drop hc l n
    simp only [flat, List.drop_succ_cons, List.map_cons, List.flatten_cons, Nat.succ_mul] at this ⊢
    rw [this, Nat.add_comm, ← List.drop_drop, ← hc x, List.drop_left]
theorem flat_take' {α : Type} {c : α → List AV} {k : Nat} (hc : ∀ x, (c x).length = k) : ∀ (l : List α) (n : Nat), flat c (l.take n) = (flat c l).take (n * k)
  | [], n => by simp [flat]
  | x :: l, 0 => by simp [flat]
  | x :: l, n + 1 => by
    have := flat_take' hc l n
    simp only [flat, List.take_succ_cons, List.map_cons, List.flatten_cons, Nat.succ_mul] at this ⊢
    rw [this, Nat.add_comm, List.take_add, ← hc x, List.take_left, List.drop_left]

/-- A slice of things of a kind. -/
def SlL {α : Type} (h : List Ob) (v : AV) (c : α → List AV) (sz : Nat) (l : List α) : Prop := (∀ x, (c x).length = sz) ∧ 0 < sz ∧ RdL h v sz (flat c l) l.length
section
variable {α : Type} {v : AV} {sz : Nat} {c : α → List AV} {xs : List α}
theorem SlL.keep (H : SlL h v c sz xs) (o : List Ob) : SlL (h ++ o) v c sz xs := ⟨H.1, H.2.1, H.2.2.keep o⟩
theorem SlL.mono {h' : List Ob} (H : SlL h v c sz xs) (hm : ∀ id ep o, idOf v id → rdObj h id ep = some o → rdObj h' id ep = some o) : SlL h' v c sz xs := ⟨H.1, H.2.1, H.2.2.mono hm⟩
theorem SlL.len (H : SlL h v c sz xs) : lenvA false v = some (.int .i64 xs.length) := H.2.2.len
theorem SlL.ok (H : SlL h v c sz xs) {i : Int} {kk : IntKind} (h0 : 0 ≤ i) (h1 : i < xs.length) : idxOk sz v (.int kk i) := H.2.2.ok h0 h1
theorem SlL.ldn (H : SlL h v c sz xs) {i : Int} {kk : IntKind} {x : α} (h0 : 0 ≤ i) (hx : xs[i.toNat]? = some x) : ldnA sz h (idxV sz v (.int kk i)) = some (.agg (c x)) := by
  have hi := (List.getElem?_eq_some_iff.1 hx).1
  rw [H.2.2.ldn h0 (by omega), flat_take H.1 xs _ x hx]
theorem SlL.ldc (H : SlL h v c sz xs) {i : Int} {kk : IntKind} {x : α} (h0 : 0 ≤ i) (hx : xs[i.toNat]? = some x) {j : Nat} (hj : j < sz) : ld1A h (fadA j (idxV sz v (.int kk i))) = getC (c x) j := by
  have hi := (List.getElem?_eq_some_iff.1 hx).1
  rw [H.2.2.ldc h0 (by omega) hj, flat_get H.1 hx hj]
theorem SlL.ld0 (H : SlL h v c sz xs) {i : Int} {kk : IntKind} {x : α} (h0 : 0 ≤ i) (hx : xs[i.toNat]? = some x) : ld1A h (idxV sz v (.int kk i)) = getC (c x) 0 := by
  have hi := (List.getElem?_eq_some_iff.1 hx).1
  have := flat_get (c := c) H.1 hx H.2.1
  rw [H.2.2.ld0 h0 (by omega) H.2.1]
  rw [Nat.add_zero] at this; exact this
end

theorem SlL.cells {α : Type} {v : AV} {sz : Nat} {c : α → List AV} {xs : List α} (H : SlL h v c sz xs) : cellsOf v = [v] := by
  obtain ⟨hc, h0, hcs, ⟨hk, ⟨nl, rfl⟩ | rfl⟩ | ⟨id, ep, off, o, rfl, k2, k3, k4⟩⟩ := H <;> rfl
theorem SlL.isTup {α : Type} {v : AV} {sz : Nat} {c : α → List AV} {xs : List α} (H : SlL h v c sz xs) : v.isTup = false := by
  obtain ⟨hc, h0, hcs, ⟨hk, ⟨nl, rfl⟩ | rfl⟩ | ⟨id, ep, off, o, rfl, k2, k3, k4⟩⟩ := H <;> rfl
/-- A part of a slice. -/
theorem SlL.slc {α : Type} {v : AV} {sz : Nat} {c : α → List AV} {xs : List α} (H : SlL h v c sz xs) {a b : Option Int} {lo hi : Nat} (ha : a.getD 0 = lo) (hb : b.getD xs.length = hi) (h1 : lo ≤ hi) (h2 : hi ≤ xs.length) :
    ∃ v', slcA sz a b v = some v' ∧ SlL h v' c sz ((xs.drop lo).take (hi - lo)) ∧ ∀ i, idOf v' i → idOf v i := by
  obtain ⟨hc, h0, hcs, ⟨hk, ⟨nl, rfl⟩ | rfl⟩ | ⟨id, ep, off, o, rfl, k2, k3, k4⟩⟩ := H
  · have : xs = [] := List.length_eq_zero_iff.1 hk
    subst this
    have l0 : lo = 0 := by simp at h2; omega
    have hi0 : hi = 0 := by simp at h2; omega
    subst l0; subst hi0
    refine ⟨.s0 nl, ?_, ⟨hc, h0, by simp [flat], Or.inl ⟨rfl, Or.inl ⟨nl, rfl⟩⟩⟩, fun i hi => hi⟩
    simp only [slcA, ha]
    have : b.getD 0 = 0 := by simpa using hb
    simp [this]
  · have : xs = [] := List.length_eq_zero_iff.1 hk
    subst this
    have l0 : lo = 0 := by simp at h2; omega
    have hi0 : hi = 0 := by simp at h2; omega
    subst l0; subst hi0
    refine ⟨.sl true 0 0 0 0 0, ?_, ⟨hc, h0, by simp [flat], Or.inl ⟨rfl, Or.inr rfl⟩⟩, fun i hi => hi⟩
    have hb' : b.getD ((0 : Nat) : Int) = 0 := by simpa using hb
    simp only [slcA, ha, hb']
    simp
  · refine ⟨.sl false id ep sz (off + lo * sz) (hi - lo), ?_, ⟨hc, h0, flat_len hc _, ?_⟩, fun i hi => hi⟩
    · simp only [slcA, ha, hb]
      rw [if_pos ⟨by omega, by omega, by omega, Or.inr trivial⟩]
      simp
    · have hl : ((xs.drop lo).take (hi - lo)).length = hi - lo := by rw [List.length_take, List.length_drop]; omega
      have e1 : (hi - lo) * sz + lo * sz ≤ xs.length * sz := by rw [← Nat.add_mul]; exact Nat.mul_le_mul_right _ (by omega)
      refine Or.inr ⟨id, ep, off + lo * sz, o, by rw [hl], k2, by rw [hl]; omega, ?_⟩
      rw [hl]
      have e2 : flat c ((xs.drop lo).take (hi - lo)) = ((flat c xs).drop (lo * sz)).take ((hi - lo) * sz) := by
        rw [flat_take' hc, flat_drop hc]
      rw [e2, ← k4, List.drop_take, List.take_take, List.drop_drop, Nat.min_eq_left (by rw [← Nat.sub_mul]; exact Nat.mul_le_mul_right _ (by omega))]
theorem SlL.eqn {α : Type} {v : AV} {sz : Nat} {c : α → List AV} {xs : List α} (H : SlL h v c sz xs) : ∃ b, eqnA false 0 v = some (.bool b) ∧ (b = true → xs = []) := by
  obtain ⟨hc, h0, hcs, ⟨hk, ⟨nl, rfl⟩ | rfl⟩ | ⟨id, ep, off, o, rfl, k2, k3, k4⟩⟩ := H
  · exact ⟨nl, by cases nl <;> rfl, fun _ => List.length_eq_zero_iff.1 hk⟩
  · exact ⟨true, rfl, fun _ => List.length_eq_zero_iff.1 hk⟩
  · exact ⟨false, rfl, fun h => by cases h⟩

/-- The first one with a property. -/
def ixGo {α : Type} (p : α → Bool) : List α → Nat → Int
  | [], _ => -1
  | x :: r, i => if p x = true then i else ixGo p r (i + 1)
theorem ixGo_any {α : Type} (p : α → Bool) : ∀ (l : List α) (i : Nat), decide (0 ≤ ixGo p l i) = l.any p
  | [], i => by simp [ixGo]
  | x :: r, i => by
    cases h : p x with
    | true => simp [ixGo, h]
    | false =>
      have := ixGo_any p r (i + 1)
      simp only [ixGo, h, List.any_cons, Bool.false_eq_true, if_false, Bool.false_or]
      exact this
/-- What a loop leaves below is a beginning of the objects. -/
theorem take_eq {H h1 : List Ob} (ht : h1.take H.length = H) : h1 = H ++ h1.drop H.length := by
  conv => lhs; rw [← List.take_append_drop H.length h1, ht]

/-- Two branches that answer v. -/
theorem join_ite {α : Type} (c : Bool) (x y v : α) : ((c = true → x = v) ∧ (c = false → y = v)) = ((if c = true then x else y) = v) := by cases c <;> simp

theorem fad_fad (a b : Nat) (v : AV) : fadA a (fadA b v) = fadA (b + a) v := by cases v <;> simp only [fadA, und] <;> simp only [Nat.add_assoc]
theorem isPtr_fad (a : Nat) (v : AV) : isPtr (fadA a v) = isPtr v := by cases v <;> rfl
theorem isPtr_idx {sz : Nat} {v : AV} {kk : IntKind} {i : Int} (h : idxOk sz v (.int kk i)) : isPtr (idxV sz v (.int kk i)) = true := by cases v <;> first | rfl | cases h
/-- An index into an array. -/
def ixaA (m sz : Nat) (ag : Bool) : AV → AV → Option AV
  | .agg cs, .int _ i => if 0 ≤ i ∧ i < m then (if ag then some (.agg ((cs.drop (i.toNat * sz)).take sz)) else getC cs (i.toNat * sz)) else none
  | _, _ => none
theorem aop_ixa {ρ : Opd → AV} (s : Mem) (m sz : Nat) (ag : Bool) (x i : Opd) : aop ρ s (.ixa m sz ag x i) = (ixaA m sz ag (ρ x) (ρ i)).map fun v => (v, s) := by
  simp only [aop]
  cases ρ x <;> cases ρ i <;> simp only [ixaA, Option.map_none]
  rename_i cs k i
  split
  · cases ag
    · simp only [Bool.false_eq_true, if_false, getC]; cases cs[i.toNat * sz]? <;> rfl
    · rfl
  · rfl
theorem kq_ixa {ρ : Opd → AV} (m sz : Nat) (ag : Bool) (x i : Opd) : kq ρ h (.ixa m sz ag x i) = (ixaA m sz ag (ρ x) (ρ i)).isSome := by
  simp only [kq, aop_ixa]; cases ixaA m sz ag (ρ x) (ρ i) <;> rfl
theorem vq_ixa {ρ : Opd → AV} (m sz : Nat) (ag : Bool) (x i : Opd) : vq ρ h (.ixa m sz ag x i) = (ixaA m sz ag (ρ x) (ρ i)).getD und := by
  simp only [vq, aop_ixa]; cases ixaA m sz ag (ρ x) (ρ i) <;> rfl
theorem ixaA_0 (m sz : Nat) (k : IntKind) (v : AV) (cs : List AV) : ixaA (m + 1) sz false (.agg (v :: cs)) (.int k 0) = some v := by
  simp only [ixaA, getC]; rw [if_pos ⟨by omega, by omega⟩]; simp
theorem ixaA_1 (m : Nat) (k : IntKind) (u v : AV) (cs : List AV) : ixaA (m + 2) 1 false (.agg (u :: v :: cs)) (.int k 1) = some v := by
  simp only [ixaA, getC]; rw [if_pos ⟨by omega, by omega⟩]; rfl

theorem ixaA_t0 (m sz : Nat) (k : IntKind) (cs : List AV) : ixaA (m + 1) sz true (.agg cs) (.int k 0) = some (.agg (cs.take sz)) := by
  simp only [ixaA]; rw [if_pos ⟨by omega, by omega⟩]; simp
theorem ixaA_t1 (m sz : Nat) (k : IntKind) (cs : List AV) : ixaA (m + 2) sz true (.agg cs) (.int k 1) = some (.agg ((cs.drop sz).take sz)) := by
  simp only [ixaA]; rw [if_pos ⟨by omega, by omega⟩]; simp

theorem le_pl {a b k : Nat} (h : a ≤ b) : (a ≤ b + k) = True := eq_true (Nat.le_trans h (Nat.le_add_right b k))
/-- make. -/
def mkK (h : List Ob) (zs : List AV) (bytes : Nat) (K : AV → List Ob → Prop) : AV → AV → Prop
  | .int .i64 x, .int .i64 b => 0 ≤ x ∧ x ≤ b ∧ b.toNat * bytes ≤ appLim ∧ bytes ≠ 0 ∧ zs ≠ [] ∧ K (.sl false h.length 0 zs.length 0 x.toNat) (h ++ [⟨zrep x.toNat zs, 0, zs.length, true, zs.all AV.scalar⟩])
  | _, _ => False
theorem mkK_int (h : List Ob) (zs : List AV) (bytes : Nat) (K : AV → List Ob → Prop) (x b : Int) : mkK h zs bytes K (.int .i64 x) (.int .i64 b) = (0 ≤ x ∧ x ≤ b ∧ b.toNat * bytes ≤ appLim ∧ bytes ≠ 0 ∧ zs ≠ [] ∧ K (.sl false h.length 0 zs.length 0 x.toNat) (h ++ [⟨zrep x.toNat zs, 0, zs.length, true, zs.all AV.scalar⟩])) := Eq.trans rfl rfl
theorem rg_mkk {zs : List AV} {bytes : Nat} {a c : Opd} : rg E n0 n (⟨d, .mksl zs bytes a c, none, av, q⟩ :: l) K f h = mkK h zs bytes (fun v h' => rg E n0 n l K (updO f d v) h') (ev n f a) (ev n f c) := by
  rw [rg_mksl]
  apply propext
  constructor
  · rintro ⟨x, b, h1, h2, h3⟩
    rw [h1, h2]; exact h3
  · intro hk
    unfold mkK at hk
    split at hk
    · rename_i x b ha hc
      exact ⟨x, b, ha, hc, hk⟩
    · cases hk
theorem idOf_nil {j : Nat} : ¬ idOf (.sl true 0 0 0 0 0) j := fun h => nomatch h.1
theorem IsL.keep2 {H y : List Ob} {v : AV} {sz k : Nat} {fl : Bool} {cs : List AV} (hv : IsL n0 (H ++ y) v sz fl cs k) (o : List Ob) : IsL n0 (H ++ (y ++ o)) v sz fl cs k := by rw [← List.append_assoc]; exact hv.keep o
theorem rd_keep2 {H y l : List Ob} {id ep : Nat} {o : Ob} (e : rdObj (H ++ y) id ep = some o) : rdObj (H ++ (y ++ l)) id ep = some o := by rw [← List.append_assoc]; exact rd_keep e
theorem idOf_inj {v : AV} {i j : Nat} (h1 : idOf v i) (h2 : idOf v j) : i = j := by
  cases v <;> simp only [idOf] at h1 h2
  omega
theorem IsL.idlt {v : AV} {sz k j : Nat} {fl : Bool} {cs : List AV} (hv : IsL n0 h v sz fl cs k) (hj : idOf v j) : j < h.length := by
  rcases hv with ⟨rfl, _⟩ | ⟨id, ep, rfl, h2, _⟩
  · exact absurd hj idOf_nil
  · have := rd_lt h2
    obtain ⟨_, rfl⟩ := hj; exact this
theorem IsL.mono {h' : List Ob} {v : AV} {sz k : Nat} {fl : Bool} {cs : List AV} (hv : IsL n0 h v sz fl cs k) (hm : ∀ id ep o, idOf v id → rdObj h id ep = some o → rdObj h' id ep = some o) : IsL n0 h' v sz fl cs k := by
  rcases hv with hv | ⟨id, ep, rfl, h2, h3⟩
  · exact Or.inl hv
  · exact Or.inr ⟨id, ep, rfl, hm _ _ _ ⟨rfl, rfl⟩ h2, h3⟩
theorem IsL.idge {v : AV} {sz k j : Nat} {fl : Bool} {cs : List AV} (hv : IsL n0 h v sz fl cs k) (hj : idOf v j) : n0 ≤ j := by
  rcases hv with ⟨rfl, _⟩ | ⟨id, ep, rfl, h2, h3, _⟩
  · exact absurd hj idOf_nil
  · obtain ⟨_, rfl⟩ := hj; exact h3
theorem SlL.idlt {α : Type} {v : AV} {sz j : Nat} {c : α → List AV} {xs : List α} (hv : SlL h v c sz xs) (hj : idOf v j) : j < h.length := by
  obtain ⟨_, _, _, ⟨_, ⟨nl, rfl⟩ | rfl⟩ | ⟨id, ep, off, o, rfl, k2, _⟩⟩ := hv
  · exact absurd hj (fun h => h)
  · exact absurd hj idOf_nil
  · obtain ⟨_, rfl⟩ := hj; exact rd_lt k2
theorem SlL.nil {α : Type} {sz : Nat} {c : α → List AV} (hc : ∀ x, (c x).length = sz) (h0 : 0 < sz) : SlL h (.sl true 0 0 0 0 0) c sz ([] : List α) := ⟨hc, h0, by simp [flat], Or.inl ⟨rfl, Or.inr rfl⟩⟩
/-! ### Under a guard -/
theorem idx_gl {c : Bool} (sz : Nat) (v i : AV) : gv c (idxV sz (gv c v) i) = gv c (idxV sz v i) := by cases c <;> rfl
theorem idx_gr {c : Bool} (sz : Nat) (v i : AV) : gv c (idxV sz v (gv c i)) = gv c (idxV sz v i) := by cases c <;> rfl
theorem iok_gl {c : Bool} (sz : Nat) (v i : AV) : (c = true → idxOk sz (gv c v) i) = (c = true → idxOk sz v i) := by cases c <;> simp [gv]
theorem iok_gr {c : Bool} (sz : Nat) (v i : AV) : (c = true → idxOk sz v (gv c i)) = (c = true → idxOk sz v i) := by cases c <;> simp [gv]
theorem wnt_bool (b want : Bool) : wnt (.bool b) want = gd b want := Eq.trans rfl rfl
theorem wnt_gv (c : Bool) (v : AV) (want : Bool) : wnt (gv c v) want = (c && wnt v want) := by cases c <;> rfl
theorem wnt_und (want : Bool) : wnt und want = false := Eq.trans rfl rfl
theorem gv_pk1 {c : Bool} (y w : Bool) (v x : AV) : gv c (pickA (.bool y) (gv (c && gd y w) v) x) = gv c (pickA (.bool y) (gv (gd y w) v) x) := by cases c <;> rfl
theorem gv_pk2 {c : Bool} (y w : Bool) (v x : AV) : gv c (pickA (.bool y) x (gv (c && gd y w) v)) = gv c (pickA (.bool y) x (gv (gd y w) v)) := by cases c <;> rfl
theorem gd_tt : gd true true = true := Eq.trans rfl rfl
theorem gd_tf : gd true false = false := Eq.trans rfl rfl
theorem gd_ft : gd false true = false := Eq.trans rfl rfl
theorem gd_ff : gd false false = true := Eq.trans rfl rfl
theorem im_t (k : Bool) : im true k = k := by cases k <;> rfl
theorem im_f (k : Bool) : im false k = true := by cases k <;> rfl
theorem gv_t (v : AV) : gv true v = v := Eq.trans rfl rfl
theorem gv_f (v : AV) : gv false v = und := Eq.trans rfl rfl
theorem im_eqbl {c : Bool} (ng : Bool) (v w : AV) : im c (eqbA ng (gv c v) w).isSome = im c (eqbA ng v w).isSome := by cases c <;> rfl
theorem im_eqbr {c : Bool} (ng : Bool) (v w : AV) : im c (eqbA ng v (gv c w)).isSome = im c (eqbA ng v w).isSome := by cases c <;> rfl
theorem gv_eqbl {c : Bool} (ng : Bool) (v w : AV) : gv c ((eqbA ng (gv c v) w).getD und) = gv c ((eqbA ng v w).getD und) := by cases c <;> rfl
theorem gv_eqbr {c : Bool} (ng : Bool) (v w : AV) : gv c ((eqbA ng v (gv c w)).getD und) = gv c ((eqbA ng v w).getD und) := by cases c <;> rfl
theorem im_eqsl {c : Bool} (ng : Bool) (ks : List PK) (v w : AV) : im c (eqsA ng ks (gv c v) w).isSome = im c (eqsA ng ks v w).isSome := by cases c <;> rfl
theorem im_eqsr {c : Bool} (ng : Bool) (ks : List PK) (v w : AV) : im c (eqsA ng ks v (gv c w)).isSome = im c (eqsA ng ks v w).isSome := by cases c <;> rfl
theorem gv_eqsl {c : Bool} (ng : Bool) (ks : List PK) (v w : AV) : gv c ((eqsA ng ks (gv c v) w).getD und) = gv c ((eqsA ng ks v w).getD und) := by cases c <;> rfl
theorem gv_eqsr {c : Bool} (ng : Bool) (ks : List PK) (v w : AV) : gv c ((eqsA ng ks v (gv c w)).getD und) = gv c ((eqsA ng ks v w).getD und) := by cases c <;> rfl
theorem im_eqn {c : Bool} (ng : Bool) (k : Nat) (v : AV) : im c (eqnA ng k (gv c v)).isSome = im c (eqnA ng k v).isSome := by cases c <;> rfl
theorem gv_eqn {c : Bool} (ng : Bool) (k : Nat) (v : AV) : gv c ((eqnA ng k (gv c v)).getD und) = gv c ((eqnA ng k v).getD und) := by cases c <;> rfl
theorem im_cvi {c : Bool} (k : IntKind) (v : AV) : im c (cviA k (gv c v)).isSome = im c (cviA k v).isSome := by cases c <;> rfl
theorem gv_cvi {c : Bool} (k : IntKind) (v : AV) : gv c ((cviA k (gv c v)).getD und) = gv c ((cviA k v).getD und) := by cases c <;> rfl
theorem im_fld1 {c : Bool} (k : Nat) (v : AV) : im c (fld1A k (gv c v)).isSome = im c (fld1A k v).isSome := by cases c <;> rfl
theorem gv_fld1 {c : Bool} (k : Nat) (v : AV) : gv c ((fld1A k (gv c v)).getD und) = gv c ((fld1A k v).getD und) := by cases c <;> rfl
theorem im_fldn {c : Bool} (k j : Nat) (v : AV) : im c (fldnA k j (gv c v)).isSome = im c (fldnA k j v).isSome := by cases c <;> rfl
theorem gv_fldn {c : Bool} (k j : Nat) (v : AV) : gv c ((fldnA k j (gv c v)).getD und) = gv c ((fldnA k j v).getD und) := by cases c <;> rfl
theorem im_lenv {c : Bool} (s : Bool) (v : AV) : im c (lenvA s (gv c v)).isSome = im c (lenvA s v).isSome := by cases c <;> rfl
theorem gv_lenv {c : Bool} (s : Bool) (v : AV) : gv c ((lenvA s (gv c v)).getD und) = gv c ((lenvA s v).getD und) := by cases c <;> rfl
end
end Go.Proofs.Ytaekgifbehoipaa.Eva
