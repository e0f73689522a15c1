/- What must hold ahead of a code so that it runs and ends well: as a proposition that simp can unfold. Conditions stand in each lemma. -/
import Derived.Test.YtaekgifbehoipaaEvaP
namespace Go.Proofs.Ytaekgifbehoipaa.Eva
open Go
set_option linter.unusedVariables false
set_option linter.unusedSimpArgs false

abbrev Fr := Nat → AV

/-- A store into an object from n0 on. -/
def stOk (n0 k : Nat) (h : List Ob) (p x : AV) : Prop := match p with
  | .ptr id ep off => match rdObj h id ep with
    | some o => (cellsOf x).length = k ∧ off + k ≤ o.cs.length ∧ x.isTup = false ∧ o.rw = true ∧ n0 ≤ id
    | none => False
  | _ => False
def putObj (h : List Ob) (id off : Nat) (new : List AV) (o : Ob) : List Ob := h.set id { o with cs := wr o.cs off new, fl := o.fl && new.all AV.scalar }
def stH (h : List Ob) (p x : AV) : List Ob := match p with
  | .ptr id ep off => match rdObj h id ep with
    | some o => putObj h id off (cellsOf x) o
    | none => h
  | _ => h

/-- An append to a slice that is nil or lies in an object from n0 on. -/
def appOk (n0 sz bytes : Nat) (h : List Ob) (x y : AV) : Prop := match aapp sz bytes ⟨h, n0, n0⟩ x y with
  | some r => r.2.wl = n0 ∧ r.2.wa = n0 ∧ r.2.h.take n0 = h.take n0 ∧ n0 ≤ r.2.h.length
  | none => False
def appV (n0 sz bytes : Nat) (h : List Ob) (x y : AV) : AV := match aapp sz bytes ⟨h, n0, n0⟩ x y with
  | some r => r.1
  | none => und
def appH (n0 sz bytes : Nat) (h : List Ob) (x y : AV) : List Ob := match aapp sz bytes ⟨h, n0, n0⟩ x y with
  | some r => r.2.h
  | none => h

def updO (f : Fr) (d : Option Nat) (v : AV) : Fr := match d with
  | some d => upd f d v
  | none => f

/-- A call that leaves the objects as they are: its value. -/
noncomputable def pcall (E : Nat → Option CF) (k : Nat) (args : List AV) (h : List Ob) : Option AV := open Classical in match ecall E k args h with
  | some (v, h', a, b) => if h' = h ∧ a = h.length ∧ b = h.length then some v else none
  | none => none
theorem pcall_some {E : Nat → Option CF} {k : Nat} {args : List AV} {h : List Ob} {v : AV} : pcall E k args h = some v ↔ ecall E k args h = some (v, h, h.length, h.length) := by
  unfold pcall
  constructor
  · intro e
    split at e
    · rename_i w h' a b hc
      split at e
      · rename_i hh
        obtain ⟨rfl, rfl, rfl⟩ := hh
        simp only [Option.some.injEq] at e
        rw [hc, e]
      · cases e
    · cases e
  · intro e
    rw [e]
    simp
/-- A function's value, if it is one. -/
def fnOf : AV → Option (Nat × List AV)
  | .fn k c => some (k, c)
  | _ => none
noncomputable def pcallV (E : Nat → Option CF) (g : AV) (args : List AV) (h : List Ob) : Option AV := (fnOf g).bind fun p => pcall E p.1 (args ++ p.2) h

/-- A part of a row is set to zeros. -/
def clrK (n0 : Nat) (zs : List AV) (h : List Ob) (v : AV) (K : List Ob → Prop) : Prop := match v with
  | .sl nl id ep sz off len => (len = 0 ∧ K h) ∨ (len ≠ 0 ∧ nl = false ∧ sz = zs.length ∧ n0 ≤ id ∧ ∃ o, rdObj h id ep = some o ∧ off + len * sz ≤ o.cs.length ∧ o.rw = true ∧ K (h.set id { o with cs := wr o.cs off (zrep len zs), fl := o.fl && (zrep len zs).all AV.scalar }))
  | _ => False

/-- Is a guard as wanted? -/
def wnt (v : AV) (want : Bool) : Bool := match v with
  | .bool b => gd b want
  | _ => false

section
variable (E : Nat → Option CF) (n0 n : Nat)

/-- One operation without a guard, that is not quiet. -/
def rgL (d : Option Nat) (op : I) (av : List Opd) (f : Fr) (h : List Ob) (K : Fr → List Ob → Prop) : Prop := match op with
  | .new zs => K (updO f d (.ptr h.length 0 0)) (h ++ [⟨zs, 0, 0, true, zs.all AV.scalar⟩])
  | .box x => (ev n f x).isTup = false ∧ K (updO f d (.ptr h.length 0 0)) (h ++ [obOf (ev n f x)])
  | .mks zs sz len ps => (lay (ev n f) zs ps).isSome = true ∧ K (updO f d (.sl false h.length 0 sz 0 len)) (h ++ [⟨(lay (ev n f) zs ps).getD [], 0, sz, true, ((lay (ev n f) zs ps).getD []).all AV.scalar⟩])
  | .mksl zs bytes l c => ∃ a b, ev n f l = .int .i64 a ∧ ev n f c = .int .i64 b ∧ 0 ≤ a ∧ a ≤ b ∧ b.toNat * bytes ≤ appLim ∧ bytes ≠ 0 ∧ zs ≠ [] ∧ K (updO f d (.sl false h.length 0 zs.length 0 a.toNat)) (h ++ [⟨zrep a.toNat zs, 0, zs.length, true, zs.all AV.scalar⟩])
  | .st k a x => stOk n0 k h (ev n f a) (ev n f x) ∧ avoids (ev n f) (.st k a x) av = true ∧ K (updO f d und) (stH h (ev n f a) (ev n f x))
  | .app sz bytes x y => appOk n0 sz bytes h (ev n f x) (ev n f y) ∧ avoids (ev n f) (.app sz bytes x y) av = true ∧ K (updO f d (appV n0 sz bytes h (ev n f x) (ev n f y))) (appH n0 sz bytes h (ev n f x) (ev n f y))
  | .cpy sz x y => ∃ v h', aop (ev n f) ⟨h, n0, n0⟩ (.cpy sz x y) = some (v, ⟨h', n0, n0⟩) ∧ avoids (ev n f) (.cpy sz x y) av = true ∧ h'.take n0 = h.take n0 ∧ n0 ≤ h'.length ∧ K (updO f d v) h'
  | .clr zs x => avoids (ev n f) (.clr zs x) av = true ∧ clrK n0 zs h (ev n f x) (fun h' => K (updO f d und) h')
  | .appz zs bytes x y => ∃ v o, aappz zs bytes ⟨h, n0, n0⟩ (ev n f x) (ev n f y) = some (v, ⟨h ++ o, n0, n0⟩) ∧ K (updO f d v) (h ++ o)
  | .csb x => ∃ b, ev n f x = .str b ∧ K (updO f d (.sl false h.length 0 1 0 b.size)) (h ++ [csbO b])
  | .csc x => (∃ id ep sz off len o, ev n f x = .sl false id ep sz off len ∧ rdObj h id ep = some o ∧ o.rw = true ∧ len ≠ 0 ∧ n0 ≤ id) ∧ K (updO f d (ev n f x)) h
  | .cbs x => ∃ v, acbs ⟨h, n0, n0⟩ (ev n f x) = some v ∧ K (updO f d v) h
  | _ => False

/-- One operation without a guard. -/
def rgN (d : Option Nat) (op : I) (av : List Opd) (q : Bool) (f : Fr) (h : List Ob) (K : Fr → List Ob → Prop) : Prop := match op with
  | .call g xs => ∃ k caps, ev n f g = .fn k caps ∧ ∃ v h2 wl wa, ecall E k (xs.map (ev n f) ++ caps) h = some (v, h2, wl, wa) ∧ n0 ≤ wl ∧ n0 ≤ wa ∧ (q = true → h.length ≤ wl) ∧ n0 ≤ h2.length ∧ h2.take n0 = h.take n0 ∧ K (updO f d v) h2
  | op => if op.quiet = true then kq (ev n f) h op = true ∧ K (updO f d (vq (ev n f) h op)) h else rgL n0 n d op av f h K
/-- One operation under a guard that is c. -/
def rgG (c : Bool) (d : Option Nat) (op : I) (av : List Opd) (f : Fr) (h : List Ob) (K : Fr → List Ob → Prop) : Prop := match op with
  | .call g xs => im c (pcallV E (ev n f g) (xs.map (ev n f)) h).isSome = true ∧ K (updO f d (gv c ((pcallV E (ev n f g) (xs.map (ev n f)) h).getD und))) h
  | op => if op.quiet = true then im c (kq (ev n f) h op) = true ∧ K (updO f d (gv c (vq (ev n f) h op))) h
    else (c = true → rgL n0 n d op av f h K) ∧ (c = false → K (updO f d und) h)
def rg1 (i : Ins) (f : Fr) (h : List Ob) (K : Fr → List Ob → Prop) : Prop := match i with
  | ⟨d, op, none, av, q⟩ => rgN E n0 n d op av q f h K
  | ⟨d, op, some (s, want), av, q⟩ => rgG E n0 n (wnt (ev n f (.t s)) want) d op av f h K
def rg : List Ins → (Fr → List Ob → Prop) → Fr → List Ob → Prop
  | [], K, f, h => K f h
  | i :: l, K, f, h => rg1 E n0 n i f h (rg l K)

/-- What code leaves, when it runs. -/
def W (c : CC) (Q : Ex → Fr → List Ob → Prop) (f : Fr) (h : List Ob) : Prop :=
  ∃ e f' h', ecode E c (stt n f h n0 n0) = some (e, stt n f' h' n0 n0) ∧ n0 ≤ h'.length ∧ h'.take n0 = h.take n0 ∧ Q e f' h'
def RG (l : List Ins) (K : Fr → List Ob → Prop) (f : Fr) (h : List Ob) : Prop :=
  ∃ f' h', aReg (ecall E) l (stt n f h n0 n0) = some (stt n f' h' n0 n0) ∧ n0 ≤ h'.length ∧ h'.take n0 = h.take n0 ∧ K f' h'

def thenQ (k : Fr → List Ob → Prop) (Q : Ex → Fr → List Ob → Prop) : Ex → Fr → List Ob → Prop
  | .nrm, f, h => k f h
  | .ex i, f, h => Q (.ex i) f h
  | .rt, f, h => Q .rt f h
def leaveQ (id : Nat) (Q : Ex → Fr → List Ob → Prop) : Ex → Fr → List Ob → Prop
  | .ex j, f, h => if j = id then Q .nrm f h else Q (.ex j) f h
  | .nrm, f, h => Q .nrm f h
  | .rt, f, h => Q .rt f h

def wc : CC → (Ex → Fr → List Ob → Prop) → Fr → List Ob → Prop
  | .skip, Q, f, h => Q .nrm f h
  | .reg l, Q, f, h => rg E n0 n l (Q .nrm) f h
  | .seq a b, Q, f, h => wc a (thenQ (wc b Q) Q) f h
  | .cond c x y, Q, f, h => isBool (ev n f c) = true ∧ (bv (ev n f c) = true → wc x Q f h) ∧ (bv (ev n f c) = false → wc y Q f h)
  | .blk id x, Q, f, h => wc x (leaveQ id Q) f h
  | .loop x, Q, f, h => W E n0 n (.loop x) Q f h
  | .exit id, Q, f, h => Q (.ex id) f h
  | .ret, Q, f, h => Q .rt f h
  | .bad, _, _, _ => False
end

section
variable {E : Nat → Option CF} {n0 n : Nat}

theorem putO_mkE (f : Fr) (d : Option Nat) (v : AV) : putT (mkE n f) d v = mkE n (updO f d v) := by
  cases d with
  | none => rfl
  | some d => exact mkE_set n f d v

theorem take_app {h : List Ob} {o : List Ob} (hn : n0 ≤ h.length) : (h ++ o).take n0 = h.take n0 := List.take_append_of_le_length hn

theorem rgL_sound {d : Option Nat} {op : I} {av : List Opd} {q : Bool} {f : Fr} {h : List Ob} {K : Fr → List Ob → Prop} (hn : n0 ≤ h.length) (hr : rgL n0 n d op av f h K) :
    ∃ f' h', aIns (ecall E) ⟨d, op, none, av, q⟩ (stt n f h n0 n0) = some (stt n f' h' n0 n0) ∧ n0 ≤ h'.length ∧ h'.take n0 = h.take n0 ∧ K f' h' := by
  unfold rgL at hr
  split at hr
  · exact ⟨_, _, by simp only [aIns, wantedA, if_true, evO_mkE, avoids, tgt, aop, Option.map_some, newObj, putO_mkE], by simp; omega, take_app hn, hr⟩
  · rename_i x
    obtain ⟨h1, h2⟩ := hr
    refine ⟨_, _, ?_, ?_, take_app hn, h2⟩
    · simp only [aIns, wantedA, if_true, evO_mkE, avoids, tgt, aop, h1, Bool.false_eq_true, if_false, Option.map_some, newObj, putO_mkE, obOf]
    · simp; omega
  · rename_i zs sz len ps
    obtain ⟨h1, h2⟩ := hr
    obtain ⟨cs, hcs⟩ := Option.isSome_iff_exists.1 h1
    rw [hcs] at h2
    refine ⟨_, _, ?_, ?_, take_app hn, h2⟩
    · simp only [aIns, wantedA, if_true, evO_mkE, avoids, tgt, aop, hcs, Option.map_some, newObj, putO_mkE, Option.getD_some]
    · simp; omega
  · rename_i zs bytes l c
    obtain ⟨a, b, h1, h2, h3, h4, h5, h6, h7, h8⟩ := hr
    refine ⟨_, _, ?_, ?_, take_app hn, h8⟩
    · simp only [aIns, wantedA, if_true, evO_mkE, avoids, tgt, aop, h1, h2]
      rw [if_pos ⟨h3, h4, h5, h6, h7⟩]
      simp only [Option.map_some, newObj, putO_mkE]
    · simp; omega
  · rename_i k a x
    obtain ⟨h1, h2, h3⟩ := hr
    unfold stOk at h1
    split at h1 <;> (try (cases h1; done))
    rename_i id ep off hp
    split at h1 <;> (try (cases h1; done))
    rename_i o ho
    obtain ⟨g1, g2, g3, g4, g5⟩ := h1
    refine ⟨_, _, ?_, ?_, ?_, h3⟩
    · simp only [aIns, wantedA, if_true, evO_mkE, h2, aop, hp, ho]
      rw [if_pos ⟨g1, g2, g3, g4⟩]
      have hmin : min n0 id = n0 := Nat.min_eq_left g5
      simp only [Option.map_some, stObj, putO_mkE, stH, putObj, hp, ho, hmin]
      split <;> rfl
    · simp only [stH, hp, ho, putObj, List.length_set]; exact hn
    · simp only [stH, hp, ho, putObj]
      rw [List.take_set_of_le g5]
  · rename_i sz bytes x y
    obtain ⟨h1, h2, h3⟩ := hr
    unfold appOk at h1
    split at h1 <;> (try (cases h1; done))
    rename_i r hr'
    obtain ⟨g1, g2, g3, g4⟩ := h1
    refine ⟨_, _, ?_, ?_, ?_, h3⟩
    · simp only [aIns, wantedA, if_true, evO_mkE, h2, aop, hr', Option.map_some, appV, appH, g1, g2, putO_mkE]
    · simp only [appH, hr']; exact g4
    · simp only [appH, hr']; exact g3
  · rename_i sz x y
    obtain ⟨v, h', h1, h2, h3, h4, h5⟩ := hr
    refine ⟨_, _, ?_, h4, h3, h5⟩
    simp only [aIns, wantedA, if_true, evO_mkE, h2, h1, Option.map_some, putO_mkE]
  · rename_i zs x
    obtain ⟨h1, h2⟩ := hr
    unfold clrK at h2
    split at h2 <;> (try (cases h2; done))
    rename_i nl id ep sz off len hp
    rcases h2 with ⟨h0, h2⟩ | ⟨h0, h3, h4, h5, o, ho, h6, h7, h8⟩
    · refine ⟨_, h, ?_, hn, rfl, h2⟩
      simp only [aIns, wantedA, if_true, evO_mkE, h1, aop, hp]
      rw [if_pos h0]
      simp only [Option.map_some, putO_mkE]
    · refine ⟨_, _, ?_, by rw [List.length_set]; exact hn, List.take_set_of_le h5, h8⟩
      simp only [aIns, wantedA, if_true, evO_mkE, h1, aop, hp, ho]
      rw [if_neg h0, if_pos ⟨h3, h4⟩, if_pos ⟨h6, h7⟩]
      have hmin : min n0 id = n0 := Nat.min_eq_left h5
      simp only [Option.map_some, stObj, putO_mkE, hmin]
      split <;> rfl
  · rename_i zs bytes x y
    obtain ⟨v, o, h1, h2⟩ := hr
    refine ⟨_, _, ?_, by simp; omega, take_app hn, h2⟩
    simp only [aIns, wantedA, if_true, evO_mkE, avoids, tgt, aop, h1, Option.map_some, putO_mkE]
  · rename_i x
    obtain ⟨b, h1, h2⟩ := hr
    refine ⟨_, _, ?_, by simp; omega, take_app hn, h2⟩
    simp only [aIns, wantedA, if_true, evO_mkE, avoids, tgt, aop, h1, Option.map_some, newObj, putO_mkE]
  · rename_i x
    obtain ⟨⟨id, ep, sz, off, len, o, h1, h2, h3, h4, h5⟩, h6⟩ := hr
    refine ⟨_, h, ?_, hn, rfl, h6⟩
    have hmin : min n0 id = n0 := Nat.min_eq_left h5
    simp only [aIns, wantedA, if_true, evO_mkE, avoids, tgt, aop, h1, h2]
    rw [if_pos ⟨h3, h4⟩]
    simp only [Option.map_some, hmin, putO_mkE]
  · rename_i x
    obtain ⟨v, h1, h2⟩ := hr
    refine ⟨_, h, ?_, hn, rfl, h2⟩
    simp only [aIns, wantedA, if_true, evO_mkE, avoids, tgt, aop, h1, Option.map_some, putO_mkE]
  · cases hr

theorem aReg_cons (call : CallF) (i : Ins) (l : List Ins) (s : St) : aReg call (i :: l) s = (aIns call i s).bind (aReg call l) := rfl

theorem ins_q {call : CallF} {wl wa : Nat} {d : Option Nat} {op : I} {av : List Opd} {q : Bool} {f : Fr} {h : List Ob} (hq : op.quiet = true) (hk : kq (ev n f) h op = true) :
    aIns call ⟨d, op, none, av, q⟩ (stt n f h wl wa) = some (stt n (updO f d (vq (ev n f) h op)) h wl wa) := by
  have htgt : tgt (ev n f) op = none := by cases op <;> simp [I.quiet, I.loud, I.isN, I.isC] at hq <;> rfl
  obtain ⟨r, hr⟩ := Option.isSome_iff_exists.1 hk
  have ha : aop (ev n f) ⟨h, wl, wa⟩ op = some (r.1, ⟨h, wl, wa⟩) := by rw [quiet_aop hq]; simp only; rw [hr]; rfl
  have hv : vq (ev n f) h op = r.1 := by simp [vq, hr]
  have hc : op.isC = false := by cases op <;> simp [I.quiet, I.loud, I.isN, I.isC] at hq <;> rfl
  simp only [aIns, wantedA, if_true]
  cases op <;> (try (simp [I.isC] at hc; done)) <;> simp only [evO_mkE, avoids, htgt, if_true, ha, Option.map_some, putO_mkE, hv]
theorem ins_guard {call : CallF} {d : Option Nat} {op : I} {av : List Opd} {q want : Bool} {s : Nat} {f : Fr} {h : List Ob} {wl wa : Nat} :
    aIns call ⟨d, op, some (s, want), av, q⟩ (stt n f h wl wa) = if wnt (ev n f (.t s)) want = true then aIns call ⟨d, op, none, av, q⟩ (stt n f h wl wa) else some (stt n (updO f d und) h wl wa) := by
  have hb2 : (mkE n f).getD s und = ev n f (.t s) := by rw [mkE_get]; rfl
  have hw : wantedA (mkE n f) (some (s, want)) = wnt (ev n f (.t s)) want := by
    simp only [wantedA, hb2, wnt, gd]
    cases ev n f (.t s) <;> rfl
  have hn : wantedA (mkE n f) none = true := rfl
  simp only [aIns, hw, hn, if_true, putO_mkE]

theorem rgN_sound {d : Option Nat} {op : I} {av : List Opd} {q : Bool} {f : Fr} {h : List Ob} {K : Fr → List Ob → Prop} (hn : n0 ≤ h.length) (hr : rgN E n0 n d op av q f h K) :
    ∃ f' h', aIns (ecall E) ⟨d, op, none, av, q⟩ (stt n f h n0 n0) = some (stt n f' h' n0 n0) ∧ n0 ≤ h'.length ∧ h'.take n0 = h.take n0 ∧ K f' h' := by
  unfold rgN at hr
  split at hr
  · obtain ⟨k, caps, h1, v, hh, wl, wa, h2, h3, h4, h5, h7, h8, h6⟩ := hr
    refine ⟨updO f d v, hh, ?_, h7, h8, h6⟩
    simp only [aIns, wantedA, if_true, evO_mkE, h1, h2, Option.bind_some]
    rw [if_neg (by rintro ⟨q1, q2⟩; have := h5 q1; omega)]
    rw [Nat.min_eq_left h3, Nat.min_eq_left h4, putO_mkE]
  · split at hr
    · rename_i hq
      exact ⟨_, h, ins_q hq hr.1, hn, rfl, hr.2⟩
    · exact rgL_sound hn hr
theorem rg1_sound {i : Ins} {f : Fr} {h : List Ob} {K : Fr → List Ob → Prop} (hn : n0 ≤ h.length) (hr : rg1 E n0 n i f h K) :
    ∃ f' h', aIns (ecall E) i (stt n f h n0 n0) = some (stt n f' h' n0 n0) ∧ n0 ≤ h'.length ∧ h'.take n0 = h.take n0 ∧ K f' h' := by
  obtain ⟨d, op, g, av, q⟩ := i
  cases g with
  | none => exact rgN_sound hn hr
  | some g =>
    obtain ⟨s, want⟩ := g
    change rgG E n0 n (wnt (ev n f (.t s)) want) d op av f h K at hr
    rw [ins_guard]
    generalize wnt (ev n f (.t s)) want = c at hr ⊢
    unfold rgG at hr
    split at hr
    · rename_i g xs
      obtain ⟨h1, h2⟩ := hr
      cases c with
      | true =>
        simp only [im, Bool.not_true, Bool.false_or] at h1
        obtain ⟨v, hv⟩ := Option.isSome_iff_exists.1 h1
        rw [hv] at h2
        have hx : ∃ k caps, ev n f g = .fn k caps ∧ ecall E k (xs.map (ev n f) ++ caps) h = some (v, h, h.length, h.length) := by
          obtain ⟨⟨k, caps⟩, hp, hc⟩ := Option.bind_eq_some_iff.1 hv
          refine ⟨k, caps, ?_, pcall_some.1 hc⟩
          cases hg : ev n f g <;> rw [hg] at hp <;> simp [fnOf] at hp
          rw [hp.1, hp.2]
        obtain ⟨k, caps, g1, g2⟩ := hx
        refine ⟨updO f d v, h, ?_, hn, rfl, by simpa [gv] using h2⟩
        simp only [aIns, wantedA, if_true, evO_mkE, g1, g2, Option.bind_some]
        rw [if_neg (by rintro ⟨_, q2⟩; omega)]
        rw [Nat.min_eq_left hn, putO_mkE]
      | false => exact ⟨updO f d und, h, by simp, hn, rfl, by simpa [gv] using h2⟩
    · split at hr
      · rename_i hq
        cases c with
        | true => exact ⟨_, h, by rw [if_pos rfl]; exact ins_q hq (by simpa [im] using hr.1), hn, rfl, by simpa [gv] using hr.2⟩
        | false => exact ⟨updO f d und, h, by simp, hn, rfl, by simpa [gv] using hr.2⟩
      · cases c with
        | true => rw [if_pos rfl]; exact rgL_sound hn (hr.1 rfl)
        | false => exact ⟨updO f d und, h, by simp, hn, rfl, hr.2 rfl⟩

theorem rg_sound : ∀ (l : List Ins) (K : Fr → List Ob → Prop) (f : Fr) (h : List Ob), n0 ≤ h.length → rg E n0 n l K f h → RG E n0 n l K f h := by
  intro l
  induction l with
  | nil => intro K f h hn hr; exact ⟨f, h, rfl, hn, rfl, hr⟩
  | cons i l ih =>
    intro K f h hn hr
    obtain ⟨f1, h1, e1, e2, e3, e4⟩ := rg1_sound hn hr
    obtain ⟨f2, h2, k1, k2, k3, k4⟩ := ih K f1 h1 e2 e4
    exact ⟨f2, h2, by rw [aReg_cons, e1]; exact k1, k2, k3.trans e3, k4⟩

theorem W.mono {c : CC} {Q Q' : Ex → Fr → List Ob → Prop} {f : Fr} {h : List Ob} (hw : W E n0 n c Q f h) (hQ : ∀ e f' h', n0 ≤ h'.length → h'.take n0 = h.take n0 → Q e f' h' → Q' e f' h') : W E n0 n c Q' f h := by
  obtain ⟨e, f', h', h1, h2, h3, h4⟩ := hw
  exact ⟨e, f', h', h1, h2, h3, hQ e f' h' h2 h3 h4⟩

theorem wc_sound : ∀ (c : CC) (Q : Ex → Fr → List Ob → Prop) (f : Fr) (h : List Ob), n0 ≤ h.length → wc E n0 n c Q f h → W E n0 n c Q f h := by
  intro c
  induction c with
  | skip => intro Q f h hn hw; exact ⟨.nrm, f, h, ecode_skip _, hn, rfl, hw⟩
  | exit id => intro Q f h hn hw; exact ⟨.ex id, f, h, ecode_exit id _, hn, rfl, hw⟩
  | ret => intro Q f h hn hw; exact ⟨.rt, f, h, ecode_ret _, hn, rfl, hw⟩
  | bad => intro Q f h hn hw; cases hw
  | loop x ih => intro Q f h hn hw; exact hw
  | reg l =>
    intro Q f h hn hw
    obtain ⟨f', h', h1, h2, h3, h4⟩ := rg_sound l _ f h hn hw
    exact ⟨.nrm, f', h', by rw [ec_reg, h1]; rfl, h2, h3, h4⟩
  | seq a b iha ihb =>
    intro Q f h hn hw
    obtain ⟨e, f1, h1, k1, k2, k3, k4⟩ := iha _ f h hn hw
    cases e with
    | nrm =>
      obtain ⟨e2, f2, h2, g1, g2, g3, g4⟩ := ihb Q f1 h1 k2 k4
      exact ⟨e2, f2, h2, by rw [ecode_seq, k1]; exact g1, g2, g3.trans k3, g4⟩
    | ex i => exact ⟨.ex i, f1, h1, by rw [ecode_seq, k1]; rfl, k2, k3, k4⟩
    | rt => exact ⟨.rt, f1, h1, by rw [ecode_seq, k1]; rfl, k2, k3, k4⟩
  | cond c x y ihx ihy =>
    intro Q f h hn hw
    obtain ⟨h1, h2, h3⟩ := hw
    by_cases hb : bv (ev n f c) = true
    · obtain ⟨e, f1, h1', k1, k2⟩ := ihx Q f h hn (h2 hb)
      exact ⟨e, f1, h1', by rw [ec_cond, if_pos h1, if_pos hb]; exact k1, k2⟩
    · obtain ⟨e, f1, h1', k1, k2⟩ := ihy Q f h hn (h3 (by simpa using hb))
      exact ⟨e, f1, h1', by rw [ec_cond, if_pos h1, if_neg hb]; exact k1, k2⟩
  | blk id x ih =>
    intro Q f h hn hw
    obtain ⟨e, f1, h1, k1, k2, k3, k4⟩ := ih _ f h hn hw
    cases e with
    | nrm => exact ⟨.nrm, f1, h1, by rw [ecode_blk, k1]; rfl, k2, k3, k4⟩
    | rt => exact ⟨.rt, f1, h1, by rw [ecode_blk, k1]; rfl, k2, k3, k4⟩
    | ex j =>
      simp only [leaveQ] at k4
      by_cases hj : j = id
      · rw [if_pos hj] at k4
        exact ⟨.nrm, f1, h1, by rw [ecode_blk, k1]; simp [leave, hj], k2, k3, k4⟩
      · rw [if_neg hj] at k4
        exact ⟨.ex j, f1, h1, by rw [ecode_blk, k1]; simp [leave, hj], k2, k3, k4⟩

/-- A loop: what holds at its head, and a number that falls. -/
theorem W_loop {x : CC} {Q : Ex → Fr → List Ob → Prop} {f : Fr} {h : List Ob} (I : Nat → Fr → List Ob → Prop) (hn : n0 ≤ h.length) (k : Nat) (hI : I k f h)
    (hstep : ∀ k f1 h1, n0 ≤ h1.length → h1.take n0 = h.take n0 → I k f1 h1 → wc E n0 n x (thenQ (fun f2 h2 => ∃ j, j < k ∧ I j f2 h2) Q) f1 h1) : W E n0 n (.loop x) Q f h := by
  have key : ∀ k f1 h1, n0 ≤ h1.length → h1.take n0 = h.take n0 → I k f1 h1 → W E n0 n (.loop x) Q f1 h1 := by
    intro k
    induction k using Nat.strongRecOn with
    | _ k ih =>
      intro f1 h1 hn1 ht1 hI1
      obtain ⟨e, f2, h2, k1, k2, k3, k4⟩ := wc_sound x _ f1 h1 hn1 (hstep k f1 h1 hn1 ht1 hI1)
      cases e with
      | nrm =>
        obtain ⟨j, hj, hIj⟩ := k4
        obtain ⟨e3, f3, h3, g1, g2, g3, g4⟩ := ih j hj f2 h2 k2 (k3.trans ht1) hIj
        exact ⟨e3, f3, h3, by rw [ecode_loop, k1]; exact g1, g2, g3.trans k3, g4⟩
      | ex i => exact ⟨.ex i, f2, h2, by rw [ecode_loop, k1]; rfl, k2, k3, k4⟩
      | rt => exact ⟨.rt, f2, h2, by rw [ecode_loop, k1]; rfl, k2, k3, k4⟩
  exact key k f h hn rfl hI

/-- The results in the slots. -/
def rvq (n : Nat) (f : Fr) (h : List Ob) : List RV → Option (List AV)
  | [] => some []
  | .t i :: l => (rvq n f h l).map fun vs => ev n f (.t i) :: vs
  | .c1 i :: l => (ld1A h (ev n f (.t i))).bind fun v => (rvq n f h l).map fun vs => v :: vs
  | .cn k i :: l => (ldnA k h (ev n f (.t i))).bind fun v => (rvq n f h l).map fun vs => v :: vs
theorem rvq_eq (f : Fr) (h : List Ob) : ∀ (res : List RV), rvs (stt n f h n0 n0) res = rvq n f h res
  | [] => rfl
  | .t i :: l => by
    simp only [rvs, rvq, rv_t, rvq_eq f h l]
    cases rvq n f h l <;> rfl
  | .c1 i :: l => by
    simp only [rvs, rvq, rv_c1, rvq_eq f h l]
    cases ld1A h (ev n f (.t i)) <;> cases rvq n f h l <;> rfl
  | .cn k i :: l => by
    simp only [rvs, rvq, rv_cn, rvq_eq f h l]
    cases ldnA k h (ev n f (.t i)) <;> cases rvq n f h l <;> rfl

/-- A call, by its code. -/
theorem call_wc {g : Nat} {cf : CF} (hE : E g = some cf) {args : List AV} (hn : args.length = cf.np) (hnt : args.length ≤ cf.nt) {h : List Ob} {Q : Ex → Fr → List Ob → Prop} (hw : wc E h.length cf.nt cf.code Q (ofL args) h) :
    ∃ e f' h', h.length ≤ h'.length ∧ h'.take h.length = h ∧ Q e f' h' ∧ ∀ vs, exOk e = true → rvq cf.nt f' h' cf.res = some vs → ecall E g args h = some (fin h.length (mkRes vs) (stt cf.nt f' h' h.length h.length)) := by
  obtain ⟨e, f', h', k1, k2, k3, k4⟩ := wc_sound _ _ _ _ (Nat.le_refl _) hw
  refine ⟨e, f', h', k2, by rw [k3, List.take_length], k4, fun vs he hv => ?_⟩
  rw [ec_call hE hn hnt, k1]
  simp only [retE, Option.bind_some, he, if_true, rvq_eq, hv, Option.map_some]

/-- A call whose result has no addresses. -/
theorem call_plain {g : Nat} {cf : CF} (hE : E g = some cf) {args : List AV} (hn : args.length = cf.np) (hnt : args.length ≤ cf.nt) {h : List Ob} {v : AV} (hp : plainV v = true)
    (hw : wc E h.length cf.nt cf.code (fun e f h => exOk e = true ∧ (rvq cf.nt f h cf.res).map mkRes = some v) (ofL args) h) : ecall E g args h = some (v, h, h.length, h.length) := by
  obtain ⟨e, f', h', k1, k2, ⟨k3, k4⟩, k5⟩ := call_wc hE hn hnt hw
  obtain ⟨vs, hv, rfl⟩ := Option.map_eq_some_iff.1 k4
  rw [k5 vs k3 hv]
  unfold fin
  simp only [Nat.lt_irrefl, if_false, refs_plain _ hp, dd, pickObjs, ren_plain _ _ hp, List.append_nil, k2]

/-- The law itself. -/
theorem call_true {g : Nat} {cf : CF} (hE : E g = some cf) {args : List AV} (hn : args.length = cf.np) (hnt : args.length ≤ cf.nt) {h : List Ob}
    (hw : wc E h.length cf.nt cf.code (fun e f h => exOk e = true ∧ (rvq cf.nt f h cf.res).map mkRes = some (.bool true)) (ofL args) h) : ∃ r, ecall E g args h = some (.bool true, r) :=
  ⟨_, call_plain hE hn hnt rfl hw⟩
end
end Go.Proofs.Ytaekgifbehoipaa.Eva
