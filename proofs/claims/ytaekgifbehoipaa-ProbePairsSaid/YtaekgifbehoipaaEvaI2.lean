/- Calls that lay addresses of new objects into objects of their caller. Conditions stand in each lemma. -/
import Derived.Test.YtaekgifbehoipaaEvaI
namespace Go.Proofs.Ytaekgifbehoipaa.Eva
open Go
set_option linter.unusedVariables false
set_option linter.unusedSimpArgs false

/-! ### What was written only goes down -/
theorem aop_wa {ρ : Opd → AV} {s s' : Mem} {i : I} {v : AV} (e : aop ρ s i = some (v, s')) : s'.wa ≤ s.wa := by
  obtain ⟨h, a, b⟩ := s
  obtain ⟨h', a', b'⟩ := s'
  show b' ≤ b
  by_cases hq : i.quiet = true
  · rw [quiet_aop hq] at e
    obtain ⟨r, hr, e⟩ := map_some e
    simp only [Prod.mk.injEq, Mem.mk.injEq] at e
    omega
  have nw : ∀ {o : Ob} {v' : AV}, some (v', newObj ⟨h, a, b⟩ o) = some (v, (⟨h', a', b'⟩ : Mem)) → b' ≤ b := by
    intro o v' e
    simp only [newObj, Option.some.injEq, Prod.mk.injEq, Mem.mk.injEq] at e
    omega
  have st : ∀ {id off : Nat} {o : Ob} {new : List AV} {v' : AV}, some (v', stObj ⟨h, a, b⟩ id o off new) = some (v, (⟨h', a', b'⟩ : Mem)) → b' ≤ b := by
    intro id off o new v' e
    simp only [stObj, Option.some.injEq, Prod.mk.injEq, Mem.mk.injEq] at e
    obtain ⟨-, -, -, rfl⟩ := e
    split <;> omega
  have keep : ∀ {v' : AV}, some (v', (⟨h, a, b⟩ : Mem)) = some (v, (⟨h', a', b'⟩ : Mem)) → b' ≤ b := by
    intro v' e
    simp only [Option.some.injEq, Prod.mk.injEq, Mem.mk.injEq] at e
    omega
  cases i <;> (try (exfalso; exact hq rfl))
  case new zs => simp only [aop] at e; exact nw e
  case box x =>
    simp only [aop] at e
    split at e
    · cases e
    · exact nw e
  case mks zs sz len ps =>
    simp only [aop] at e
    obtain ⟨r, hr, e⟩ := map_some e
    have e' : some (AV.sl false h.length 0 sz 0 len, newObj ⟨h, a, b⟩ ⟨r, 0, sz, true, r.all AV.scalar⟩) = some (v, (⟨h', a', b'⟩ : Mem)) := by rw [← e]
    exact nw e'
  case mksl zs bytes l c =>
    simp only [aop] at e
    split at e <;> (try (cases e; done))
    split at e <;> (try (cases e; done))
    exact nw e
  case st n x y =>
    simp only [aop] at e
    split at e <;> (try (cases e; done))
    split at e <;> (try (cases e; done))
    split at e <;> (try (cases e; done))
    exact st e
  case app sz bytes x y =>
    simp only [aop, aapp] at e
    obtain ⟨⟨new, n, fl⟩, hcon, e⟩ := Option.bind_eq_some_iff.1 e
    simp only at e
    split at e <;> (try (cases e; done))
    · split at e
      · exact keep e
      · split at e <;> (try (cases e; done))
        exact nw e
    · split at e
      · exact keep e
      · split at e <;> (try (cases e; done))
        exact nw e
    · split at e
      · exact keep e
      · split at e <;> (try (cases e; done))
        split at e <;> (try (cases e; done))
        split at e <;> (try (cases e; done))
        simp only [Option.some.injEq, Prod.mk.injEq, Mem.mk.injEq] at e
        obtain ⟨-, -, -, rfl⟩ := e
        split <;> omega
  case appz zs bytes x y =>
    simp only [aop, aappz] at e
    split at e <;> (try (cases e; done))
    split at e <;> (try (cases e; done))
    split at e <;> (try (cases e; done)) <;>
    · split at e
      · exact keep e
      · exact nw e
  case cpy sz x y =>
    simp only [aop] at e
    split at e <;> (try (cases e; done))
    obtain ⟨⟨new, n, fl⟩, hcon, e⟩ := Option.bind_eq_some_iff.1 e
    simp only at e
    split at e
    · exact keep e
    · split at e <;> (try (cases e; done))
      split at e <;> (try (cases e; done))
      split at e <;> (try (cases e; done))
      exact st e
  case csb x =>
    simp only [aop] at e
    split at e <;> (try (cases e; done))
    exact nw e
  case csc x =>
    simp only [aop] at e
    split at e <;> (try (cases e; done))
    split at e <;> (try (cases e; done))
    split at e <;> (try (cases e; done))
    simp only [Option.some.injEq, Prod.mk.injEq, Mem.mk.injEq] at e
    omega
  case cbs x =>
    simp only [aop] at e
    obtain ⟨r, hr, e⟩ := map_some e
    exact keep (congrArg some e)
  case call => simp [aop] at e
  case bad => simp [aop] at e
theorem aIns_wa {call : CallF} {i : Ins} {s s' : St} (e : aIns call i s = some s') : s'.wa ≤ s.wa := by
  obtain ⟨ts, h, wl, wa⟩ := s
  unfold aIns at e
  by_cases hw : wantedA ts i.g = true
  · simp only [hw, if_true] at e
    by_cases hic : i.op.isC = true
    · cases hcc : i.op <;> simp [hcc, I.isC] at hic
      rename_i f xs
      rw [hcc] at e
      simp only at e
      cases hf : evO ts f <;> simp only [hf] at e <;> (try (cases e; done))
      obtain ⟨r, hr, e⟩ := Option.bind_eq_some_iff.1 e
      split at e <;> (try (cases e; done))
      simp only [Option.some.injEq] at e
      subst e
      show min wa _ ≤ wa
      omega
    · have key : ∃ r, aop (evO ts) ⟨h, wl, wa⟩ i.op = some r ∧ s' = { ts := putT ts i.dst r.1, h := r.2.h, wl := r.2.wl, wa := r.2.wa } := by
        have hsp : (if avoids (evO ts) i.op i.av = true then (aop (evO ts) ⟨h, wl, wa⟩ i.op).map fun r => ({ ts := putT ts i.dst r.1, h := r.2.h, wl := r.2.wl, wa := r.2.wa } : St) else none) = some s' := by
          cases hcc : i.op <;> simp [hcc, I.isC] at hic <;> simp only [hcc] at e ⊢ <;> exact e
        split at hsp
        · obtain ⟨r, h1, h2⟩ := map_some hsp; exact ⟨r, h1, h2.symm⟩
        · cases hsp
      obtain ⟨⟨v, m⟩, hao, rfl⟩ := key
      exact aop_wa hao
  · simp only [hw] at e
    simp only [Bool.false_eq_true, if_false, Option.some.injEq] at e
    subst e
    exact Nat.le_refl _
theorem aReg_wa {call : CallF} : ∀ {l : List Ins} {s s' : St}, aReg call l s = some s' → s'.wa ≤ s.wa
  | [], s, s', e => by simp only [aReg, Option.some.injEq] at e; subst e; exact Nat.le_refl _
  | i :: l, s, s', e => by
    simp only [aReg] at e
    obtain ⟨t1, h1, h2⟩ := Option.bind_eq_some_iff.1 e
    exact Nat.le_trans (aReg_wa h2) (aIns_wa h1)
theorem acode_wa {E : Nat → Option CF} : ∀ (k : Nat) (c : CC) (s s' : St) (x : Ex), acode E k c s = some (x, s') → s'.wa ≤ s.wa := by
  intro k
  induction k with
  | zero => intro c s s' x e; simp [acode] at e
  | succ k ih =>
    intro c s s' x e
    cases c with
    | skip => simp only [acode, Option.some.injEq, Prod.mk.injEq] at e; obtain ⟨rfl, rfl⟩ := e; exact Nat.le_refl _
    | exit id => simp only [acode, Option.some.injEq, Prod.mk.injEq] at e; obtain ⟨rfl, rfl⟩ := e; exact Nat.le_refl _
    | ret => simp only [acode, Option.some.injEq, Prod.mk.injEq] at e; obtain ⟨rfl, rfl⟩ := e; exact Nat.le_refl _
    | bad => simp [acode] at e
    | reg l =>
      simp only [acode] at e
      obtain ⟨t, h1, h2⟩ := map_some e
      simp only [Prod.mk.injEq] at h2
      obtain ⟨rfl, rfl⟩ := h2
      exact aReg_wa h1
    | seq a b =>
      simp only [acode] at e
      obtain ⟨⟨y, t⟩, h1, h2⟩ := Option.bind_eq_some_iff.1 e
      have g1 := ih a s t y h1
      cases y with
      | nrm => exact Nat.le_trans (ih b t s' x h2) g1
      | ex i => simp only [Option.some.injEq, Prod.mk.injEq] at h2; obtain ⟨rfl, rfl⟩ := h2; exact g1
      | rt => simp only [Option.some.injEq, Prod.mk.injEq] at h2; obtain ⟨rfl, rfl⟩ := h2; exact g1
    | cond c a b =>
      simp only [acode] at e
      split at e <;> (try (cases e; done))
      rename_i bb hb
      cases bb
      · simp only [Bool.false_eq_true, if_false] at e; exact ih b s s' x e
      · simp only [if_true] at e; exact ih a s s' x e
    | blk id a =>
      simp only [acode] at e
      obtain ⟨⟨y, t⟩, h1, h2⟩ := Option.bind_eq_some_iff.1 e
      have g1 := ih a s t y h1
      cases y with
      | nrm => simp only [Option.some.injEq, Prod.mk.injEq] at h2; obtain ⟨rfl, rfl⟩ := h2; exact g1
      | rt => simp only [Option.some.injEq, Prod.mk.injEq] at h2; obtain ⟨rfl, rfl⟩ := h2; exact g1
      | ex j =>
        simp only at h2
        split at h2 <;> (simp only [Option.some.injEq, Prod.mk.injEq] at h2; obtain ⟨rfl, rfl⟩ := h2; exact g1)
    | loop a =>
      simp only [acode] at e
      obtain ⟨⟨y, t⟩, h1, h2⟩ := Option.bind_eq_some_iff.1 e
      have g1 := ih a s t y h1
      cases y with
      | nrm => exact Nat.le_trans (ih (.loop a) t s' x h2) g1
      | ex i => simp only [Option.some.injEq, Prod.mk.injEq] at h2; obtain ⟨rfl, rfl⟩ := h2; exact g1
      | rt => simp only [Option.some.injEq, Prod.mk.injEq] at h2; obtain ⟨rfl, rfl⟩ := h2; exact g1
theorem ecode_wa {E : Nat → Option CF} {c : CC} {s s' : St} {x : Ex} (e : ecode E c s = some (x, s')) : s'.wa ≤ s.wa := by
  obtain ⟨k, hk⟩ := ecode_iff.1 e
  exact acode_wa k c s s' x hk

/-! ### Runs of which it is known how far down was written -/
def WX (E : Nat → Option CF) (n0 n : Nat) (c : CC) (Q : Ex → Fr → List Ob → Nat → Prop) (f : Fr) (h : List Ob) (wa : Nat) : Prop :=
  ∀ wl, n0 ≤ wl → ∃ e f' h' wl' wa', ecode E c (stt n f h wl wa) = some (e, stt n f' h' wl' wa') ∧ n0 ≤ wl' ∧ n0 ≤ wa' ∧ wa' ≤ wa ∧ n0 ≤ h'.length ∧ h'.take n0 = h.take n0 ∧ Q e f' h' wa'
section
variable {E : Nat → Option CF} {n0 n : Nat} {f : Fr} {h : List Ob} {wa : Nat}
theorem WX_of {c : CC} {Q : Ex → Fr → List Ob → Nat → Prop} (h0 : n0 ≤ wa) (hw : W E n0 n c (fun e f h => ∀ wa', n0 ≤ wa' → wa' ≤ wa → Q e f h wa') f h) : WX E n0 n c Q f h wa := by
  intro wl hwl
  obtain ⟨e, f', h', k1, k2, k3, k4⟩ := hw
  obtain ⟨⟨ts2, hh2, wl2, wa2⟩, m1, m2, m3, m4, m5⟩ := ecode_w (s1 := stt n f h n0 n0) (s2 := stt n f h wl wa) ⟨rfl, rfl, hwl, h0⟩ k1
  have m6 := ecode_wa m1
  simp only [stt] at m2 m3 m4 m5 m6
  subst m2; subst m3
  exact ⟨e, f', hh2, wl2, wa2, m1, m4, m5, m6, k2, k3, k4 wa2 m5 m6⟩
theorem WX_seq {a b : CC} {Q : Ex → Fr → List Ob → Nat → Prop} (hw : WX E n0 n a (fun e f1 h1 w1 => match e with
    | .nrm => WX E n0 n b Q f1 h1 w1
    | e => Q e f1 h1 w1) f h wa) : WX E n0 n (.seq a b) Q f h wa := by
  intro wl hwl
  obtain ⟨e, f1, h1, wl1, wa1, k1, k2, k3, k4, k5, k6, k7⟩ := hw wl hwl
  cases e with
  | nrm =>
    obtain ⟨e2, f2, h2, wl2, wa2, g1, g2, g3, g4, g5, g6, g7⟩ := k7 wl1 k2
    exact ⟨e2, f2, h2, wl2, wa2, by rw [ecode_seq, k1]; exact g1, g2, g3, Nat.le_trans g4 k4, g5, g6.trans k6, g7⟩
  | ex i => exact ⟨.ex i, f1, h1, wl1, wa1, by rw [ecode_seq, k1]; rfl, k2, k3, k4, k5, k6, k7⟩
  | rt => exact ⟨.rt, f1, h1, wl1, wa1, by rw [ecode_seq, k1]; rfl, k2, k3, k4, k5, k6, k7⟩
theorem WX_blk {id : Nat} {x : CC} {Q : Ex → Fr → List Ob → Nat → Prop} (hw : WX E n0 n x (fun e f1 h1 w1 => match e with
    | .ex j => if j = id then Q .nrm f1 h1 w1 else Q (.ex j) f1 h1 w1
    | e => Q e f1 h1 w1) f h wa) : WX E n0 n (.blk id x) Q f h wa := by
  intro wl hwl
  obtain ⟨e, f1, h1, wl1, wa1, k1, k2, k3, k4, k5, k6, k7⟩ := hw wl hwl
  cases e with
  | nrm => exact ⟨.nrm, f1, h1, wl1, wa1, by rw [ecode_blk, k1]; rfl, k2, k3, k4, k5, k6, k7⟩
  | rt => exact ⟨.rt, f1, h1, wl1, wa1, by rw [ecode_blk, k1]; rfl, k2, k3, k4, k5, k6, k7⟩
  | ex j =>
    simp only at k7
    by_cases hj : j = id
    · rw [if_pos hj] at k7
      exact ⟨.nrm, f1, h1, wl1, wa1, by rw [ecode_blk, k1]; simp [leave, hj], k2, k3, k4, k5, k6, k7⟩
    · rw [if_neg hj] at k7
      exact ⟨.ex j, f1, h1, wl1, wa1, by rw [ecode_blk, k1]; simp [leave, hj], k2, k3, k4, k5, k6, k7⟩
theorem WX_loop {x : CC} {Q : Ex → Fr → List Ob → Nat → Prop} (I : Nat → Fr → List Ob → Prop) (hn : n0 ≤ h.length) (hwa : n0 ≤ wa) (k : Nat) (hI : I k f h)
    (hstep : ∀ k f1 h1 w1, n0 ≤ h1.length → h1.take n0 = h.take n0 → n0 ≤ w1 → w1 ≤ wa → I k f1 h1 → WX E n0 n x (fun e f2 h2 w2 => match e with
      | .nrm => ∃ j, j < k ∧ I j f2 h2
      | e => Q e f2 h2 w2) f1 h1 w1) : WX E n0 n (.loop x) Q f h wa := by
  have key : ∀ k f1 h1 w1, n0 ≤ h1.length → h1.take n0 = h.take n0 → n0 ≤ w1 → w1 ≤ wa → I k f1 h1 → WX E n0 n (.loop x) Q f1 h1 w1 := by
    intro k
    induction k using Nat.strongRecOn with
    | _ k ih =>
      intro f1 h1 w1 hn1 ht1 hw1 hw2 hI1 wl hwl
      obtain ⟨e, f2, h2, wl2, wa2, k1, k2, k3, k4, k5, k6, k7⟩ := hstep k f1 h1 w1 hn1 ht1 hw1 hw2 hI1 wl hwl
      cases e with
      | nrm =>
        obtain ⟨j, hj, hIj⟩ := k7
        obtain ⟨e3, f3, h3, wl3, wa3, g1, g2, g3, g4, g5, g6, g7⟩ := ih j hj f2 h2 wa2 k5 (k6.trans ht1) k3 (by omega) hIj wl2 k2
        exact ⟨e3, f3, h3, wl3, wa3, by rw [ecode_loop, k1]; exact g1, g2, g3, by omega, g5, g6.trans k6, g7⟩
      | ex i => exact ⟨.ex i, f2, h2, wl2, wa2, by rw [ecode_loop, k1]; rfl, k2, k3, k4, k5, k6, k7⟩
      | rt => exact ⟨.rt, f2, h2, wl2, wa2, by rw [ecode_loop, k1]; rfl, k2, k3, k4, k5, k6, k7⟩
  exact key k f h wa hn rfl hwa (Nat.le_refl _) hI
/-- A region that ends in laying an address into an object. -/
theorem WX_st {l : List Ins} {a x : Opd} {q : Bool} {Q : Ex → Fr → List Ob → Nat → Prop} (h0 : n0 ≤ wa)
    (hr : RG E n0 n l (fun f1 h1 => ∃ id ep off o, ev n f1 a = .ptr id ep off ∧ rdObj h1 id ep = some o ∧ cellsOf (ev n f1 x) = [ev n f1 x] ∧ off + 1 ≤ o.cs.length ∧ (ev n f1 x).isTup = false ∧ o.rw = true ∧ n0 ≤ id ∧ (ev n f1 x).scalar = false ∧
      ∀ w, n0 ≤ w → w ≤ wa → w ≤ id → Q .nrm f1 (stH h1 (.ptr id ep off) (ev n f1 x)) w) f h) : WX E n0 n (.reg (l ++ [⟨none, .st 1 a x, none, [], q⟩])) Q f h wa := by
  intro wl hwl
  obtain ⟨f1, h1, k1, k2, k3, id, ep, off, o, e1, e2, e3, e4, e5, e6, e7, e8, hQ⟩ := hr
  obtain ⟨⟨ts2, hh2, wl2, wa2⟩, m1, m2, m3, m4, m5⟩ := aReg_w (s1 := stt n f h n0 n0) (s2 := stt n f h wl wa) ⟨rfl, rfl, hwl, h0⟩ k1
  have m6 := aReg_wa m1
  simp only [stt] at m2 m3 m4 m5 m6
  subst m2; subst m3
  have hs : stH hh2 (.ptr id ep off) (ev n f1 x) = putObj hh2 id off [ev n f1 x] o := by rw [stH_ptr, e2, e3]
  refine ⟨.nrm, f1, stH hh2 (.ptr id ep off) (ev n f1 x), min wl2 id, min wa2 id, ?_, by omega, by omega, by omega, ?_, ?_, hQ (min wa2 id) (by omega) (by omega) (by omega)⟩
  · rw [ec_reg, aReg_app, m1]
    simp only [Option.bind_some]
    rw [aReg_cons]
    have : aIns (ecall E) ⟨none, .st 1 a x, none, [], q⟩ ⟨mkE n f1, hh2, wl2, wa2⟩ = some (stt n f1 (stH hh2 (.ptr id ep off) (ev n f1 x)) (min wl2 id) (min wa2 id)) := by
      have ha : evO (mkE n f1) a = ev n f1 a := by rw [evO_mkE]
      have hx : evO (mkE n f1) x = ev n f1 x := by rw [evO_mkE]
      simp only [aIns, wantedA, if_true, avoids_nil, aop, ha, hx, e1, e2, e3, List.all_nil]
      have hc : [ev n f1 x].length = 1 ∧ off + 1 ≤ o.cs.length ∧ (ev n f1 x).isTup = false ∧ o.rw = true := ⟨rfl, e4, e5, e6⟩
      simp only [hc, and_self, if_true, Option.map_some, stObj, hs, putObj, List.all_cons, List.all_nil, Bool.and_true, e8, Bool.false_eq_true, if_false]
      rfl
    rw [this]; rfl
  · rw [hs]; simp only [putObj, List.length_set]; exact k2
  · rw [hs]; simp only [putObj]; rw [List.take_set_of_le e7]; exact k3
end
/-- A call that lays an address into an object of its caller: all its objects stay. -/
theorem call_mutX {E : Nat → Option CF} {g n0 : Nat} {cf : CF} {P : AV → List Ob → Prop} (hE : E g = some cf) {args : List AV} (hn : args.length = cf.np) (hnt : args.length ≤ cf.nt) {h : List Ob} (h0 : n0 ≤ h.length)
    (hw : WX E n0 cf.nt cf.code (fun e f h' w => exOk e = true ∧ w < h.length ∧ ∃ v, (rvq cf.nt f h' cf.res).map mkRes = some v ∧ P v h') (ofL args) h h.length) :
    ∃ v h' wl wa, ecall E g args h = some (v, h', wl, wa) ∧ n0 ≤ wl ∧ n0 ≤ wa ∧ n0 ≤ h'.length ∧ h'.take n0 = h.take n0 ∧ P v h' := by
  obtain ⟨e, f', h', wl, wa, k1, k2, k3, k4, k5, k6, k7, k8, v, k9, k10⟩ := hw h.length h0
  obtain ⟨vs, hv, rfl⟩ := Option.map_eq_some_iff.1 k9
  have hr : rvs ⟨mkE cf.nt f', h', wl, wa⟩ cf.res = some vs := by
    rw [rvs_w (wl' := n0) (wa' := n0)]
    exact (rvq_eq f' h' cf.res).trans hv
  refine ⟨mkRes vs, h', wl, wa, ?_, k2, k3, k5, k6, k10⟩
  rw [ec_call hE hn hnt, k1]
  simp only [retE, Option.bind_some, k7, if_true]
  have : rvs (stt cf.nt f' h' wl wa) cf.res = some vs := hr
  simp only [this, Option.map_some, fin]
  rw [if_pos k8]
end Go.Proofs.Ytaekgifbehoipaa.Eva
