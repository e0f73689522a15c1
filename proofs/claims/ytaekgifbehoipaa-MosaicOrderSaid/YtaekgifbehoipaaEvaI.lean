/- Calls that write into objects of their caller. Conditions stand in each lemma. -/
import Derived.Test.YtaekgifbehoipaaEvaW
namespace Go.Proofs.Ytaekgifbehoipaa.Eva
open Go
set_option linter.unusedVariables false
set_option linter.unusedSimpArgs false

theorem content_w {sz : Nat} {h : List Ob} {a b A B : Nat} (v : AV) : content sz ⟨h, a, b⟩ v = content sz ⟨h, A, B⟩ v := by
  cases v <;> rfl
theorem acbs_w {h : List Ob} {a b A B : Nat} (v : AV) : acbs ⟨h, a, b⟩ v = acbs ⟨h, A, B⟩ v := by
  cases v <;> rfl
theorem aop_w {ρ : Opd → AV} {h h' : List Ob} {a b a' b' A B : Nat} {i : I} {v : AV} (hA : a ≤ A) (hB : b ≤ B) (e : aop ρ ⟨h, a, b⟩ i = some (v, ⟨h', a', b'⟩)) : ∃ A' B', aop ρ ⟨h, A, B⟩ i = some (v, ⟨h', A', B'⟩) ∧ a' ≤ A' ∧ b' ≤ B' := by
  by_cases hq : i.quiet = true
  · rw [quiet_aop hq] at e ⊢
    obtain ⟨r, hr, e⟩ := map_some e
    simp only [Prod.mk.injEq, Mem.mk.injEq] at e
    obtain ⟨rfl, rfl, rfl, rfl⟩ := e
    exact ⟨A, B, by simp only [hr, Option.map_some], hA, hB⟩
  have nw : ∀ {o : Ob} {v' : AV}, some (v', newObj ⟨h, a, b⟩ o) = some (v, (⟨h', a', b'⟩ : Mem)) → ∃ A' B', some (v', newObj ⟨h, A, B⟩ o) = some (v, (⟨h', A', B'⟩ : Mem)) ∧ a' ≤ A' ∧ b' ≤ B' := by
    intro o v' e
    simp only [newObj, Option.some.injEq, Prod.mk.injEq, Mem.mk.injEq] at e
    obtain ⟨rfl, rfl, rfl, rfl⟩ := e
    exact ⟨A, B, rfl, hA, hB⟩
  have st : ∀ {id off : Nat} {o : Ob} {new : List AV} {v' : AV}, some (v', stObj ⟨h, a, b⟩ id o off new) = some (v, (⟨h', a', b'⟩ : Mem)) → ∃ A' B', some (v', stObj ⟨h, A, B⟩ id o off new) = some (v, (⟨h', A', B'⟩ : Mem)) ∧ a' ≤ A' ∧ b' ≤ B' := by
    intro id off o new v' e
    simp only [stObj, Option.some.injEq, Prod.mk.injEq, Mem.mk.injEq] at e
    obtain ⟨rfl, rfl, rfl, rfl⟩ := e
    refine ⟨_, _, rfl, ?_, ?_⟩
    · show min a id ≤ min A id; omega
    · show (if new.all AV.scalar then b else min b id) ≤ (if new.all AV.scalar then B else min B id); split <;> omega
  have keep : ∀ {v' : AV}, some (v', (⟨h, a, b⟩ : Mem)) = some (v, (⟨h', a', b'⟩ : Mem)) → ∃ A' B', some (v', (⟨h, A, B⟩ : Mem)) = some (v, (⟨h', A', B'⟩ : Mem)) ∧ a' ≤ A' ∧ b' ≤ B' := by
    intro v' e
    simp only [Option.some.injEq, Prod.mk.injEq, Mem.mk.injEq] at e
    obtain ⟨rfl, rfl, rfl, rfl⟩ := e
    exact ⟨A, B, rfl, hA, hB⟩
  cases i <;> (try (exfalso; exact hq rfl))
  case new zs => simp only [aop] at e ⊢; exact nw e
  case box x =>
    simp only [aop] at e ⊢
    split at e
    · cases e
    · rename_i hc; rw [if_neg hc]; exact nw e
  case mks zs sz len ps =>
    simp only [aop] at e ⊢
    obtain ⟨r, hr, e⟩ := map_some e
    rw [hr]
    have e' : some (AV.sl false h.length 0 sz 0 len, newObj ⟨h, a, b⟩ ⟨r, 0, sz, true, r.all AV.scalar⟩) = some (v, (⟨h', a', b'⟩ : Mem)) := by rw [← e]
    exact nw e'
  case mksl zs bytes l c =>
    simp only [aop] at e ⊢
    split at e <;> (try (cases e; done))
    split at e <;> (try (cases e; done))
    rename_i hc
    rw [if_pos hc]; exact nw e
  case st n x y =>
    simp only [aop] at e ⊢
    split at e <;> (try (cases e; done))
    rename_i id ep off hp
    split at e <;> (try (cases e; done))
    rename_i o ho
    split at e <;> (try (cases e; done))
    rename_i hc
    try simp only [hp, ho]
    rw [if_pos hc]; exact st e
  case app sz bytes x y =>
    simp only [aop, aapp] at e ⊢
    rw [content_w (A := A) (B := B)] at e
    obtain ⟨⟨new, n, fl⟩, hcon, e⟩ := Option.bind_eq_some_iff.1 e
    rw [hcon]
    simp only [Option.bind_some] at e ⊢
    split at e <;> (try (cases e; done))
    · split at e
      · rename_i h0; simp only [h0, if_true]; exact keep e
      · rename_i h0
        split at e <;> (try (cases e; done))
        rename_i h1
        rw [if_neg h0, if_pos h1]; exact nw e
    · split at e
      · rename_i h0; simp only [h0, if_true]; exact keep e
      · rename_i h0
        split at e <;> (try (cases e; done))
        rename_i h1
        rw [if_neg h0, if_pos h1]; exact nw e
    · split at e
      · rename_i h0; simp only [h0, if_true]; exact keep e
      · rename_i h0
        split at e <;> (try (cases e; done))
        rename_i h1
        split at e <;> (try (cases e; done))
        rename_i o ho
        split at e <;> (try (cases e; done))
        rename_i h2
        rw [if_neg h0, if_pos h1]
        try simp only [ho]
        rw [if_pos h2]
        simp only [Option.some.injEq, Prod.mk.injEq, Mem.mk.injEq] at e
        obtain ⟨rfl, rfl, rfl, rfl⟩ := e
        refine ⟨_, _, rfl, ?_, ?_⟩
        · show min a _ ≤ min A _; omega
        · split <;> omega
  case appz zs bytes x y =>
    simp only [aop, aappz] at e ⊢
    split at e <;> (try (cases e; done))
    split at e <;> (try (cases e; done))
    rename_i h0
    rw [if_pos h0]
    split at e <;> (try (cases e; done)) <;>
    · split at e
      · rename_i h1; rw [if_pos h1]; exact keep e
      · rename_i h1; rw [if_neg h1]; exact nw e
  case cpy sz x y =>
    simp only [aop] at e ⊢
    split at e <;> (try (cases e; done))
    rename_i nl id ep sz' off len hp
    try simp only [hp]
    rw [content_w (A := A) (B := B)] at e
    obtain ⟨⟨new, n, fl⟩, hcon, e⟩ := Option.bind_eq_some_iff.1 e
    rw [hcon]
    simp only [Option.bind_some] at e ⊢
    split at e
    · rename_i h0; rw [if_pos h0]; exact keep e
    · rename_i h0
      rw [if_neg h0]
      split at e <;> (try (cases e; done))
      rename_i h1
      rw [if_pos h1]
      split at e <;> (try (cases e; done))
      rename_i o ho
      try simp only [ho]
      split at e <;> (try (cases e; done))
      rename_i h2
      rw [if_pos h2]; exact st e
  case clr zs x =>
    simp only [aop] at e ⊢
    split at e <;> (try (cases e; done))
    rename_i nl id ep sz' off len hp
    try simp only [hp]
    split at e
    · rename_i h0; rw [if_pos h0]; exact keep e
    · rename_i h0
      rw [if_neg h0]
      split at e <;> (try (cases e; done))
      rename_i h1
      rw [if_pos h1]
      split at e <;> (try (cases e; done))
      rename_i o ho
      try simp only [ho]
      split at e <;> (try (cases e; done))
      rename_i h2
      rw [if_pos h2]; exact st e
  case csb x =>
    simp only [aop] at e ⊢
    split at e <;> (try (cases e; done))
    exact nw e
  case csc x =>
    simp only [aop] at e ⊢
    split at e <;> (try (cases e; done))
    rename_i id ep sz off len hk
    try simp only [hk]
    split at e <;> (try (cases e; done))
    rename_i o ho
    try simp only [ho]
    split at e <;> (try (cases e; done))
    rename_i hc
    rw [if_pos hc]
    simp only [Option.some.injEq, Prod.mk.injEq, Mem.mk.injEq] at e
    obtain ⟨rfl, rfl, rfl, rfl⟩ := e
    refine ⟨_, _, rfl, ?_, hB⟩
    show min a _ ≤ min A _; omega
  case cbs x =>
    simp only [aop] at e ⊢
    obtain ⟨r, hr, e⟩ := map_some e
    rw [acbs_w (A := A) (B := B)] at hr
    rw [hr]
    exact keep (congrArg some e)
  case call => simp [aop] at e
  case bad => simp [aop] at e

/-- Two states that differ in what was written only. -/
def LeW (s1 s2 : St) : Prop := s2.ts = s1.ts ∧ s2.h = s1.h ∧ s1.wl ≤ s2.wl ∧ s1.wa ≤ s2.wa
theorem aIns_w {call : CallF} {i : Ins} {s1 s2 s1' : St} (L : LeW s1 s2) (e : aIns call i s1 = some s1') : ∃ s2', aIns call i s2 = some s2' ∧ LeW s1' s2' := by
  obtain ⟨ts, h, wl, wa⟩ := s1
  obtain ⟨ts2, h2, wl2, wa2⟩ := s2
  obtain ⟨k1, k2, hl, ha⟩ := L
  simp only at hl ha k1 k2
  subst k1; subst k2
  unfold aIns at e ⊢
  by_cases hw : wantedA ts2 i.g = true
  · simp only [hw, if_true] at e ⊢
    by_cases hic : i.op.isC = true
    · cases hcc : i.op <;> simp [hcc, I.isC] at hic
      rename_i f xs
      rw [hcc] at e
      simp only at e ⊢
      cases hf : evO ts2 f <;> simp only [hf] at e ⊢ <;> (try (cases e; done))
      obtain ⟨r, hr, e⟩ := Option.bind_eq_some_iff.1 e
      simp only [hr, Option.bind_some]
      split at e <;> (try (cases e; done))
      rename_i hq
      rw [if_neg hq]
      simp only [Option.some.injEq] at e
      subst e
      exact ⟨_, rfl, rfl, rfl, by simp only; omega, by simp only; omega⟩
    · have key : avoids (evO ts2) i.op i.av = true ∧ ∃ r, aop (evO ts2) ⟨h2, wl, wa⟩ i.op = some r ∧ s1' = { ts := putT ts2 i.dst r.1, h := r.2.h, wl := r.2.wl, wa := r.2.wa } := by
        cases hcc : i.op <;> simp [hcc, I.isC] at hic <;> simp only [hcc] at e <;>
          (by_cases hav : avoids (evO ts2) i.op i.av = true <;> rw [hcc] at hav <;> simp only [hav, if_true, Bool.false_eq_true, if_false] at e <;> first | (obtain ⟨r, h1, h2⟩ := map_some e; exact ⟨hav, r, h1, h2.symm⟩) | (cases e; done))
      obtain ⟨hav, ⟨v, ⟨h', a', b'⟩⟩, hao, rfl⟩ := key
      obtain ⟨A', B', h9, h10, h11⟩ := aop_w hl ha hao
      refine ⟨{ ts := putT ts2 i.dst v, h := h', wl := A', wa := B' }, ?_, rfl, rfl, h10, h11⟩
      cases hcc : i.op <;> simp [hcc, I.isC] at hic <;> rw [hcc] at hav h9 <;> simp only [hav, if_true, h9, Option.map_some]
  · simp only [hw] at e ⊢
    simp only [Bool.false_eq_true, if_false, Option.some.injEq] at e ⊢
    subst e
    exact ⟨_, rfl, rfl, rfl, hl, ha⟩
theorem aReg_w {call : CallF} : ∀ {l : List Ins} {s1 s2 s1' : St}, LeW s1 s2 → aReg call l s1 = some s1' → ∃ s2', aReg call l s2 = some s2' ∧ LeW s1' s2'
  | [], s1, s2, s1', L, e => by simp only [aReg, Option.some.injEq] at e ⊢; subst e; exact ⟨s2, rfl, L⟩
  | i :: l, s1, s2, s1', L, e => by
    simp only [aReg] at e ⊢
    obtain ⟨t1, h1, h2⟩ := Option.bind_eq_some_iff.1 e
    obtain ⟨t2, g1, g2⟩ := aIns_w L h1
    rw [g1]
    exact aReg_w g2 h2
theorem acode_w {E : Nat → Option CF} : ∀ (k : Nat) (c : CC) (s1 s2 s1' : St) (x : Ex), LeW s1 s2 → acode E k c s1 = some (x, s1') → ∃ s2', acode E k c s2 = some (x, s2') ∧ LeW s1' s2' := by
  intro k
  induction k with
  | zero => intro c s1 s2 s1' x L e; simp [acode] at e
  | succ k ih =>
    intro c s1 s2 s1' x L e
    cases c with
    | skip => simp only [acode, Option.some.injEq, Prod.mk.injEq] at e ⊢; obtain ⟨rfl, rfl⟩ := e; exact ⟨s2, ⟨rfl, rfl⟩, L⟩
    | exit id => simp only [acode, Option.some.injEq, Prod.mk.injEq] at e ⊢; obtain ⟨rfl, rfl⟩ := e; exact ⟨s2, ⟨rfl, rfl⟩, L⟩
    | ret => simp only [acode, Option.some.injEq, Prod.mk.injEq] at e ⊢; obtain ⟨rfl, rfl⟩ := e; exact ⟨s2, ⟨rfl, rfl⟩, L⟩
    | bad => simp [acode] at e
    | reg l =>
      simp only [acode] at e ⊢
      obtain ⟨t, h1, h2⟩ := map_some e
      simp only [Prod.mk.injEq] at h2
      obtain ⟨rfl, rfl⟩ := h2
      obtain ⟨t2, g1, g2⟩ := aReg_w L h1
      exact ⟨t2, by rw [g1]; rfl, g2⟩
    | seq a b =>
      simp only [acode] at e ⊢
      obtain ⟨⟨y, t⟩, h1, h2⟩ := Option.bind_eq_some_iff.1 e
      obtain ⟨t2, g1, g2⟩ := ih a s1 s2 t y L h1
      rw [g1]
      simp only [Option.bind_some]
      cases y with
      | nrm => exact ih b t t2 s1' x g2 h2
      | ex i => simp only [Option.some.injEq, Prod.mk.injEq] at h2 ⊢; obtain ⟨rfl, rfl⟩ := h2; exact ⟨t2, ⟨rfl, rfl⟩, g2⟩
      | rt => simp only [Option.some.injEq, Prod.mk.injEq] at h2 ⊢; obtain ⟨rfl, rfl⟩ := h2; exact ⟨t2, ⟨rfl, rfl⟩, g2⟩
    | cond c a b =>
      simp only [acode] at e ⊢
      rw [L.1]
      split at e <;> (try (cases e; done))
      rename_i bb hb
      cases bb
      · simp only [Bool.false_eq_true, if_false] at e ⊢; exact ih b s1 s2 s1' x L e
      · simp only [if_true] at e ⊢; exact ih a s1 s2 s1' x L e
    | blk id a =>
      simp only [acode] at e ⊢
      obtain ⟨⟨y, t⟩, h1, h2⟩ := Option.bind_eq_some_iff.1 e
      obtain ⟨t2, g1, g2⟩ := ih a s1 s2 t y L h1
      rw [g1]
      simp only [Option.bind_some]
      cases y with
      | nrm => simp only [Option.some.injEq, Prod.mk.injEq] at h2 ⊢; obtain ⟨rfl, rfl⟩ := h2; exact ⟨t2, ⟨rfl, rfl⟩, g2⟩
      | rt => simp only [Option.some.injEq, Prod.mk.injEq] at h2 ⊢; obtain ⟨rfl, rfl⟩ := h2; exact ⟨t2, ⟨rfl, rfl⟩, g2⟩
      | ex j =>
        simp only at h2 ⊢
        split at h2
        · rename_i hj; rw [if_pos hj]; simp only [Option.some.injEq, Prod.mk.injEq] at h2 ⊢; obtain ⟨rfl, rfl⟩ := h2; exact ⟨t2, ⟨rfl, rfl⟩, g2⟩
        · rename_i hj; rw [if_neg hj]; simp only [Option.some.injEq, Prod.mk.injEq] at h2 ⊢; obtain ⟨rfl, rfl⟩ := h2; exact ⟨t2, ⟨rfl, rfl⟩, g2⟩
    | loop a =>
      simp only [acode] at e ⊢
      obtain ⟨⟨y, t⟩, h1, h2⟩ := Option.bind_eq_some_iff.1 e
      obtain ⟨t2, g1, g2⟩ := ih a s1 s2 t y L h1
      rw [g1]
      simp only [Option.bind_some]
      cases y with
      | nrm => exact ih (.loop a) t t2 s1' x g2 h2
      | ex i => simp only [Option.some.injEq, Prod.mk.injEq] at h2 ⊢; obtain ⟨rfl, rfl⟩ := h2; exact ⟨t2, ⟨rfl, rfl⟩, g2⟩
      | rt => simp only [Option.some.injEq, Prod.mk.injEq] at h2 ⊢; obtain ⟨rfl, rfl⟩ := h2; exact ⟨t2, ⟨rfl, rfl⟩, g2⟩
theorem ecode_w {E : Nat → Option CF} {c : CC} {s1 s2 s1' : St} {x : Ex} (L : LeW s1 s2) (e : ecode E c s1 = some (x, s1')) : ∃ s2', ecode E c s2 = some (x, s2') ∧ LeW s1' s2' := by
  obtain ⟨k, hk⟩ := ecode_iff.1 e
  obtain ⟨s2', h1, h2⟩ := acode_w k c s1 s2 s1' x L hk
  exact ⟨s2', ecode_iff.2 ⟨k, h1⟩, h2⟩
theorem rvs_w {ts : List AV} {h : List Ob} {wl wa wl' wa' : Nat} : ∀ (l : List RV), rvs ⟨ts, h, wl, wa⟩ l = rvs ⟨ts, h, wl', wa'⟩ l
  | [] => rfl
  | .t i :: l => by simp only [rvs, rv1]; rw [rvs_w l]
  | .c1 i :: l => by
    simp only [rvs]
    rw [rvs_w l (wl := wl) (wa := wa) (wl' := wl') (wa' := wa')]
    have : rv1 ⟨ts, h, wl, wa⟩ (.c1 i) = rv1 ⟨ts, h, wl', wa'⟩ (.c1 i) := by
      simp only [rv1, aop]
      split <;> (try rfl)
      split <;> (try rfl)
      split <;> rfl
    rw [this]
  | .cn k i :: l => by
    simp only [rvs]
    rw [rvs_w l (wl := wl) (wa := wa) (wl' := wl') (wa' := wa')]
    have : rv1 ⟨ts, h, wl, wa⟩ (.cn k i) = rv1 ⟨ts, h, wl', wa'⟩ (.cn k i) := by
      simp only [rv1, aop]
      split <;> (try rfl)
      split <;> (try rfl)
      split <;> rfl
    rw [this]
/-- A call that writes into objects from n0 on, of the caller too, and returns no address. -/
theorem call_mutW {E : Nat → Option CF} {g n0 : Nat} {cf : CF} {P : List Ob → Prop} (hE : E g = some cf) {args : List AV} (hn : args.length = cf.np) (hnt : args.length ≤ cf.nt) {h : List Ob} {v : AV} (hp : plainV v = true) (h0 : n0 ≤ h.length)
    (hw : W E n0 cf.nt cf.code (fun e f h' => exOk e = true ∧ (rvq cf.nt f h' cf.res).map mkRes = some v ∧ h.length ≤ h'.length ∧ P h') (ofL args) h) :
    ∃ h' h2 wl wa, ecall E g args h = some (v, h2, wl, wa) ∧ n0 ≤ wl ∧ n0 ≤ wa ∧ h2.take n0 = h.take n0 ∧ h.length ≤ h2.length ∧ h2.take h.length = h'.take h.length ∧ P h' := by
  obtain ⟨e, f', h', k1, k2, k3, k4, k5, k6, k7⟩ := hw
  obtain ⟨s2, m1, m2, m3, m4, m5⟩ := ecode_w (s1 := stt cf.nt (ofL args) h n0 n0) (s2 := stt cf.nt (ofL args) h h.length h.length) ⟨rfl, rfl, h0, h0⟩ k1
  obtain ⟨ts2, hh2, wl2, wa2⟩ := s2
  simp only [stt] at m2 m3 m4 m5
  subst m2; subst m3
  obtain ⟨vs, hv, rfl⟩ := Option.map_eq_some_iff.1 k5
  have hr : rvs ⟨mkE cf.nt f', hh2, wl2, wa2⟩ cf.res = some vs := by
    rw [rvs_w (wl' := n0) (wa' := n0)]
    exact (rvq_eq f' hh2 cf.res).trans hv
  have hc : ecall E g args h = some (fin h.length (mkRes vs) ⟨mkE cf.nt f', hh2, wl2, wa2⟩) := by
    rw [ec_call hE hn hnt, m1]
    simp only [retE, Option.bind_some, k4, if_true, hr, Option.map_some]
  rw [hc]
  have hlt : ∀ n, n ≤ hh2.length → (hh2.take n).length = n := fun n hn => by rw [List.length_take, Nat.min_eq_left hn]
  by_cases hwa : wa2 < h.length
  · refine ⟨hh2, hh2, wl2, wa2, ?_, m4, m5, k3, k6, rfl, k7⟩
    simp only [fin, hwa, if_true]
  · refine ⟨hh2, hh2.take h.length, wl2, h.length, ?_, m4, h0, ?_, by rw [hlt _ k6]; exact Nat.le_refl _, by rw [List.take_take, Nat.min_self], k7⟩
    · simp only [fin, hwa, if_false, refs_plain _ hp, dd, pickObjs, ren_plain _ _ hp, List.append_nil]
    · rw [List.take_take, Nat.min_eq_left h0, k3]
theorem call_mutV {E : Nat → Option CF} {g n0 : Nat} {cf : CF} {P : AV → List Ob → Prop} (hE : E g = some cf) {args : List AV} (hn : args.length = cf.np) (hnt : args.length ≤ cf.nt) {h : List Ob} (h0 : n0 ≤ h.length)
    (hw : W E n0 cf.nt cf.code (fun e f h' => exOk e = true ∧ ∃ v, (rvq cf.nt f h' cf.res).map mkRes = some v ∧ plainV v = true ∧ h.length ≤ h'.length ∧ P v h') (ofL args) h) :
    ∃ v h' h2 wl wa, ecall E g args h = some (v, h2, wl, wa) ∧ n0 ≤ wl ∧ n0 ≤ wa ∧ h2.take n0 = h.take n0 ∧ h.length ≤ h2.length ∧ h2.take h.length = h'.take h.length ∧ P v h' := by
  obtain ⟨e, f', h', k1, k2, k3, k4, v, k5, hp, k6, k7⟩ := hw
  obtain ⟨s2, m1, m2, m3, m4, m5⟩ := ecode_w (s1 := stt cf.nt (ofL args) h n0 n0) (s2 := stt cf.nt (ofL args) h h.length h.length) ⟨rfl, rfl, h0, h0⟩ k1
  obtain ⟨ts2, hh2, wl2, wa2⟩ := s2
  simp only [stt] at m2 m3 m4 m5
  subst m2; subst m3
  obtain ⟨vs, hv, rfl⟩ := Option.map_eq_some_iff.1 k5
  refine ⟨mkRes vs, ?_⟩
  have hr : rvs ⟨mkE cf.nt f', hh2, wl2, wa2⟩ cf.res = some vs := by
    rw [rvs_w (wl' := n0) (wa' := n0)]
    exact (rvq_eq f' hh2 cf.res).trans hv
  have hc : ecall E g args h = some (fin h.length (mkRes vs) ⟨mkE cf.nt f', hh2, wl2, wa2⟩) := by
    rw [ec_call hE hn hnt, m1]
    simp only [retE, Option.bind_some, k4, if_true, hr, Option.map_some]
  rw [hc]
  have hlt : ∀ n, n ≤ hh2.length → (hh2.take n).length = n := fun n hn => by rw [List.length_take, Nat.min_eq_left hn]
  by_cases hwa : wa2 < h.length
  · refine ⟨hh2, hh2, wl2, wa2, ?_, m4, m5, k3, k6, rfl, k7⟩
    simp only [fin, hwa, if_true]
  · refine ⟨hh2, hh2.take h.length, wl2, h.length, ?_, m4, h0, ?_, by rw [hlt _ k6]; exact Nat.le_refl _, by rw [List.take_take, Nat.min_self], k7⟩
    · simp only [fin, hwa, if_false, refs_plain _ hp, dd, pickObjs, ren_plain _ _ hp, List.append_nil]
    · rw [List.take_take, Nat.min_eq_left h0, k3]
theorem call_mut {E : Nat → Option CF} {g n0 : Nat} {cf : CF} {P : List Ob → Prop} (hE : E g = some cf) {args : List AV} (hn : args.length = cf.np) (hnt : args.length ≤ cf.nt) {h : List Ob} {v : AV} (hp : plainV v = true) (h0 : n0 ≤ h.length)
    (hw : wc E n0 cf.nt cf.code (fun e f h' => exOk e = true ∧ (rvq cf.nt f h' cf.res).map mkRes = some v ∧ h.length ≤ h'.length ∧ P h') (ofL args) h) :
    ∃ h' h2 wl wa, ecall E g args h = some (v, h2, wl, wa) ∧ n0 ≤ wl ∧ n0 ≤ wa ∧ h2.take n0 = h.take n0 ∧ h.length ≤ h2.length ∧ h2.take h.length = h'.take h.length ∧ P h' :=
  call_mutW hE hn hnt hp h0 (wc_sound _ _ _ _ h0 hw)
/-- Such a call in a region. -/
theorem RG_call {E : Nat → Option CF} {n0 n : Nat} {f : Fr} {h h2 : List Ob} {d : Option Nat} {g : Opd} {xs : List Opd} {av : List Opd} {q : Bool} {l : List Ins} {K : Fr → List Ob → Prop} {k wl wa : Nat} {caps : List AV} {v : AV} (hg : ev n f g = .fn k caps)
    (hc : ecall E k (xs.map (ev n f) ++ caps) h = some (v, h2, wl, wa)) (h1 : n0 ≤ wl) (h3 : n0 ≤ wa) (h4 : n0 ≤ h2.length) (h5 : h2.take n0 = h.take n0) (hq : q = true → h.length ≤ wl) (hr : RG E n0 n l K (updO f d v) h2) : RG E n0 n (⟨d, .call g xs, none, av, q⟩ :: l) K f h := by
  obtain ⟨f', h', r1, r2, r3, r4⟩ := hr
  refine ⟨f', h', ?_, r2, r3.trans h5, r4⟩
  rw [aReg_cons]
  have : aIns (ecall E) ⟨d, .call g xs, none, av, q⟩ (stt n f h n0 n0) = some (stt n (updO f d v) h2 n0 n0) := by
    simp only [aIns, wantedA, if_true, evO_mkE, hg, hc, Option.bind_some]
    rw [if_neg (by rintro ⟨q1, q2⟩; have := hq q1; omega)]
    rw [Nat.min_eq_left h1, Nat.min_eq_left h3, putO_mkE]
  rw [this]; exact r1
theorem rd_take {h h' : List Ob} {n id ep : Nat} {o : Ob} (ht : h'.take n = h.take n) (hid : id < n) (e : rdObj h id ep = some o) : rdObj h' id ep = some o := by
  have hg : h'[id]? = h[id]? := by
    have := congrArg (fun l => l[id]?) ht
    simpa [List.getElem?_take, hid] using this
  unfold rdObj at e ⊢
  rw [hg]; exact e
/-! ### A call that writes into objects from n0 on: its value and the objects after it -/
noncomputable def mcall (E : Nat → Option CF) (n0 k : Nat) (args : List AV) (h : List Ob) : Option (AV × List Ob) := open Classical in match ecall E k args h with
  | some (v, h', a, b) => if n0 ≤ a ∧ n0 ≤ b ∧ n0 ≤ h'.length ∧ h'.take n0 = h.take n0 then some (v, h') else none
  | none => none
theorem mcall_some {E : Nat → Option CF} {n0 k : Nat} {args : List AV} {h : List Ob} {v : AV} {h' : List Ob} : mcall E n0 k args h = some (v, h') ↔ ∃ a b, ecall E k args h = some (v, h', a, b) ∧ n0 ≤ a ∧ n0 ≤ b ∧ n0 ≤ h'.length ∧ h'.take n0 = h.take n0 := by
  unfold mcall
  constructor
  · intro e
    split at e
    · rename_i w h2 a b hc
      split at e
      · rename_i hh
        simp only [Option.some.injEq, Prod.mk.injEq] at e
        obtain ⟨rfl, rfl⟩ := e
        exact ⟨a, b, hc, hh⟩
      · cases e
    · cases e
  · rintro ⟨a, b, e, hh⟩
    rw [e]
    simp only
    rw [if_pos hh]
noncomputable def mcallV (E : Nat → Option CF) (n0 : Nat) (g : AV) (args : List AV) (h : List Ob) : Option (AV × List Ob) := (fnOf g).bind fun p => mcall E n0 p.1 (args ++ p.2) h
theorem mcallV_fn (E : Nat → Option CF) (n0 k : Nat) (caps args : List AV) (h : List Ob) : mcallV E n0 (.fn k caps) args h = mcall E n0 k (args ++ caps) h := Eq.trans rfl rfl
theorem rg_callm {E : Nat → Option CF} {n0 n : Nat} {f : Fr} {h : List Ob} {l : List Ins} {K : Fr → List Ob → Prop} {d : Option Nat} {av : List Opd} {g : Opd} {xs : List Opd} (hp : (mcallV E n0 (ev n f g) (xs.map (ev n f)) h).isSome = true) : rg E n0 n (⟨d, .call g xs, none, av, false⟩ :: l) K f h =
    rg E n0 n l K (updO f d ((mcallV E n0 (ev n f g) (xs.map (ev n f)) h).getD (und, [])).1) ((mcallV E n0 (ev n f g) (xs.map (ev n f)) h).getD (und, [])).2 := by
  obtain ⟨⟨v, hh⟩, hv⟩ := Option.isSome_iff_exists.1 hp
  rw [hv]
  obtain ⟨⟨k, caps⟩, hg, hc⟩ := Option.bind_eq_some_iff.1 hv
  have hg' : ev n f g = .fn k caps := by
    cases hx : ev n f g <;> rw [hx] at hg <;> simp [fnOf] at hg
    rw [hg.1, hg.2]
  obtain ⟨a, b, e1, e2, e3, e4, e5⟩ := mcall_some.1 hc
  rw [rg_call, hg']
  simp only [Option.getD_some]
  apply propext
  constructor
  · rintro ⟨k', caps', e, v', hh', wl, wa, g1, h1, h2, h3, h5, h6, h4⟩
    simp only [AV.fn.injEq] at e
    obtain ⟨rfl, rfl⟩ := e
    rw [e1] at g1
    simp only [Option.some.injEq, Prod.mk.injEq] at g1
    obtain ⟨rfl, rfl, rfl, rfl⟩ := g1
    exact h4
  · intro h4
    exact ⟨k, caps, rfl, v, hh, a, b, e1, e2, e3, (fun h => Bool.noConfusion h), e4, e5, h4⟩
end Go.Proofs.Ytaekgifbehoipaa.Eva
