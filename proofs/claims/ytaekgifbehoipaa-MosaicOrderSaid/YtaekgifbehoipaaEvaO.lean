/- The abstract machine without a count of rounds: its equations. Conditions stand in each lemma. -/
import Derived.Test.YtaekgifbehoipaaEvaN
namespace Go.Proofs.Ytaekgifbehoipaa.Eva
open Go
set_option linter.unusedVariables false
set_option linter.unusedSimpArgs false

theorem aIns_mono {c c' : CallF} (h : ∀ f a hp r, c f a hp = some r → c' f a hp = some r) {i : Ins} {s s' : St} (e : aIns c i s = some s') : aIns c' i s = some s' := by
  unfold aIns at e ⊢
  split
  · rename_i hw
    rw [if_pos hw] at e
    cases hop : i.op <;> simp only [hop] at e ⊢ <;> (try exact e)
    split at e <;> (try (cases e; done))
    obtain ⟨r, h1, h2⟩ := Option.bind_eq_some_iff.1 e
    exact Option.bind_eq_some_iff.2 ⟨r, h _ _ _ _ h1, h2⟩
  · rename_i hw
    rw [if_neg hw] at e
    exact e
theorem aReg_mono {c c' : CallF} (h : ∀ f a hp r, c f a hp = some r → c' f a hp = some r) : ∀ {l : List Ins} {s s' : St}, aReg c l s = some s' → aReg c' l s = some s'
  | [], s, s', e => e
  | i :: l, s, s', e => by
    simp only [aReg] at e ⊢
    obtain ⟨s1, h1, h2⟩ := Option.bind_eq_some_iff.1 e
    exact Option.bind_eq_some_iff.2 ⟨s1, aIns_mono h h1, aReg_mono h h2⟩

section
variable {E : Nat → Option CF}
theorem callBy_mono {r1 r2 : CC → St → Option (Ex × St)} (h : ∀ c s x, r1 c s = some x → r2 c s = some x) (f : Nat) (a : List AV) (hp : List Ob) (r : CallR) (e : callBy E r1 f a hp = some r) : callBy E r2 f a hp = some r := by
  unfold callBy at e ⊢
  split at e <;> (try (cases e; done))
  split at e <;> (try (cases e; done))
  rename_i hc
  rw [if_pos hc]
  obtain ⟨x, h1, h2⟩ := Option.bind_eq_some_iff.1 e
  exact Option.bind_eq_some_iff.2 ⟨x, h _ _ _ h1, h2⟩

theorem acode_step : ∀ (k : Nat) (c : CC) (s : St) (r : Ex × St), acode E k c s = some r → acode E (k + 1) c s = some r := by
  intro k
  induction k with
  | zero => intro c s r h; simp [acode] at h
  | succ k ih =>
    intro c s r h
    cases c with
    | skip => simpa only [acode] using h
    | reg l =>
      simp only [acode] at h ⊢
      obtain ⟨x, h1, h2⟩ := Option.map_eq_some_iff.1 h
      exact Option.map_eq_some_iff.2 ⟨x, aReg_mono (fun f a hp r => callBy_mono ih f a hp r) h1, h2⟩
    | seq a b =>
      simp only [acode] at h ⊢
      obtain ⟨x, h1, h2⟩ := Option.bind_eq_some_iff.1 h
      refine Option.bind_eq_some_iff.2 ⟨x, ih _ _ _ h1, ?_⟩
      obtain ⟨e, x⟩ := x
      cases e <;> simp only at h2 ⊢ <;> first | exact ih _ _ _ h2 | exact h2
    | cond c x y =>
      simp only [acode] at h ⊢
      split at h <;> (try (cases h; done))
      rename_i b hb
      cases b
      · simp only [Bool.false_eq_true, if_false] at h ⊢; exact ih _ _ _ h
      · simp only [if_true] at h ⊢; exact ih _ _ _ h
    | blk id x =>
      simp only [acode] at h ⊢
      obtain ⟨x, h1, h2⟩ := Option.bind_eq_some_iff.1 h
      exact Option.bind_eq_some_iff.2 ⟨x, ih _ _ _ h1, h2⟩
    | loop x =>
      simp only [acode] at h ⊢
      obtain ⟨x, h1, h2⟩ := Option.bind_eq_some_iff.1 h
      refine Option.bind_eq_some_iff.2 ⟨x, ih _ _ _ h1, ?_⟩
      obtain ⟨e, x⟩ := x
      cases e <;> simp only at h2 ⊢ <;> first | exact ih _ _ _ h2 | exact h2
    | exit id => simpa only [acode] using h
    | ret => simpa only [acode] using h
    | bad => simp only [acode] at h; cases h

theorem acode_le {j k : Nat} (hjk : j ≤ k) {c : CC} {s : St} {r : Ex × St} (h : acode E j c s = some r) : acode E k c s = some r := by
  induction hjk with
  | refl => exact h
  | step _ ih => exact acode_step _ _ _ _ ih

variable (E)
/-- How code runs, whatever the rounds. -/
noncomputable def ecode (c : CC) (s : St) : Option (Ex × St) :=
  open Classical in if h : ∃ r, ∃ k, acode E k c s = some r then some (Classical.choose h) else none
noncomputable def ecall : CallF := callBy E (ecode E)
variable {E}

theorem ecode_iff {c : CC} {s : St} {r : Ex × St} : ecode E c s = some r ↔ ∃ k, acode E k c s = some r := by
  unfold ecode
  by_cases h : ∃ r, ∃ k, acode E k c s = some r
  · rw [dif_pos h]
    obtain ⟨k, hk⟩ := Classical.choose_spec h
    constructor
    · intro e
      simp only [Option.some.injEq] at e
      exact ⟨k, by rw [hk, e]⟩
    · rintro ⟨j, hj⟩
      have h1 := acode_le (Nat.le_max_left j k) hj
      have h2 := acode_le (Nat.le_max_right j k) hk
      rw [h1] at h2
      exact h2.symm
  · rw [dif_neg h]
    constructor
    · intro e; cases e
    · rintro ⟨k, hk⟩; exact absurd ⟨r, k, hk⟩ h

theorem ecall_iff {f : Nat} {a : List AV} {hp : List Ob} {r : CallR} : ecall E f a hp = some r ↔ ∃ k, callBy E (acode E k) f a hp = some r := by
  constructor
  · intro e
    unfold ecall callBy at e
    split at e <;> (try (cases e; done))
    rename_i cf hcf
    split at e <;> (try (cases e; done))
    rename_i hc
    obtain ⟨x, h1, h2⟩ := Option.bind_eq_some_iff.1 e
    obtain ⟨k, hk⟩ := ecode_iff.1 h1
    refine ⟨k, ?_⟩
    unfold callBy
    rw [hcf]
    simp only
    rw [if_pos hc]
    exact Option.bind_eq_some_iff.2 ⟨x, hk, h2⟩
  · rintro ⟨k, hk⟩
    exact callBy_mono (fun c s x h => ecode_iff.2 ⟨k, h⟩) f a hp r hk

theorem ecall_reg : ∀ {l : List Ins} {s s' : St}, aReg (ecall E) l s = some s' ↔ ∃ k, aReg (callBy E (acode E k)) l s = some s'
  | [], s, s' => by simp [aReg]
  | i :: l, s, s' => by
    have up : ∀ j k, j ≤ k → ∀ f a hp r, callBy E (acode E j) f a hp = some r → callBy E (acode E k) f a hp = some r := fun j k hjk f a hp r h => callBy_mono (fun c s x h => acode_le hjk h) f a hp r h
    constructor
    · intro h
      simp only [aReg] at h
      obtain ⟨s1, h1, h2⟩ := Option.bind_eq_some_iff.1 h
      obtain ⟨k2, hk2⟩ := ecall_reg.1 h2
      have hi : ∃ k, aIns (callBy E (acode E k)) i s = some s1 := by
        unfold aIns at h1
        by_cases hw : wantedA s.ts i.g = true
        · rw [if_pos hw] at h1
          cases hop : i.op <;> simp only [hop] at h1 <;> (try (exact ⟨0, by unfold aIns; rw [if_pos hw]; simp only [hop]; exact h1⟩))
          split at h1 <;> (try (cases h1; done))
          rename_i g caps hg
          obtain ⟨r, g1, g2⟩ := Option.bind_eq_some_iff.1 h1
          obtain ⟨k, hk⟩ := ecall_iff.1 g1
          refine ⟨k, ?_⟩
          unfold aIns
          rw [if_pos hw]
          simp only [hop, hg]
          exact Option.bind_eq_some_iff.2 ⟨r, hk, g2⟩
        · rw [if_neg hw] at h1
          exact ⟨0, by unfold aIns; rw [if_neg hw]; exact h1⟩
      obtain ⟨k1, hk1⟩ := hi
      refine ⟨max k1 k2, ?_⟩
      simp only [aReg]
      exact Option.bind_eq_some_iff.2 ⟨s1, aIns_mono (up _ _ (Nat.le_max_left _ _)) hk1, aReg_mono (up _ _ (Nat.le_max_right _ _)) hk2⟩
    · rintro ⟨k, hk⟩
      exact aReg_mono (fun f a hp r h => ecall_iff.2 ⟨k, h⟩) hk

theorem ecode_skip (s : St) : ecode E .skip s = some (.nrm, s) := ecode_iff.2 ⟨1, rfl⟩
theorem ecode_exit (id : Nat) (s : St) : ecode E (.exit id) s = some (.ex id, s) := ecode_iff.2 ⟨1, rfl⟩
theorem ecode_ret (s : St) : ecode E .ret s = some (.rt, s) := ecode_iff.2 ⟨1, rfl⟩
theorem opt_ext {α : Type} {x y : Option α} (h : ∀ r, x = some r ↔ y = some r) : x = y := by
  cases x with
  | none => cases y with
    | none => rfl
    | some b => exact absurd ((h b).2 rfl) (by simp)
  | some a => exact ((h a).1 rfl).symm
theorem ecode_reg (l : List Ins) (s : St) : ecode E (.reg l) s = (aReg (ecall E) l s).map fun s => (.nrm, s) := by
  refine opt_ext fun r => ?_
  rw [ecode_iff]
  constructor
  · rintro ⟨k, hk⟩
    cases k with
    | zero => simp [acode] at hk
    | succ k =>
      simp only [acode] at hk
      obtain ⟨x, h1, h2⟩ := Option.map_eq_some_iff.1 hk
      exact Option.map_eq_some_iff.2 ⟨x, ecall_reg.2 ⟨k, h1⟩, h2⟩
  · intro h
    obtain ⟨x, h1, h2⟩ := Option.map_eq_some_iff.1 h
    obtain ⟨k, hk⟩ := ecall_reg.1 h1
    exact ⟨k + 1, by simp only [acode]; exact Option.map_eq_some_iff.2 ⟨x, hk, h2⟩⟩
/-- What follows a piece of code. -/
noncomputable def andE (r : Option (Ex × St)) (k : St → Option (Ex × St)) : Option (Ex × St) :=
  r.bind fun x => match x.1 with
    | .nrm => k x.2
    | e => some (e, x.2)
theorem ecode_seq (a b : CC) (s : St) : ecode E (.seq a b) s = andE (ecode E a s) (ecode E b) := by
  refine opt_ext fun r => ?_
  rw [ecode_iff]
  unfold andE
  constructor
  · rintro ⟨k, hk⟩
    cases k with
    | zero => simp [acode] at hk
    | succ k =>
      simp only [acode] at hk
      obtain ⟨⟨e, x⟩, h1, h2⟩ := Option.bind_eq_some_iff.1 hk
      refine Option.bind_eq_some_iff.2 ⟨(e, x), ecode_iff.2 ⟨k, h1⟩, ?_⟩
      cases e <;> simp only at h2 ⊢ <;> first | exact ecode_iff.2 ⟨k, h2⟩ | exact h2
  · intro h
    obtain ⟨⟨e, x⟩, h1, h2⟩ := Option.bind_eq_some_iff.1 h
    obtain ⟨k1, hk1⟩ := ecode_iff.1 h1
    cases e with
    | nrm =>
      simp only at h2
      obtain ⟨k2, hk2⟩ := ecode_iff.1 h2
      exact ⟨max k1 k2 + 1, by simp only [acode]; exact Option.bind_eq_some_iff.2 ⟨_, acode_le (Nat.le_max_left _ _) hk1, acode_le (Nat.le_max_right _ _) hk2⟩⟩
    | ex id => exact ⟨k1 + 1, by simp only [acode]; exact Option.bind_eq_some_iff.2 ⟨_, hk1, h2⟩⟩
    | rt => exact ⟨k1 + 1, by simp only [acode]; exact Option.bind_eq_some_iff.2 ⟨_, hk1, h2⟩⟩
theorem ecode_loop (a : CC) (s : St) : ecode E (.loop a) s = andE (ecode E a s) (ecode E (.loop a)) := by
  refine opt_ext fun r => ?_
  rw [ecode_iff]
  unfold andE
  constructor
  · rintro ⟨k, hk⟩
    cases k with
    | zero => simp [acode] at hk
    | succ k =>
      simp only [acode] at hk
      obtain ⟨⟨e, x⟩, h1, h2⟩ := Option.bind_eq_some_iff.1 hk
      refine Option.bind_eq_some_iff.2 ⟨(e, x), ecode_iff.2 ⟨k, h1⟩, ?_⟩
      cases e <;> simp only at h2 ⊢ <;> first | exact ecode_iff.2 ⟨k, h2⟩ | exact h2
  · intro h
    obtain ⟨⟨e, x⟩, h1, h2⟩ := Option.bind_eq_some_iff.1 h
    obtain ⟨k1, hk1⟩ := ecode_iff.1 h1
    cases e with
    | nrm =>
      simp only at h2
      obtain ⟨k2, hk2⟩ := ecode_iff.1 h2
      exact ⟨max k1 k2 + 1, by simp only [acode]; exact Option.bind_eq_some_iff.2 ⟨_, acode_le (Nat.le_max_left _ _) hk1, acode_le (Nat.le_max_right _ _) hk2⟩⟩
    | ex id => exact ⟨k1 + 1, by simp only [acode]; exact Option.bind_eq_some_iff.2 ⟨_, hk1, h2⟩⟩
    | rt => exact ⟨k1 + 1, by simp only [acode]; exact Option.bind_eq_some_iff.2 ⟨_, hk1, h2⟩⟩
theorem ecode_cond (c : Opd) (x y : CC) (s : St) : ecode E (.cond c x y) s = (match evO s.ts c with
    | .bool b => if b then ecode E x s else ecode E y s
    | _ => none) := by
  refine opt_ext fun r => ?_
  rw [ecode_iff]
  constructor
  · rintro ⟨k, hk⟩
    cases k with
    | zero => simp [acode] at hk
    | succ k =>
      simp only [acode] at hk
      split at hk <;> (try (cases hk; done))
      rename_i b hb
      rw [hb]
      cases b
      · simp only [Bool.false_eq_true, if_false] at hk ⊢; exact ecode_iff.2 ⟨k, hk⟩
      · simp only [if_true] at hk ⊢; exact ecode_iff.2 ⟨k, hk⟩
  · intro h
    split at h <;> (try (cases h; done))
    rename_i b hb
    cases b
    · obtain ⟨k, hk⟩ := ecode_iff.1 (by simpa using h)
      exact ⟨k + 1, by simp only [acode, hb]; exact hk⟩
    · obtain ⟨k, hk⟩ := ecode_iff.1 (by simpa using h)
      exact ⟨k + 1, by simp only [acode, hb]; exact hk⟩
def leave (id : Nat) (r : Ex × St) : Ex × St := match r.1 with
  | .ex j => if j = id then (.nrm, r.2) else (.ex j, r.2)
  | e => (e, r.2)
theorem ecode_blk (id : Nat) (x : CC) (s : St) : ecode E (.blk id x) s = (ecode E x s).map (leave id) := by
  have key : ∀ y : Ex × St, (match y.1 with
    | .ex j => if j = id then some (.nrm, y.2) else some (.ex j, y.2)
    | e => some (e, y.2)) = some (leave id y) := fun y => by
    unfold leave
    obtain ⟨e, y⟩ := y
    cases e <;> simp only
    split <;> simp_all
  refine opt_ext fun r => ?_
  rw [ecode_iff]
  constructor
  · rintro ⟨k, hk⟩
    cases k with
    | zero => simp [acode] at hk
    | succ k =>
      simp only [acode] at hk
      obtain ⟨y, h1, h2⟩ := Option.bind_eq_some_iff.1 hk
      have h3 := (key y).symm.trans h2
      exact Option.map_eq_some_iff.2 ⟨y, ecode_iff.2 ⟨k, h1⟩, by simpa using h3⟩
  · intro h
    obtain ⟨y, h1, h2⟩ := Option.map_eq_some_iff.1 h
    obtain ⟨k, hk⟩ := ecode_iff.1 h1
    exact ⟨k + 1, by simp only [acode]; exact Option.bind_eq_some_iff.2 ⟨y, hk, (key y).trans (by rw [h2])⟩⟩

/-- What the abstract machine answers, the model answers. -/
theorem ecall_sound {P : Program} (hE : EnvOK P E) : Sound P (ecall E) := by
  intro f args h r he m w vs H hargs
  obtain ⟨k, hk⟩ := ecall_iff.1 he
  exact call_sound hE k f args h r hk m w vs H hargs
end
end Go.Proofs.Ytaekgifbehoipaa.Eva
