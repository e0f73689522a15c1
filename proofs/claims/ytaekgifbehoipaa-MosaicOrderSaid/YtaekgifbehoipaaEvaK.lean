/- One operation of the model and its code in the abstract machine. Conditions stand in each lemma. -/
import Derived.Test.YtaekgifbehoipaaEvaJ
namespace Go.Proofs.Ytaekgifbehoipaa.Eva
open Go
set_option linter.unusedVariables false
set_option linter.unusedSimpArgs false

section
variable {P : Program} {o : Oper} {i : I} {ts : List AV} {a : Act} {m : Mp} {hp : Hp} {w : World} {s s' : Mem} {v : AV}

theorem bin_ops {op : BinOp} {t yt : TypeId} {x y : Operand} (ho : o.op = .binOp op t x y yt) (hc : cBin P op t x y = some i) (ht : TRep m ts a) (ha : aop (evO ts) s i = some (v, s')) : s' = s ∧ QOk P o a w m v := by
  unfold cBin at hc
  replace hc := bind_some hc
  obtain ⟨x', hx, hc⟩ := hc
  replace hc := bind_some hc
  obtain ⟨y', hy, hc⟩ := hc
  have eqs : ∀ (neg : Bool), (op = if neg then .neq else .eql) → (match P.underlying t with
    | some .bool => pure (.eqs neg none x' y')
    | some (.int _) | some .string | some (.float _) => pure (.bin op x' y')
    | some (.struct _) => do
      let ks ← kindsT P 8 t
      if P.eqGuardType P.depth t then failure
      pure (.eqs neg (some ks) x' y')
    | _ => do pure (.eqn neg (← nilKind P t y) x') : Option I) = some i → s' = s ∧ QOk P o a w m v := by
    intro neg hop h
    split at h
    · rename_i hu
      simp only [pure, Option.some.injEq] at h
      subst h
      exact q_eqb ho hop hu hx hy ht ha
    · simp only [pure, Option.some.injEq] at h
      subst h
      exact q_bin ho hx hy ht ha
    · simp only [pure, Option.some.injEq] at h
      subst h
      exact q_bin ho hx hy ht ha
    · simp only [pure, Option.some.injEq] at h
      subst h
      exact q_bin ho hx hy ht ha
    · rename_i fs hu
      replace h := bind_some h
      obtain ⟨ks, hk, h⟩ := h
      split at h
      · simp [failure] at h
      · rename_i hg
        simp only [pure, Option.some.injEq] at h
        subst h
        exact q_eqs ho hop hu hk (by simpa using hg) hx hy ht ha
    · replace h := bind_some h
      obtain ⟨k, hk, h⟩ := h
      simp only [pure, Option.some.injEq] at h
      subst h
      exact q_eqn ho hop hx ht hk ha
  cases op <;> simp only at hc
  case eql => exact eqs false rfl hc
  case neq => exact eqs true rfl hc
  all_goals
    simp only [pure, Option.some.injEq] at hc
    subst hc
    exact q_bin ho hx hy ht ha

theorem slice_ops {t : TypeId} {x : Operand} {lo hi mx : Option Operand} (ho : o.op = .slice t x lo hi mx) (hc : cSlice P t x lo hi mx = some i) (ht : TRep m ts a) (H : HRel m hp w)
    (hag : ∀ y id ep off ob, i.reads = some y → evO ts y = .ptr id ep off → lk s.h id = some ob → hp id = some ob) (ha : aop (evO ts) s i = some (v, s')) : s' = s ∧ QOk P o a w m v := by
  unfold cSlice at hc
  replace hc := bind_some hc
  obtain ⟨x', hx, hc⟩ := hc
  replace hc := bind_some hc
  obtain ⟨lo', hl, hc⟩ := hc
  replace hc := bind_some hc
  obtain ⟨hi', hh, hc⟩ := hc
  split at hc
  · rename_i e hu
    replace hc := bind_some hc
    obtain ⟨n, hn, hc⟩ := hc
    simp only [pure, Option.some.injEq] at hc
    subst hc
    exact q_slc ho hu hn hx hl hh ht ha
  · rename_i e mm hu
    replace hc := bind_some hc
    obtain ⟨m', hm, hc⟩ := hc
    replace hc := bind_some hc
    obtain ⟨h', hh', hc⟩ := hc
    replace hc := bind_some hc
    obtain ⟨n, hn, hc⟩ := hc
    simp only [pure, Option.some.injEq] at hc
    subst hc
    subst hh'
    exact q_slz ho hu hn hx hl hh hm ht ha
  · rename_i N e hu
    replace hc := bind_some hc
    obtain ⟨n, hn, hc⟩ := hc
    simp only [pure, Option.some.injEq] at hc
    subst hc
    exact q_sla ho (.inl hu) hn hx hl hh ht H (fun id ep off ob => hag x' id ep off ob rfl) ha
  · rename_i ar hu
    split at hc
    · rename_i N e hu2
      replace hc := bind_some hc
      obtain ⟨n, hn, hc⟩ := hc
      simp only [pure, Option.some.injEq] at hc
      subst hc
      exact q_sla ho (.inr ⟨ar, hu, hu2⟩) hn hx hl hh ht H (fun id ep off ob => hag x' id ep off ob rfl) ha
    · simp [failure] at hc
  · rename_i hu
    simp only [pure, Option.some.injEq] at hc
    subst hc
    exact q_sls ho hu hx hl hh ht ha
  · simp [failure] at hc

theorem opds_one {xs : List Operand} {x : Opd} (h : cOpds xs = some [x]) : ∃ z, xs = [z] ∧ cOpd z = some x := by
  cases xs with
  | nil => simp [cOpds] at h
  | cons z r =>
    simp only [cOpds] at h
    split at h <;> (try (cases h; done))
    rename_i b l h1 h2
    simp only [Option.some.injEq, List.cons.injEq] at h
    obtain ⟨rfl, rfl⟩ := h
    cases r with
    | nil => exact ⟨z, rfl, h1⟩
    | cons z' r' =>
      simp only [cOpds] at h2
      split at h2 <;> simp at h2
theorem opds_cons {xs : List Operand} {x : Opd} {r : List Opd} (h : cOpds xs = some (x :: r)) : ∃ z l, xs = z :: l ∧ cOpd z = some x ∧ cOpds l = some r := by
  cases xs with
  | nil => simp [cOpds] at h
  | cons z l =>
    simp only [cOpds] at h
    split at h <;> (try (cases h; done))
    rename_i b l' h1 h2
    simp only [Option.some.injEq, List.cons.injEq] at h
    obtain ⟨rfl, rfl⟩ := h
    exact ⟨z, l, rfl, h1, h2⟩
theorem opds_two {xs : List Operand} {x y : Opd} (h : cOpds xs = some [x, y]) : ∃ z u, xs = [z, u] ∧ cOpd z = some x ∧ cOpd u = some y := by
  obtain ⟨z, l, rfl, h1, h2⟩ := opds_cons h
  obtain ⟨u, rfl, h3⟩ := opds_one h2
  exact ⟨z, u, rfl, h1, h3⟩

theorem builtin_ops {c : Call} {b : Builtin} (ho : o.op = .call c) (hcb : c.callee = .builtin b) (hc : cBuiltin P b c.args.toList c.argTypes.toList = some i) (ht : TRep m ts a) (ha : aop (evO ts) s i = some (v, s')) :
    (i.loud = false → s' = s ∧ QOk P o a w m v) ∧ (i.loud = true → HRel m (lk s.h) w → s.wl ≤ s.h.length → s.wa ≤ s.h.length → EOk P o a w m s s' v) ∧ i.isN = false ∧ i.reads = none ∧ i.isC = false := by
  unfold cBuiltin at hc
  replace hc := bind_some hc
  obtain ⟨xs, hxs, hc⟩ := hc
  split at hc
  · -- len
    rename_i x t hts
    obtain ⟨z, hz, hx⟩ := opds_one hxs
    split at hc
    · rename_i n e hu
      simp only [pure, Option.some.injEq] at hc
      subst hc
      simp only [aop, Option.some.injEq, Prod.mk.injEq] at ha
      obtain ⟨rfl, rfl⟩ := ha
      exact ⟨fun _ => ⟨rfl, q_lenc ho hcb hz hts (.inl ⟨e, hu⟩)⟩, by simp [I.loud], rfl, rfl, rfl⟩
    · rename_i ar hu
      split at hc
      · rename_i n e hu2
        simp only [pure, Option.some.injEq] at hc
        subst hc
        simp only [aop, Option.some.injEq, Prod.mk.injEq] at ha
        obtain ⟨rfl, rfl⟩ := ha
        exact ⟨fun _ => ⟨rfl, q_lenc ho hcb hz hts (.inr ⟨ar, e, hu, hu2⟩)⟩, by simp [I.loud], rfl, rfl, rfl⟩
      · simp [failure] at hc
    · rename_i e hu
      simp only [pure, Option.some.injEq] at hc
      subst hc
      exact ⟨fun _ => q_lenv ho hcb hz hts (by simp; exact ⟨e, hu⟩) hx ht ha, by simp [I.loud], rfl, rfl, rfl⟩
    · rename_i hu
      simp only [pure, Option.some.injEq] at hc
      subst hc
      exact ⟨fun _ => q_lenv ho hcb hz hts (by simpa using hu) hx ht ha, by simp [I.loud], rfl, rfl, rfl⟩
    · simp [failure] at hc
  · -- cap
    rename_i x t hts
    obtain ⟨z, hz, hx⟩ := opds_one hxs
    split at hc
    · rename_i e hu
      simp only [pure, Option.some.injEq] at hc
      subst hc
      exact ⟨fun _ => q_capv ho hcb hz hts hu hx ht ha, by simp [I.loud], rfl, rfl, rfl⟩
    · simp [failure] at hc
  · -- append
    rename_i x y t u hts
    obtain ⟨z1, z2, hz, hx, hy⟩ := opds_two hxs
    split at hc
    · rename_i e k hu hu2
      replace hc := bind_some hc
      obtain ⟨inf, hi, hc⟩ := hc
      replace hc := bind_some hc
      obtain ⟨z, hzz, hc⟩ := hc
      replace hc := bind_some hc
      obtain ⟨zs, hzs, hc⟩ := hc
      split at hc
      · simp [failure] at hc
      rename_i hcond
      simp only [pure, Option.some.injEq] at hc
      subst hc
      have hcond2 : inf.bytes ≠ 0 ∧ zs.length = inf.size ∧ inf.size ≠ 0 :=
        ⟨fun h => hcond (.inl h), Classical.byContradiction fun h => hcond (.inr (.inl h)), fun h => hcond (.inr (.inr h))⟩
      exact ⟨by simp [I.loud], fun _ H h1 h2 => e_appz ho hcb hz hts hu hu2 hi hzz hzs hcond2.1 hcond2.2.1 hcond2.2.2 hx hy ht H h1 h2 ha, rfl, rfl, rfl⟩
    · rename_i e d hne hu hu2
      replace hc := bind_some hc
      obtain ⟨inf, hi, hc⟩ := hc
      replace hc := bind_some hc
      obtain ⟨z, hzz, hc⟩ := hc
      split at hc
      · simp [failure] at hc
      rename_i hcond
      simp only [pure, Option.some.injEq] at hc
      subst hc
      have hcond2 : inf.bytes ≠ 0 ∧ z.cells.size = inf.size := by
        constructor
        · exact fun h => hcond (.inl h)
        · exact Classical.byContradiction fun h => hcond (.inr h)
      refine ⟨by simp [I.loud], fun _ H h1 h2 => e_app ho hcb hz hts hu ⟨d, hu2, fun k hk => hne k hk⟩ hi hzz hcond2.1 hcond2.2 hx hy ht H h1 h2 ha, rfl, rfl, rfl⟩
    · simp [failure] at hc
  · -- copy
    rename_i x y t r hts
    obtain ⟨z1, z2, hz, hx, hy⟩ := opds_two hxs
    split at hc
    · rename_i e hu
      replace hc := bind_some hc
      obtain ⟨n, hn, hc⟩ := hc
      simp only [pure, Option.some.injEq] at hc
      subst hc
      exact ⟨by simp [I.loud], fun _ H h1 h2 => e_cpy ho hcb hz hts hu hn hx hy ht H ha, rfl, rfl, rfl⟩
    · simp [failure] at hc
  · -- clear
    rename_i x t hts
    obtain ⟨z1, hz, hx⟩ := opds_one hxs
    split at hc
    · rename_i e hu
      replace hc := bind_some hc
      obtain ⟨z, hzz, hc⟩ := hc
      replace hc := bind_some hc
      obtain ⟨zs, hzs, hc⟩ := hc
      split at hc
      · simp [failure] at hc
      rename_i hne
      simp only [pure, Option.some.injEq] at hc
      subst hc
      exact ⟨by simp [I.loud], fun _ H h1 h2 => e_clr ho hcb hz hts hu hzz hzs hne hx ht H ha, rfl, rfl, rfl⟩
    · simp [failure] at hc
  · rename_i x r
    simp only [pure, Option.some.injEq] at hc
    subst hc
    exact ⟨fun _ => q_mnx (mx := false) ho hcb hxs ht ha, by simp [I.loud], rfl, rfl, rfl⟩
  · rename_i x r
    simp only [pure, Option.some.injEq] at hc
    subst hc
    exact ⟨fun _ => q_mnx (mx := true) ho hcb hxs ht ha, by simp [I.loud], rfl, rfl, rfl⟩
  · simp [failure] at hc

/-- An operation that is no call of a function. -/
theorem op_sound (hc : cOp P o.op = some i) (hic : i.isC = false) (ht : TRep m ts a) (ha : aop (evO ts) s i = some (v, s')) :
    (i.loud = false → i.isN = false → HRel m hp w → (∀ y id ep off ob, i.reads = some y → evO ts y = .ptr id ep off → lk s.h id = some ob → hp id = some ob) → s' = s ∧ QOk P o a w m v) ∧
    (i.isN = true → NOk P o a w m s s' v) ∧
    (i.loud = true → HRel m (lk s.h) w → s.wl ≤ s.h.length → s.wa ≤ s.h.length → EOk P o a w m s s' v) := by
  cases hop : o.op <;> simp only [hop, cOp] at hc <;> (try (cases hc; done))
  case move x =>
    obtain ⟨y, hy, rfl⟩ := map_some hc
    simp only [aop, Option.some.injEq, Prod.mk.injEq] at ha
    obtain ⟨rfl, rfl⟩ := ha
    exact ⟨fun _ _ _ _ => ⟨rfl, q_mv (.inl hop) hy ht⟩, by simp [I.isN], by simp [I.loud]⟩
  case assign x =>
    obtain ⟨y, hy, rfl⟩ := map_some hc
    simp only [aop, Option.some.injEq, Prod.mk.injEq] at ha
    obtain ⟨rfl, rfl⟩ := ha
    exact ⟨fun _ _ _ _ => ⟨rfl, q_mv (.inr hop) hy ht⟩, by simp [I.isN], by simp [I.loud]⟩
  case pick c x y =>
    replace hc := bind_some hc
    obtain ⟨c', h1, hc⟩ := hc
    replace hc := bind_some hc
    obtain ⟨x', h2, hc⟩ := hc
    replace hc := bind_some hc
    obtain ⟨y', h3, hc⟩ := hc
    simp only [pure, Option.some.injEq] at hc
    subst hc
    exact ⟨fun _ _ _ _ => q_pick hop h1 h2 h3 ht ha, by simp [I.isN], by simp [I.loud]⟩
  case alloc e =>
    replace hc := bind_some hc
    obtain ⟨z, h1, hc⟩ := hc
    replace hc := bind_some hc
    obtain ⟨zs, h2, hc⟩ := hc
    simp only [pure, Option.some.injEq] at hc
    subst hc
    exact ⟨by simp [I.isN], fun _ => n_new hop h1 h2 ha, by simp [I.loud]⟩
  case box e x =>
    replace hc := bind_some hc
    obtain ⟨x', h1, hc⟩ := hc
    simp only [pure, Option.some.injEq] at hc
    subst hc
    exact ⟨by simp [I.isN], fun _ => n_box hop h1 ht ha, by simp [I.loud]⟩
  case build t ps =>
    replace hc := bind_some hc
    obtain ⟨z, h1, hc⟩ := hc
    replace hc := bind_some hc
    obtain ⟨zs, h2, hc⟩ := hc
    split at hc
    · rename_i fs hu
      split at hc
      · rename_i hfs
        replace hc := bind_some hc
        obtain ⟨qs, hq, hc⟩ := hc
        simp only [pure, Option.some.injEq] at hc
        subst hc
        exact ⟨fun _ _ _ _ => q_mkS hop h1 h2 hu hfs hq ht ha, by simp [I.isN], by simp [I.loud]⟩
      · simp [failure] at hc
    · rename_i N e hu
      replace hc := bind_some hc
      obtain ⟨n, hn, hc⟩ := hc
      replace hc := bind_some hc
      obtain ⟨qs, hq, hc⟩ := hc
      simp only [pure, Option.some.injEq] at hc
      subst hc
      exact ⟨fun _ _ _ _ => q_mkA hop h1 h2 hu hn hq ht ha, by simp [I.isN], by simp [I.loud]⟩
    · simp [failure] at hc
  case buildSlice t len ps =>
    split at hc
    · rename_i e hu
      replace hc := bind_some hc
      obtain ⟨n, hn, hc⟩ := hc
      split at hc
      · simp [failure] at hc
      rename_i hlim
      split at hc
      · rename_i h0
        replace hc := bind_some hc
        obtain ⟨z, hz, hc⟩ := hc
        replace hc := bind_some hc
        obtain ⟨zs, hzs, hc⟩ := hc
        replace hc := bind_some hc
        obtain ⟨qs, hq, hc⟩ := hc
        simp only [pure, Option.some.injEq] at hc
        subst hc
        exact ⟨by simp [I.isN], fun _ => n_mks hop hu hn hlim (z := z) (by rw [if_pos h0]; exact hz) hzs hq ht ha, by simp [I.loud]⟩
      · rename_i h0
        replace hc := bind_some hc
        obtain ⟨z, hz, hc⟩ := hc
        replace hc := bind_some hc
        obtain ⟨zs, hzs, hc⟩ := hc
        replace hc := bind_some hc
        obtain ⟨qs, hq, hc⟩ := hc
        simp only [pure, Option.some.injEq] at hc
        subst hc
        exact ⟨by simp [I.isN], fun _ => n_mks hop hu hn hlim (z := z) (by rw [if_neg h0]; exact hz) hzs hq ht ha, by simp [I.loud]⟩
    · simp [failure] at hc
  case load t x =>
    replace hc := bind_some hc
    obtain ⟨x', hx, hc⟩ := hc
    replace hc := bind_some hc
    obtain ⟨ag, hg, hc⟩ := hc
    split at hc
    · rename_i h
      subst h
      replace hc := bind_some hc
      obtain ⟨n, hn, hc⟩ := hc
      simp only [pure, Option.some.injEq] at hc
      subst hc
      exact ⟨fun _ _ H hag => q_ldn hop hx hg hn ht H (fun id ep off ob => hag x' id ep off ob rfl) ha, by simp [I.isN], by simp [I.loud]⟩
    · rename_i h
      have h' : ag = false := by simpa using h
      subst h'
      simp only [pure, Option.some.injEq] at hc
      subst hc
      exact ⟨fun _ _ H hag => q_ld1 hop hx hg ht H (fun id ep off ob => hag x' id ep off ob rfl) ha, by simp [I.isN], by simp [I.loud]⟩
  case store t x y =>
    replace hc := bind_some hc
    obtain ⟨n, hn, hc⟩ := hc
    replace hc := bind_some hc
    obtain ⟨x', hx, hc⟩ := hc
    replace hc := bind_some hc
    obtain ⟨y', hy, hc⟩ := hc
    simp only [pure, Option.some.injEq] at hc
    subst hc
    exact ⟨by simp [I.loud], by simp [I.isN], fun _ H h1 h2 => e_st hop hn hx hy ht H ha⟩
  case nilCheck x =>
    obtain ⟨y, hy, rfl⟩ := map_some hc
    exact ⟨fun _ _ _ _ => q_nchk hop hy ht ha, by simp [I.isN], by simp [I.loud]⟩
  case binOp op t x y yt =>
    have hq : i.loud = false ∧ i.isN = false := by
      unfold cBin at hc
      replace hc := bind_some hc
      obtain ⟨x', hx, hc⟩ := hc
      replace hc := bind_some hc
      obtain ⟨y', hy, hc⟩ := hc
      cases op <;> simp only at hc <;> (try (simp only [pure, Option.some.injEq] at hc; subst hc; exact ⟨rfl, rfl⟩)) <;>
        (split at hc <;> (try (simp only [pure, Option.some.injEq] at hc; subst hc; exact ⟨rfl, rfl⟩)) <;> (replace hc := bind_some hc; obtain ⟨k, hk, hc⟩ := hc; (try split at hc) <;> (try (simp [failure] at hc; done)) <;> (simp only [pure, Option.some.injEq] at hc; subst hc; exact ⟨rfl, rfl⟩)))
    exact ⟨fun _ _ _ _ => bin_ops hop hc ht ha, fun h => by simp [hq.2] at h, fun h => by simp [hq.1] at h⟩
  case unOp op t x =>
    obtain ⟨y, hy, rfl⟩ := map_some hc
    exact ⟨fun _ _ _ _ => q_un hop hy ht ha, by simp [I.isN], by simp [I.loud]⟩
  case convert t t' x =>
    replace hc := bind_some hc
    obtain ⟨x', hx, hc⟩ := hc
    split at hc
    · rename_i k k' hu hu'
      simp only [pure, Option.some.injEq] at hc
      subst hc
      exact ⟨fun _ _ _ _ => q_cvi hop hu hu' hx ht ha, by simp [I.isN], by simp [I.loud]⟩
    · rename_i hu hu'
      simp only [pure, Option.some.injEq] at hc
      subst hc
      exact ⟨fun _ _ _ _ => q_cvs hop hu hu' hx ht ha, by simp [I.isN], by simp [I.loud]⟩
    · rename_i k k' hu hu'
      simp only [pure, Option.some.injEq] at hc
      subst hc
      exact ⟨fun _ _ _ _ => q_cvf hop hu hu' hx ht ha, by simp [I.isN], by simp [I.loud]⟩
    · rename_i k k' hu hu'
      simp only [pure, Option.some.injEq] at hc
      subst hc
      exact ⟨fun _ _ _ _ => q_cfi hop hu hu' hx ht ha, by simp [I.isN], by simp [I.loud]⟩
    · rename_i e hu hu'
      split at hc <;> (try (simp [failure] at hc; done))
      rename_i hu2
      simp only [pure, Option.some.injEq] at hc
      subst hc
      exact ⟨by simp [I.loud], by simp [I.isN], fun _ H h1 h2 => e_csb hop hu hu' hu2 hx ht H h2 ha⟩
    · rename_i e' e hu hu'
      split at hc <;> (try (simp [failure] at hc; done))
      rename_i hu2
      split at hc <;> (try (simp [failure] at hc; done))
      rename_i htt
      simp only [pure, Option.some.injEq] at hc
      subst hc
      exact ⟨by simp [I.loud], by simp [I.isN], fun _ H h1 h2 => e_csc hop hu hu' hu2 htt hx ht H h1 ha⟩
    · rename_i e hu hu'
      split at hc <;> (try (simp [failure] at hc; done))
      rename_i hu2
      simp only [pure, Option.some.injEq] at hc
      subst hc
      exact ⟨by simp [I.loud], by simp [I.isN], fun _ H h1 h2 => e_cbs hop hu hu' hu2 hx ht H ha⟩
    · simp [failure] at hc
  case makeFunc fn first cap =>
    cases fn <;> simp only at hc <;> (try (cases hc; done))
    rename_i f
    split at hc <;> (try (cases hc; done))
    rename_i hf
    replace hc := bind_some hc
    obtain ⟨c', h1, hc⟩ := hc
    simp only [pure, Option.some.injEq] at hc
    subst hc
    simp only [aop, Option.some.injEq, Prod.mk.injEq] at ha
    obtain ⟨rfl, rfl⟩ := ha
    exact ⟨fun _ _ _ _ => ⟨rfl, q_mkf hop hf h1 ht⟩, by simp [I.isN], by simp [I.loud]⟩
  case makeSlice t l c =>
    split at hc
    · rename_i e hu
      replace hc := bind_some hc
      obtain ⟨inf, hi, hc⟩ := hc
      replace hc := bind_some hc
      obtain ⟨z, hz, hc⟩ := hc
      replace hc := bind_some hc
      obtain ⟨zs, hzs, hc⟩ := hc
      split at hc
      · rename_i hl
        replace hc := bind_some hc
        obtain ⟨l', h1, hc⟩ := hc
        replace hc := bind_some hc
        obtain ⟨c', h2, hc⟩ := hc
        simp only [pure, Option.some.injEq] at hc
        subst hc
        exact ⟨by simp [I.isN], fun _ => n_mksl hop hu hi hz hzs hl.1 hl.2 h1 h2 ht ha, by simp [I.loud]⟩
      · simp [failure] at hc
    · simp [failure] at hc
  case slice t x lo hi mx =>
    have hq : i.loud = false ∧ i.isN = false := by
      unfold cSlice at hc
      replace hc := bind_some hc
      obtain ⟨x', hx, hc⟩ := hc
      replace hc := bind_some hc
      obtain ⟨lo', hl, hc⟩ := hc
      replace hc := bind_some hc
      obtain ⟨hi', hh, hc⟩ := hc
      split at hc
      · replace hc := bind_some hc
        obtain ⟨n, hn, hc⟩ := hc
        simp only [pure, Option.some.injEq] at hc
        subst hc; exact ⟨rfl, rfl⟩
      · replace hc := bind_some hc
        obtain ⟨n, hn, hc⟩ := hc
        replace hc := bind_some hc
        obtain ⟨n2, hn2, hc⟩ := hc
        replace hc := bind_some hc
        obtain ⟨n3, hn3, hc⟩ := hc
        simp only [pure, Option.some.injEq] at hc
        subst hc; exact ⟨rfl, rfl⟩
      · replace hc := bind_some hc
        obtain ⟨n, hn, hc⟩ := hc
        simp only [pure, Option.some.injEq] at hc
        subst hc; exact ⟨rfl, rfl⟩
      · split at hc
        · replace hc := bind_some hc
          obtain ⟨n, hn, hc⟩ := hc
          simp only [pure, Option.some.injEq] at hc
          subst hc; exact ⟨rfl, rfl⟩
        · simp [failure] at hc
      · simp only [pure, Option.some.injEq] at hc
        subst hc; exact ⟨rfl, rfl⟩
      · simp [failure] at hc
    exact ⟨fun _ _ H hag => slice_ops hop hc ht H hag ha, fun h => by simp [hq.2] at h, fun h => by simp [hq.1] at h⟩
  case fieldAddr t x f =>
    split at hc
    · rename_i fs hu
      replace hc := bind_some hc
      obtain ⟨fd, hf, hc⟩ := hc
      replace hc := bind_some hc
      obtain ⟨n, hn, hc⟩ := hc
      split at hc
      · simp [failure] at hc
      rename_i hn0
      replace hc := bind_some hc
      obtain ⟨x', hx, hc⟩ := hc
      simp only [pure, Option.some.injEq] at hc
      subst hc
      exact ⟨fun _ _ _ _ => q_fad hop hu hf hn hn0 hx ht ha, by simp [I.isN], by simp [I.loud]⟩
    · simp [failure] at hc
  case field t x f =>
    split at hc
    · rename_i fs hu
      replace hc := bind_some hc
      obtain ⟨fd, hf, hc⟩ := hc
      replace hc := bind_some hc
      obtain ⟨x', hx, hc⟩ := hc
      replace hc := bind_some hc
      obtain ⟨ag, hg, hc⟩ := hc
      split at hc
      · rename_i h
        subst h
        replace hc := bind_some hc
        obtain ⟨n, hn, hc⟩ := hc
        simp only [pure, Option.some.injEq] at hc
        subst hc
        exact ⟨fun _ _ _ _ => q_fldn hop hu hf hg hn hx ht ha, by simp [I.isN], by simp [I.loud]⟩
      · rename_i h
        have h' : ag = false := by simpa using h
        subst h'
        simp only [pure, Option.some.injEq] at hc
        subst hc
        exact ⟨fun _ _ _ _ => q_fld1 hop hu hf hg hx ht ha, by simp [I.isN], by simp [I.loud]⟩
    · simp [failure] at hc
  case indexAddr t x y =>
    split at hc
    · rename_i e hu
      replace hc := bind_some hc
      obtain ⟨n, hn, hc⟩ := hc
      replace hc := bind_some hc
      obtain ⟨x', hx, hc⟩ := hc
      replace hc := bind_some hc
      obtain ⟨y', hy, hc⟩ := hc
      simp only [pure, Option.some.injEq] at hc
      subst hc
      exact ⟨fun _ _ _ _ => q_iad hop hu hn hx hy ht ha, by simp [I.isN], by simp [I.loud]⟩
    · rename_i N e hu
      replace hc := bind_some hc
      obtain ⟨n, hn, hc⟩ := hc
      replace hc := bind_some hc
      obtain ⟨x', hx, hc⟩ := hc
      replace hc := bind_some hc
      obtain ⟨y', hy, hc⟩ := hc
      simp only [pure, Option.some.injEq] at hc
      subst hc
      exact ⟨fun _ _ _ _ => q_iaa hop hu hn hx hy ht ha, by simp [I.isN], by simp [I.loud]⟩
    · simp [failure] at hc
  case index t x y =>
    split at hc
    · rename_i N e hu
      replace hc := bind_some hc
      obtain ⟨n, hn, hc⟩ := hc
      replace hc := bind_some hc
      obtain ⟨ag, hg, hc⟩ := hc
      replace hc := bind_some hc
      obtain ⟨x', hx, hc⟩ := hc
      replace hc := bind_some hc
      obtain ⟨y', hy, hc⟩ := hc
      simp only [pure, Option.some.injEq] at hc
      subst hc
      exact ⟨fun _ _ _ _ => q_ixa hop hu hn hg hx hy ht ha, by simp [I.isN], by simp [I.loud]⟩
    · rename_i hu
      replace hc := bind_some hc
      obtain ⟨x', hx, hc⟩ := hc
      replace hc := bind_some hc
      obtain ⟨y', hy, hc⟩ := hc
      simp only [pure, Option.some.injEq] at hc
      subst hc
      exact ⟨fun _ _ _ _ => q_ixs hop hu hx hy ht ha, by simp [I.isN], by simp [I.loud]⟩
    · simp [failure] at hc
  case extract x k =>
    replace hc := bind_some hc
    obtain ⟨x', hx, hc⟩ := hc
    simp only [pure, Option.some.injEq] at hc
    subst hc
    exact ⟨fun _ _ _ _ => q_ext hop hx ht ha, by simp [I.isN], by simp [I.loud]⟩
  case call c =>
    split at hc
    · rename_i fo hcal
      split at hc
      · rename_i k x hk hxs
        replace hc := bind_some hc
        obtain ⟨x', hx, hc⟩ := hc
        simp only [pure, Option.some.injEq] at hc
        subst hc
        exact ⟨fun _ _ _ _ => q_xf hop hcal hk hxs hx ht ha, by simp [I.isN], by simp [I.loud]⟩
      · simp [failure] at hc
      · replace hc := bind_some hc
        obtain ⟨f', h1, hc⟩ := hc
        replace hc := bind_some hc
        obtain ⟨xs', h2, hc⟩ := hc
        simp only [pure, Option.some.injEq] at hc
        subst hc
        simp [I.isC] at hic
    · rename_i b hcb
      obtain ⟨k1, k2, k3, k4, k5⟩ := builtin_ops (w := w) (m := m) hop hcb hc ht ha
      exact ⟨fun h1 _ _ _ => k1 h1, fun h => by simp [k3] at h, fun h1 => k2 h1⟩
    · cases hc
end
end Go.Proofs.Ytaekgifbehoipaa.Eva
