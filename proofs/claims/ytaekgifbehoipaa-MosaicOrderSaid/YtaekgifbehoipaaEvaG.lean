/- More quiet operations: slices of slices, arrays and strings, lengths, least and greatest, structs and arrays put together. Conditions stand in each lemma. -/
import Derived.Test.YtaekgifbehoipaaEvaF
namespace Go.Proofs.Ytaekgifbehoipaa.Eva
open Go
set_option linter.unusedVariables false
set_option linter.unusedSimpArgs false

section
variable {P : Program} {o : Oper} {i : I} {ts : List AV} {a : Act} {m : Mp} {hp : Hp} {w : World} {s s' : Mem} {v : AV}

theorem run_sliceBound {k : IntKind} {n : Int} {y : Nat} (h0 : 0 ≤ n) (h1 : n ≤ y) (c : BoundsCode) : (Instr.sliceBound (.int k n) y c).run P w = .ok n.toNat w := by
  simp [Instr.sliceBound, asIntOf, h0, h1]

theorem toI_some {v : AV} {n : Int} (h : toI v = some n) : ∃ k, v = .int k n := by
  cases v <;> simp [toI] at h
  exact ⟨_, by rw [h]⟩

/-- An upper or lower limit, read. -/
theorem bound_val {x : Option Operand} {y : Option Opd} (hx : cOpdO x = some y) (ht : TRep m ts a) {d : Nat} {n : Int} (h : bound (evO ts) d y = some n) :
    (x = none ∧ y = none ∧ n = d) ∨ ∃ z z' k, x = some z ∧ y = some z' ∧ a.eval z = .int k n := by
  cases x with
  | none => simp [cOpdO] at hx; subst hx; simp [bound] at h; exact .inl ⟨rfl, rfl, h.symm⟩
  | some z =>
    simp only [cOpdO] at hx
    obtain ⟨z', hz, rfl⟩ := map_some hx
    simp only [bound] at h
    obtain ⟨k, hk⟩ := toI_some h
    have hr := vrep_opd ht hz
    rw [hk] at hr
    simp only [VRep] at hr
    exact .inr ⟨z, z', k, rfl, rfl, hr⟩

theorem run_bounds {lo hi : Option Operand} {lo' hi' : Option Opd} (hl : cOpdO lo = some lo') (hh : cOpdO hi = some hi') (ht : TRep m ts a) {isS : Bool} {len cap : Nat} {l h : Int}
    (el : bound (evO ts) 0 lo' = some l) (eh : bound (evO ts) len hi' = some h) (h0 : 0 ≤ l) (h1 : l ≤ h) (h2 : h ≤ len) (hc : len ≤ cap) :
    (Instr.sliceBounds isS len cap (lo.map a.eval) (hi.map a.eval) none).run P w = .ok (l.toNat, h.toNat, cap) w := by
  have hcap : h ≤ (cap : Int) := by omega
  unfold Instr.sliceBounds
  rcases bound_val hh ht eh with ⟨rfl, _, rfl⟩ | ⟨z, z', k, rfl, _, e⟩ <;> rcases bound_val hl ht el with ⟨rfl, _, rfl⟩ | ⟨y, y', k', rfl, _, e'⟩
  · simp
  · simp [e', run_sliceBound h0 h1]
  · have h0h : 0 ≤ h := by omega
    simp [e, run_sliceBound h0h hcap]
  · have h0h : 0 ≤ h := by omega
    simp [e, e', run_sliceBound h0h hcap, run_sliceBound (P := P) (w := w) h0 (show l ≤ ((h.toNat : Nat) : Int) by omega)]

theorem q_slc {t e : TypeId} {x : Operand} {lo hi : Option Operand} (ho : o.op = .slice t x lo hi none) (hu : P.underlying t = some (.slice e)) {n : Nat} (hn : sizeT P e = some n) {x' : Opd} (hx : cOpd x = some x') {lo' hi' : Option Opd} (hl : cOpdO lo = some lo') (hh : cOpdO hi = some hi')
    (ht : TRep m ts a) (ha : aop (evO ts) s (.slc n x' lo' hi') = some (v, s')) : s' = s ∧ QOk P o a w m v := by
  have hr := vrep_opd ht hx
  simp only [aop] at ha
  split at ha <;> (try (cases ha; done))
  · rename_i nl id ep sz off len hk
    split at ha <;> (try (cases ha; done))
    rename_i l h el eh
    split at ha <;> simp at ha
    rename_i hc
    obtain ⟨c0, c1, c2, c3⟩ := hc
    obtain ⟨rfl, rfl⟩ := ha
    rw [hk] at hr
    simp only [VRep] at hr
    rcases hr with ⟨rfl, he, rfl⟩ | ⟨rfl, lx, hlx, ⟨rfl, b, he⟩ | ⟨cap, he, hlc, hcap⟩⟩
    · have hb := run_bounds (P := P) (w := w) hl hh ht (isS := true) (cap := 0) el eh c0 c1 c2 (Nat.le_refl _)
      have e0 : l = 0 ∧ h = 0 := by omega
      refine ⟨rfl, .slice none 0 0, ?_, by simp only [VRep]; exact .inl ⟨trivial, trivial, by omega⟩⟩
      unfold execOp
      simp [ho, he, Instr.sliceAt, Instr.slice, run_underlying hu, hb, run_sizeT hn, e0]
    · have hb := run_bounds (P := P) (w := w) hl hh ht (isS := true) (cap := 0) el eh c0 c1 c2 (Nat.le_refl _)
      have e0 : l = 0 ∧ h = 0 := by omega
      refine ⟨rfl, .slice (some b) 0 0, ?_, by simp only [VRep]; exact .inr ⟨trivial, lx, hlx, .inl ⟨by omega, b, rfl⟩⟩⟩
      unfold execOp
      simp [ho, he, Instr.sliceAt, Instr.slice, run_underlying hu, hb, run_sizeT hn, e0]
    · have hb := run_bounds (P := P) (w := w) hl hh ht (isS := true) (cap := cap) el eh c0 c1 c2 hlc
      have hsz : sz = n := by simpa using c3
      subst hsz
      by_cases hcl : cap = l.toNat
      · subst hcl
        refine ⟨rfl, .slice (some ⟨lx.b, lx.base + off, none⟩) 0 0, ?_, by simp only [VRep]; exact .inr ⟨trivial, lx, hlx, .inl ⟨by omega, _, rfl⟩⟩⟩
        have e1 : h.toNat - l.toNat = 0 := by omega
        unfold execOp
        simp [ho, he, Instr.sliceAt, Instr.slice, run_underlying hu, hb, run_sizeT hn, e1]
      · refine ⟨rfl, .slice (some ⟨lx.b, lx.base + (off + l.toNat * sz), none⟩) (h.toNat - l.toNat) (cap - l.toNat), ?_, by
          simp only [VRep]
          refine .inr ⟨trivial, lx, hlx, .inr ⟨_, rfl, by omega, ?_⟩⟩
          have : (cap - l.toNat) * sz + l.toNat * sz = cap * sz := by rw [← Nat.add_mul]; congr 1; omega
          omega⟩
        unfold execOp
        simp [ho, he, Instr.sliceAt, Instr.slice, run_underlying hu, hb, run_sizeT hn, hcl, add_at, Nat.add_assoc]
  · rename_i nl hk
    split at ha <;> (try (cases ha; done))
    rename_i l h el eh
    split at ha <;> simp at ha
    rename_i hc
    obtain ⟨rfl, rfl⟩ := hc
    obtain ⟨rfl, rfl⟩ := ha
    rw [hk] at hr
    simp only [VRep] at hr
    have hb := run_bounds (P := P) (w := w) hl hh ht (isS := true) (cap := 0) el eh (Int.le_refl _) (Int.le_refl _) (by simp) (Nat.le_refl _)
    refine ⟨rfl, a.eval x, ?_, by simp only [VRep]; exact hr⟩
    rcases hr with ⟨_, he⟩ | ⟨_, b, he⟩ <;> unfold execOp <;> simp [ho, he, Instr.sliceAt, Instr.slice, run_underlying hu, hb, run_sizeT hn]

theorem q_slz {t e : TypeId} {x mx : Operand} {lo hi : Option Operand} (ho : o.op = .slice t x lo hi (some mx)) (hu : P.underlying t = some (.slice e)) {n : Nat} (hn : sizeT P e = some n) {x' h' m' : Opd} (hx : cOpd x = some x') {lo' : Option Opd} (hl : cOpdO lo = some lo') (hh : cOpdO hi = some (some h')) (hm : cOpd mx = some m')
    (ht : TRep m ts a) (ha : aop (evO ts) s (.slz x' (lo'.getD (.k (.int .i64 0))) h' m') = some (v, s')) : s' = s ∧ QOk P o a w m v := by
  have hr := vrep_opd ht hx
  have hrm := vrep_opd ht hm
  have key : ∀ (q r z : Option Int), (q, r, z) = (some 0, some 0, some 0) → toI (evO ts (lo'.getD (.k (.int .i64 0)))) = q → toI (evO ts h') = r → toI (evO ts m') = z → ∀ (A : Option Addr) (len cap : Nat), a.eval x = .slice A len cap →
      (execOp a.eval o).run P w = .ok (.value (.slice A 0 0)) w := by
    intro q r z hq e1 e2 e3 A len cap he
    simp only [Prod.mk.injEq] at hq
    obtain ⟨rfl, rfl, rfl⟩ := hq
    obtain ⟨k1, hk1⟩ := toI_some e2
    obtain ⟨k2, hk2⟩ := toI_some e3
    rw [hk2] at hrm
    simp only [VRep] at hrm
    have hlo : lo = none ∨ ∃ y k3, lo = some y ∧ a.eval y = .int k3 0 := by
      cases lo with
      | none => exact .inl rfl
      | some z =>
        simp only [cOpdO] at hl
        obtain ⟨z', hz, rfl⟩ := map_some hl
        simp only [Option.getD_some] at e1
        obtain ⟨k3, hk3⟩ := toI_some e1
        have h3 := vrep_opd ht hz
        rw [hk3] at h3
        simp only [VRep] at h3
        exact .inr ⟨z, k3, rfl, h3⟩
    have hhi : ∃ hv, hi = some hv ∧ a.eval hv = .int k1 0 := by
      cases hi with
      | none => simp [cOpdO] at hh
      | some z =>
        simp only [cOpdO] at hh
        obtain ⟨z', hz, e⟩ := map_some hh
        simp only [Option.some.injEq] at e
        subst e
        have h3 := vrep_opd ht hz
        rw [hk1] at h3
        simp only [VRep] at h3
        exact ⟨z, rfl, h3⟩
    obtain ⟨hv, rfl, hve⟩ := hhi
    have hb : (Instr.sliceBounds true len cap (lo.map a.eval) ((some hv).map a.eval) ((some mx).map a.eval)).run P w = .ok (0, 0, 0) w := by
      have b0 : ∀ (k : IntKind) (q : Nat) (c : BoundsCode), (Instr.sliceBound (.int k 0) q c).run P w = .ok 0 w := fun k q c => run_sliceBound (Int.le_refl 0) (by omega) c
      unfold Instr.sliceBounds
      rcases hlo with rfl | ⟨y, k3, rfl, e⟩
      · simp [hrm, hve, b0]
      · simp [hrm, hve, b0, e]
    unfold execOp
    simp only [Option.map_some] at hb
    simp [ho, he, Instr.sliceAt, Instr.slice, run_underlying hu, hb, run_sizeT hn]
  simp only [aop] at ha
  split at ha <;> simp at ha
  · rename_i nl id ep sz off len hk e1 e2 e3
    obtain ⟨rfl, rfl⟩ := ha
    rw [hk] at hr
    simp only [VRep] at hr
    refine ⟨rfl, ?_⟩
    rcases hr with ⟨rfl, he, rfl⟩ | ⟨rfl, lx, hlx, ⟨rfl, b, he⟩ | ⟨cap, he, hlc, hcap⟩⟩
    · exact ⟨_, key _ _ _ rfl e1 e2 e3 _ _ _ he, by simp [VRep]⟩
    · exact ⟨_, key _ _ _ rfl e1 e2 e3 _ _ _ he, by simp [VRep]⟩
    · exact ⟨_, key _ _ _ rfl e1 e2 e3 _ _ _ he, by simp [VRep]⟩
  · rename_i nl hk e1 e2 e3
    obtain ⟨rfl, rfl⟩ := ha
    rw [hk] at hr
    simp only [VRep] at hr
    refine ⟨rfl, ?_⟩
    rcases hr with ⟨rfl, he⟩ | ⟨rfl, b, he⟩
    · exact ⟨_, key _ _ _ rfl e1 e2 e3 _ _ _ he, by simp [VRep]⟩
    · exact ⟨_, key _ _ _ rfl e1 e2 e3 _ _ _ he, by simp [VRep]⟩

theorem q_sla {t e : TypeId} {N : Nat} {x : Operand} {lo hi : Option Operand} (ho : o.op = .slice t x lo hi none) (hu : P.underlying t = some (.array N e) ∨ ∃ ar, P.underlying t = some (.pointer ar) ∧ P.underlying ar = some (.array N e)) {n : Nat} (hn : sizeT P e = some n) {x' : Opd} (hx : cOpd x = some x') {lo' hi' : Option Opd} (hl : cOpdO lo = some lo') (hh : cOpdO hi = some hi')
    (ht : TRep m ts a) (H : HRel m hp w) (hag : ∀ id ep off ob, evO ts x' = .ptr id ep off → lk s.h id = some ob → hp id = some ob) (ha : aop (evO ts) s (.sla N n x' lo' hi') = some (v, s')) : s' = s ∧ QOk P o a w m v := by
  have hr := vrep_opd ht hx
  simp only [aop] at ha
  split at ha <;> (try (cases ha; done))
  rename_i id ep off hk
  split at ha <;> (try (cases ha; done))
  rename_i l h el eh
  split at ha <;> (try (cases ha; done))
  rename_i hc
  obtain ⟨c0, c1, c2⟩ := hc
  split at ha <;> (try (cases ha; done))
  rename_i ob hob
  split at ha <;> simp at ha
  rename_i hlen
  obtain ⟨rfl, rfl⟩ := ha
  obtain ⟨f1, f2⟩ := rdObj_some hob
  replace f1 := hag id ep off ob hk f1
  rw [hk] at hr
  simp only [VRep] at hr
  obtain ⟨lx, hlx, he⟩ := hr
  obtain ⟨cs, tt, fr, g1, g2, g3, g4, g5⟩ := H.cells id ob lx f1 (by rw [f2]; exact hlx)
  have hb := run_bounds (P := P) (w := w) hl hh ht (isS := false) (cap := N) el eh c0 c1 c2 (Nat.le_refl _)
  refine ⟨rfl, .slice (some (if N = l.toNat then ⟨lx.b, lx.base + off, none⟩ else ⟨lx.b, lx.base + (off + l.toNat * n), none⟩)) (h.toNat - l.toNat) (N - l.toNat), ?_, ?_⟩
  · unfold execOp
    rcases hu with hu | ⟨ar, hu, hu2⟩
    · simp [ho, he, Instr.sliceAt, run_underlying hu, hb, run_sizeT hn, Instr.sureAddr, add_at, Nat.add_assoc]
    · simp [ho, he, Instr.sliceAt, Instr.slice, run_underlying hu, run_underlying hu2, hb, run_sizeT hn, asAddr, add_at, Nat.add_assoc]
  · simp only [VRep]
    refine .inr ⟨trivial, lx, hlx, ?_⟩
    by_cases e1 : N = l.toNat
    · left
      refine ⟨by omega, _, by rw [if_pos e1]; congr 1 <;> omega⟩
    · right
      refine ⟨_, by rw [if_neg e1], by omega, ?_⟩
      have : (N - l.toNat) * n + l.toNat * n = N * n := by rw [← Nat.add_mul]; congr 1; omega
      omega

theorem q_sls {t : TypeId} {x : Operand} {lo hi : Option Operand} (ho : o.op = .slice t x lo hi none) (hu : P.underlying t = some .string) {x' : Opd} (hx : cOpd x = some x') {lo' hi' : Option Opd} (hl : cOpdO lo = some lo') (hh : cOpdO hi = some hi')
    (ht : TRep m ts a) (ha : aop (evO ts) s (.sls x' lo' hi') = some (v, s')) : s' = s ∧ QOk P o a w m v := by
  have hr := vrep_opd ht hx
  simp only [aop] at ha
  split at ha <;> (try (cases ha; done))
  rename_i b hk
  split at ha <;> (try (cases ha; done))
  rename_i l h el eh
  split at ha <;> simp at ha
  rename_i hc
  obtain ⟨c0, c1, c2⟩ := hc
  obtain ⟨rfl, rfl⟩ := ha
  rw [hk] at hr
  simp only [VRep] at hr
  have hb := run_bounds (P := P) (w := w) hl hh ht (isS := false) (cap := b.size) el eh c0 c1 c2 (Nat.le_refl _)
  refine ⟨rfl, .string (b.extract l.toNat h.toNat), ?_, vr_str⟩
  unfold execOp
  simp [ho, hr, Instr.sliceAt, Instr.slice, run_underlying hu, hb]

/-! ### Builtins -/
theorem run_builtin {c : Call} {b : Builtin} (ho : o.op = .call c) (hc : c.callee = .builtin b) :
    (execOp a.eval o).run P w = (builtin b c.argTypes o.type (c.args.map fun | .const _ => true | _ => false) (c.args.map a.eval)).run P w := by
  unfold execOp
  simp only [ho, Sem.run_bind]
  unfold resolve
  simp [hc, invoke]
  rfl

theorem args_one {c : Call} {x : Operand} (h : c.args.toList = [x]) : c.args.map a.eval = #[a.eval x] := by
  have : c.args = #[x] := by rw [← Array.toArray_toList (xs := c.args), h]
  simp [this]
theorem args_two {c : Call} {x y : Operand} (h : c.args.toList = [x, y]) : c.args.map a.eval = #[a.eval x, a.eval y] := by
  have : c.args = #[x, y] := by rw [← Array.toArray_toList (xs := c.args), h]
  simp [this]

theorem q_lenv {c : Call} {t : TypeId} {x : Operand} {str : Bool} (ho : o.op = .call c) (hc : c.callee = .builtin .len) (hxs : c.args.toList = [x]) (hts : c.argTypes.toList = [t]) (hu : if str then P.underlying t = some .string else ∃ e, P.underlying t = some (.slice e))
    {x' : Opd} (hx : cOpd x = some x') (ht : TRep m ts a) (ha : aop (evO ts) s (.lenv str x') = some (v, s')) : s' = s ∧ QOk P o a w m v := by
  have hr := vrep_opd ht hx
  have hts' : c.argTypes = #[t] := by rw [← Array.toArray_toList (xs := c.argTypes), hts]
  have hrun := run_builtin (P := P) (w := w) (a := a) ho hc
  rw [args_one hxs, hts'] at hrun
  simp only [aop] at ha
  split at ha <;> simp at ha <;> rename_i hk <;> rw [hk] at hr <;> simp only [VRep] at hr <;> obtain ⟨rfl, rfl⟩ := ha <;> refine ⟨rfl, _, ?_, vr_int⟩ <;> rw [hrun]
  · obtain ⟨e, he⟩ := (by simpa using hu : ∃ e, P.underlying t = some (.slice e))
    rcases hr with ⟨_, h, rfl⟩ | ⟨_, l, _, ⟨rfl, b, h⟩ | ⟨cap, h, _⟩⟩ <;> simp [builtin, Builtin.len_, h, run_underlying he, goInt]
  · obtain ⟨e, he⟩ := (by simpa using hu : ∃ e, P.underlying t = some (.slice e))
    rcases hr with ⟨_, h⟩ | ⟨_, b, h⟩ <;> simp [builtin, Builtin.len_, h, run_underlying he, goInt]
  · have he : P.underlying t = some .string := by simpa using hu
    simp [builtin, Builtin.len_, hr, run_underlying he, goInt]

theorem q_lenc {c : Call} {t : TypeId} {x : Operand} {n : Nat} (ho : o.op = .call c) (hc : c.callee = .builtin .len) (hxs : c.args.toList = [x]) (hts : c.argTypes.toList = [t])
    (hu : (∃ e, P.underlying t = some (.array n e)) ∨ ∃ ar e, P.underlying t = some (.pointer ar) ∧ P.underlying ar = some (.array n e)) : QOk P o a w m (.int .i64 n) := by
  have hts' : c.argTypes = #[t] := by rw [← Array.toArray_toList (xs := c.argTypes), hts]
  have hrun := run_builtin (P := P) (w := w) (a := a) ho hc
  rw [args_one hxs, hts'] at hrun
  refine ⟨_, ?_, vr_int⟩
  rw [hrun]
  rcases hu with ⟨e, he⟩ | ⟨ar, e, he, he2⟩
  · simp [builtin, Builtin.len_, run_underlying he, goInt]
  · simp [builtin, Builtin.len_, run_underlying he, run_underlying he2, goInt]

theorem q_capv {c : Call} {t e : TypeId} {x : Operand} (ho : o.op = .call c) (hc : c.callee = .builtin .cap) (hxs : c.args.toList = [x]) (hts : c.argTypes.toList = [t]) (hu : P.underlying t = some (.slice e))
    {x' : Opd} (hx : cOpd x = some x') (ht : TRep m ts a) (ha : aop (evO ts) s (.capv x') = some (v, s')) : s' = s ∧ QOk P o a w m v := by
  have hr := vrep_opd ht hx
  have hts' : c.argTypes = #[t] := by rw [← Array.toArray_toList (xs := c.argTypes), hts]
  have hrun := run_builtin (P := P) (w := w) (a := a) ho hc
  rw [args_one hxs, hts'] at hrun
  simp only [aop] at ha
  split at ha <;> simp at ha <;> rename_i hk <;> rw [hk] at hr <;> simp only [VRep] at hr <;> obtain ⟨rfl, rfl⟩ := ha <;> refine ⟨rfl, _, ?_, vr_int⟩ <;> rw [hrun]
  · rcases hr with ⟨_, h, _⟩ | ⟨h, _⟩
    · simp [builtin, Builtin.cap_, h, run_underlying hu, goInt]
    · cases h
  · rcases hr with ⟨_, h⟩ | ⟨_, b, h⟩ <;> simp [builtin, Builtin.cap_, h, run_underlying hu, goInt]

theorem amn_sound (mx : Bool) : ∀ (xs : List AV) (Xs : List Value) (x : AV) (X : Value) (r : AV), VReps m xs Xs → VRep m x X → amn mx x xs = some r →
    ∃ c, (if mx then Xs.foldlM Builtin.max2 X else Xs.foldlM Builtin.min2 X).run P w = .ok c w ∧ VRep m r c
  | [], Xs, x, X, r, hs, hx, h => by
    simp only [VReps] at hs
    subst hs
    simp only [amn, Option.some.injEq] at h
    subst h
    exact ⟨X, by cases mx <;> simp, hx⟩
  | y :: ys, Xs, x, X, r, hs, hx, h => by
    simp only [VReps] at hs
    obtain ⟨Y, Ys, rfl, hy, hys⟩ := hs
    simp only [amn] at h
    obtain ⟨z, hz, hr⟩ := Option.bind_eq_some_iff.1 h
    have h2 : ∃ Z, (if mx then Builtin.max2 X Y else Builtin.min2 X Y).run P w = .ok Z w ∧ VRep m z Z := by
      unfold amn2 at hz
      split at hz <;> (try (cases hz; done))
      simp only [Option.some.injEq] at hz
      subst hz
      simp only [VRep] at hx hy
      subst hx; subst hy
      refine ⟨_, ?_, vr_int⟩
      cases mx <;> simp [Builtin.max2, Builtin.min2]
    obtain ⟨Z, hZ, hzr⟩ := h2
    obtain ⟨c, hc, hcr⟩ := amn_sound mx ys Ys z Z r hys hzr hr
    refine ⟨c, ?_, hcr⟩
    cases mx
    · simp only [Bool.false_eq_true, if_false] at hZ hc ⊢
      simp [List.foldlM_cons, hZ, hc]
    · simp only [if_true] at hZ hc ⊢
      simp [List.foldlM_cons, hZ, hc]

theorem q_mnx {c : Call} {mx : Bool} {xs : List Opd} {x : Opd} (ho : o.op = .call c) (hc : c.callee = .builtin (if mx then .max else .min)) (hxs : cOpds c.args.toList = some (x :: xs)) (ht : TRep m ts a)
    (ha : aop (evO ts) s (.mnx mx x xs) = some (v, s')) : s' = s ∧ QOk P o a w m v := by
  have hrun := run_builtin (P := P) (w := w) (a := a) ho hc
  have hr := vreps_opds ht hxs
  simp only [aop] at ha
  obtain ⟨r, hr2, e⟩ := map_some ha
  simp only [Prod.mk.injEq] at e
  obtain ⟨rfl, rfl⟩ := e
  simp only [List.map_cons, VReps] at hr
  obtain ⟨X, Xs, e, h1, h2⟩ := hr
  obtain ⟨c', h3, h4⟩ := amn_sound (P := P) (w := w) mx _ _ _ _ _ h2 h1 hr2
  refine ⟨rfl, c', ?_, h4⟩
  rw [hrun]
  have e' : (c.args.map a.eval).toList = X :: Xs := by simpa using e
  cases mx
  · simp only [Bool.false_eq_true, if_false] at h3 ⊢
    simp [builtin, Builtin.min_, e, h3]
  · simp only [if_true] at h3 ⊢
    simp [builtin, Builtin.max_, e, h3]

/-! ### Structs and arrays put together -/
theorem wr_eq {cs new : List AV} {off : Nat} (h : off + new.length ≤ cs.length) : wr cs off new = cs.take off ++ new ++ cs.drop (off + new.length) := by
  unfold wr
  split
  · rename_i e
    have h0 : off = 0 := by omega
    subst h0
    simp [e]
  · rfl
theorem wr_length {cs new : List AV} {off : Nat} (h : off + new.length ≤ cs.length) : (wr cs off new).length = cs.length := by
  rw [wr_eq h]; simp; omega
theorem vreps_wr {cs new : List AV} {C N : List Value} {off : Nat} (hc : VReps m cs C) (hn : VReps m new N) (h : off + new.length ≤ cs.length) : VReps m (wr cs off new) (C.take off ++ N ++ C.drop (off + N.length)) := by
  rw [wr_eq h, VReps.length hn]
  exact ((VReps.take hc off).append hn).append (VReps.drop hc _)
theorem one_wr {C N : List Value} {off k : Nat} (hc : ∀ u ∈ C, u.oneCell' = true) (hn : ∀ u ∈ N, u.oneCell' = true) : ∀ u ∈ C.take off ++ N ++ C.drop k, u.oneCell' = true := by
  intro u hu
  simp only [List.mem_append] at hu
  rcases hu with (hu | hu) | hu
  · exact hc u (List.mem_of_mem_take hu)
  · exact hn u hu
  · exact hc u (List.mem_of_mem_drop hu)

theorem fold_set (off : Nat) : ∀ (l : List Value) (k : Nat) (arr : Array Value), off + k + l.length ≤ arr.size →
    ((l.zipIdx k).foldl (fun cs x => cs.setIfInBounds (off + x.2) x.1) arr).toList = arr.toList.take (off + k) ++ l ++ arr.toList.drop (off + k + l.length)
  | [], k, arr, _ => by simp
  | v :: l, k, arr, h => by
    simp only [List.zipIdx_cons, List.foldl_cons]
    rw [fold_set off l (k + 1) _ (by simp at h ⊢; omega)]
    have e := list_seg_step arr.toList (off + k) v l (by simp at h ⊢; omega)
    simpa [Array.toList_setIfInBounds, Nat.add_assoc] using e

theorem fill_lay {place : Nat → Option (Nat × Nat)} (ht : TRep m ts a) : ∀ (ps : List (Nat × Operand)) (qs : List (Nat × Nat × Opd)) (zs cs : List AV) (arr : Array Value), cParts place ps = some qs → lay (evO ts) zs qs = some cs →
    VReps m zs arr.toList → (∀ u ∈ arr.toList, u.oneCell' = true) → ∃ out, Instr.fill place arr (ps.map fun x => (x.1, a.eval x.2)) = some out ∧ VReps m cs out.toList ∧ (∀ u ∈ out.toList, u.oneCell' = true) ∧ out.size = arr.size
  | [], qs, zs, cs, arr, hp, hl, hz, h1 => by
    simp only [cParts, Option.some.injEq] at hp
    subst hp
    simp only [lay, Option.some.injEq] at hl
    subst hl
    exact ⟨arr, rfl, hz, h1, rfl⟩
  | (i, x) :: ps, qs, zs, cs, arr, hp, hl, hz, h1 => by
    simp only [cParts] at hp
    split at hp <;> (try (cases hp; done))
    rename_i off n y l e1 e2 e3
    simp only [Option.some.injEq] at hp
    subst hp
    simp only [lay] at hl
    split at hl <;> (try (cases hl; done))
    rename_i hc
    obtain ⟨c1, c2, c3⟩ := hc
    obtain ⟨hv, hv1⟩ := vrep_cells (vrep_opd ht e2) c3
    have hsz : (a.eval x).cells.size = n := by rw [← Array.length_toList, ← VReps.length hv, c1]
    have hzl := VReps.length hz
    have hfit : off + n ≤ arr.size := by simp at hzl; omega
    have hstep : ((a.eval x).cells.zipIdx.foldl (fun cs (c, j) => cs.setIfInBounds (off + j) c) arr).toList = arr.toList.take off ++ (a.eval x).cells.toList ++ arr.toList.drop (off + (a.eval x).cells.toList.length) := by
      have := fold_set off (a.eval x).cells.toList 0 arr (by simp [hsz]; exact hfit)
      rw [← Array.foldl_toList]
      simpa using this
    have hz' := vreps_wr hz hv (by rw [c1]; exact c2)
    rw [← hstep] at hz'
    have h1' := one_wr (off := off) (k := off + (a.eval x).cells.toList.length) h1 hv1
    rw [← hstep] at h1'
    obtain ⟨out, o1, o2, o3, o4⟩ := fill_lay ht ps l _ cs _ e3 hl hz' h1'
    refine ⟨out, ?_, o2, o3, ?_⟩
    · simp only [List.map_cons, Instr.fill, e1]
      have : ¬ ((a.eval x).cells.size ≠ n || off + (a.eval x).cells.size > arr.size) = true := by simp [hsz]; omega
      rw [if_neg this]
      exact o1
    · rw [o4, ← Array.length_toList, hstep]
      simp [hsz]
      omega

theorem run_zero {t : TypeId} {z : Value} (h : zeroT P t = some z) : (zeroValue t).run P w = .ok z w := by
  unfold zeroT at h
  cases hi : P.info? t with
  | none => simp [hi] at h
  | some i =>
    have e : i.zero = some z := by simpa [hi] using h
    simp [zeroValue, typeInfo, hi, e]

theorem q_mkS {t : TypeId} {ps : Array (Nat × Operand)} (ho : o.op = .build t ps) {z : Value} (hz : zeroT P t = some z) {zs : List AV} (hzs : cVals z.cells.toList = some zs) {fs : Array Field} (hu : P.underlying t = some (.struct fs))
    (hfs : fs.toList.all (fun f : Field => (sizeT P f.type).isSome) = true) {qs : List (Nat × Nat × Opd)} (hq : cParts (fun i => match fs[i]? with
          | some f => (sizeT P f.type).map fun n => (f.offset, n)
          | none => none) ps.toList = some qs) (ht : TRep m ts a) (ha : aop (evO ts) s (.mk zs qs) = some (v, s')) : s' = s ∧ QOk P o a w m v := by
  simp only [aop] at ha
  obtain ⟨cs, hl, e⟩ := map_some ha
  simp only [Prod.mk.injEq] at e
  obtain ⟨rfl, rfl⟩ := e
  obtain ⟨k1, k2⟩ := vreps_vals (m := m) hzs
  have places : ∀ l : List Field, l.all (fun f : Field => (sizeT P f.type).isSome) = true → ∃ pl : List (Nat × Nat), l.mapM (fun f : Field => (P.info? f.type).map fun i => (f.offset, i.size)) = some pl ∧ pl.length = l.length ∧ ∀ i : Nat, pl[i]? = match l[i]? with
      | some f => (sizeT P f.type).map fun n => (f.offset, n)
      | none => none := by
    intro l
    induction l with
    | nil => intro _; exact ⟨[], by simp, rfl, by simp⟩
    | cons f l ih =>
      intro h
      simp only [List.all_cons, Bool.and_eq_true] at h
      obtain ⟨pl, p1, p2, p3⟩ := ih h.2
      obtain ⟨n, hn⟩ := Option.isSome_iff_exists.1 h.1
      have hn' := hn
      unfold sizeT at hn
      obtain ⟨i, hi, he⟩ := map_some hn
      refine ⟨(f.offset, n) :: pl, by simp [List.mapM_cons, hi, he, p1], by simp [p2], fun j => ?_⟩
      cases j with
      | zero => simp [hn']
      | succ j => simpa using p3 j
  obtain ⟨pl, p1, p2, p3⟩ := places fs.toList hfs
  have hpl : (fun i : Nat => pl.toArray[i]?) = (fun i => match fs[i]? with
          | some f => (sizeT P f.type).map fun n => (f.offset, n)
          | none => none) := by
    funext i
    have := p3 i
    simpa using this
  obtain ⟨out, o1, o2, o3, o4⟩ := fill_lay ht ps.toList qs zs cs z.cells hq hl k1 k2
  have hb : P.built t (ps.map fun (i, x) => (i, a.eval x)).toList = some out := by
    unfold Program.built
    unfold zeroT at hz
    obtain ⟨it, hi, hi2⟩ := Option.bind_eq_some_iff.1 hz
    simp only [hi, hu, hi2, p1]
    rw [hpl]
    simpa using o1
  refine ⟨rfl, .agg out, ?_, ?_⟩
  · unfold execOp
    simp only [ho, Sem.run_bind, run_build w t _ out hb, Result.andThen_ok, Sem.run_pure]
  · simp only [VRep]; exact ⟨out, rfl, o2, o3⟩

theorem q_mkA {t e : TypeId} {N n : Nat} {ps : Array (Nat × Operand)} (ho : o.op = .build t ps) {z : Value} (hz : zeroT P t = some z) {zs : List AV} (hzs : cVals z.cells.toList = some zs) (hu : P.underlying t = some (.array N e)) (hn : sizeT P e = some n)
    {qs : List (Nat × Nat × Opd)} (hq : cParts (fun i => some (i * n, n)) ps.toList = some qs) (ht : TRep m ts a) (ha : aop (evO ts) s (.mk zs qs) = some (v, s')) : s' = s ∧ QOk P o a w m v := by
  simp only [aop] at ha
  obtain ⟨cs, hl, e'⟩ := map_some ha
  simp only [Prod.mk.injEq] at e'
  obtain ⟨rfl, rfl⟩ := e'
  obtain ⟨k1, k2⟩ := vreps_vals (m := m) hzs
  obtain ⟨out, o1, o2, o3, o4⟩ := fill_lay ht ps.toList qs zs cs z.cells hq hl k1 k2
  have hb : P.built t (ps.map fun (i, x) => (i, a.eval x)).toList = some out := by
    unfold Program.built
    unfold zeroT at hz
    obtain ⟨it, hi, hi2⟩ := Option.bind_eq_some_iff.1 hz
    unfold sizeT at hn
    obtain ⟨ie, hie, rfl⟩ := map_some hn
    simp only [hi, hu, hi2, hie]
    simpa using o1
  refine ⟨rfl, .agg out, ?_, ?_⟩
  · unfold execOp
    simp only [ho, Sem.run_bind, run_build w t _ out hb, Result.andThen_ok, Sem.run_pure]
  · simp only [VRep]; exact ⟨out, rfl, o2, o3⟩
end
end Go.Proofs.Ytaekgifbehoipaa.Eva
