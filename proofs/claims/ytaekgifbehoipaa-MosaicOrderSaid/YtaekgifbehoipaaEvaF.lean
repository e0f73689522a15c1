/- The quiet operations, one by one. Conditions stand in each lemma. -/
import Derived.Test.YtaekgifbehoipaaEvaE
import Derived.KernelRfl
namespace Go.Proofs.Ytaekgifbehoipaa.Eva
open Go
set_option linter.unusedVariables false
set_option linter.unusedSimpArgs false

section
variable {P : Program} {o : Oper} {i : I} {ts : List AV} {a : Act} {m : Mp} {hp : Hp} {w : World} {s s' : Mem} {v : AV}

/-- What a quiet operation shows. -/
def QOk (P : Program) (o : Oper) (a : Act) (w : World) (m : Mp) (v : AV) : Prop := ∃ c, (execOp a.eval o).run P w = .ok (.value c) w ∧ VRep m v c

theorem bind_some {α β : Type} {x : Option α} {f : α → Option β} {b : β} (h : (x >>= f) = some b) : ∃ y, x = some y ∧ f y = some b := Option.bind_eq_some_iff.1 h
theorem map_some {α β : Type} {x : Option α} {f : α → β} {b : β} (h : x.map f = some b) : ∃ y, x = some y ∧ f y = b := Option.map_eq_some_iff.1 h

theorem q_mv {x : Operand} (ho : o.op = .move x ∨ o.op = .assign x) {y : Opd} (hy : cOpd x = some y) (ht : TRep m ts a) : QOk P o a w m (evO ts y) := by
  refine ⟨a.eval x, ?_, vrep_opd ht hy⟩
  unfold execOp
  rcases ho with ho | ho <;> simp [ho]

theorem q_pick {c x y : Operand} (ho : o.op = .pick c x y) {c' x' y' : Opd} (hc : cOpd c = some c') (hx : cOpd x = some x') (hy : cOpd y = some y') (ht : TRep m ts a)
    (ha : aop (evO ts) s (.pick c' x' y') = some (v, s')) : s' = s ∧ QOk P o a w m v := by
  simp only [aop] at ha
  split at ha <;> simp at ha
  rename_i b hb
  obtain ⟨rfl, rfl⟩ := ha
  refine ⟨rfl, if b then a.eval x else a.eval y, ?_, ?_⟩
  · have h := vrep_opd ht hc
    rw [hb] at h
    simp only [VRep] at h
    unfold execOp
    simp [ho, h, asBool]
  · cases b
    · exact vrep_opd ht hy
    · exact vrep_opd ht hx

theorem q_ld1 {t : TypeId} {x : Operand} (ho : o.op = .load t x) {y : Opd} (hy : cOpd x = some y) (hg : aggT P t = some false) (ht : TRep m ts a) (H : HRel m hp w)
    (hag : ∀ id ep off ob, evO ts y = .ptr id ep off → lk s.h id = some ob → hp id = some ob) (ha : aop (evO ts) s (.ld1 y) = some (v, s')) : s' = s ∧ QOk P o a w m v := by
  simp only [aop] at ha
  split at ha <;> (try (cases ha; done))
  rename_i id ep off hv
  split at ha <;> (try (cases ha; done))
  rename_i ob hob
  split at ha <;> (try (cases ha; done))
  rename_i u hu
  simp only [Option.some.injEq, Prod.mk.injEq] at ha
  obtain ⟨rfl, rfl⟩ := ha
  obtain ⟨h1, h2⟩ := rdObj_some hob
  have hr := vrep_opd ht hy
  rw [hv] at hr
  simp only [VRep] at hr
  obtain ⟨l, hl, he⟩ := hr
  rw [← h2] at hl
  replace h1 := hag id ep off ob hv h1
  have hlen : off + 1 ≤ ob.cs.length := (List.getElem?_eq_some_iff.1 hu).1
  obtain ⟨vs, e1, e2, e3, e4⟩ := H.range h1 hl hlen
  obtain ⟨c, hc, hcr⟩ := VReps.get e2 (i := 0) (a := u) (by rw [List.getElem?_take, if_pos (by omega), List.getElem?_drop]; exact hu)
  refine ⟨rfl, c, ?_, hcr⟩
  unfold execOp
  simp [ho, he, Instr.loadAt, Instr.sureAddr, run_load1 hg (show w.cell? ⟨l.b, l.base + off, none⟩ = some c by simpa using e4 0 c hc)]

theorem q_ldn {t : TypeId} {n : Nat} {x : Operand} (ho : o.op = .load t x) {y : Opd} (hy : cOpd x = some y) (hg : aggT P t = some true) (hn : sizeT P t = some n) (ht : TRep m ts a) (H : HRel m hp w)
    (hag : ∀ id ep off ob, evO ts y = .ptr id ep off → lk s.h id = some ob → hp id = some ob) (ha : aop (evO ts) s (.ldn n y) = some (v, s')) : s' = s ∧ QOk P o a w m v := by
  simp only [aop] at ha
  split at ha <;> (try (cases ha; done))
  rename_i id ep off hv
  split at ha <;> (try (cases ha; done))
  rename_i ob hob
  split at ha <;> (try (cases ha; done))
  rename_i hlen
  simp only [Option.some.injEq, Prod.mk.injEq] at ha
  obtain ⟨rfl, rfl⟩ := ha
  obtain ⟨h1, h2⟩ := rdObj_some hob
  have hr := vrep_opd ht hy
  rw [hv] at hr
  simp only [VRep] at hr
  obtain ⟨l, hl, he⟩ := hr
  rw [← h2] at hl
  replace h1 := hag id ep off ob hv h1
  obtain ⟨vs, e1, e2, e3, e4⟩ := H.range h1 hl hlen
  refine ⟨rfl, .agg vs.toArray, ?_, ?_⟩
  · unfold execOp
    simp [ho, he, Instr.loadAt, Instr.sureAddr, run_loadN hg hn e1 e4]
  · simp only [VRep]
    exact ⟨_, rfl, by simpa using e2, by simpa using e3⟩

theorem q_nchk {x : Operand} (ho : o.op = .nilCheck x) {y : Opd} (hy : cOpd x = some y) (ht : TRep m ts a) (ha : aop (evO ts) s (.nchk y) = some (v, s')) : s' = s ∧ QOk P o a w m v := by
  simp only [aop] at ha
  have hr := vrep_opd ht hy
  split at ha <;> simp at ha
  · rename_i id ep off hv
    obtain ⟨rfl, rfl⟩ := ha
    rw [hv] at hr
    refine ⟨rfl, a.eval x, ?_, hr⟩
    simp only [VRep] at hr
    obtain ⟨l, hl, he⟩ := hr
    unfold execOp
    simp [ho, he]
  · rename_i f cap hv
    obtain ⟨rfl, rfl⟩ := ha
    rw [hv] at hr
    refine ⟨rfl, a.eval x, ?_, hr⟩
    simp only [VRep] at hr
    obtain ⟨b, he, hb⟩ := hr
    unfold execOp
    simp [ho, he]

theorem run_eqGuard_int (op : BinOp) (t : TypeId) (x y : Operand) (k k' : IntKind) (p q : Int) : (eqGuard op t x y (.int k p) (.int k' q)).run P w = .ok () w := by
  cases op <;> simp [eqGuard]
theorem run_eqGuard_str (op : BinOp) (t : TypeId) (x y : Operand) (p q : ByteArray) : (eqGuard op t x y (.string p) (.string q)).run P w = .ok () w := by
  cases op <;> simp [eqGuard]
theorem run_eqGuard_bool (op : BinOp) (t : TypeId) (x y : Operand) (p q : Bool) : (eqGuard op t x y (.bool p) (.bool q)).run P w = .ok () w := by
  cases op <;> simp [eqGuard]

theorem run_eqGuard_flt (op : BinOp) (t : TypeId) (x y : Operand) (k k' : FloatKind) (p q : Nat) : (eqGuard op t x y (.float k p) (.float k' q)).run P w = .ok () w := by
  cases op <;> simp [eqGuard]
theorem vr_flt {m : Mp} {k : FloatKind} {b : Nat} : VRep m (.flt k b) (.float k b) := by simp only [VRep]

theorem abin_sound {op : BinOp} {t : TypeId} {x y : AV} {X Y : Value} {r : AV} (hx : VRep m x X) (hy : VRep m y Y) (h : abin op x y = some r) :
    ∃ c, (Go.binOp op t X Y).run P w = .ok c w ∧ VRep m r c ∧ ∀ (x y : Operand), (eqGuard op t x y X Y).run P w = .ok () w := by
  unfold abin at h
  split at h
  · rename_i k p k' q
    simp only [VRep] at hx hy
    subst hx; subst hy
    have hg := fun x y => run_eqGuard_int (P := P) (w := w) op t x y k k' p q
    split at h
    · split at h <;> (try (cases h; done))
      simp only [Option.some.injEq] at h; subst h
      (first | refine ⟨_, ?_, vr_int, hg⟩ | refine ⟨_, ?_, vr_bool, hg⟩)
      simp [Go.binOp, Op.shift, *]
    · split at h <;> (try (cases h; done))
      simp only [Option.some.injEq] at h; subst h
      (first | refine ⟨_, ?_, vr_int, hg⟩ | refine ⟨_, ?_, vr_bool, hg⟩)
      simp [Go.binOp, Op.shift, *]
    · split at h <;> (try (cases h; done))
      rename_i hk
      subst hk
      split at h <;> (try (cases h; done)) <;> (try (split at h <;> (try (cases h; done)))) <;>
        (simp only [Option.some.injEq] at h; subst h; (first | refine ⟨_, ?_, vr_int, hg⟩ | refine ⟨_, ?_, vr_bool, hg⟩); simp [Go.binOp, Op.intArith, Op.intDiv, Op.intBits, Op.intCmp, *])
  · rename_i p q
    simp only [VRep] at hx hy
    subst hx; subst hy
    have hg := fun x y => run_eqGuard_str (P := P) (w := w) op t x y p q
    split at h <;> (try (cases h; done)) <;> (try (split at h <;> (try (cases h; done)))) <;>
      (simp only [Option.some.injEq] at h; subst h; (first | refine ⟨_, ?_, vr_str, hg⟩ | refine ⟨_, ?_, vr_bool, hg⟩); simp [Go.binOp, Op.stringOp, *] <;> first | done | (have e9 : IntKind.i64.max = 9223372036854775807 := rfl; rename_i hh; rw [e9] at hh; omega))
  · rename_i k p k' q
    simp only [VRep] at hx hy
    subst hx; subst hy
    have hg := fun x y => run_eqGuard_flt (P := P) (w := w) op t x y k k' p q
    split at h <;> (try (cases h; done))
    rename_i hk
    subst hk
    split at h <;> (try (cases h; done))
    · obtain ⟨z, hz, rfl⟩ := map_some h
      exact ⟨.float k z, by simp [Go.binOp, Op.floatArith, hz], vr_flt, hg⟩
    · obtain ⟨z, hz, rfl⟩ := map_some h
      exact ⟨.float k z, by simp [Go.binOp, Op.floatArith, hz], vr_flt, hg⟩
    · obtain ⟨z, hz, rfl⟩ := map_some h
      exact ⟨.float k z, by simp [Go.binOp, Op.floatArith, hz], vr_flt, hg⟩
    · obtain ⟨z, hz, rfl⟩ := map_some h
      exact ⟨.float k z, by simp [Go.binOp, Op.floatArith, hz], vr_flt, hg⟩
    all_goals
      simp only [Option.some.injEq] at h; subst h; refine ⟨_, ?_, vr_bool, hg⟩; simp [Go.binOp, Op.floatCmp]
  · cases h

theorem q_bin {op : BinOp} {t yt : TypeId} {x y : Operand} (ho : o.op = .binOp op t x y yt) {x' y' : Opd} (hx : cOpd x = some x') (hy : cOpd y = some y') (ht : TRep m ts a)
    (ha : aop (evO ts) s (.bin op x' y') = some (v, s')) : s' = s ∧ QOk P o a w m v := by
  simp only [aop] at ha
  obtain ⟨r, hr, e⟩ := map_some ha
  simp only [Prod.mk.injEq] at e
  obtain ⟨rfl, rfl⟩ := e
  obtain ⟨c, h1, h2, h3⟩ := abin_sound (P := P) (w := w) (t := t) (vrep_opd ht hx) (vrep_opd ht hy) hr
  refine ⟨rfl, c, ?_, h2⟩
  unfold execOp
  simp [ho, h1, h3]

theorem q_eqb {op : BinOp} {t yt : TypeId} {x y : Operand} (ho : o.op = .binOp op t x y yt) {neg : Bool} (hop : op = if neg then .neq else .eql) (hu : P.underlying t = some .bool) {x' y' : Opd} (hx : cOpd x = some x') (hy : cOpd y = some y') (ht : TRep m ts a)
    (ha : aop (evO ts) s (.eqs neg none x' y') = some (v, s')) : s' = s ∧ QOk P o a w m v := by
  simp only [aop] at ha
  split at ha <;> simp at ha
  rename_i p q hp hq
  obtain ⟨rfl, rfl⟩ := ha
  have h1 := vrep_opd ht hx
  have h2 := vrep_opd ht hy
  rw [hp] at h1
  rw [hq] at h2
  simp only [VRep] at h1 h2
  (first | refine ⟨rfl, _, ?_, vr_int⟩ | refine ⟨rfl, _, ?_, vr_bool⟩ | refine ⟨rfl, _, ?_, vr_str⟩)
  have := run_equalIn_bool (P := P) w 9999 t p q hu
  unfold execOp
  cases neg <;> simp [ho, h1, h2, hop, run_eqGuard_bool, Go.binOp, Op.equal, Op.maxDepth, this]

theorem q_eqs {op : BinOp} {t yt : TypeId} {x y : Operand} (ho : o.op = .binOp op t x y yt) {neg : Bool} (hop : op = if neg then .neq else .eql) {fs : Array Field} (hu : P.underlying t = some (.struct fs)) {ks : List PK} (hk : kindsT P 8 t = some ks)
    (hgd : P.eqGuardType P.depth t = false) {x' y' : Opd} (hx : cOpd x = some x') (hy : cOpd y = some y') (ht : TRep m ts a)
    (ha : aop (evO ts) s (.eqs neg (some ks) x' y') = some (v, s')) : s' = s ∧ QOk P o a w m v := by
  simp only [aop] at ha
  split at ha <;> (try (cases ha; done))
  rename_i xs ys hp hq
  obtain ⟨b, hb, e⟩ := map_some ha
  simp only [Prod.mk.injEq] at e
  obtain ⟨rfl, rfl⟩ := e
  have h1 := vrep_opd ht hx
  have h2 := vrep_opd ht hy
  rw [hp] at h1
  rw [hq] at h2
  simp only [VRep] at h1 h2
  obtain ⟨X, hX, hXs, _⟩ := h1
  obtain ⟨Y, hY, hYs, _⟩ := h2
  have he := (run_eqKinds (P := P) 8 t ks hk 10000 (by omega) m w).2 (by simp [aggT, hu]) xs ys X Y b hXs hYs hb
  (first | refine ⟨rfl, _, ?_, vr_int⟩ | refine ⟨rfl, _, ?_, vr_bool⟩ | refine ⟨rfl, _, ?_, vr_str⟩)
  unfold execOp
  cases neg <;> simp [ho, hX, hY, hop, run_eqGuard_agg w _ t x y X Y hgd, run_eql_struct, run_neq_struct, he]

theorem run_eqNilS {t e : TypeId} (h : P.underlying t = some (.slice e)) (x : Option Addr) (n c : Nat) : (Op.equal t (.slice x n c) (.slice none 0 0)).run P w = .ok x.isNone w := by
  show (Op.equalIn (9999 + 1) t _ _).run P w = _
  rw [Op.equalIn.eq_def]
  cases x <;> simp [run_underlying h]
theorem run_eqNilP {t e : TypeId} (h : P.underlying t = some (.pointer e)) (x : Option Addr) : (Op.equal t (.pointer x) (.pointer none)).run P w = .ok x.isNone w := by
  show (Op.equalIn (9999 + 1) t _ _).run P w = _
  rw [Op.equalIn.eq_def]
  cases x <;> simp [run_underlying h]
theorem run_eqNilF {t : TypeId} {p q : Array TypeId} {r : Bool} (h : P.underlying t = some (.func p q r)) (f : Fn) (x y : Array Value) : (Op.equal t (.func f x y) .nilFunc).run P w = .ok false w := by
  show (Op.equalIn (9999 + 1) t _ _).run P w = _
  rw [Op.equalIn.eq_def]
  simp [run_underlying h]
theorem run_eqNilN {t : TypeId} {p q : Array TypeId} {r : Bool} (h : P.underlying t = some (.func p q r)) : (Op.equal t .nilFunc .nilFunc).run P w = .ok true w := by
  show (Op.equalIn (9999 + 1) t _ _).run P w = _
  rw [Op.equalIn.eq_def]
  simp [run_underlying h]

theorem q_eqn {op : BinOp} {t yt : TypeId} {x y : Operand} (ho : o.op = .binOp op t x y yt) {neg : Bool} (hop : op = if neg then .neq else .eql)
    {x' : Opd} (hx : cOpd x = some x') (ht : TRep m ts a) {k : Nat} (hty : nilKind P t y = some k)
    (ha : aop (evO ts) s (.eqn neg k x') = some (v, s')) : s' = s ∧ QOk P o a w m v := by
  have hr := vrep_opd ht hx
  have fin : ∀ (X Y : Value) (b : Bool), a.eval x = X → a.eval y = Y → (∀ x y : Operand, (eqGuard op t x y X Y).run P w = .ok () w) →
      (Go.binOp op t X Y = (if neg then (do pure (.bool (!(← Op.equal t X Y)))) else do pure (.bool (← Op.equal t X Y)))) → (Op.equal t X Y).run P w = .ok b w →
      QOk P o a w m (.bool (xor neg b)) := fun X Y b e1 e2 e3 e4 e5 => by
    refine ⟨.bool (xor neg b), ?_, vr_bool⟩
    unfold execOp
    simp only [ho, e1, e2, Sem.run_bind, e3, Result.andThen_ok, e4]
    cases neg <;> simp [e5]
  have hty2 : (k = 0 → (∃ e, P.underlying t = some (.slice e)) ∧ y = .const (.slice none 0 0)) ∧ (k = 1 → (∃ e, P.underlying t = some (.pointer e)) ∧ y = .const (.pointer none)) ∧ (k = 2 → (∃ p q r, P.underlying t = some (.func p q r)) ∧ y = .const .nilFunc) := by
    unfold nilKind at hty
    split at hty <;> simp at hty <;> subst hty <;> simp_all
  clear hty
  obtain ⟨k0, k1, k2⟩ := hty2
  simp only [aop] at ha
  split at ha <;> simp at ha <;> rename_i hv <;> rw [hv] at hr <;> simp only [VRep] at hr <;> obtain ⟨rfl, rfl⟩ := ha <;> refine ⟨rfl, ?_⟩ <;> obtain ⟨he, rfl⟩ := (by first | exact k0 rfl | exact k1 rfl | exact k2 rfl)
  · obtain ⟨e, he⟩ := he
    have guard : ∀ (z : Option Addr) (n c : Nat) (x y : Operand), (eqGuard op t x y (.slice z n c) (.slice none 0 0)).run P w = .ok () w := fun z n c x y => by subst hop; cases neg <;> simp [eqGuard]
    have shape : ∀ (z : Option Addr) (n c : Nat), Go.binOp op t (.slice z n c) (.slice none 0 0) = (if neg then (do pure (.bool (!(← Op.equal t (.slice z n c) (.slice none 0 0))))) else do pure (.bool (← Op.equal t (.slice z n c) (.slice none 0 0)))) := fun z n c => by subst hop; cases neg <;> rfl
    rcases hr with ⟨rfl, h2, _⟩ | ⟨rfl, l, _, ⟨_, b, h2⟩ | ⟨cap, h2, _⟩⟩
    · exact fin _ _ true h2 rfl (guard _ _ _) (shape _ _ _) (run_eqNilS he none 0 0)
    · exact fin _ _ false h2 rfl (guard _ _ _) (shape _ _ _) (run_eqNilS he (some b) 0 0)
    · exact fin _ _ false h2 rfl (guard _ _ _) (shape _ _ _) (run_eqNilS he (some _) _ _)
  · obtain ⟨e, he⟩ := he
    have guard : ∀ (z : Option Addr) (n c : Nat) (x y : Operand), (eqGuard op t x y (.slice z n c) (.slice none 0 0)).run P w = .ok () w := fun z n c x y => by subst hop; cases neg <;> simp [eqGuard]
    have shape : ∀ (z : Option Addr) (n c : Nat), Go.binOp op t (.slice z n c) (.slice none 0 0) = (if neg then (do pure (.bool (!(← Op.equal t (.slice z n c) (.slice none 0 0))))) else do pure (.bool (← Op.equal t (.slice z n c) (.slice none 0 0)))) := fun z n c => by subst hop; cases neg <;> rfl
    rcases hr with ⟨rfl, h2⟩ | ⟨rfl, b, h2⟩
    · exact fin _ _ true h2 rfl (guard _ _ _) (shape _ _ _) (run_eqNilS he none 0 0)
    · exact fin _ _ false h2 rfl (guard _ _ _) (shape _ _ _) (run_eqNilS he (some b) 0 0)
  · obtain ⟨e, he⟩ := he
    obtain ⟨l, _, h2⟩ := hr
    have r := fin _ _ false h2 rfl (fun x y => by subst hop; cases neg <;> simp [eqGuard]) (by subst hop; cases neg <;> rfl) (run_eqNilP he (some _))
    simpa using r
  · obtain ⟨e, he⟩ := he
    have r := fin _ _ true hr rfl (fun x y => by subst hop; cases neg <;> simp [eqGuard]) (by subst hop; cases neg <;> rfl) (run_eqNilP he none)
    simpa using r
  · obtain ⟨p, q, r, he⟩ := he
    obtain ⟨b, h2, _⟩ := hr
    have r := fin _ _ false h2 rfl (fun x y => by subst hop; cases neg <;> simp [eqGuard]) (by subst hop; cases neg <;> rfl) (run_eqNilF he _ _ _)
    simpa using r
  · obtain ⟨p, q, r, he⟩ := he
    have r := fin _ _ true hr rfl (fun x y => by subst hop; cases neg <;> simp [eqGuard]) (by subst hop; cases neg <;> rfl) (run_eqNilN he)
    simpa using r

theorem q_un {op : UnOp} {t : TypeId} {x : Operand} (ho : o.op = .unOp op t x) {x' : Opd} (hx : cOpd x = some x') (ht : TRep m ts a)
    (ha : aop (evO ts) s (.un op x') = some (v, s')) : s' = s ∧ QOk P o a w m v := by
  simp only [aop] at ha
  obtain ⟨r, hr, e⟩ := map_some ha
  simp only [Prod.mk.injEq] at e
  obtain ⟨rfl, rfl⟩ := e
  have h := vrep_opd ht hx
  unfold aun at hr
  split at hr
  · rename_i k n hk
    rw [hk] at h
    simp only [VRep] at h
    split at hr <;> (try (cases hr; done)) <;>
      (simp only [Option.some.injEq] at hr; subst hr; (first | refine ⟨rfl, _, ?_, vr_int⟩ | refine ⟨rfl, _, ?_, vr_bool⟩ | refine ⟨rfl, _, ?_, vr_str⟩); unfold execOp; simp [ho, h, Op.unary, Op.intArith, Op.intBits])
  · rename_i b hk
    rw [hk] at h
    simp only [VRep] at h
    split at hr <;> (try (cases hr; done)) <;>
      (simp only [Option.some.injEq] at hr; subst hr; (first | refine ⟨rfl, _, ?_, vr_int⟩ | refine ⟨rfl, _, ?_, vr_bool⟩ | refine ⟨rfl, _, ?_, vr_str⟩); unfold execOp; simp [ho, h, Op.unary])
  · cases hr

theorem q_cvi {t t' : TypeId} {k k' : IntKind} {x : Operand} (ho : o.op = .convert t t' x) (hu : P.underlying t = some (.int k)) (hu' : P.underlying t' = some (.int k')) {x' : Opd} (hx : cOpd x = some x') (ht : TRep m ts a)
    (ha : aop (evO ts) s (.cvi k' x') = some (v, s')) : s' = s ∧ QOk P o a w m v := by
  simp only [aop] at ha
  split at ha <;> simp at ha
  rename_i kk n hk
  obtain ⟨rfl, rfl⟩ := ha
  have h := vrep_opd ht hx
  rw [hk] at h
  simp only [VRep] at h
  (first | refine ⟨rfl, _, ?_, vr_int⟩ | refine ⟨rfl, _, ?_, vr_bool⟩ | refine ⟨rfl, _, ?_, vr_str⟩)
  unfold execOp
  simp [ho, h, convert, run_underlying hu, run_underlying hu', Conv.intToInt]

theorem q_cvs {t t' : TypeId} {x : Operand} (ho : o.op = .convert t t' x) (hu : P.underlying t = some .string) (hu' : P.underlying t' = some .string) {x' : Opd} (hx : cOpd x = some x') (ht : TRep m ts a)
    (ha : aop (evO ts) s (.cvs x') = some (v, s')) : s' = s ∧ QOk P o a w m v := by
  simp only [aop] at ha
  split at ha <;> simp at ha
  rename_i b hk
  obtain ⟨rfl, rfl⟩ := ha
  have h := vrep_opd ht hx
  rw [hk] at h
  simp only [VRep] at h
  (first | refine ⟨rfl, _, ?_, vr_int⟩ | refine ⟨rfl, _, ?_, vr_bool⟩ | refine ⟨rfl, _, ?_, vr_str⟩)
  unfold execOp
  simp [ho, h, convert, run_underlying hu, run_underlying hu']

theorem q_cvf {t t' : TypeId} {k : IntKind} {k' : FloatKind} {x : Operand} (ho : o.op = .convert t t' x) (hu : P.underlying t = some (.int k)) (hu' : P.underlying t' = some (.float k')) {x' : Opd} (hx : cOpd x = some x') (ht : TRep m ts a)
    (ha : aop (evO ts) s (.cvf k' x') = some (v, s')) : s' = s ∧ QOk P o a w m v := by
  simp only [aop] at ha
  split at ha <;> simp at ha
  rename_i kk n hk
  obtain ⟨rfl, rfl⟩ := ha
  have h := vrep_opd ht hx
  rw [hk] at h
  simp only [VRep] at h
  refine ⟨rfl, _, ?_, vr_flt⟩
  unfold execOp
  simp [ho, h, convert, run_underlying hu, run_underlying hu', Conv.intToFloat]

theorem q_cfi {t t' : TypeId} {k : FloatKind} {k' : IntKind} {x : Operand} (ho : o.op = .convert t t' x) (hu : P.underlying t = some (.float k)) (hu' : P.underlying t' = some (.int k')) {x' : Opd} (hx : cOpd x = some x') (ht : TRep m ts a)
    (ha : aop (evO ts) s (.cfi k' x') = some (v, s')) : s' = s ∧ QOk P o a w m v := by
  simp only [aop] at ha
  obtain ⟨r, hr, e⟩ := map_some ha
  simp only [Prod.mk.injEq] at e
  obtain ⟨rfl, rfl⟩ := e
  have h := vrep_opd ht hx
  unfold acfi at hr
  split at hr <;> (try (cases hr; done))
  rename_i j b hk
  rw [hk] at h
  simp only [VRep] at h
  split at hr <;> (try (cases hr; done))
  rename_i n hn
  split at hr <;> (try (cases hr; done))
  rename_i hb
  simp only [Option.some.injEq] at hr
  subst hr
  refine ⟨rfl, _, ?_, vr_int⟩
  unfold execOp
  simp [ho, h, convert, run_underlying hu, run_underlying hu', Conv.floatToInt, hn, hb]

/-- A function outside of the program. -/
theorem run_extern {c : Call} {f : FuncId} {fn : Func} {e : Array Value → Sem Value} (ho : o.op = .call c) (hc : c.callee = .value (.func f)) (h1 : P.funcs[f]? = some fn) (h2 : fn.body.isNone = true) (h3 : (fn.name == "runtime.NumGoroutine") = false) (h4 : Extern.findNext fn = none) (h5 : Extern.find fn = some e)
    {r : Value} (h6 : (e (c.args.map a.eval)).run P w = .ok r w) : (execOp a.eval o).run P w = .ok (.value r) w := by
  unfold execOp
  simp only [ho, Sem.run_bind]
  unfold resolve
  have h3' : ¬ fn.name = "runtime.NumGoroutine" := by simpa using h3
  have h2' : fn.body = none := by simpa using h2
  simp [hc, Act.eval, Deferred.ofValue, invoke, callFunc, h1, h3', h2', h4, h5, h6]

theorem q_xf {c : Call} {fo x : Operand} {k : Nat} (ho : o.op = .call c) (hc : c.callee = .value fo) (hk : xfOf P fo = some k) (hxs : c.args.toList = [x]) {x' : Opd} (hx : cOpd x = some x') (ht : TRep m ts a)
    (ha : aop (evO ts) s (.xf k x') = some (v, s')) : s' = s ∧ QOk P o a w m v := by
  simp only [aop] at ha
  obtain ⟨r, hr, e⟩ := map_some ha
  simp only [Prod.mk.injEq] at e
  obtain ⟨rfl, rfl⟩ := e
  have h := vrep_opd ht hx
  refine ⟨rfl, ?_⟩
  unfold xfOf at hk
  split at hk <;> (try (cases hk; done))
  rename_i f
  split at hk <;> (try (cases hk; done))
  rename_i fn hfn
  split at hk <;> (try (cases hk; done))
  rename_i hb
  obtain ⟨hb, hor⟩ := hb
  have hargs : c.args = #[x] := by rw [← Array.toArray_toList (xs := c.args), hxs]
  unfold xfName at hk
  split at hk
  · rename_i hn
    simp only [Option.some.injEq] at hk
    subst hk
    have h4 : Extern.findNext fn = none := by unfold Extern.findNext; simp only [hn, hor]; kernel_rfl
    have h5 : Extern.find fn = some Extern.MathSqrt.sqrt := by unfold Extern.find; simp only [hn, hor]; kernel_rfl
    have hx : ∃ b, evO ts x' = .flt .f64 b := by
      generalize evO ts x' = u at hr
      cases u <;> simp [axf] at hr
      rename_i kf b
      cases kf <;> simp [axf] at hr
      exact ⟨_, rfl⟩
    obtain ⟨b, hk2⟩ := hx
    rw [hk2] at h hr
    simp only [VRep] at h
    simp only [axf] at hr
    obtain ⟨z, hz, rfl⟩ := map_some hr
    refine ⟨.float .f64 z, run_extern ho hc hfn (by simp [hb]) (by rw [hn]; rfl) h4 h5 ?_, vr_flt⟩
    have e9 : Extern.MathSqrt.sqrt #[.float .f64 b] = (match FloatKind.f64.format.sqrt b with
      | some r => (pure (.float .f64 r) : Sem Value)
      | none => do pure (.float .f64 (← choose (.nanBits .f64 b b)))) := rfl
    rw [hargs, (by simp : (#[x].map a.eval) = #[a.eval x]), h, e9, hz]
    rfl
  rename_i hn0
  split at hk
  · rename_i hn
    simp only [Option.some.injEq] at hk
    subst hk
    have h4 : Extern.findNext fn = none := by unfold Extern.findNext; simp only [hn, hor]; kernel_rfl
    have h5 : Extern.find fn = some Extern.MathFloatBits.float64bits := by unfold Extern.find; simp only [hn, hor]; kernel_rfl
    have hx : ∃ b, evO ts x' = .flt .f64 b := by
      generalize evO ts x' = u at hr
      cases u <;> simp [axf] at hr
      rename_i kf b
      cases kf <;> simp [axf] at hr
      exact ⟨_, rfl⟩
    obtain ⟨b, hk2⟩ := hx
    rw [hk2] at h hr
    simp only [VRep] at h
    simp only [axf, Option.some.injEq] at hr
    subst hr
    refine ⟨.int .u64 b, run_extern ho hc hfn (by simp [hb]) (by rw [hn]; rfl) h4 h5 ?_, vr_int⟩
    rw [hargs, (by simp : (#[x].map a.eval) = #[a.eval x]), h]
    rfl
  rename_i hn1
  split at hk
  · rename_i hn
    simp only [Option.some.injEq] at hk
    subst hk
    have h4 : Extern.findNext fn = none := by unfold Extern.findNext; simp only [hn, hor]; kernel_rfl
    have h5 : Extern.find fn = some Extern.MathFloatBits.float64frombits := by unfold Extern.find; simp only [hn, hor]; kernel_rfl
    have hx : ∃ b, evO ts x' = .int .u64 b := by
      generalize evO ts x' = u at hr
      cases u <;> simp [axf] at hr
      rename_i kf b
      cases kf <;> simp [axf] at hr
      exact ⟨_, rfl⟩
    obtain ⟨b, hk2⟩ := hx
    rw [hk2] at h hr
    simp only [VRep] at h
    simp only [axf, Option.some.injEq] at hr
    subst hr
    refine ⟨.float .f64 b.toNat, run_extern ho hc hfn (by simp [hb]) (by rw [hn]; rfl) h4 h5 ?_, vr_flt⟩
    rw [hargs, (by simp : (#[x].map a.eval) = #[a.eval x]), h]
    rfl
  · cases hk

theorem q_mkf {f : FuncId} {first cap : Array Operand} (ho : o.op = .makeFunc (.func f) first cap) (hf : first.size = 0) {c : List Opd} (hc : cOpds cap.toList = some c) (ht : TRep m ts a) :
    QOk P o a w m (.fn f (c.map (evO ts))) := by
  have hf' : first = #[] := by simpa using hf
  have h := vreps_opds ht hc
  refine ⟨.func (.func f) #[] (cap.map a.eval), ?_, ?_⟩
  · unfold execOp
    simp [ho, hf', Instr.makeFunc]
  · simp only [VRep]
    exact ⟨_, rfl, by simpa using h⟩

theorem q_fad {t : TypeId} {x : Operand} {f : Nat} (ho : o.op = .fieldAddr t x f) {fs : Array Field} (hu : P.underlying t = some (.struct fs)) {fd : Field} (hf : fs[f]? = some fd) {n : Nat} (hn : sizeT P fd.type = some n) (hn0 : n ≠ 0)
    {x' : Opd} (hx : cOpd x = some x') (ht : TRep m ts a) (ha : aop (evO ts) s (.fad fd.offset x') = some (v, s')) : s' = s ∧ QOk P o a w m v := by
  simp only [aop] at ha
  split at ha <;> simp at ha
  rename_i id ep off hk
  obtain ⟨rfl, rfl⟩ := ha
  have h := vrep_opd ht hx
  rw [hk] at h
  simp only [VRep] at h
  obtain ⟨l, hl, he⟩ := h
  refine ⟨rfl, .pointer (some ⟨l.b, l.base + (off + fd.offset), none⟩), ?_, ?_⟩
  · unfold execOp
    simp [ho, he, Instr.fieldAt, run_underlying hu, hf, Instr.sureAddr, fieldPlace, run_sizeT hn, hn0, add_at, Nat.add_assoc]
  · simp only [VRep]; exact ⟨l, hl, rfl⟩

theorem run_part1 {t : TypeId} (h : aggT P t = some false) {cs : Array Value} {off : Nat} {u : Value} (hu : cs[off]? = some u) : (part t cs off).run P w = .ok u w := by
  simp [part, run_isAggT h w, hu]
theorem run_partN {t : TypeId} {n : Nat} (h : aggT P t = some true) (hn : sizeT P t = some n) {cs : Array Value} {off : Nat} : (part t cs off).run P w = .ok (.agg (cs.extract off (off + n))) w := by
  simp [part, run_isAggT h w, run_sizeT hn w]
theorem vreps_extract {cs : List AV} {arr : Array Value} (h : VReps m cs arr.toList) (off n : Nat) : VReps m ((cs.drop off).take n) (arr.extract off (off + n)).toList := by
  rw [Array.toList_extract, List.extract_eq_take_drop, Nat.add_sub_cancel_left]
  exact (VReps.drop h off).take n
theorem one_extract {arr : Array Value} (h : ∀ u ∈ arr.toList, u.oneCell' = true) (off n : Nat) : ∀ u ∈ (arr.extract off (off + n)).toList, u.oneCell' = true := by
  rw [Array.toList_extract, List.extract_eq_take_drop]
  exact fun u hu => h u (List.mem_of_mem_drop (List.mem_of_mem_take hu))

theorem q_fld1 {t : TypeId} {x : Operand} {f : Nat} (ho : o.op = .field t x f) {fs : Array Field} (hu : P.underlying t = some (.struct fs)) {fd : Field} (hf : fs[f]? = some fd) (hg : aggT P fd.type = some false)
    {x' : Opd} (hx : cOpd x = some x') (ht : TRep m ts a) (ha : aop (evO ts) s (.fld1 fd.offset x') = some (v, s')) : s' = s ∧ QOk P o a w m v := by
  simp only [aop] at ha
  split at ha <;> (try (cases ha; done))
  rename_i cs hk
  split at ha <;> simp at ha
  rename_i u hu'
  obtain ⟨rfl, rfl⟩ := ha
  have h := vrep_opd ht hx
  rw [hk] at h
  simp only [VRep] at h
  obtain ⟨arr, he, hr, _⟩ := h
  obtain ⟨c, hc, hcr⟩ := VReps.get hr hu'
  refine ⟨rfl, c, ?_, hcr⟩
  have hc' : arr[fd.offset]? = some c := by simpa using hc
  unfold execOp
  simp [ho, he, Instr.field, run_underlying hu, hf, asAgg, run_part1 hg hc']

theorem q_fldn {t : TypeId} {x : Operand} {f : Nat} (ho : o.op = .field t x f) {fs : Array Field} (hu : P.underlying t = some (.struct fs)) {fd : Field} (hf : fs[f]? = some fd) (hg : aggT P fd.type = some true) {n : Nat} (hn : sizeT P fd.type = some n)
    {x' : Opd} (hx : cOpd x = some x') (ht : TRep m ts a) (ha : aop (evO ts) s (.fldn fd.offset n x') = some (v, s')) : s' = s ∧ QOk P o a w m v := by
  simp only [aop] at ha
  split at ha <;> simp at ha
  rename_i cs hk
  obtain ⟨rfl, rfl⟩ := ha
  have h := vrep_opd ht hx
  rw [hk] at h
  simp only [VRep] at h
  obtain ⟨arr, he, hr, h1⟩ := h
  refine ⟨rfl, .agg (arr.extract fd.offset (fd.offset + n)), ?_, ?_⟩
  · unfold execOp
    simp [ho, he, Instr.field, run_underlying hu, hf, asAgg, run_partN hg hn]
  · simp only [VRep]
    exact ⟨_, rfl, vreps_extract hr _ _, one_extract h1 _ _⟩

theorem q_iad {t e : TypeId} {x y : Operand} (ho : o.op = .indexAddr t x y) (hu : P.underlying t = some (.slice e)) {n : Nat} (hn : sizeT P e = some n) {x' y' : Opd} (hx : cOpd x = some x') (hy : cOpd y = some y') (ht : TRep m ts a)
    (ha : aop (evO ts) s (.iad n x' y') = some (v, s')) : s' = s ∧ QOk P o a w m v := by
  simp only [aop] at ha
  split at ha <;> (try (cases ha; done))
  rename_i nl id ep sz off len k ii hk hk2
  split at ha <;> simp at ha
  rename_i hc
  obtain ⟨rfl, rfl⟩ := ha
  obtain ⟨c1, c2, rfl, rfl⟩ := hc
  have h := vrep_opd ht hx
  have h2 := vrep_opd ht hy
  rw [hk] at h
  rw [hk2] at h2
  simp only [VRep] at h h2
  rcases h with ⟨h, _⟩ | ⟨_, l, hl, ⟨h0, _⟩ | ⟨cap, he, hlc, hcap⟩⟩
  · cases h
  · omega
  refine ⟨rfl, .pointer (some ⟨l.b, l.base + (off + ii.toNat * sz), none⟩), ?_, ?_⟩
  · have hlen : ii < (len : Int) := c2
    unfold execOp
    simp [ho, he, h2, Instr.indexAt, asIntOf, run_underlying hu, run_sizeT hn, add_at, c1, hlen, Nat.add_assoc]
  · simp only [VRep]; exact ⟨l, hl, rfl⟩

theorem q_iaa {t e : TypeId} {N : Nat} {x y : Operand} (ho : o.op = .indexAddr t x y) (hu : P.underlying t = some (.array N e)) {n : Nat} (hn : sizeT P e = some n) {x' y' : Opd} (hx : cOpd x = some x') (hy : cOpd y = some y') (ht : TRep m ts a)
    (ha : aop (evO ts) s (.iaa N n x' y') = some (v, s')) : s' = s ∧ QOk P o a w m v := by
  simp only [aop] at ha
  split at ha <;> (try (cases ha; done))
  rename_i id ep off k ii hk hk2
  split at ha <;> simp at ha
  rename_i hc
  obtain ⟨rfl, rfl⟩ := ha
  obtain ⟨c1, c2⟩ := hc
  have h := vrep_opd ht hx
  have h2 := vrep_opd ht hy
  rw [hk] at h
  rw [hk2] at h2
  simp only [VRep] at h h2
  obtain ⟨l, hl, he⟩ := h
  refine ⟨rfl, .pointer (some ⟨l.b, l.base + (off + ii.toNat * n), none⟩), ?_, ?_⟩
  · unfold execOp
    simp [ho, he, h2, Instr.indexAt, asIntOf, run_underlying hu, run_sizeT hn, add_at, c1, c2, Instr.sureAddr, Nat.add_assoc]
  · simp only [VRep]; exact ⟨l, hl, rfl⟩

theorem q_ixa {t e : TypeId} {N : Nat} {x y : Operand} (ho : o.op = .index t x y) (hu : P.underlying t = some (.array N e)) {n : Nat} (hn : sizeT P e = some n) {ag : Bool} (hg : aggT P e = some ag) {x' y' : Opd} (hx : cOpd x = some x') (hy : cOpd y = some y') (ht : TRep m ts a)
    (ha : aop (evO ts) s (.ixa N n ag x' y') = some (v, s')) : s' = s ∧ QOk P o a w m v := by
  simp only [aop] at ha
  split at ha <;> (try (cases ha; done))
  rename_i cs k ii hk hk2
  split at ha <;> (try (cases ha; done))
  rename_i hc
  obtain ⟨c1, c2⟩ := hc
  have h := vrep_opd ht hx
  have h2 := vrep_opd ht hy
  rw [hk] at h
  rw [hk2] at h2
  simp only [VRep] at h h2
  obtain ⟨arr, he, hr, h1⟩ := h
  cases ag with
  | true =>
    simp only [if_true, Option.some.injEq, Prod.mk.injEq] at ha
    obtain ⟨rfl, rfl⟩ := ha
    refine ⟨rfl, .agg (arr.extract (ii.toNat * n) (ii.toNat * n + n)), ?_, ?_⟩
    · unfold execOp
      simp [ho, he, h2, Instr.index, asIntOf, run_underlying hu, run_sizeT hn, c1, c2, run_partN hg hn]
    · simp only [VRep]
      exact ⟨_, rfl, vreps_extract hr _ _, one_extract h1 _ _⟩
  | false =>
    simp only [Bool.false_eq_true, if_false] at ha
    split at ha <;> simp at ha
    rename_i u hu'
    obtain ⟨rfl, rfl⟩ := ha
    obtain ⟨c, hc, hcr⟩ := VReps.get hr hu'
    have hc' : arr[ii.toNat * n]? = some c := by simpa using hc
    refine ⟨rfl, c, ?_, hcr⟩
    unfold execOp
    simp [ho, he, h2, Instr.index, asIntOf, run_underlying hu, run_sizeT hn, c1, c2, run_part1 hg hc']

theorem q_ixs {t : TypeId} {x y : Operand} (ho : o.op = .index t x y) (hu : P.underlying t = some .string) {x' y' : Opd} (hx : cOpd x = some x') (hy : cOpd y = some y') (ht : TRep m ts a)
    (ha : aop (evO ts) s (.ixs x' y') = some (v, s')) : s' = s ∧ QOk P o a w m v := by
  simp only [aop] at ha
  split at ha <;> (try (cases ha; done))
  rename_i b k ii hk hk2
  split at ha <;> simp at ha
  rename_i u hu'
  obtain ⟨rfl, rfl⟩ := ha
  have h := vrep_opd ht hx
  have h2 := vrep_opd ht hy
  rw [hk] at h
  rw [hk2] at h2
  simp only [VRep] at h h2
  refine ⟨rfl, .int .u8 u.toNat, ?_, by simp only [VRep]⟩
  unfold execOp
  simp [ho, h, h2, Instr.index, asIntOf, run_underlying hu, hu']

theorem q_ext {x : Operand} {k : Nat} (ho : o.op = .extract x k) {x' : Opd} (hx : cOpd x = some x') (ht : TRep m ts a)
    (ha : aop (evO ts) s (.ext x' k) = some (v, s')) : s' = s ∧ QOk P o a w m v := by
  simp only [aop] at ha
  obtain ⟨r, hr, e⟩ := map_some ha
  simp only [Prod.mk.injEq] at e
  obtain ⟨rfl, rfl⟩ := e
  have h := vrep_opd ht hx
  cases hk : evO ts x' <;> simp [aext, hk] at hr
  rename_i vs
  rw [hk] at h
  simp only [VRep] at h
  obtain ⟨arr, he, hrs⟩ := h
  obtain ⟨c, hc, hcr⟩ := VReps.get hrs hr
  have hc' : arr[k]? = some c := by simpa using hc
  refine ⟨rfl, c, ?_, hcr⟩
  unfold execOp
  simp [ho, he, Instr.extract, hc']
end
end Go.Proofs.Ytaekgifbehoipaa.Eva
