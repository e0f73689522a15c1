/- Append and copy. Conditions stand in each lemma. -/
import Derived.Test.YtaekgifbehoipaaEvaH
import Derived.Laws.NewFold
namespace Go.Proofs.Ytaekgifbehoipaa.Eva
open Go
set_option linter.unusedVariables false
set_option linter.unusedSimpArgs false

section
variable {P : Program} {o : Oper} {i : I} {ts : List AV} {a : Act} {m : Mp} {hp : Hp} {w : World} {s s' : Mem} {v : AV}

/-- What append and copy read of a slice or a string. -/
theorem content_sound {sz : Nat} {y : AV} {Y : Value} {new : List AV} {n : Nat} {fl : Bool} (H : HRel m (lk s.h) w) (hy : VRep m y Y) (h : content sz s y = some (new, n, fl)) :
    (Builtin.lenOf Y).run P w = .ok n w ∧ new.length = n * sz ∧ (fl = true → ∀ c ∈ new, c.scalar = true) ∧
    ∀ k, k ≤ n → ∃ arr : Array Value, (∀ w' : World, (∀ b, b < w.heap.size → w'.heap[b]? = w.heap[b]?) → (Builtin.firstCells sz k Y).run P w' = .ok arr w') ∧ VReps m (new.take (k * sz)) arr.toList ∧ ∀ u ∈ arr.toList, u.oneCell' = true := by
  have empty : ∀ (A : Option Addr), Y = .slice A 0 (match A with | none => 0 | some _ => 0) → True := fun _ _ => trivial
  unfold content at h
  split at h
  · rename_i nl id ep sz' off len
    simp only [VRep] at hy
    split at h
    · rename_i hl0
      subst hl0
      simp only [Option.some.injEq, Prod.mk.injEq] at h
      obtain ⟨rfl, rfl, rfl⟩ := h
      have hY : ∃ A c, Y = .slice A 0 c := by
        rcases hy with ⟨_, h, _⟩ | ⟨_, l, _, ⟨_, b, h⟩ | ⟨cap, h, _⟩⟩
        · exact ⟨_, _, h⟩
        · exact ⟨_, _, h⟩
        · exact ⟨_, _, h⟩
      obtain ⟨A, c, rfl⟩ := hY
      refine ⟨by simp [Builtin.lenOf], by simp, fun _ c hc => by simp at hc, fun k hk => ⟨#[], fun w' _ => ?_, by simpa using vreps_nil, by simp⟩⟩
      have : k = 0 := by omega
      subst this
      cases A <;> simp [Builtin.firstCells, loadCells, loadCellsFrom]
    · rename_i hl0
      split at h <;> (try (cases h; done))
      rename_i hnl
      split at h <;> (try (cases h; done))
      rename_i hsz
      subst hsz
      split at h <;> (try (cases h; done))
      rename_i ob hob
      split at h <;> (try (cases h; done))
      rename_i hfit
      simp only [Option.some.injEq, Prod.mk.injEq] at h
      obtain ⟨rfl, rfl, rfl⟩ := h
      obtain ⟨f1, f2⟩ := rdObj_some hob
      rcases hy with ⟨h, _⟩ | ⟨_, l, hl, ⟨h, _⟩ | ⟨cap, rfl, hlc, hcap⟩⟩
      · exact absurd h (by simpa using hnl)
      · exact absurd h hl0
      rw [← f2] at hl
      refine ⟨by simp [Builtin.lenOf], by simp; omega, fun hf c hc => H.fl id ob f1 hf c (List.mem_of_mem_drop (List.mem_of_mem_take hc)), fun k hk => ?_⟩
      have hk2 : k * sz' ≤ len * sz' := Nat.mul_le_mul_right _ hk
      obtain ⟨vs, e1, e2, e3, e4⟩ := H.range f1 hl (off := off) (n := k * sz') (by omega)
      have hb := (H.dom _ _ _ hl).2
      refine ⟨vs.toArray, fun w' hw => ?_, by rw [List.take_take, Nat.min_eq_left hk2]; simpa using e2, by simpa using e3⟩
      have hc : ∀ j v, vs[j]? = some v → w'.cell? ((⟨l.b, l.base + off, none⟩ : Addr).add j) = some v := fun j v hj => by
        rw [add_at]
        have := e4 j v hj
        unfold World.cell? at this ⊢
        simp only [hw _ hb]
        exact this
      have := run_loadCells_list (P := P) w' ⟨l.b, l.base + off, none⟩ vs hc
      simp [Builtin.firstCells, ← e1, this]
  · rename_i nl
    simp only [Option.some.injEq, Prod.mk.injEq] at h
    obtain ⟨rfl, rfl, rfl⟩ := h
    simp only [VRep] at hy
    have hY : ∃ A, Y = .slice A 0 0 := by
      rcases hy with ⟨_, h⟩ | ⟨_, b, h⟩
      · exact ⟨_, h⟩
      · exact ⟨_, h⟩
    obtain ⟨A, rfl⟩ := hY
    refine ⟨by simp [Builtin.lenOf], by simp, fun _ c hc => by simp at hc, fun k hk => ⟨#[], fun w' _ => ?_, by simpa using vreps_nil, by simp⟩⟩
    have : k = 0 := by omega
    subst this
    cases A <;> simp [Builtin.firstCells, loadCells, loadCellsFrom]
  · rename_i b
    split at h <;> (try (cases h; done))
    rename_i hs1
    subst hs1
    simp only [Option.some.injEq, Prod.mk.injEq] at h
    obtain ⟨rfl, rfl, rfl⟩ := h
    simp only [VRep] at hy
    subst hy
    have htl : b.toList = b.data.toList := by rw [ByteArray.toList_eq]
    refine ⟨by simp [Builtin.lenOf], by rw [List.length_map, htl, Nat.mul_one]; exact Array.length_toList, fun _ c hc => ?_, fun k hk => ⟨(b.extract 0 k).data.map fun x => .int .u8 x.toNat, fun w' _ => rfl, ?_, ?_⟩⟩
    · obtain ⟨x, _, rfl⟩ := List.mem_map.1 hc
      rfl
    · have e : (b.extract 0 k).data.toList = b.data.toList.take k := by
        simp [ByteArray.data_extract]
      rw [Array.toList_map, e, htl, Nat.mul_one, List.map_take]
      refine VReps.take ?_ k
      exact VReps.map (m := m) (fun x : UInt8 => AV.int .u8 x.toNat) (fun x => Value.int .u8 x.toNat) b.data.toList fun x _ => vr_int
    · intro u hu
      simp only [Array.toList_map, List.mem_map] at hu
      obtain ⟨x, _, rfl⟩ := hu
      rfl
  · cases h

theorem growBy_le (n : Nat) : ∀ (r c : Nat), c ≤ 2 * n + 192 → Builtin.growBy n r c ≤ 2 * n + 192
  | 0, c, h => by simpa [Builtin.growBy] using h
  | r + 1, c, h => by
    simp only [Builtin.growBy]
    split
    · exact h
    · exact growBy_le n r _ (by omega)
theorem nextcap_le {n c : Nat} (h : c < n) : Builtin.nextslicecap n c ≤ 2 * n + 192 := by
  unfold Builtin.nextslicecap
  split
  · omega
  · split
    · omega
    · exact growBy_le n 4 c (by omega)

theorem lim_ok {n c bytes : Nat} (h : n * bytes ≤ appLim) (hc : c < n) : ¬ Builtin.nextslicecap n c * bytes > 2 ^ 48 := by
  unfold appLim at h
  have h1 := nextcap_le hc
  have h2 : Builtin.nextslicecap n c * bytes ≤ (2 * n + 192) * bytes := Nat.mul_le_mul_right _ h1
  have h3 : bytes ≤ n * bytes := Nat.le_mul_of_pos_left _ (by omega)
  rw [Nat.add_mul, Nat.mul_assoc] at h2
  omega

theorem zeroCells_size (z : Array Value) (n : Nat) : (Builtin.zeroCells z n).size = n * z.size := by simp [Builtin.zeroCells]

/-- The model's append: in its own block where there is room, else in a new one. -/
theorem run_append {t u e : TypeId} {inf : TypeInfo} {z : Value} (ty : TypeId) {base : Option Addr} {len cap n : Nat} {Y : Value} (hu : P.underlying t = some (.slice e)) (hu2 : ∃ d, P.underlying u = some d ∧ ∀ k, d ≠ .int k) (hi : P.info? e = some inf) (hz : inf.zero = some z)
    (hb0 : inf.bytes ≠ 0) (hlen : (Builtin.lenOf Y).run P w = .ok n w) (hlim : (len + n) * inf.bytes ≤ appLim) {new : Array Value}
    (hnew : ∀ w' : World, (∀ b, b < w.heap.size → w'.heap[b]? = w.heap[b]?) → (Builtin.firstCells inf.size n Y).run P w' = .ok new w') :
    (len + n ≤ cap → (Builtin.append_ #[t, u] ty #[.slice base len cap, Y]).run P w = ((match base with | some a => storeCells (a.add (len * inf.size)) new.toList | none => pure () : Sem Unit).run P w).andThen fun _ w' => .ok (.slice base (len + n) cap) w') ∧
    (cap < len + n → ∀ old : Array Value, (∀ w' : World, (∀ b, b < w.heap.size → w'.heap[b]? = w.heap[b]?) → (Builtin.firstCells inf.size len (.slice base len cap)).run P w' = .ok old w') →
      ∃ cap', len + n ≤ cap' ∧ (Builtin.append_ #[t, u] ty #[.slice base len cap, Y]).run P w = .ok (.slice (some ⟨w.heap.size, 0, none⟩) (len + n) cap') (({ w with drawn := w.drawn + 1 } : World).alloc (.cells (old ++ new ++ Builtin.zeroCells z.cells (cap' - (len + n))) e (0, 0)))) := by
  obtain ⟨d, hd, hdk⟩ := hu2
  have hinf : ∀ w : World, (typeInfo e).run P w = .ok inf w := fun w => by simp [typeInfo, hi]
  have hso : ∀ w : World, (sizeOf e).run P w = .ok inf.size w := fun w => run_sizeT (by simp [sizeT, hi]) w
  have hzv : ∀ w : World, (zeroValue e).run P w = .ok z w := fun w => run_zero (P := P) (by simp [zeroT, hi, hz])
  have hm : (match (generalizing := false) d with | .int _ => true | _ => false) = false := by
    cases d <;> simp
    exact absurd rfl (hdk _)
  have hun : ∀ w : World, (underlying u).run P w = .ok d w := fun w => run_underlying hd w
  constructor
  · intro hfit
    unfold Builtin.append_
    simp only [List.getElem?_toArray, List.getElem?_cons_zero, List.getElem?_cons_succ, Sem.run_bind, run_underlying hu, Result.andThen_ok, hso, hun, hm, Sem.run_pure, Bool.false_eq_true, if_false, hlen, hfit, if_true, hnew w (fun _ _ => rfl)]
    cases base with
    | none => simp [hnew w (fun _ _ => rfl)]
    | some b => simp [hnew w (fun _ _ => rfl)]
  · intro hgrow old hold
    have hnfit : ¬ len + n ≤ cap := by omega
    have hl := lim_ok hlim hgrow
    refine ⟨len + n + (w.tape w.drawn (.appendCap (len + n) cap e)) % (2 ^ 63 - (len + n)), by omega, ?_⟩
    unfold Builtin.append_
    have hno : ¬ (((len + n : Nat) : Int) > IntKind.i64.max ∧ ((false = true) ∨ inf.bytes = 0)) := by simp [hb0]
    simp only [List.getElem?_toArray, List.getElem?_cons_zero, List.getElem?_cons_succ, Sem.run_bind, run_underlying hu, Result.andThen_ok, hso, hun, hm, Sem.run_pure, Bool.false_eq_true, if_false, hlen, hnfit, hinf, hno, hl, false_or,
      run_choose, Question.forced, Question.cut, run_askRoom, hb0, and_false]
    rw [hold { w with drawn := w.drawn + 1 } (fun _ _ => rfl)]
    have hn2 := hnew { w with drawn := w.drawn + 1 } (fun _ _ => rfl)
    simp only [Result.andThen_ok, Sem.run_bind, hzv, Sem.run_pure, newRow, run_newObj_alloc, Bool.not_false, if_true, hn2]

theorem vreps_split {m : Mp} {as bs : List AV} {vs us : List Value} (h : VReps m as vs) (h' : VReps m bs us) (j : Nat) (c : AV) (e : (as ++ bs)[j]? = some c) : ∃ v, (vs ++ us)[j]? = some v ∧ VRep m c v := VReps.get (h.append h') e

theorem e_app {c : Call} {t u e : TypeId} {x y : Operand} {inf : TypeInfo} {z : Value} (ho : o.op = .call c) (hc : c.callee = .builtin .append) (hxs : c.args.toList = [x, y]) (hts : c.argTypes.toList = [t, u])
    (hu : P.underlying t = some (.slice e)) (hu2 : ∃ d, P.underlying u = some d ∧ ∀ k, d ≠ .int k) (hi : P.info? e = some inf) (hz : inf.zero = some z) (hb0 : inf.bytes ≠ 0) (hzs : z.cells.size = inf.size)
    {x' y' : Opd} (hx : cOpd x = some x') (hy : cOpd y = some y') (ht : TRep m ts a) (H : HRel m (lk s.h) w) (hwl : s.wl ≤ s.h.length) (hwa : s.wa ≤ s.h.length)
    (ha : aop (evO ts) s (.app inf.size inf.bytes x' y') = some (v, s')) : EOk P o a w m s s' v := by
  have hrx := vrep_opd ht hx
  have hry := vrep_opd ht hy
  have hts' : c.argTypes = #[t, u] := by rw [← Array.toArray_toList (xs := c.argTypes), hts]
  have hrun := run_builtin (P := P) (w := w) (a := a) ho hc
  rw [args_two hxs, hts'] at hrun
  simp only [aop, aapp] at ha
  obtain ⟨⟨new, n, fl⟩, hcon, hq⟩ := Option.bind_eq_some_iff.1 ha
  clear ha
  have ha := hq
  clear hq
  dsimp only at ha
  obtain ⟨k1, k2, k3, k4⟩ := content_sound (P := P) H hry hcon
  obtain ⟨arr, k5, k6, k7⟩ := k4 n (Nat.le_refl _)
  rw [List.take_of_length_le (by omega)] at k6
  have harrl : arr.size = n * inf.size := by rw [← Array.length_toList, ← VReps.length k6, k2]
  have app : ∀ (X r : Value) (w' : World), a.eval x = X → (Builtin.append_ #[t, u] o.type #[X, a.eval y]).run P w = .ok r w' → (execOp a.eval o).run P w = .ok (.value r) w' := fun X r w' e1 e2 => by
    rw [hrun, e1]
    simp [builtin, e2]
  -- a slice without cells of its own: nothing is appended, or a new object is made
  have fresh : ∀ (A : Option Addr) (nv : AV), a.eval x = .slice A 0 0 → VRep m nv (.slice A 0 0) → (n = 0 ∧ v = nv ∧ s' = s) ∨ (n ≠ 0 ∧ n * inf.bytes ≤ appLim ∧ v = .sl false s.h.length 0 inf.size 0 n ∧ s' = newObj s ⟨new, 0, inf.size, true, fl⟩) → EOk P o a w m s s' v := by
    intro A nv he hnv hcase
    rcases hcase with ⟨rfl, rfl, rfl⟩ | ⟨hn0, hlim, rfl, rfl⟩
    · have r := (run_append (P := P) (w := w) o.type (base := A) (len := 0) (cap := 0) hu hu2 hi hz hb0 k1 (by unfold appLim; omega) k5).1 (by omega)
      have harr0 : arr.toList = [] := by
        have : arr.toList.length = 0 := by simp [harrl]
        exact List.length_eq_zero_iff.1 this
      have r' : (Builtin.append_ #[t, u] o.type #[.slice A 0 0, a.eval y]).run P w = .ok (.slice A 0 0) w := by
        rw [r, harr0]
        cases A <;> simp [storeCells]
      exact ⟨_, _, w, m, app _ _ _ he r', .inl rfl, hnv, H, Tr.refl _ _ _ _ _, Nat.le_refl _, Nat.le_refl _, Nat.le_refl _⟩
    · obtain ⟨cap', h1, h2⟩ := (run_append (P := P) (w := w) o.type (base := A) (len := 0) (cap := 0) hu hu2 hi hz hb0 k1 (by simpa using hlim) k5).2 (by omega) #[] (fun w' _ => by cases A <;> simp [Builtin.firstCells, loadCells, loadCellsFrom])
      simp only [Nat.zero_add, Array.empty_append] at h1 h2
      have hal := alloc_rel (o := ⟨new, 0, inf.size, true, fl⟩) (w' := (({ w with drawn := w.drawn + 1 } : World).alloc (.cells (arr ++ Builtin.zeroCells z.cells (cap' - n)) e (0, 0)))) (spare := (Builtin.zeroCells z.cells (cap' - n)).toList) H ⟨rfl, rfl, rfl⟩ rfl rfl k6 k7 (by simp) k3 (newObj s ⟨new, 0, inf.size, true, fl⟩).wl hwa
      refine ⟨_, _, _, _, app _ _ _ he h2, .inl rfl, ?_, hal.1, hal.2, Nat.le_refl _, Nat.le_refl _, by simp [newObj]⟩
      simp only [VRep]
      refine .inr ⟨trivial, _, Mp.put_same _ _ _ _, .inr ⟨cap', by simp, h1, ?_⟩⟩
      have : n * inf.size + (cap' - n) * inf.size = cap' * inf.size := by rw [← Nat.add_mul]; congr 1; omega
      simp [zeroCells_size, harrl, hzs]
      omega
  split at ha
  · -- s0
    rename_i nl hk
    rw [hk] at hrx
    have hX : ∃ A, a.eval x = .slice A 0 0 := by
      simp only [VRep] at hrx
      rcases hrx with ⟨_, h⟩ | ⟨_, b, h⟩
      · exact ⟨_, h⟩
      · exact ⟨_, h⟩
    obtain ⟨A, hA⟩ := hX
    refine fresh A (.s0 nl) hA (hA ▸ hrx) ?_
    split at ha
    · rename_i h0
      simp only [Option.some.injEq, Prod.mk.injEq] at ha
      exact .inl ⟨h0, ha.1.symm, ha.2.symm⟩
    · rename_i h0
      split at ha <;> (try (cases ha; done))
      rename_i h1
      simp only [Option.some.injEq, Prod.mk.injEq] at ha
      exact .inr ⟨h0, h1, ha.1.symm, ha.2.symm⟩
  · -- nil
    rename_i id ep sz' off hk
    rw [hk] at hrx
    simp only [VRep] at hrx
    have hA : a.eval x = .slice none 0 0 := by
      rcases hrx with ⟨_, h, _⟩ | ⟨h, _⟩
      · exact h
      · cases h
    refine fresh none (.sl true 0 0 0 0 0) hA (by simp [VRep]) ?_
    split at ha
    · rename_i h0
      simp only [Option.some.injEq, Prod.mk.injEq] at ha
      exact .inl ⟨h0, ha.1.symm, ha.2.symm⟩
    · rename_i h0
      split at ha <;> (try (cases ha; done))
      rename_i h1
      simp only [Option.some.injEq, Prod.mk.injEq] at ha
      exact .inr ⟨h0, h1, ha.1.symm, ha.2.symm⟩
  · -- an object
    rename_i id ep sz' off len hk
    rw [hk] at hrx
    split at ha
    · -- nothing is appended
      rename_i h0
      subst h0
      simp only [Option.some.injEq, Prod.mk.injEq] at ha
      obtain ⟨rfl, rfl⟩ := ha
      have hX : ∃ A cap, a.eval x = .slice A len cap ∧ len ≤ cap ∧ len * inf.size = len * inf.size := by
        simp only [VRep] at hrx
        rcases hrx with ⟨h, _⟩ | ⟨_, l, _, ⟨rfl, b, h⟩ | ⟨cap, h, h2, _⟩⟩
        · cases h
        · exact ⟨_, _, h, Nat.le_refl _, rfl⟩
        · exact ⟨_, _, h, h2, rfl⟩
      obtain ⟨A, cap, hA, hlc, _⟩ := hX
      have harr0 : arr.toList = [] := by
        have : arr.toList.length = 0 := by simp [harrl]
        exact List.length_eq_zero_iff.1 this
      have hdirect : (Builtin.append_ #[t, u] o.type #[.slice A len cap, a.eval y]).run P w = .ok (.slice A len cap) w := by
        obtain ⟨d, hd, hdk⟩ := hu2
        have hm : (match (generalizing := false) d with | .int _ => true | _ => false) = false := by
          cases d <;> simp
          exact absurd rfl (hdk _)
        unfold Builtin.append_
        have hso : (sizeOf e).run P w = .ok inf.size w := run_sizeT (by simp [sizeT, hi]) w
        simp only [List.getElem?_toArray, List.getElem?_cons_zero, List.getElem?_cons_succ, Sem.run_bind, run_underlying hu, Result.andThen_ok, hso, run_underlying hd, hm, Sem.run_pure, Bool.false_eq_true, if_false, k1, Nat.add_zero, hlc, if_true]
        have h5 := k5 w (fun _ _ => rfl)
        cases A <;> simp [h5, harr0, storeCells]
      exact ⟨_, _, w, m, app _ _ _ hA hdirect, .inl rfl, hA ▸ hrx, H, Tr.refl _ _ _ _ _, Nat.le_refl _, Nat.le_refl _, Nat.le_refl _⟩
    rename_i hn0
    split at ha <;> (try (cases ha; done))
    rename_i hcnd
    obtain ⟨rfl, hlim⟩ := hcnd
    split at ha <;> (try (cases ha; done))
    rename_i ob hob
    split at ha <;> (try (cases ha; done))
    rename_i hcnd2
    obtain ⟨hrw, hfit⟩ := hcnd2
    simp only [Option.some.injEq, Prod.mk.injEq] at ha
    obtain ⟨rfl, rfl⟩ := ha
    obtain ⟨f1, f2⟩ := rdObj_some hob
    subst f2
    simp only [VRep] at hrx
    rcases hrx with ⟨h, _⟩ | ⟨_, l, hl, hrx⟩
    · cases h
    -- the old cells
    obtain ⟨vs, v1, v2, v3, v4⟩ := H.range f1 hl (off := off) (n := len * inf.size) hfit
    obtain ⟨cs0, t0, fr0, g1, g2, g3, g4, g5⟩ := H.cells id ob l f1 hl
    have hfr0 := g2 hrw
    have hfl : (ob.fl && fl) = true → ∀ c ∈ (ob.cs.drop off).take (len * inf.size) ++ new, c.scalar = true := by
      intro hf c hc
      simp only [Bool.and_eq_true] at hf
      rcases List.mem_append.1 hc with hc | hc
      · exact H.fl id ob f1 hf.1 c (List.mem_of_mem_drop (List.mem_of_mem_take hc))
      · exact k3 hf.2 c hc
    have hbnd : ∀ wa : Nat, wa = (if fl then s.wa else min s.wa id) → id < wa → ∀ k, id < k → k ≤ wa → (∀ c ∈ ob.cs, bndV k c = true) → ∀ c ∈ (ob.cs.drop off).take (len * inf.size) ++ new, bndV k c = true := by
      intro wa hwa' hid k hk1 hk2 hb c hc
      rcases List.mem_append.1 hc with hc | hc
      · exact hb c (List.mem_of_mem_drop (List.mem_of_mem_take hc))
      · cases fl with
        | true => exact bndV_scalar (k3 rfl c hc)
        | false => simp only [Bool.false_eq_true, if_false] at hwa'; omega
    have hwa2 : (if fl then s.wa else min s.wa id) ≤ s.wa := by split <;> omega
    -- where it grows
    have grown : ∀ (old : Array Value) (A : Option Addr) (cap : Nat), a.eval x = .slice A len cap → cap < len + n → (∀ w' : World, (∀ b, b < w.heap.size → w'.heap[b]? = w.heap[b]?) → (Builtin.firstCells inf.size len (.slice A len cap)).run P w' = .ok old w') → old.toList = vs →
        EOk P o a w m s ⟨s.h.set id { ob with cs := (ob.cs.drop off).take (len * inf.size) ++ new, ep := ob.ep + 1, fl := ob.fl && fl }, min s.wl id, if fl then s.wa else min s.wa id⟩ (.sl false id (ob.ep + 1) inf.size 0 (len + n)) := by
      intro old A cap he hgr hold holdv
      obtain ⟨cap', h1, h2⟩ := (run_append (P := P) (w := w) o.type (base := A) (len := len) (cap := cap) hu hu2 hi hz hb0 k1 hlim k5).2 hgr old hold
      have holds : old.size = len * inf.size := by rw [← Array.length_toList, holdv, v1]
      have hsz3 : (old ++ arr ++ Builtin.zeroCells z.cells (cap' - (len + n))).size = cap' * inf.size := by
        simp only [Array.size_append, zeroCells_size, holds, harrl, hzs]
        rw [← Nat.add_mul, ← Nat.add_mul]; congr 1; omega
      have hcl : ((ob.cs.drop off).take (len * inf.size) ++ new).length = (len + n) * inf.size := by
        rw [List.length_append, VReps.length v2, v1, k2, Nat.add_mul]
      have hgrw := grow_rel (fr := (0, 0)) (o' := { ob with cs := (ob.cs.drop off).take (len * inf.size) ++ new, ep := ob.ep + 1, fl := ob.fl && fl }) (w' := (({ w with drawn := w.drawn + 1 } : World).alloc (.cells (old ++ arr ++ Builtin.zeroCells z.cells (cap' - (len + n))) e (0, 0))))
        (cs' := old ++ arr ++ Builtin.zeroCells z.cells (cap' - (len + n))) (ty := e) (l' := ⟨w.heap.size, 0, cap' * inf.size⟩) (t := min s.wl id) (u := if fl then s.wa else min s.wa id) H ⟨rfl, rfl, rfl⟩ f1 hl hrw hrw rfl (by simp [World.alloc]) (by simp [World.alloc]) (by simp [World.alloc]) (.inr (Nat.le_refl _))
        (fun k hk _ => by simp [World.alloc, Array.getElem?_push, Nat.ne_of_lt hk]) (by simp only [Nat.zero_add]; rw [hsz3]; exact Nat.le_refl _) (by simp only; rw [hcl]; exact Nat.mul_le_mul_right _ h1)
        (fun j c hj => by
          simp only at hj
          obtain ⟨u, u1, u2⟩ := vreps_split v2 k6 j c hj
          have hjl : j < (vs ++ arr.toList).length := (List.getElem?_eq_some_iff.1 u1).1
          refine ⟨u, ?_, u2, ?_⟩
          · rw [Nat.zero_add, ← Array.getElem?_toList, Array.toList_append, Array.toList_append, holdv, List.getElem?_append_left hjl]
            exact u1
          · rcases List.mem_append.1 (List.mem_of_getElem? u1) with hm | hm
            · exact v3 u hm
            · exact k7 u hm)
        hfl (Nat.min_le_right _ _) (fun hid k hk1 hk2 hb c hc => hbnd _ rfl hid k hk1 hk2 hb c hc)
      refine ⟨_, _, _, _, app _ _ _ he h2, .inl rfl, ?_, hgrw.1, hgrw.2, Nat.min_le_left _ _, hwa2, by simp⟩
      simp only [VRep]
      refine .inr ⟨trivial, _, Mp.put_same _ _ _ _, .inr ⟨cap', by simp, h1, by simp⟩⟩
    rcases hrx with ⟨rfl, b, he⟩ | ⟨cap, he, hlc, hcap⟩
    · have hvs : vs = [] := List.length_eq_zero_iff.1 (by simpa using v1)
      exact grown #[] (some b) 0 he (by have : n ≠ 0 := hn0; omega) (fun w' _ => by simp [Builtin.firstCells, loadCells, loadCellsFrom]) (by simp [hvs])
    · by_cases hroom : len + n ≤ cap
      · -- in place
        have r := (run_append (P := P) (w := w) o.type (base := some ⟨l.b, l.base + off, none⟩) (len := len) (cap := cap) hu hu2 hi hz hb0 k1 hlim k5).1 hroom
        have hcl : ((ob.cs.drop off).take (len * inf.size) ++ new).length = (len + n) * inf.size := by
          rw [List.length_append, VReps.length v2, v1, k2, Nat.add_mul]
        have hmul : (len + n) * inf.size ≤ cap * inf.size := Nat.mul_le_mul_right _ hroom
        have hexp : (len + n) * inf.size = len * inf.size + n * inf.size := Nat.add_mul _ _ _
        have hst := run_storeN P l.b (l.base + off + len * inf.size) t0 arr.toList 0 cs0 w g1 hfr0 (by simp only [Nat.add_zero, Array.length_toList, harrl]; omega) k7
        simp only [Nat.add_zero] at hst
        simp only [add_at, hst, Result.andThen_ok] at r
        have hal : arr.toList.length = n * inf.size := by simp [harrl]
        have hgrw := grow_rel (o' := { ob with cs := (ob.cs.drop off).take (len * inf.size) ++ new, ep := ob.ep + 1, fl := ob.fl && fl }) (w' := w.setRow l.b (cs0.toList.take (l.base + off + len * inf.size) ++ arr.toList ++ cs0.toList.drop (l.base + off + len * inf.size + arr.toList.length)).toArray)
          (l' := ⟨l.b, l.base + off, cap * inf.size⟩) (t := min s.wl id) (u := if fl then s.wa else min s.wa id) H ⟨rfl, rfl, rfl⟩ f1 hl hrw hrw rfl (by simp) (by simp; exact (H.dom _ _ _ hl).2) (setRow_heap w l.b cs0 _ t0 fr0 g1) (.inl rfl)
          (fun k hk hne => setRow_other w l.b k _ hne) (by simp [harrl]; omega) (by simp only; rw [hcl]; exact hmul)
          (fun j c hj => by
            simp only at hj
            obtain ⟨u, u1, u2⟩ := vreps_split v2 k6 j c hj
            have hjl : j < (vs ++ arr.toList).length := (List.getElem?_eq_some_iff.1 u1).1
            refine ⟨u, ?_, u2, ?_⟩
            · simp only [List.getElem?_toArray]
              by_cases hjv : j < vs.length
              · rw [List.getElem?_append_left hjv] at u1
                have hcell := v4 j u u1
                rw [cell_of_row w l.b _ cs0 t0 _ g1] at hcell
                rw [List.append_assoc, List.getElem?_append_left (by simp; omega), List.getElem?_take, if_pos (by omega)]
                simpa using hcell
              · rw [List.getElem?_append_right (by omega)] at u1
                have hjl2 : j < len * inf.size + n * inf.size := by simp only [List.length_append, v1, hal] at hjl; exact hjl
                rw [List.getElem?_append_left (by simp; omega), List.getElem?_append_right (by simp; omega)]
                have : l.base + off + j - (cs0.toList.take (l.base + off + len * inf.size)).length = j - vs.length := by
                  rw [v1, List.length_take, Array.length_toList]; omega
                rw [this]; exact u1
            · rcases List.mem_append.1 (List.mem_of_getElem? u1) with hm | hm
              · exact v3 u hm
              · exact k7 u hm)
          hfl (Nat.min_le_right _ _) (fun hid k hk1 hk2 hb c hc => hbnd _ rfl hid k hk1 hk2 hb c hc)
          (by
            have : ((cs0.toList.take (l.base + off + len * inf.size) ++ arr.toList ++ cs0.toList.drop (l.base + off + len * inf.size + arr.toList.length)).toArray).size = cs0.size := by simp [harrl]; omega
            rw [this]; exact hfr0)
        refine ⟨_, _, _, _, app _ _ _ he r, .inl rfl, ?_, hgrw.1, hgrw.2, Nat.min_le_left _ _, hwa2, by simp⟩
        simp only [VRep]
        exact .inr ⟨trivial, _, Mp.put_same _ _ _ _, .inr ⟨cap, by simp, hroom, by simp⟩⟩
      · have hb := (H.dom _ _ _ hl).2
        refine grown vs.toArray _ cap he (by omega) (fun w' hw => ?_) (by simp)
        have hcell : ∀ j v, vs[j]? = some v → w'.cell? ((⟨l.b, l.base + off, none⟩ : Addr).add j) = some v := fun j v hj => by
          rw [add_at]
          have := v4 j v hj
          unfold World.cell? at this ⊢
          simp only [hw _ hb]
          exact this
        have := run_loadCells_list (P := P) w' ⟨l.b, l.base + off, none⟩ vs hcell
        simp [Builtin.firstCells, ← v1, this]
  · cases ha

theorem zeroCells_vreps {m : Mp} {z : Array Value} {zs : List AV} (h : VReps m zs z.toList) (hz : zs ≠ []) (l : Nat) : VReps m (zrep l zs) (Builtin.zeroCells z l).toList := by
  have hlen : zs.length = z.size := by rw [VReps.length h]; simp
  have hp : 0 < z.size := by rw [← hlen]; exact List.length_pos_iff.2 hz
  refine vreps_iff.2 ⟨?_, fun i av vv e1 e2 => ?_⟩
  · have : (zrep l zs).length = l * zs.length := by unfold zrep; split <;> simp
    rw [this, hlen, Array.length_toList, zeroCells_size]
  · rw [zrep_get hz, hlen] at e1
    split at e1
    · rename_i hi'
      have e3 : (Builtin.zeroCells z l).toList[i]? = some z[i % z.size]! := by simp [Builtin.zeroCells, hi']
      rw [e3] at e2
      simp only [Option.some.injEq] at e2
      subst e2
      obtain ⟨u, hu1, hu2⟩ := VReps.get h e1
      have hm : i % z.size < z.size := Nat.mod_lt _ hp
      have : z[i % z.size]! = u := by
        rw [getElem!_pos z _ hm]
        simp [hm] at hu1
        exact hu1
      rw [this]; exact hu2
    · cases e1
theorem zeroCells_one {z : Array Value} (hp : 0 < z.size) (h : ∀ u ∈ z.toList, u.oneCell' = true) (l : Nat) : ∀ u ∈ (Builtin.zeroCells z l).toList, u.oneCell' = true := by
  intro u hu
  simp only [Builtin.zeroCells, Array.toList_map, List.mem_map] at hu
  obtain ⟨j, _, rfl⟩ := hu
  have hm : j % z.size < z.size := Nat.mod_lt _ hp
  rw [getElem!_pos z _ hm]
  exact h _ (by simp)
theorem zrep_scalar {zs : List AV} {l : Nat} (h : zs.all AV.scalar = true) : ∀ c ∈ zrep l zs, c.scalar = true := by
  intro c hc
  have hall := all_scalar h
  by_cases hz : zs = []
  · subst hz; simp [zrep] at hc
  obtain ⟨j, hj, e1⟩ := List.getElem_of_mem hc
  have := zrep_get hz l j
  rw [List.getElem?_eq_getElem hj, e1] at this
  split at this
  · exact hall c (List.mem_of_getElem? this.symm)
  · cases this

theorem run_appz {t u e : TypeId} {inf : TypeInfo} {z : Value} {k : IntKind} (ty : TypeId) {base : Option Addr} {n : Nat} (hu : P.underlying t = some (.slice e)) (hu2 : P.underlying u = some (.int k)) (hi : P.info? e = some inf) (hz : inf.zero = some z)
    (hb0 : inf.bytes ≠ 0) (hs0 : inf.size ≠ 0) (hlim : n * inf.bytes ≤ appLim) :
    (n = 0 → (Builtin.append_ #[t, u] ty #[.slice base 0 0, .int .i64 n]).run P w = .ok (.slice base 0 0) w) ∧
    (n ≠ 0 → ∃ cap', n ≤ cap' ∧ (Builtin.append_ #[t, u] ty #[.slice base 0 0, .int .i64 n]).run P w = .ok (.slice (some ⟨w.heap.size, 0, none⟩) n cap') (({ w with drawn := w.drawn + 1 } : World).alloc (.cells (Builtin.zeroCells z.cells n ++ Builtin.zeroCells z.cells (cap' - n)) e (0, 0)))) := by
  have hinf : ∀ w : World, (typeInfo e).run P w = .ok inf w := fun w => by simp [typeInfo, hi]
  have hso : ∀ w : World, (sizeOf e).run P w = .ok inf.size w := fun w => run_sizeT (by simp [sizeT, hi]) w
  have hzv : ∀ w : World, (zeroValue e).run P w = .ok z w := fun w => run_zero (P := P) (by simp [zeroT, hi, hz])
  have hun : ∀ w : World, (underlying u).run P w = .ok (.int k) w := fun w => run_underlying hu2 w
  have hlim' := hlim
  unfold appLim at hlim'
  have hnb : n ≤ n * inf.bytes := Nat.le_mul_of_pos_right _ (Nat.pos_of_ne_zero hb0)
  have hwr : IntKind.i64.wrap (n : Int) = n := wrap_id (by omega) (by omega)
  have hneg : ¬ ((n : Int) < 0) := by omega
  have hbig : ¬ ((n : Int) * inf.bytes > 2 ^ 48) := by
    have : (n : Int) * inf.bytes = ((n * inf.bytes : Nat) : Int) := by simp
    rw [this]; omega
  have hai : ∀ w : World, (asInt (.int .i64 n)).run P w = .ok (n : Int) w := fun w => by simp [asInt, asIntOf]
  constructor
  · rintro rfl
    unfold Builtin.append_
    simp only [List.getElem?_toArray, List.getElem?_cons_zero, List.getElem?_cons_succ, Sem.run_bind, run_underlying hu, Result.andThen_ok, hso, hun, hinf, hai, hwr, hneg, hbig, Sem.run_pure, if_true, if_false, Int.toNat_natCast, Nat.zero_add, Nat.le_refl, Nat.zero_mul]
    cases base <;> simp [storeCells]
  · intro hn0
    have hgrow : 0 < n := by omega
    have hnfit : ¬ n ≤ 0 := by omega
    have hl := lim_ok hlim hgrow
    refine ⟨n + (w.tape w.drawn (.appendCap n 0 e)) % (2 ^ 63 - n), by omega, ?_⟩
    have hno : ¬ (((n : Nat) : Int) > IntKind.i64.max ∧ (True ∨ inf.bytes = 0)) := by
      have e9 : IntKind.i64.max = 9223372036854775807 := rfl
      rw [e9]; omega
    have hns : ¬ (n * inf.size = 0) := by
      simp [Nat.mul_eq_zero, hn0, hs0]
    have hfc : ∀ w : World, (Builtin.firstCells inf.size 0 (.slice base 0 0)).run P w = .ok #[] w := fun w => by cases base <;> simp [Builtin.firstCells, loadCells, loadCellsFrom]
    unfold Builtin.append_
    simp only [List.getElem?_toArray, List.getElem?_cons_zero, List.getElem?_cons_succ, Sem.run_bind, run_underlying hu, Result.andThen_ok, hso, hun, hinf, hai, hwr, hneg, hbig, Sem.run_pure, if_true, if_false, Int.toNat_natCast, Nat.zero_add, hnfit, hno, hl,
      run_choose, Question.forced, Question.cut, run_askRoom, hfc, hns, Bool.not_true, Bool.false_eq_true, hzv, newRow, run_newObj_alloc, Array.empty_append]

theorem e_appz {c : Call} {t u e : TypeId} {k : IntKind} {x y : Operand} {inf : TypeInfo} {z : Value} {zs : List AV} (ho : o.op = .call c) (hc : c.callee = .builtin .append) (hxs : c.args.toList = [x, y]) (hts : c.argTypes.toList = [t, u])
    (hu : P.underlying t = some (.slice e)) (hu2 : P.underlying u = some (.int k)) (hi : P.info? e = some inf) (hz : inf.zero = some z) (hzs : cVals z.cells.toList = some zs) (hb0 : inf.bytes ≠ 0) (hlen : zs.length = inf.size) (hs0 : inf.size ≠ 0)
    {x' y' : Opd} (hx : cOpd x = some x') (hy : cOpd y = some y') (ht : TRep m ts a) (H : HRel m (lk s.h) w) (hwl : s.wl ≤ s.h.length) (hwa : s.wa ≤ s.h.length)
    (ha : aop (evO ts) s (.appz zs inf.bytes x' y') = some (v, s')) : EOk P o a w m s s' v := by
  have hrx := vrep_opd ht hx
  have hry := vrep_opd ht hy
  have hts' : c.argTypes = #[t, u] := by rw [← Array.toArray_toList (xs := c.argTypes), hts]
  have hrun := run_builtin (P := P) (w := w) (a := a) ho hc
  rw [args_two hxs, hts'] at hrun
  simp only [aop, aappz] at ha
  split at ha <;> (try (cases ha; done))
  rename_i l hk2
  rw [hk2] at hry
  simp only [VRep] at hry
  split at ha <;> (try (cases ha; done))
  rename_i hc1
  obtain ⟨h0, hlim⟩ := hc1
  obtain ⟨k1, k2⟩ := vreps_vals (m := m) hzs
  have hzsz : z.cells.size = inf.size := by rw [← hlen, VReps.length k1]; simp
  have hzne : zs ≠ [] := fun h => by subst h; simp at hlen; exact hs0 hlen.symm
  have hln : ((l.toNat : Nat) : Int) = l := Int.toNat_of_nonneg h0
  have app : ∀ (X r : Value) (w' : World), a.eval x = X → (Builtin.append_ #[t, u] o.type #[X, .int .i64 (l.toNat : Nat)]).run P w = .ok r w' → (execOp a.eval o).run P w = .ok (.value r) w' := fun X r w' e1 e2 => by
    rw [hrun, e1, hry]
    rw [hln] at e2
    simp [builtin, e2]
  have fresh : ∀ (A : Option Addr) (nv : AV), a.eval x = .slice A 0 0 → VRep m nv (.slice A 0 0) → (l.toNat = 0 ∧ v = nv ∧ s' = s) ∨ (l.toNat ≠ 0 ∧ v = .sl false s.h.length 0 zs.length 0 l.toNat ∧ s' = newObj s ⟨zrep l.toNat zs, 0, zs.length, true, zs.all AV.scalar⟩) → EOk P o a w m s s' v := by
    intro A nv he hnv hcase
    rcases hcase with ⟨h1, rfl, rfl⟩ | ⟨hn0, rfl, rfl⟩
    · have r := (run_appz (P := P) (w := w) o.type (base := A) hu hu2 hi hz hb0 hs0 hlim).1 h1
      exact ⟨_, _, w, m, app _ _ _ he r, .inl rfl, hnv, H, Tr.refl _ _ _ _ _, Nat.le_refl _, Nat.le_refl _, Nat.le_refl _⟩
    · obtain ⟨cap', h1, h2⟩ := (run_appz (P := P) (w := w) o.type (base := A) hu hu2 hi hz hb0 hs0 hlim).2 hn0
      have hal := alloc_rel (o := ⟨zrep l.toNat zs, 0, zs.length, true, zs.all AV.scalar⟩) (w' := (({ w with drawn := w.drawn + 1 } : World).alloc (.cells (Builtin.zeroCells z.cells l.toNat ++ Builtin.zeroCells z.cells (cap' - l.toNat)) e (0, 0)))) (spare := (Builtin.zeroCells z.cells (cap' - l.toNat)).toList) H ⟨rfl, rfl, rfl⟩ rfl rfl (zeroCells_vreps k1 hzne _) (zeroCells_one (by omega) k2 _) (by simp) (fun h => zrep_scalar h) (newObj s ⟨zrep l.toNat zs, 0, zs.length, true, zs.all AV.scalar⟩).wl hwa
      refine ⟨_, _, _, _, app _ _ _ he h2, .inl rfl, ?_, hal.1, hal.2, Nat.le_refl _, Nat.le_refl _, by simp [newObj]⟩
      simp only [VRep]
      refine .inr ⟨trivial, _, Mp.put_same _ _ _ _, .inr ⟨cap', by simp, h1, ?_⟩⟩
      have : l.toNat * inf.size + (cap' - l.toNat) * inf.size = cap' * inf.size := by rw [← Nat.add_mul]; congr 1; omega
      simp [zeroCells_size, hzsz, hlen]
      omega
  split at ha
  · rename_i nl hk
    rw [hk] at hrx
    have hX : ∃ A, a.eval x = .slice A 0 0 := by
      simp only [VRep] at hrx
      rcases hrx with ⟨_, h⟩ | ⟨_, b, h⟩
      · exact ⟨_, h⟩
      · exact ⟨_, h⟩
    obtain ⟨A, hA⟩ := hX
    refine fresh A (.s0 nl) hA (hA ▸ hrx) ?_
    split at ha
    · rename_i h9
      simp only [Option.some.injEq, Prod.mk.injEq] at ha
      exact .inl ⟨h9, ha.1.symm, ha.2.symm⟩
    · rename_i h9
      simp only [Option.some.injEq, Prod.mk.injEq] at ha
      exact .inr ⟨h9, ha.1.symm, ha.2.symm⟩
  · rename_i id ep sz' off hk
    rw [hk] at hrx
    simp only [VRep] at hrx
    have hA : a.eval x = .slice none 0 0 := by
      rcases hrx with ⟨_, h, _⟩ | ⟨h, _⟩
      · exact h
      · cases h
    refine fresh none (.sl true 0 0 0 0 0) hA (by simp [VRep]) ?_
    split at ha
    · rename_i h9
      simp only [Option.some.injEq, Prod.mk.injEq] at ha
      exact .inl ⟨h9, ha.1.symm, ha.2.symm⟩
    · rename_i h9
      simp only [Option.some.injEq, Prod.mk.injEq] at ha
      exact .inr ⟨h9, ha.1.symm, ha.2.symm⟩
  · cases ha

theorem e_cpy {c : Call} {t e : TypeId} {ts' : List TypeId} {x y : Operand} {n0 : Nat} (ho : o.op = .call c) (hc : c.callee = .builtin .copy) (hxs : c.args.toList = [x, y]) (hts : c.argTypes.toList = t :: ts')
    (hu : P.underlying t = some (.slice e)) (hn : sizeT P e = some n0) {x' y' : Opd} (hx : cOpd x = some x') (hy : cOpd y = some y') (ht : TRep m ts a) (H : HRel m (lk s.h) w)
    (ha : aop (evO ts) s (.cpy n0 x' y') = some (v, s')) : EOk P o a w m s s' v := by
  have hrx := vrep_opd ht hx
  have hry := vrep_opd ht hy
  have hrun := run_builtin (P := P) (w := w) (a := a) ho hc
  have hts' : c.argTypes[0]? = some t := by
    have : c.argTypes.toList[0]? = some t := by rw [hts]; rfl
    simpa using this
  rw [args_two hxs] at hrun
  simp only [aop] at ha
  split at ha <;> (try (cases ha; done))
  rename_i nl id ep sz' off len hk
  rw [hk] at hrx
  obtain ⟨⟨new, n, fl⟩, hcon, hq⟩ := Option.bind_eq_some_iff.1 ha
  clear ha
  have ha := hq
  clear hq
  dsimp only at ha
  obtain ⟨k1, k2, k3, k4⟩ := content_sound (P := P) H hry hcon
  obtain ⟨arr, k5, k6, k7⟩ := k4 (min n len) (Nat.min_le_left _ _)
  have hcopy : ∀ (A : Option Addr) (cap : Nat) (w' : World), a.eval x = .slice A len cap → (match A with | some b => (storeCells b arr.toList).run P w | none => .ok () w) = .ok () w' → (execOp a.eval o).run P w = .ok (.value (.int .i64 (min n len : Nat))) w' := fun A cap w' he hs => by
    rw [hrun, he]
    simp only [builtin, Builtin.copy_, hts', List.getElem?_toArray, List.getElem?_cons_zero, List.getElem?_cons_succ, Sem.run_bind, run_underlying hu, Result.andThen_ok, k1, run_sizeT hn, Nat.min_def, k5 w (fun _ _ => rfl)]
    have hmin : (if n ≤ len then n else len) = min n len := rfl
    simp only [hmin, k5 w (fun _ _ => rfl), Result.andThen_ok]
    cases A with
    | none => simp at hs; subst hs; simp [goInt]
    | some b => simp only at hs; simp [hs, goInt]
  split at ha
  · rename_i h0
    simp only [Option.some.injEq, Prod.mk.injEq] at ha
    obtain ⟨rfl, rfl⟩ := ha
    have hX : ∃ A cap, a.eval x = .slice A len cap := by
      simp only [VRep] at hrx
      rcases hrx with ⟨_, h, rfl⟩ | ⟨_, l, _, ⟨rfl, b, h⟩ | ⟨cap, h, _⟩⟩
      · exact ⟨_, _, h⟩
      · exact ⟨_, _, h⟩
      · exact ⟨_, _, h⟩
    obtain ⟨A, cap, hA⟩ := hX
    have harr0 : arr.toList = [] := by
      have h9 := VReps.length k6
      rw [h0, Nat.zero_mul, List.take_zero, List.length_nil] at h9
      exact List.length_eq_zero_iff.1 h9.symm
    have r := hcopy A cap w hA (by rw [harr0]; cases A <;> rfl)
    rw [h0] at r
    exact ⟨_, _, w, m, r, .inl rfl, vr_int, H, Tr.refl _ _ _ _ _, Nat.le_refl _, Nat.le_refl _, Nat.le_refl _⟩
  rename_i h0
  split at ha <;> (try (cases ha; done))
  rename_i hcnd
  obtain ⟨rfl, rfl⟩ := hcnd
  obtain ⟨ob, hob⟩ : ∃ ob, rdObj s.h id ep = some ob := by
    cases hob : rdObj s.h id ep with
    | none => simp [hob] at ha
    | some ob => exact ⟨ob, rfl⟩
  simp only [hob] at ha
  split at ha <;> (try (cases ha; done))
  rename_i hcnd2
  obtain ⟨hfit, hrw⟩ := hcnd2
  simp only [Option.some.injEq, Prod.mk.injEq] at ha
  obtain ⟨rfl, rfl⟩ := ha
  obtain ⟨f1, f2⟩ := rdObj_some hob
  subst f2
  simp only [VRep] at hrx
  rcases hrx with ⟨h, _⟩ | ⟨_, l, hl, ⟨h, _⟩ | ⟨cap, he, hlc, hcap⟩⟩
  · cases h
  · subst h; simp at h0
  have hml : min n len * sz' ≤ len * sz' := Nat.mul_le_mul_right _ (Nat.min_le_right _ _)
  have hmn : min n len * sz' ≤ n * sz' := Nat.mul_le_mul_right _ (Nat.min_le_left _ _)
  obtain ⟨w', r1, r2, r3⟩ := put_rel (P := P) (off := off) H f1 hl hrw (by rw [List.length_take]; omega) k6 k7
  refine ⟨_, _, w', m, hcopy _ _ w' he r1, .inl rfl, vr_int, r2, r3, Nat.min_le_left _ _, ?_, by simp [stObj]⟩
  simp only [stObj]; split
  · exact Nat.le_refl _
  · exact Nat.min_le_left _ _
theorem e_clr {c : Call} {t e : TypeId} {x : Operand} {z : Value} {zs : List AV} (ho : o.op = .call c) (hc : c.callee = .builtin .clear) (hxs : c.args.toList = [x]) (hts : c.argTypes.toList = [t])
    (hu : P.underlying t = some (.slice e)) (hz : zeroT P e = some z) (hzs : cVals z.cells.toList = some zs) (hne : zs ≠ []) {x' : Opd} (hx : cOpd x = some x') (ht : TRep m ts a) (H : HRel m (lk s.h) w)
    (ha : aop (evO ts) s (.clr zs x') = some (v, s')) : EOk P o a w m s s' v := by
  have hrx := vrep_opd ht hx
  have hrun := run_builtin (P := P) (w := w) (a := a) ho hc
  have hts' : c.argTypes[0]? = some t := by
    have : c.argTypes.toList[0]? = some t := by rw [hts]; rfl
    simpa using this
  rw [args_one hxs] at hrun
  simp only [aop] at ha
  split at ha <;> (try (cases ha; done))
  rename_i nl id ep sz' off len hk
  rw [hk] at hrx
  obtain ⟨k1, k2⟩ := vreps_vals (m := m) hzs
  split at ha
  · rename_i h0
    subst h0
    simp only [Option.some.injEq, Prod.mk.injEq] at ha
    obtain ⟨rfl, rfl⟩ := ha
    have hX : ∃ A cap, a.eval x = .slice A 0 cap := by
      simp only [VRep] at hrx
      rcases hrx with ⟨_, h, _⟩ | ⟨_, l, _, ⟨_, b, h⟩ | ⟨cap, h, _⟩⟩
      · exact ⟨_, _, h⟩
      · exact ⟨_, _, h⟩
      · exact ⟨_, _, h⟩
    obtain ⟨A, cap, hA⟩ := hX
    have r : (execOp a.eval o).run P w = .ok (.value (.tuple #[])) w := by
      rw [hrun, hA]
      cases A <;> simp [builtin, Builtin.clear_, hts', run_underlying hu]
    exact ⟨_, _, w, m, r, .inl rfl, by simp only [VRep, und]; exact ⟨_, rfl, vreps_nil⟩, H, Tr.refl _ _ _ _ _, Nat.le_refl _, Nat.le_refl _, Nat.le_refl _⟩
  rename_i h0
  split at ha <;> (try (cases ha; done))
  rename_i hcnd
  obtain ⟨rfl, hsz⟩ := hcnd
  obtain ⟨ob, hob⟩ : ∃ ob, rdObj s.h id ep = some ob := by
    cases hob : rdObj s.h id ep with
    | none => simp [hob] at ha
    | some ob => exact ⟨ob, rfl⟩
  simp only [hob] at ha
  split at ha <;> (try (cases ha; done))
  rename_i hcnd2
  obtain ⟨hfit, hrw⟩ := hcnd2
  simp only [Option.some.injEq, Prod.mk.injEq] at ha
  obtain ⟨rfl, rfl⟩ := ha
  obtain ⟨f1, f2⟩ := rdObj_some hob
  subst f2
  simp only [VRep] at hrx
  rcases hrx with ⟨h, _⟩ | ⟨_, l, hl, ⟨h, _⟩ | ⟨cap, he, hlc, hcap⟩⟩
  · cases h
  · exact absurd h h0
  have hzl : (zrep len zs).length = len * sz' := by rw [hsz]; unfold zrep; split <;> simp_all
  have hpos : 0 < z.cells.size := by
    have := VReps.length k1
    have := List.length_pos_iff.2 hne
    simp at *; omega
  obtain ⟨w', r1, r2, r3⟩ := put_rel (P := P) (off := off) H f1 hl hrw (by rw [hzl]; exact hfit) (zeroCells_vreps k1 hne len) (zeroCells_one hpos k2 len)
  have r : (execOp a.eval o).run P w = .ok (.value (.tuple #[])) w' := by
    rw [hrun, he]
    cases len with
    | zero => exact absurd rfl h0
    | succ n => simp [builtin, Builtin.clear_, hts', run_underlying hu, run_zero hz, r1]
  refine ⟨_, _, w', m, r, .inl rfl, by simp only [VRep, und]; exact ⟨_, rfl, vreps_nil⟩, r2, r3, Nat.min_le_left _ _, ?_, by simp [stObj]⟩
  simp only [stObj]; split
  · exact Nat.le_refl _
  · exact Nat.min_le_left _ _
theorem bytes_list {b : ByteArray} : b.toList = b.data.toList := by rw [ByteArray.toList_eq]
theorem e_csb {t t' e : TypeId} {x : Operand} (ho : o.op = .convert t t' x) (hu : P.underlying t = some .string) (hu' : P.underlying t' = some (.slice e)) (hu2 : P.underlying e = some (.int .u8)) {x' : Opd} (hx : cOpd x = some x') (ht : TRep m ts a) (H : HRel m (lk s.h) w) (hwa : s.wa ≤ s.h.length)
    (ha : aop (evO ts) s (.csb x') = some (v, s')) : EOk P o a w m s s' v := by
  have hr := vrep_opd ht hx
  simp only [aop] at ha
  split at ha <;> simp at ha
  rename_i b hk
  obtain ⟨rfl, rfl⟩ := ha
  rw [hk] at hr
  simp only [VRep] at hr
  generalize hcap : b.size + (w.tape w.drawn (.appendCap b.size 0 e)) % (2 ^ 63 - b.size) = cap
  have hle : b.size ≤ cap := by omega
  obtain ⟨arr, harrE⟩ : ∃ arr : Array Value, b.data.map (fun x => (.int .u8 x.toNat : Value)) ++ Array.replicate (cap - b.size) (.int .u8 0) = arr := ⟨_, rfl⟩
  have hbs : b.data.size = b.size := rfl
  have hsz : arr.size = cap := by rw [← harrE]; simp [hbs]; omega
  have harr : arr.toList = (b.toList.map fun x => (.int .u8 x.toNat : Value)) ++ List.replicate (cap - b.size) (.int .u8 0) := by rw [← harrE]; simp [bytes_list]
  let w' : World := { w with drawn := w.drawn + 1, heap := w.heap.push (.cells arr e (arr.size, arr.size + 1)) }
  have hal := alloc_rel (o := csbO b) (w' := w') (vals := b.toList.map fun x => (.int .u8 x.toNat : Value)) (fr := (arr.size, arr.size + 1)) H ⟨rfl, rfl, rfl⟩ rfl rfl (VReps.map _ _ _ fun x _ => vr_int) (by simp [Value.oneCell']) harr (by simp [csbO, AV.scalar]) s.wl hwa (noFzE _)
  refine ⟨_, .slice (some ⟨w.heap.size, 0, none⟩) b.size cap, w', _, ?_, .inl rfl, ?_, hal.1, hal.2, Nat.le_refl _, Nat.le_refl _, by simp [newObj]⟩
  · have hfz : (w.drew.alloc (.cells arr e (0, 0))).freeze { block := w.heap.size, off := arr.size } 1 = w' := by
      unfold World.freeze
      simp only [World.alloc, World.drew, w', Nat.one_ne_zero, if_false]
      congr 1
      apply Array.ext_getElem?
      intro k
      rw [Array.getElem?_modify, Array.getElem?_push, Array.getElem?_push]
      by_cases hk : k = w.heap.size
      · subst hk; simp
      · simp [hk]; intro h; exact absurd h.symm hk
    have hsh : ∀ A : World, (A.alloc (.cells arr e (0, 0))).shape? A.heap.size = some (e, arr.size) := fun A => by rw [World.shape?, show (A.alloc (.cells arr e (0, 0))).heap = A.heap.push (.cells arr e (0, 0)) from rfl, Array.getElem?_push]; simp
    have hdw : w.drew.heap.size = w.heap.size := rfl
    have hsh2 := hsh w.drew
    rw [hdw] at hsh2
    unfold execOp
    simp only [ho, hr, convert, Sem.run_bind, run_underlying hu, run_underlying hu', run_underlying hu2, Result.andThen_ok, Conv.stringToBytes, run_choose_drew, Question.forced, Question.cut, Sem.run_pure, Bool.false_eq_true, if_false, hcap, newRow, run_newObj_alloc, markStringish, run_shape, harrE, hdw, hsh2, run_freeze, hfz]
  · simp only [VRep]
    exact .inr ⟨trivial, _, Mp.put_same _ _ _ _, .inr ⟨cap, by simp, hle, by simp [hsz]⟩⟩

theorem run_forbytes {m : Mp} {P : Program} {w : World} {f : Value → ByteArray → Sem (ForInStep ByteArray)} (hf : ∀ n s, f (.int .u8 n) s = pure (ForInStep.yield (s.push (UInt8.ofNat n.toNat)))) : ∀ (as : List AV) (vs : List Value) (l : List UInt8) (s0 : ByteArray), VReps m as vs → bytesA as = some l →
    (forIn vs s0 f).run P w = .ok ⟨s0.data ++ l.toArray⟩ w
  | [], vs, l, s0, h, e => by
    simp only [VReps] at h
    subst h
    simp only [bytesA, Option.some.injEq] at e
    subst e
    simp
  | a :: as, vs, l, s0, h, e => by
    obtain ⟨v, vs', rfl, h1, h2⟩ := h
    unfold bytesA at e
    split at e <;> (try (cases e; done))
    · rename_i hx; cases hx
    rename_i n r hx
    simp only [List.cons.injEq] at hx
    obtain ⟨rfl, rfl⟩ := hx
    obtain ⟨l', h3, rfl⟩ := map_some e
    simp only [VRep] at h1
    subst h1
    have ih := run_forbytes (P := P) (w := w) hf as vs' l' (s0.push (UInt8.ofNat n.toNat)) h2 h3
    simp only [List.forIn_cons, hf, Sem.run_bind, Sem.run_pure, Result.andThen_ok, ih]
    simp [ByteArray.push]

theorem e_cbs {t t' e : TypeId} {x : Operand} (ho : o.op = .convert t t' x) (hu : P.underlying t = some (.slice e)) (hu' : P.underlying t' = some .string) (hu2 : P.underlying e = some (.int .u8)) {x' : Opd} (hx : cOpd x = some x') (ht : TRep m ts a) (H : HRel m (lk s.h) w)
    (ha : aop (evO ts) s (.cbs x') = some (v, s')) : EOk P o a w m s s' v := by
  have hr := vrep_opd ht hx
  simp only [aop] at ha
  obtain ⟨u, hu3, ha⟩ := map_some ha
  simp only [Prod.mk.injEq] at ha
  obtain ⟨rfl, rfl⟩ := ha
  have hY : ∃ A len cap, a.eval x = .slice A len cap := by
    cases hk : evO ts x' <;> rw [hk] at hu3 hr <;> simp [acbs, content] at hu3 <;> simp only [VRep] at hr
    · rcases hr with ⟨_, h, _⟩ | ⟨_, l, _, ⟨_, b, h⟩ | ⟨cap, h, _⟩⟩ <;> exact ⟨_, _, _, h⟩
    · rcases hr with ⟨_, h⟩ | ⟨_, b, h⟩ <;> exact ⟨_, _, _, h⟩
  have hcon : ∃ r l, content 1 s (evO ts x') = some r ∧ bytesA r.1 = some l ∧ u = .str ⟨l.toArray⟩ := by
    cases hk : evO ts x' <;> rw [hk] at hu3 <;> (try (simp [acbs, content] at hu3; done))
    all_goals
      simp only [acbs] at hu3
      obtain ⟨r, h1, h2⟩ := Option.bind_eq_some_iff.1 hu3
      obtain ⟨l, h3, rfl⟩ := map_some h2
      exact ⟨r, l, h1, h3, rfl⟩
  obtain ⟨⟨new, n, fl⟩, l, hcon, hl, rfl⟩ := hcon
  obtain ⟨A, len, cap, hY⟩ := hY
  rw [hY] at hr
  obtain ⟨k1, k2, k3, k4⟩ := content_sound (P := P) H hr hcon
  obtain ⟨arr, k5, k6, k7⟩ := k4 n (Nat.le_refl _)
  rw [List.take_of_length_le (by omega)] at k6
  have hlen : len = n := by simpa [Builtin.lenOf] using k1
  subst hlen
  have k8 := k5 w (fun _ _ => rfl)
  refine ⟨_, .string ⟨l.toArray⟩, w, m, ?_, .inl rfl, by simp only [VRep], H, Tr.refl _ _ _ _ _, Nat.le_refl _, Nat.le_refl _, Nat.le_refl _⟩
  unfold execOp
  simp only [ho, hY, convert, Sem.run_bind, run_underlying hu, run_underlying hu', run_underlying hu2, Result.andThen_ok, Conv.bytesToString]
  cases A with
  | none =>
    simp only [Builtin.firstCells, Sem.run_pure, Result.ok.injEq, and_true] at k8
    subst k8
    have hn : new = [] := by have := VReps.length k6; exact List.length_eq_zero_iff.1 (by simpa using this)
    subst hn
    simp only [bytesA, Option.some.injEq] at hl
    subst hl
    simp only [Sem.run_pure, Result.andThen_ok]
    rfl
  | some b =>
    simp only [Builtin.firstCells, Nat.mul_one] at k8
    simp only [Sem.run_bind, k8, Result.andThen_ok]
    rw [← Array.forIn_toList, run_forbytes (fun _ _ => rfl) new arr.toList l _ k6 hl]
    simp only [Result.andThen_ok, Sem.run_pure]
    simp

theorem noFz_freeze {lo hi n : Nat} (h : NoFz (lo, hi) n) : NoFz (if lo == hi then (n, n + 1) else (min lo n, max hi (n + 1))) n := by
  split
  · exact noFzE n
  · rename_i hne
    have hne' : lo ≠ hi := by simpa using hne
    rcases h with h | h
    · exact absurd h hne'
    · exact Or.inr (by simp only at h ⊢; omega)
theorem e_csc {t t' e e' : TypeId} {x : Operand} (ho : o.op = .convert t t' x) (hu : P.underlying t = some (.slice e')) (hu' : P.underlying t' = some (.slice e)) (hu2 : P.underlying e = some (.int .u8)) (htt : (t == t') = true) {x' : Opd} (hx : cOpd x = some x') (ht : TRep m ts a) (H : HRel m (lk s.h) w) (hwl : s.wl ≤ s.h.length)
    (ha : aop (evO ts) s (.csc x') = some (v, s')) : EOk P o a w m s s' v := by
  have hr := vrep_opd ht hx
  simp only [aop] at ha
  split at ha <;> (try (cases ha; done))
  rename_i id ep sz off len hk
  split at ha <;> (try (cases ha; done))
  rename_i ob hob
  split at ha <;> (try (cases ha; done))
  rename_i hc
  obtain ⟨hrw, hlen⟩ := hc
  simp only [Option.some.injEq, Prod.mk.injEq] at ha
  obtain ⟨rfl, rfl⟩ := ha
  obtain ⟨f1, f2⟩ := rdObj_some hob
  subst f2
  rw [hk] at hr
  have hr0 := hr
  simp only [VRep] at hr
  rcases hr with ⟨h, _⟩ | ⟨_, l, hl, ⟨h, _⟩ | ⟨cap, he, hlc, hcap⟩⟩
  · cases h
  · exact absurd h hlen
  obtain ⟨cs, ty, ⟨lo, hi⟩, g1, g2, g3, g4, g5⟩ := H.cells id ob l f1 hl
  have hb := (H.dom _ _ _ hl).2
  have hw : (w.freeze { block := l.b, off := cs.size } 1).heap[l.b]? = some (.cells cs ty (if lo == hi then (cs.size, cs.size + 1) else (min lo cs.size, max hi (cs.size + 1)))) := by
    unfold World.freeze
    simp only [Nat.one_ne_zero, if_false]
    rw [Array.getElem?_modify, if_pos rfl, g1]; rfl
  have hoth : ∀ k, k ≠ l.b → (w.freeze { block := l.b, off := cs.size } 1).heap[k]? = w.heap[k]? := fun k hk => by
    unfold World.freeze
    simp only [Nat.one_ne_zero, if_false]
    rw [Array.getElem?_modify, if_neg (fun h => hk h.symm)]
  have hsz : (w.freeze { block := l.b, off := cs.size } 1).heap.size = w.heap.size := by
    unfold World.freeze
    simp only [Nat.one_ne_zero, if_false, Array.size_modify]
  have hrel := write_rel (w' := w.freeze { block := l.b, off := cs.size } 1) (o' := ob) (t := min s.wl id) (u := s.wa) H ⟨rfl, rfl, rfl⟩ f1 hl hrw hrw rfl g1 hsz hw (noFz_freeze (g2 hrw)) hoth rfl g4 g5 (H.fl id ob f1) (Nat.min_le_right _ _) (fun _ n _ _ h => h)
  have hset : s.h.set id ob = s.h := by
    apply List.ext_getElem?
    intro i
    rw [List.getElem?_set]
    by_cases hi : id = i
    · subst hi
      rw [if_pos rfl, if_pos (lk_lt f1)]
      exact f1.symm
    · rw [if_neg hi]
  rw [hset] at hrel
  refine ⟨_, .slice (some ⟨l.b, l.base + off, none⟩) len cap, _, m, ?_, .inl rfl, by rw [← he]; exact hr0, hrel.1, hrel.2, Nat.min_le_left _ _, Nat.le_refl _, Nat.le_refl _⟩
  unfold execOp
  have hsh : w.shape? l.b = some (ty, cs.size) := by rw [World.shape?, g1]
  simp only [ho, he, convert, Sem.run_bind, run_underlying hu, run_underlying hu', run_underlying hu2, Result.andThen_ok, htt, markStringish, run_shape, hsh, run_freeze, Sem.run_pure]
end
end Go.Proofs.Ytaekgifbehoipaa.Eva
