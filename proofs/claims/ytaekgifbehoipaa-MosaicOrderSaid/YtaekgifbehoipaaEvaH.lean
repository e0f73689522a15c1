/- The operations that make memory, and those that write into it. Conditions stand in each lemma. -/
import Derived.Test.YtaekgifbehoipaaEvaG
namespace Go.Proofs.Ytaekgifbehoipaa.Eva
open Go
set_option linter.unusedVariables false
set_option linter.unusedSimpArgs false

section
variable {P : Program} {o : Oper} {i : I} {ts : List AV} {a : Act} {m : Mp} {hp : Hp} {w : World} {s s' : Mem} {v : AV}

/-- What an operation that makes an object shows. -/
def NOk (P : Program) (o : Oper) (a : Act) (w : World) (m : Mp) (s s' : Mem) (v : AV) : Prop :=
  ∃ ob c arr ty vals spare, s' = newObj s ob ∧ ob.ep = 0 ∧ (execOp a.eval o).run P w = .ok (.value c) (w.alloc (.cells arr ty (0, 0))) ∧ VReps m ob.cs vals ∧ (∀ u ∈ vals, u.oneCell' = true) ∧
    arr.toList = vals ++ spare ∧ (ob.fl = true → ∀ c ∈ ob.cs, c.scalar = true) ∧ ∀ m' : Mp, m' s.h.length 0 = some ⟨w.heap.size, 0, arr.size⟩ → VRep m' v c

theorem all_scalar {l : List AV} (h : l.all AV.scalar = true) : ∀ c ∈ l, c.scalar = true := by simpa using h

theorem n_new {e : TypeId} (ho : o.op = .alloc e) {z : Value} (hz : zeroT P e = some z) {zs : List AV} (hzs : cVals z.cells.toList = some zs) (ha : aop (evO ts) s (.new zs) = some (v, s')) : NOk P o a w m s s' v := by
  simp only [aop, Option.some.injEq, Prod.mk.injEq] at ha
  obtain ⟨rfl, rfl⟩ := ha
  obtain ⟨k1, k2⟩ := vreps_vals (m := m) hzs
  refine ⟨_, .pointer (some ⟨w.heap.size, 0, none⟩), z.cells, e, z.cells.toList, [], rfl, rfl, ?_, k1, k2, by simp, fun h => all_scalar h, fun m' hm => ?_⟩
  · unfold execOp
    simp [ho, Instr.alloc, run_zero hz, newVar, newRow]
  · simp only [VRep]; exact ⟨_, hm, by simp⟩

theorem n_box {e : TypeId} {x : Operand} (ho : o.op = .box e x) {x' : Opd} (hx : cOpd x = some x') (ht : TRep m ts a) (ha : aop (evO ts) s (.box x') = some (v, s')) : NOk P o a w m s s' v := by
  simp only [aop] at ha
  split at ha
  · cases ha
  rename_i hc
  simp only [Option.some.injEq, Prod.mk.injEq] at ha
  obtain ⟨rfl, rfl⟩ := ha
  obtain ⟨k1, k2⟩ := vrep_cells (vrep_opd ht hx) (by simpa using hc)
  refine ⟨_, .pointer (some ⟨w.heap.size, 0, none⟩), (a.eval x).cells, e, (a.eval x).cells.toList, [], rfl, rfl, ?_, k1, k2, by simp, fun h => all_scalar h, fun m' hm => ?_⟩
  · unfold execOp
    simp [ho, Instr.box, newVar, newRow]
  · simp only [VRep]; exact ⟨_, hm, by simp⟩

theorem run_buildSlice {t e : TypeId} {len n : Nat} (hu : P.underlying t = some (.slice e)) (hn : sizeT P e = some n) (hlim : ¬ len * n > 2 ^ 24) {z : Array Value} (hz : (if len * n = 0 then some #[] else (zeroT P e).map (·.cells)) = some z) (parts : Array (Nat × Value)) {out : Array Value}
    (hf : Instr.fill (fun i => some (i * n, n)) ((Array.range (len * n)).map (z[· % z.size]!)) parts.toList = some out) : (Instr.buildSlice t len parts).run P w = .ok (.slice (some ⟨w.heap.size, 0, none⟩) len len) (w.alloc (.cells out e)) := by
  have hlim' : ¬ 16777216 < len * n := by simpa using hlim
  by_cases h0 : len * n = 0
  · simp only [h0, if_true, Option.some.injEq] at hz
    subst hz
    have h0' : len = 0 ∨ n = 0 := by simpa [Nat.mul_eq_zero] using h0
    rw [h0] at hf
    have hl0 : ¬ (0 : Nat) > 2 ^ 24 := by decide
    unfold Instr.buildSlice
    simp only [Sem.run_bind, run_underlying hu, Result.andThen_ok, run_sizeT hn, h0, if_true, Sem.run_pure, hl0, if_false, hf]
    simp [newRow]
  · simp only [h0, if_false] at hz
    obtain ⟨zz, hzz, rfl⟩ := map_some hz
    unfold Instr.buildSlice
    simp only [Sem.run_bind, run_underlying hu, Result.andThen_ok, run_sizeT hn, h0, if_false, Sem.run_pure, run_zero hzz, hlim, hf]
    simp [newRow]

theorem n_mks {t e : TypeId} {len n : Nat} {ps : Array (Nat × Operand)} (ho : o.op = .buildSlice t len ps) (hu : P.underlying t = some (.slice e)) (hn : sizeT P e = some n) (hlim : ¬ len * n > 2 ^ 24) {z : Array Value} (hz : (if len * n = 0 then some #[] else (zeroT P e).map (·.cells)) = some z)
    {zs : List AV} (hzs : cVals ((Array.range (len * n)).map (z[· % z.size]!)).toList = some zs) {qs : List (Nat × Nat × Opd)} (hq : cParts (fun i => some (i * n, n)) ps.toList = some qs) (ht : TRep m ts a)
    (ha : aop (evO ts) s (.mks zs n len qs) = some (v, s')) : NOk P o a w m s s' v := by
  simp only [aop] at ha
  obtain ⟨cs, hl, e'⟩ := map_some ha
  simp only [Prod.mk.injEq] at e'
  obtain ⟨rfl, rfl⟩ := e'
  obtain ⟨k1, k2⟩ := vreps_vals (m := m) hzs
  obtain ⟨out, o1, o2, o3, o4⟩ := fill_lay ht ps.toList qs zs cs _ hq hl k1 k2
  have hsz : out.size = len * n := by rw [o4]; simp
  refine ⟨_, .slice (some ⟨w.heap.size, 0, none⟩) len len, out, e, out.toList, [], rfl, rfl, ?_, o2, o3, by simp, fun h => all_scalar h, fun m' hm => ?_⟩
  · have hm : (ps.map fun (i, x) => (i, a.eval x)).toList = ps.toList.map fun x => (x.1, a.eval x.2) := by simp
    rw [← hm] at o1
    unfold execOp
    simp only [ho, Sem.run_bind, run_buildSlice hu hn hlim hz _ o1, Result.andThen_ok, Sem.run_pure]
  · simp only [VRep]
    exact .inr ⟨trivial, _, hm, .inr ⟨len, by simp, Nat.le_refl _, by simp [hsz]⟩⟩

theorem zrep_get {zs : List AV} (hz : zs ≠ []) : ∀ (l i : Nat), (zrep l zs)[i]? = if i < l * zs.length then zs[i % zs.length]? else none := by
  have gen : ∀ (l i : Nat), ((List.replicate l zs).flatten)[i]? = if i < l * zs.length then zs[i % zs.length]? else none := by
    have hp : 0 < zs.length := List.length_pos_iff.2 hz
    intro l
    induction l with
    | zero => intro i; simp
    | succ l ih =>
      intro i
      rw [List.replicate_succ, List.flatten_cons, List.getElem?_append]
      by_cases hi : i < zs.length
      · rw [if_pos hi, if_pos (by rw [Nat.succ_mul]; omega), Nat.mod_eq_of_lt hi]
      · rw [if_neg hi, ih]
        have e1 : (i - zs.length) % zs.length = i % zs.length := by
          conv => rhs; rw [← Nat.sub_add_cancel (Nat.le_of_not_lt hi)]
          simp
        rw [e1, Nat.succ_mul]
        by_cases hc : i - zs.length < l * zs.length
        · rw [if_pos hc, if_pos (by omega)]
        · rw [if_neg hc, if_neg (by omega)]
  intro l i
  unfold zrep
  split
  · rename_i z
    have := gen l i
    simp only [List.getElem?_replicate, List.length_singleton, Nat.mul_one, Nat.mod_one]
    by_cases hi : i < l <;> simp [hi]
  · exact gen l i

theorem wrap_id {n : Int} (h0 : 0 ≤ n) (h1 : n < 2 ^ 63) : IntKind.i64.wrap n = n := by
  have e : n % (2 ^ 64 : Int) = n := Int.emod_eq_of_lt h0 (by omega)
  simp only [IntKind.wrap, IntKind.bits, IntKind.signed]
  simp only [e]
  simp
  omega

theorem n_mksl {t e : TypeId} {x y : Operand} {inf : TypeInfo} {z : Value} {zs : List AV} (ho : o.op = .makeSlice t x y) (hu : P.underlying t = some (.slice e)) (hi : P.info? e = some inf) (hz : inf.zero = some z) (hzs : cVals z.cells.toList = some zs) (hlen : zs.length = inf.size) (hs0 : inf.size ≠ 0)
    {x' y' : Opd} (hx : cOpd x = some x') (hy : cOpd y = some y') (ht : TRep m ts a) (ha : aop (evO ts) s (.mksl zs inf.bytes x' y') = some (v, s')) : NOk P o a w m s s' v := by
  have hrx := vrep_opd ht hx
  have hry := vrep_opd ht hy
  simp only [aop] at ha
  split at ha <;> (try (cases ha; done))
  rename_i l c hk1 hk2
  split at ha <;> simp at ha
  rename_i hc
  obtain ⟨c0, c1, c2, c3, c4⟩ := hc
  obtain ⟨rfl, rfl⟩ := ha
  rw [hk1] at hrx
  rw [hk2] at hry
  simp only [VRep] at hrx hry
  obtain ⟨k1, k2⟩ := vreps_vals (m := m) hzs
  have hzsz : z.cells.size = inf.size := by rw [← hlen, VReps.length k1]; simp
  unfold appLim at c2
  have hcb : c.toNat ≤ 2 ^ 40 := Nat.le_trans (Nat.le_mul_of_pos_right _ (Nat.pos_of_ne_zero c3)) c2
  have hc' : c ≤ 2 ^ 40 := by omega
  have w1 : IntKind.i64.wrap c = c := wrap_id (by omega) (by omega)
  have w2 : IntKind.i64.wrap l = l := wrap_id (by omega) (by omega)
  have hbig : ¬ ((inf.bytes : Int) * c > 2 ^ 48) := by
    have : (inf.bytes : Int) * c = ((c.toNat * inf.bytes : Nat) : Int) := by
      rw [Int.natCast_mul, Int.toNat_of_nonneg (by omega), Int.mul_comm]
    rw [this]; omega
  let arr : Array Value := (Array.range (c.toNat * inf.size)).map (z.cells[· % z.cells.size]!)
  have harr : ∀ j, j < c.toNat * inf.size → arr.toList[j]? = some z.cells[j % z.cells.size]! := fun j hj => by simp [arr, hj]
  have hle : l.toNat * inf.size ≤ c.toNat * inf.size := Nat.mul_le_mul_right _ (by omega)
  have hsize : arr.size = c.toNat * inf.size := by simp [arr]
  refine ⟨_, .slice (some ⟨w.heap.size, 0, none⟩) l.toNat c.toNat, arr, e, arr.toList.take (l.toNat * inf.size), arr.toList.drop (l.toNat * inf.size), rfl, rfl, ?_, ?_, ?_, by simp, ?_, fun m' hm => ?_⟩
  · have hneg : ¬ c < 0 := by omega
    have hneg2 : ¬ l < 0 := by omega
    have hlt : ¬ l > c := by omega
    have hn0 : c.toNat * inf.size = 0 → c = 0 := fun h => by
      rcases Nat.mul_eq_zero.1 h with h | h
      · omega
      · exact absurd h hs0
    have hinf : ∀ w : World, (typeInfo e).run P w = .ok inf w := fun w => by simp [typeInfo, hi]
    have hzv : ∀ w : World, (zeroValue e).run P w = .ok z w := fun w => run_zero (P := P) (by simp [zeroT, hi, hz])
    have hso : ∀ w : World, (sizeOf e).run P w = .ok inf.size w := fun w => run_sizeT (by simp [sizeT, hi]) w
    unfold execOp
    by_cases h0 : c = 0
    · subst h0
      have hl0 : l = 0 := by omega
      subst hl0
      have hr0 : Array.range 0 = #[] := rfl
      simp [ho, hrx, hry, Instr.makeSlice, run_underlying hu, asInt, asIntOf, hinf, w1, newRow, hso, arr, hr0]
    · have hnz : ¬ (c.toNat = 0 ∨ inf.size = 0) := fun h => by
        rcases h with h | h
        · omega
        · exact hs0 h
      have hbig' : ¬ (281474976710656 < (inf.bytes : Int) * c) := by simpa using hbig
      simp [ho, hrx, hry, Instr.makeSlice, run_underlying hu, asInt, asIntOf, hinf, w1, w2, hneg, hneg2, hlt, hbig', newRow, hso, hzv, hnz, arr]
      intro h
      exact absurd (hn0 h) h0
  · refine vreps_iff.2 ⟨?_, fun i av vv e1 e2 => ?_⟩
    · show (zrep l.toNat zs).length = _
      have hl2 : (arr.toList.take (l.toNat * inf.size)).length = l.toNat * inf.size := by
        rw [List.length_take, Array.length_toList, hsize, Nat.min_eq_left hle]
      rw [hl2]
      have : (zrep l.toNat zs).length = l.toNat * zs.length := by
        unfold zrep; split <;> simp
      rw [this, hlen]
    · rw [zrep_get c4, hlen] at e1
      split at e1
      · rename_i hi'
        rw [List.getElem?_take, if_pos hi', harr i (by omega)] at e2
        simp only [Option.some.injEq] at e2
        subst e2
        obtain ⟨u, hu1, hu2⟩ := VReps.get k1 e1
        have hm : i % z.cells.size < z.cells.size := Nat.mod_lt _ (by omega)
        have : z.cells[i % z.cells.size]! = u := by
          rw [getElem!_pos z.cells _ hm]
          have h3 : z.cells.toList[i % z.cells.size]? = some u := by rw [hzsz]; exact hu1
          simp [hm] at h3
          exact h3
        rw [this]; exact hu2
      · cases e1
  · intro u hu'
    have hu2 := List.mem_of_mem_take hu'
    obtain ⟨j, hj, e1⟩ := List.getElem_of_mem hu2
    have hj' : j < c.toNat * inf.size := by simpa [hsize] using hj
    have e2 := harr j hj'
    rw [List.getElem?_eq_getElem hj, e1] at e2
    simp only [Option.some.injEq] at e2
    subst e2
    have hm : j % z.cells.size < z.cells.size := Nat.mod_lt _ (by omega)
    rw [getElem!_pos z.cells _ hm]
    exact k2 _ (by simp)
  · intro hf cc hcc
    have hall := all_scalar hf
    obtain ⟨j, hj, e1⟩ := List.getElem_of_mem hcc
    have := zrep_get c4 l.toNat j
    rw [List.getElem?_eq_getElem hj, e1] at this
    split at this
    · exact hall cc (List.mem_of_getElem? this.symm)
    · cases this
  · simp only [VRep]
    exact .inr ⟨trivial, _, hm, .inr ⟨c.toNat, by simp, by omega, by simp [hsize, hlen]⟩⟩

/-- What an operation that writes shows. -/
def EOk (P : Program) (o : Oper) (a : Act) (w : World) (m : Mp) (s s' : Mem) (v : AV) : Prop :=
  ∃ nx c w' m', (execOp a.eval o).run P w = .ok nx w' ∧ (nx = .value c ∨ (nx = .skip ∧ c = undef)) ∧ VRep m' v c ∧ HRel m' (lk s'.h) w' ∧ Tr s'.wl s'.wa m (lk s.h) w m' (lk s'.h) w' ∧ s'.wl ≤ s.wl ∧ s'.wa ≤ s.wa ∧ s.h.length ≤ s'.h.length

theorem bnd_wr {n : Nat} {cs new : List AV} {off : Nat} (h : off + new.length ≤ cs.length) (h1 : ∀ c ∈ cs, bndV n c = true) (h2 : ∀ c ∈ new, bndV n c = true) : ∀ c ∈ wr cs off new, bndV n c = true := by
  rw [wr_eq h]
  intro c hc
  simp only [List.mem_append] at hc
  rcases hc with (hc | hc) | hc
  · exact h1 c (List.mem_of_mem_take hc)
  · exact h2 c hc
  · exact h1 c (List.mem_of_mem_drop hc)
theorem scalar_wr {cs new : List AV} {off : Nat} (h : off + new.length ≤ cs.length) (h1 : ∀ c ∈ cs, c.scalar = true) (h2 : ∀ c ∈ new, c.scalar = true) : ∀ c ∈ wr cs off new, c.scalar = true := by
  rw [wr_eq h]
  intro c hc
  simp only [List.mem_append] at hc
  rcases hc with (hc | hc) | hc
  · exact h1 c (List.mem_of_mem_take hc)
  · exact h2 c hc
  · exact h1 c (List.mem_of_mem_drop hc)

/-- Cells are stored into a row of which none is frozen. -/
theorem run_storeN (P : Program) (g o : Nat) (t : TypeId) {fz : Nat × Nat} : ∀ (vs : List Value) (i : Nat) (cur : Array Value) (w : World), w.heap[g]? = some (.cells cur t fz) → NoFz fz cur.size → o + i + vs.length ≤ cur.size → (∀ v ∈ vs, v.oneCell' = true) →
    (storeCells ⟨g, o, none⟩ vs i).run P w = .ok () (w.setRow g (cur.toList.take (o + i) ++ vs ++ cur.toList.drop (o + i + vs.length)).toArray)
  | [], i, cur, w, hg, _, _, _ => by
    simp only [storeCells, List.append_nil, List.length_nil, Nat.add_zero, List.take_append_drop, Array.toArray_toList]
    rw [setRow_self w g cur t fz hg]
    rfl
  | v :: rest, i, cur, w, hg, hz, hl, h1 => by
    have hi : o + i < cur.size := by simp at hl; omega
    have hadd : (⟨g, o, none⟩ : Addr).add i = ⟨g, o + i, none⟩ := by unfold Addr.add; split <;> simp_all
    have hcell : w.cell? ⟨g, o + i, none⟩ = some cur[o + i] := by simp [World.cell?, hg, hi]
    have hfro : w.frozen? ⟨g, o + i, none⟩ = false := by
      have := hz.no hi
      obtain ⟨lo, hi2⟩ := fz
      simp only [World.frozen?, hg, Bool.and_eq_false_iff, decide_eq_false_iff_not]
      by_cases c : lo ≤ o + i
      · exact .inr fun h => this ⟨c, h⟩
      · exact .inl c
    have hst : (store ((⟨g, o, none⟩ : Addr).add i) v).run P w = .ok () (w.setRow g (cur.setIfInBounds (o + i) v)) := by
      rw [hadd, run_store P w _ v _ (h1 v (by simp)), hcell]
      simp [hfro, setCell_eq_setRow w g (o + i) cur t fz v hg]
    have ih := run_storeN P g o t rest (i + 1) (cur.setIfInBounds (o + i) v) (w.setRow g (cur.setIfInBounds (o + i) v)) (setRow_heap w g cur _ t fz hg) (by simpa using hz) (by simp at hl ⊢; omega) (fun x hx => h1 x (by simp [hx]))
    simp only [storeCells, Sem.run_bind, hst, Result.andThen_ok, ih, setRow_setRow]
    congr 3
    have e := list_seg_step cur.toList (o + i) v rest (by simp at hl ⊢; omega)
    simpa [Array.toList_setIfInBounds, Nat.add_assoc] using e

theorem put_rel {id : Nat} {ob : Ob} {l : Loc} {off : Nat} {new : List AV} {N : List Value} (H : HRel m (lk s.h) w) (hob : lk s.h id = some ob) (hl : m id ob.ep = some l) (hrw : ob.rw = true) (hfit : off + new.length ≤ ob.cs.length)
    (hN : VReps m new N) (h1 : ∀ u ∈ N, u.oneCell' = true) :
    ∃ w', (storeCells ⟨l.b, l.base + off, none⟩ N).run P w = .ok () w' ∧ HRel m (lk (stObj s id ob off new).h) w' ∧ Tr (stObj s id ob off new).wl (stObj s id ob off new).wa m (lk s.h) w m (lk (stObj s id ob off new).h) w' := by
  obtain ⟨cs, t, fr, g1, g2, g3, g4, g5⟩ := H.cells id ob l hob hl
  have hNl := VReps.length hN
  have hst := run_storeN P l.b (l.base + off) t N 0 cs w g1 (g2 hrw) (by omega) h1
  simp only [Nat.add_zero] at hst
  refine ⟨_, hst, ?_⟩
  have hcsz : ((cs.toList.take (l.base + off) ++ N ++ cs.toList.drop (l.base + off + N.length)).toArray).size = cs.size := by simp; omega
  unfold stObj
  refine write_rel H (env_setRow (b := l.b)) hob hl hrw (o' := { ob with cs := wr ob.cs off new, fl := ob.fl && new.all AV.scalar }) hrw rfl g1 (by simp) (setRow_heap w l.b cs _ t fr g1) (g2 hrw) (fun k hk => setRow_other w l.b k _ hk) hcsz (by simp only; rw [wr_length hfit]; exact g4) ?_ ?_ (Nat.min_le_right _ _) ?_
  · intro j c hj
    simp only at hj
    rw [wr_eq hfit] at hj
    have hjl : j < ob.cs.length := by
      have := (List.getElem?_eq_some_iff.1 hj).1
      simp at this; omega
    -- where does the cell come from
    by_cases c1 : j < off
    · have e1 : ob.cs[j]? = some c := by
        rw [List.append_assoc, List.getElem?_append_left (by simp; omega), List.getElem?_take, if_pos c1] at hj
        exact hj
      obtain ⟨u, u1, u2, u3⟩ := g5 j c e1
      refine ⟨u, ?_, u2, u3⟩
      have u1' : cs.toList[l.base + j]? = some u := by simpa using u1
      simp only [List.getElem?_toArray]
      rw [List.append_assoc, List.getElem?_append_left (by simp; omega), List.getElem?_take, if_pos (by omega)]
      exact u1'
    · by_cases c2 : j < off + new.length
      · have e1 : new[j - off]? = some c := by
          rw [List.getElem?_append_left (by simp; omega), List.getElem?_append_right (by simp; omega)] at hj
          simpa [Nat.min_eq_left (show off ≤ ob.cs.length by omega)] using hj
        obtain ⟨u, u1, u2⟩ := VReps.get hN e1
        refine ⟨u, ?_, u2, h1 u (List.mem_of_getElem? u1)⟩
        simp only [List.getElem?_toArray]
        rw [List.getElem?_append_left (by simp; omega), List.getElem?_append_right (by simp; omega)]
        have : l.base + j - (cs.toList.take (l.base + off)).length = j - off := by simp; omega
        rw [this]; exact u1
      · have e1 : ob.cs[j]? = some c := by
          rw [List.getElem?_append_right (by simp; omega), List.getElem?_drop] at hj
          have : off + new.length + (j - (ob.cs.take off ++ new).length) = j := by simp; omega
          rw [this] at hj; exact hj
        obtain ⟨u, u1, u2, u3⟩ := g5 j c e1
        refine ⟨u, ?_, u2, u3⟩
        have u1' : cs.toList[l.base + j]? = some u := by simpa using u1
        simp only [List.getElem?_toArray]
        rw [List.getElem?_append_right (by simp; omega), List.getElem?_drop]
        have : l.base + off + N.length + (l.base + j - (cs.toList.take (l.base + off) ++ N).length) = l.base + j := by simp; omega
        rw [this]; exact u1'
  · intro hf
    simp only [Bool.and_eq_true] at hf
    exact scalar_wr hfit (H.fl id ob hob hf.1) (all_scalar hf.2)
  · intro hu n hn1 hn2 hb
    refine bnd_wr hfit hb fun c hc => ?_
    by_cases hs : new.all AV.scalar = true
    · exact bndV_scalar (all_scalar hs c hc)
    · simp only [hs] at hu
      simp at hu
      omega

theorem e_st {t : TypeId} {n : Nat} {x y : Operand} (ho : o.op = .store t x y) (hn : sizeT P t = some n) {x' y' : Opd} (hx : cOpd x = some x') (hy : cOpd y = some y') (ht : TRep m ts a) (H : HRel m (lk s.h) w)
    (ha : aop (evO ts) s (.st n x' y') = some (v, s')) : EOk P o a w m s s' v := by
  have hrx := vrep_opd ht hx
  have hry := vrep_opd ht hy
  simp only [aop] at ha
  split at ha <;> (try (cases ha; done))
  rename_i id ep off hk
  split at ha <;> (try (cases ha; done))
  rename_i ob hob
  split at ha <;> (try (cases ha; done))
  rename_i hc
  obtain ⟨c1, c2, c3, c4⟩ := hc
  simp only [Option.some.injEq, Prod.mk.injEq] at ha
  obtain ⟨rfl, rfl⟩ := ha
  obtain ⟨f1, f2⟩ := rdObj_some hob
  rw [hk] at hrx
  simp only [VRep] at hrx
  obtain ⟨l, hl, he⟩ := hrx
  rw [← f2] at hl
  obtain ⟨k1, k2⟩ := vrep_cells hry c3
  obtain ⟨w', r1, r2, r3⟩ := put_rel (P := P) H f1 hl c4 (by rw [c1]; exact c2) k1 k2
  have hsz : (a.eval y).cells.size = n := by rw [← Array.length_toList, ← VReps.length k1, c1]
  refine ⟨.skip, undef, w', m, ?_, .inr ⟨rfl, rfl⟩, vrep_und.2 rfl, r2, r3, Nat.min_le_left _ _, ?_, by simp [stObj]⟩
  · unfold execOp
    simp [ho, he, Instr.storeAt, Instr.sureAddr, storeVar, run_sizeT hn, hsz, r1]
  · simp only [stObj]; split
    · exact Nat.le_refl _
    · exact Nat.min_le_left _ _
end
end Go.Proofs.Ytaekgifbehoipaa.Eva
