/- Loads from and stores into a variable that lies in memory as one whole block: each as one step of a walk. Any program. -/
import Derived.Test.YtehgapcmngdcnaaWMore
import Derived.Laws.Rows
import Derived.Laws.CopyRow
import Derived.Laws.CopyOwn
namespace Go.Proofs.Ytehgapcmngdcnaa.Evt
open Go.RowKit Go.Proofs.YtehgapcmngdcnaaW.PrintWords Go.Proofs.YtehgapcmngdcnaaW.PrintLast Go.Proofs.YtehgapcmngdcnaaW.PrintMore
set_option linter.unusedVariables false
section
variable {P : Program} {ops : Array Oper} {rest : List Oper} {o : Oper} {a : Act} {w : World} {Q : Exit → Act → World → Prop}
theorem add_at (g off j : Nat) : (⟨g, off, none⟩ : Addr).add j = ⟨g, off + j, none⟩ := by unfold Addr.add; split <;> simp_all
theorem run_ld (ty : TypeId) (g off : Nat) {t : TypeId} {cs : Array Value} {fr : Nat × Nat} {d : TypeDesc} (vs : List Value) (hg : w.heap[g]? = some (.cells cs t fr))
    (hu : P.underlying ty = some d) (hd : (match d with | .struct _ | .array _ _ => true | _ => false) = true) (hi : (P.info? ty).map (·.size) = some vs.length) (hv : (cs.toList.drop off).take vs.length = vs) :
    (loadVar ty ⟨g, off, none⟩).run P w = .ok (.agg vs.toArray) w := by
  have hl : (loadCells ⟨g, off, none⟩ vs.length).run P w = .ok vs.toArray w :=
    run_loadCells_list (P := P) w ⟨g, off, none⟩ vs (fun j v hj => by
      rw [add_at, cell_of_row w g (off + j) cs t fr hg]
      have hjl : j < vs.length := (List.getElem?_eq_some_iff.1 hj).1
      rw [← hv, List.getElem?_take, if_pos hjl, List.getElem?_drop] at hj
      simpa using hj)
  cases hq : P.info? ty with
  | none => simp [hq] at hi
  | some i =>
    have hs : i.size = vs.length := by simpa [hq] using hi
    have hagg : (isAgg ty).run P w = .ok true w := by
      unfold isAgg
      rw [Sem.run_bind, run_underlying hu w]
      cases d <;> simp_all
    simp [loadVar, Sem.run_bind, hagg, sizeOf, typeInfo, hq, hs, hl]
/-- A struct is loaded, from somewhere in a block that is known. -/
theorem ld_row (hgd : o.guard = none) {N : Tmp} (_hN : o.dst = some N) (ty : TypeId) (x : Operand) (ho : o.op = .load ty x) (g off : Nat) (hx : a.eval x = .pointer (some ⟨g, off, none⟩))
    {t : TypeId} {cs : Array Value} {fr : Nat × Nat} {d : TypeDesc} (vs : List Value) (hg : w.heap[g]? = some (.cells cs t fr)) (hu : P.underlying ty = some d)
    (hd : (match d with | .struct _ | .array _ _ => true | _ => false) = true) (hi : (P.info? ty).map (·.size) = some vs.length) (hv : (cs.toList.drop off).take vs.length = vs)
    (h : wpList P ops Q rest (a.put o.dst (.agg vs.toArray)) w) : wpList P ops Q (o :: rest) a w := by
  refine wpList_plain hgd fun K hK => ?_
  unfold Oper.wp execOp
  simp only [ho, hx, Instr.loadAt, Instr.sureAddr, Sem.run_bind, Sem.run_pure, Result.andThen_ok, run_ld ty g off vs hg hu hd hi hv]
  exact hK _ _ h
/-- One cell is loaded. -/
theorem ld_cell (hgd : o.guard = none) {N : Tmp} (_hN : o.dst = some N) (ty : TypeId) (x : Operand) (ho : o.op = .load ty x) (g off : Nat) (hx : a.eval x = .pointer (some ⟨g, off, none⟩))
    {t : TypeId} {cs : Array Value} {fr : Nat × Nat} {d : TypeDesc} (v : Value) (hg : w.heap[g]? = some (.cells cs t fr)) (hu : P.underlying ty = some d)
    (hd : (match d with | .struct _ | .array _ _ => true | _ => false) = false) (hv : cs[off]? = some v)
    (h : wpList P ops Q rest (a.put o.dst v) w) : wpList P ops Q (o :: rest) a w := by
  refine wpList_plain hgd fun K hK => ?_
  have hagg : (isAgg ty).run P w = .ok false w := by
    unfold isAgg
    rw [Sem.run_bind, run_underlying hu w]
    cases d <;> simp_all
  have hc : w.cell? ⟨g, off, none⟩ = some v := by rw [cell_of_row w g off cs t fr hg]; exact hv
  have hr : (loadVar ty ⟨g, off, none⟩).run P w = .ok v w := by
    unfold loadVar
    rw [Sem.run_bind, hagg]
    simp [run_load, hc]
  unfold Oper.wp execOp
  simp only [ho, hx, Instr.loadAt, Instr.sureAddr, Sem.run_bind, Sem.run_pure, Result.andThen_ok, hr]
  exact hK _ _ h
/-- A value is stored into a part of a block that is known: a new world, told by what it holds. -/
theorem st_row (hgd : o.guard = none) (hN : o.dst = none) (ty : TypeId) (p : Tmp) (x : Operand) (ho : o.op = .store ty (.tmp p) x) (g off : Nat) (hp : a.eval (.tmp p) = .pointer (some ⟨g, off, none⟩))
    {t : TypeId} {cs : Array Value} (vs : List Value) (v : Value) (hv : a.eval x = v) (hvs : v.cells.toList = vs) (hi : (P.info? ty).map (·.size) = some vs.length) (hg : w.heap[g]? = some (.cells cs t (0, 0)))
    (hl : off + vs.length ≤ cs.size) (h1 : (vs.all fun v => v.oneCell') = true) (cs' : Array Value) (hc : (cs.toList.take off ++ vs ++ cs.toList.drop (off + vs.length)).toArray = cs')
    (h : ∀ w1 : World, w1.heap[g]? = some (.cells cs' t (0, 0)) → (∀ k, k ≠ g → w1.heap[k]? = w.heap[k]?) → (∀ (B : Nat) (w0 : World), Below B w0 w → B ≤ g → Below B w0 w1) → wpList P ops Q rest a w1) : wpList P ops Q (o :: rest) a w := by
  refine wpList_plain hgd fun K hK => ?_
  have hst := run_storeCells_at P g off t vs 0 cs w hg (by simpa using hl) (fun u hu => (List.all_eq_true.1 h1) u hu)
  simp only [Nat.add_zero] at hst
  rw [hc] at hst
  have hsz : v.cells.size = vs.length := by rw [← hvs]; simp
  cases hq : P.info? ty with
  | none => simp [hq] at hi
  | some i =>
    have hs : i.size = vs.length := by simpa [hq] using hi
    have hr : (storeVar ty ⟨g, off, none⟩ v).run P w = .ok () (w.setRow g cs') := by
      simp [storeVar, Sem.run_bind, sizeOf, typeInfo, hq, hs, hsz, hvs, hst]
    have hk := hK a (w.setRow g cs') (h _ (setRow_heap w g cs cs' t (0, 0) hg) (fun k hk => setRow_other w g k cs' hk) (fun B w0 hb hB => below_setRow hb hB _))
    unfold Oper.wp execOp
    simp only [ho, hp, hv, Instr.storeAt, Instr.sureAddr, Sem.run_bind, Sem.run_pure, Result.andThen_ok, hr]
    show K (a.put o.dst undef) _
    rw [hN]
    exact hk
end
end Go.Proofs.Ytehgapcmngdcnaa.Evt
