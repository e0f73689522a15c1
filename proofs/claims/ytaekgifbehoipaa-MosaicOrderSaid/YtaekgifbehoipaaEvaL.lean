/- A step of a region, and a region in its text's order. Conditions stand in each lemma. -/
import Derived.Test.YtaekgifbehoipaaEvaK
namespace Go.Proofs.Ytaekgifbehoipaa.Eva
open Go
set_option linter.unusedVariables false
set_option linter.unusedSimpArgs false

abbrev CallF := Nat → List AV → List Ob → Option CallR

/-- What a call leaves. -/
def Left (m : Mp) (h : List Ob) (w : World) (r : CallR) : Ending → World → Prop := fun e w' =>
  ∃ m' v, e = .returned v ∧ VRep m' r.1 v ∧ HRel m' (lk r.2.1) w' ∧ Tr r.2.2.1 r.2.2.2 m (lk h) w m' (lk r.2.1) w' ∧ r.2.2.1 ≤ h.length ∧ r.2.2.2 ≤ h.length ∧ h.length ≤ r.2.1.length

def Sound (P : Program) (call : CallF) : Prop :=
  ∀ (f : Nat) (args : List AV) (h : List Ob) (r : CallR), call f args h = some r → ∀ (m : Mp) (w : World) (vs : Array Value), HRel m (lk h) w → VReps m args vs.toList →
    (∃ fn, P.funcs[f]? = some fn ∧ fn.body.isNone = false ∧ (fn.name == "runtime.NumGoroutine") = false) ∧ Calls P f vs w (Left m h w r)

/-- The state of the abstract machine and the model's, since a moment. -/
def SRel (m0 : Mp) (h0 : List Ob) (w0 : World) (st : St) (a : Act) (w : World) : Prop :=
  ∃ m, TRep m st.ts a ∧ a.defers = [] ∧ HRel m (lk st.h) w ∧ Tr st.wl st.wa m0 (lk h0) w0 m (lk st.h) w ∧ st.wl ≤ h0.length ∧ st.wa ≤ h0.length ∧ h0.length ≤ st.h.length

theorem TRep.mono {m m' : Mp} {ts : List AV} {a : Act} (h : TRep m ts a) (hm : m.le m') : TRep m' ts a := VReps.mono hm _ _ h

section
variable {P : Program} {o : Oper} {ops : Array Oper} {call : CallF} {m0 : Mp} {h0 : List Ob} {w0 : World}

theorem vrep_bool {m : Mp} {x : AV} {b : Bool} (h : VRep m x (.bool b)) : x = .bool b := by
  cases x <;> simp only [VRep] at h <;> (try (cases h; done))
  case bool c => simp at h; rw [h]
  case agg => obtain ⟨_, h, _⟩ := h; cases h
  case tup => obtain ⟨_, h, _⟩ := h; cases h
  case sl => rcases h with ⟨_, h, _⟩ | ⟨_, _, _, ⟨_, _, h⟩ | ⟨_, h, _⟩⟩ <;> cases h
  case s0 => rcases h with ⟨_, h⟩ | ⟨_, _, h⟩ <;> cases h
  case ptr => obtain ⟨_, _, h⟩ := h; cases h
  case fn => obtain ⟨_, h, _⟩ := h; cases h

theorem yields_eq {m : Mp} {ts : List AV} {a : Act} (ht : TRep m ts a) (d : Nat) (want : Bool) :
    ((match a.tmps[d]? with | some (.bool b) => some b | _ => none) == some want) = (match ts.getD d und with | .bool b => b == want | _ => false) := by
  have h := vrep_tmp ht d
  cases hv : a.tmps[d]? with
  | none =>
    have e : a.tmps.getD d undef = undef := by simp [Array.getD_eq_getD_getElem?, hv]
    rw [e] at h
    cases hx : ts.getD d und <;> rw [hx] at h <;> simp only [VRep] at h <;> (try rfl)
    simp [undef] at h
  | some u =>
    have e : a.tmps.getD d undef = u := by simp [Array.getD_eq_getD_getElem?, hv]
    rw [e] at h
    cases u with
    | bool b => rw [vrep_bool h]; simp
    | _ =>
      cases hx : ts.getD d und <;> rw [hx] at h <;> simp only [VRep] at h <;> (try rfl)
      all_goals (first | (cases h; done) | rfl)

/-- A code piece that stands for an operation. -/
structure Stands (P : Program) (ops : Array Oper) (o : Oper) (c : Ins) : Prop where
  dst : c.dst = o.dst
  op : c.op = .bad ∨ cOp P o.op = some c.op
  g : (c.op = .bad ∧ c.g = none) ∨ ∀ (m : Mp) (ts : List AV) (a : Act), TRep m ts a → Region.wanted o (yielded ops a.tmps) = wantedA ts c.g

theorem stands_cIns : Stands P ops o (cIns P ops o) := by
  have hop : (cOp P o.op).getD .bad = .bad ∨ cOp P o.op = some ((cOp P o.op).getD .bad) := by
    cases cOp P o.op with
    | none => exact .inl rfl
    | some i => exact .inr rfl
  unfold cIns
  split
  · rename_i hg
    exact ⟨rfl, hop, .inr fun m ts a ht => by simp [Region.wanted, hg, wantedA]⟩
  · rename_i j want hg
    split
    · rename_i d hd
      refine ⟨rfl, hop, .inr fun m ts a ht => ?_⟩
      simp only [Region.wanted, hg, wantedA, yielded, hd, Option.bind_some]
      exact yields_eq ht d want
    · exact ⟨rfl, .inl rfl, .inl ⟨rfl, rfl⟩⟩

theorem run_enter {c : Call} {f : Operand} {a : Act} {w : World} (ho : o.op = .call c) (hc : c.callee = .value f) {g : Nat} {caps : Array Value} (hf : a.eval f = .func (.func g) #[] caps) {fn : Func} (h1 : P.funcs[g]? = some fn) (h2 : fn.body.isNone = false) (h3 : (fn.name == "runtime.NumGoroutine") = false) :
    (execOp a.eval o).run P w = .ok (.enter g (c.args.map a.eval ++ caps)) w := by
  unfold execOp
  simp only [ho, Sem.run_bind]
  unfold resolve
  simp only [hc, hf, Deferred.ofValue, Sem.run_pure, Result.andThen_ok, invoke, callFunc, Sem.run_bind, run_program, h1, h3, h2, Bool.false_eq_true, if_false, Array.empty_append]

theorem cOp_call {op : Op} {f : Opd} {xs : List Opd} (hcop : cOp P op = some (.call f xs)) : ∃ cl fo, op = .call cl ∧ cl.callee = .value fo ∧ cOpd fo = some f ∧ cOpds cl.args.toList = some xs := by
  cases op <;> simp only [cOp] at hcop
  case call cl =>
    cases hcal : cl.callee <;> simp only [hcal] at hcop
    case value fo =>
      split at hcop
      · replace hcop := bind_some hcop
        obtain ⟨_, _, hcop⟩ := hcop
        simp only [pure, Option.some.injEq, reduceCtorEq] at hcop
      · simp [failure] at hcop
      replace hcop := bind_some hcop
      obtain ⟨f', hf', hcop⟩ := hcop
      replace hcop := bind_some hcop
      obtain ⟨xs', hx', hcop⟩ := hcop
      simp only [pure, Option.some.injEq, I.call.injEq] at hcop
      obtain ⟨rfl, rfl⟩ := hcop
      exact ⟨cl, fo, rfl, hcal, hf', hx'⟩
    case builtin b =>
      exfalso
      unfold cBuiltin at hcop
      repeat' first
        | (cases hcop; done)
        | (simp only [pure, Option.some.injEq, reduceCtorEq] at hcop; done)
        | (simp [failure] at hcop; done)
        | (replace hcop := bind_some hcop; obtain ⟨_, _, hcop⟩ := hcop)
        | split at hcop
    case invoke => cases hcop
  case makeFunc fn first cap =>
    exfalso
    cases fn <;> simp only [cOp] at hcop <;> (try (cases hcop; done))
    split at hcop <;> (try (cases hcop; done))
    replace hcop := bind_some hcop
    obtain ⟨_, _, hcop⟩ := hcop
    simp only [pure, Option.some.injEq, reduceCtorEq] at hcop
  all_goals
    exfalso
    (try unfold cBin at hcop)
    (try unfold cSlice at hcop)
    repeat' first
      | (cases hcop; done)
      | (simp only [pure, Option.some.injEq, reduceCtorEq] at hcop; done)
      | (simp [failure] at hcop; done)
      | (replace hcop := bind_some hcop; obtain ⟨_, _, hcop⟩ := hcop)
      | (replace hcop := map_some hcop; obtain ⟨_, _, hcop⟩ := hcop; cases hcop; done)
      | split at hcop

/-- One step, from its own moment on. -/
theorem ins_step (hS : Sound P call) {c : Ins} (hc : Stands P ops o c) {st st' : St} (he : aIns call c st = some st') {a : Act} {w : World} {m : Mp} (ht : TRep m st.ts a) (hd : a.defers = []) (H : HRel m (lk st.h) w) (e1 : st.wl ≤ st.h.length) (e2 : st.wa ≤ st.h.length)
    {K : Act → World → Prop} {Q : Exit → Act → World → Prop}
    (hK : ∀ a' w' m', TRep m' st'.ts a' → a'.defers = [] → HRel m' (lk st'.h) w' → Tr st'.wl st'.wa m (lk st.h) w m' (lk st'.h) w' → st'.wl ≤ st.wl → st'.wa ≤ st.wa → st.h.length ≤ st'.h.length →
      (c.q = true → c.op.isC = true → ∀ id ob, lk st.h id = some ob → lk st'.h id = some ob) → K a' w') : if Region.wanted o (yielded ops a.tmps) then o.wp P a w K Q else K (a.put o.dst undef) w := by
  have hdp : ∀ (d : Option Tmp) v, (a.put d v).defers = [] := fun d v => by cases d <;> exact hd
  unfold aIns at he
  by_cases hw : wantedA st.ts c.g = true
  · rw [if_pos hw] at he
    have hbad : c.op ≠ .bad := by
      intro hb
      rw [hb] at he
      simp only [aop, Option.map_none] at he
      split at he <;> cases he
    have hcop : cOp P o.op = some c.op := hc.op.resolve_left hbad
    have hwanted : Region.wanted o (yielded ops a.tmps) = true := by rw [hc.g.resolve_left (fun h => hbad h.1) m st.ts a ht]; exact hw
    rw [if_pos hwanted]
    by_cases hic : c.op.isC = true
    · -- a call
      cases hcc : c.op <;> simp [hcc, I.isC] at hic
      rename_i f xs
      rw [hcc] at he hcop
      simp only at he
      split at he <;> (try (cases he; done))
      rename_i g caps hf
      obtain ⟨r, hr, he⟩ := Option.bind_eq_some_iff.1 he
      split at he <;> (try (cases he; done))
      rename_i hq
      simp only [Option.some.injEq] at he
      subst he
      -- the model's call
      obtain ⟨cl, fo, hop, hcal, hf', hx'⟩ := cOp_call hcop
      have hfr := vrep_opd ht hf'
      rw [hf] at hfr
      simp only [VRep] at hfr
      obtain ⟨cv, hev, hcv⟩ := hfr
      have hargs := vreps_opds ht hx'
      obtain ⟨⟨fn, n1, n2, n3⟩, hcalls⟩ := hS g _ st.h r hr m w (cl.args.map a.eval ++ cv) H (by rw [Array.toList_append, Array.toList_map]; exact hargs.append hcv)
      unfold Oper.wp
      rw [run_enter hop hcal hev n1 n2 n3]
      refine hcalls.mono fun e w' hleft => ?_
      obtain ⟨m', v, rfl, hv, H', T', t1, t2, t3⟩ := hleft
      refine hK _ _ m' ?_ (hdp _ _) H' ?_ ?_ ?_ t3 ?_
      · rw [hc.dst]; exact trep_put (ht.mono T'.ext) hv _
      · exact T'.mono (Nat.min_le_right _ _) (Nat.min_le_right _ _)
      · exact Nat.min_le_left _ _
      · exact Nat.min_le_left _ _
      · intro hqt _ id ob hid
        refine T'.same id ob ?_ hid
        have : ¬ r.2.2.1 < st.h.length := fun h => hq ⟨hqt, h⟩
        have h2 := lk_lt hid
        omega
    · have hic' : c.op.isC = false := by simpa using hic
      have he' : ∃ r, aop (evO st.ts) ⟨st.h, st.wl, st.wa⟩ c.op = some r ∧ st' = { ts := putT st.ts c.dst r.1, h := r.2.h, wl := r.2.wl, wa := r.2.wa } := by
        cases hcc : c.op <;> simp [hcc, I.isC] at hic' <;> simp only [hcc] at he <;> (split at he <;> (try (cases he; done))) <;> (obtain ⟨r, h1, h2⟩ := map_some he; exact ⟨r, h1, h2.symm⟩)
      obtain ⟨⟨v, s'⟩, hao, rfl⟩ := he'
      have hnq : c.q = true → c.op.isC = true → ∀ id ob, lk st.h id = some ob → lk s'.h id = some ob := fun _ h => by rw [hic'] at h; cases h
      obtain ⟨k1, k2, k3⟩ := op_sound (w := w) (m := m) (hp := lk st.h) hcop hic' ht hao
      by_cases hN : c.op.isN = true
      · obtain ⟨ob, cv, arr, ty, vals, spare, rfl, n2, n3, n4, n5, n6, n7, n8⟩ := k2 hN
        have hal := alloc_rel (w' := w.alloc (.cells arr ty (0, 0))) (o := ob) H ⟨rfl, rfl, rfl⟩ rfl n2 n4 n5 n6 n7 st.wl e2
        unfold Oper.wp
        rw [n3]
        refine hK _ _ _ ?_ (hdp _ _) hal.1 hal.2 (Nat.le_refl _) (Nat.le_refl _) ?_ hnq
        · rw [hc.dst]; exact trep_put (ht.mono hal.2.ext) (n8 _ (Mp.put_same _ _ _ _)) _
        · simp [newObj]
      · by_cases hL : c.op.loud = true
        · obtain ⟨nx, cv, w', m', r1, r2, r3, r4, r5, r6, r7, r8⟩ := k3 hL H e1 e2
          have hfin : K (a.put o.dst cv) w' :=
            hK _ _ m' (by rw [hc.dst]; exact trep_put (ht.mono r5.ext) r3 _) (hdp _ _) r4 r5 r6 r7 r8 hnq
          unfold Oper.wp
          rw [r1]
          rcases r2 with rfl | ⟨rfl, rfl⟩
          · exact hfin
          · exact hfin
        · obtain ⟨rfl, cv, q1, q2⟩ := k1 (by simpa using hL) (by simpa using hN) H (fun _ _ _ _ _ _ _ h => h)
          unfold Oper.wp
          rw [q1]
          exact hK _ _ m (by rw [hc.dst]; exact trep_put ht q2 _) (hdp _ _) H (Tr.refl _ _ _ _ _) (Nat.le_refl _) (Nat.le_refl _) (Nat.le_refl _) hnq
  · rw [if_neg hw] at he
    simp only [Option.some.injEq] at he
    subst he
    have hwanted : ¬ Region.wanted o (yielded ops a.tmps) = true := by
      rcases hc.g with ⟨_, h⟩ | h
      · rw [h] at hw; simp [wantedA] at hw
      · rw [h m st.ts a ht]; exact hw
    rw [if_neg hwanted]
    exact hK _ _ m (by rw [hc.dst]; exact trep_put ht (vrep_und.2 rfl) _) (hdp _ _) H (Tr.refl _ _ _ _ _) (Nat.le_refl _) (Nat.le_refl _) (Nat.le_refl _) (fun _ _ _ _ h => h)

/-- One step. -/
theorem ins_sound (hS : Sound P call) {c : Ins} (hc : Stands P ops o c) {st st' : St} (he : aIns call c st = some st') {a : Act} {w : World} (hr : SRel m0 h0 w0 st a w) {K : Act → World → Prop} {Q : Exit → Act → World → Prop}
    (hK : ∀ a' w', SRel m0 h0 w0 st' a' w' → K a' w') : if Region.wanted o (yielded ops a.tmps) then o.wp P a w K Q else K (a.put o.dst undef) w := by
  obtain ⟨m, ht, hd, H, T, e1, e2, e3⟩ := hr
  exact ins_step hS hc he ht hd H (Nat.le_trans e1 e3) (Nat.le_trans e2 e3) fun a' w' m' ht' hd' H' T' f1 f2 f3 _ =>
    hK a' w' ⟨m', ht', hd', H', (T.mono f1 f2).trans T', Nat.le_trans f1 e1, Nat.le_trans f2 e2, Nat.le_trans e3 f3⟩
end
end Go.Proofs.Ytaekgifbehoipaa.Eva
