/- Code, and calls of functions: what the abstract machine answers, the model answers. Conditions stand in each lemma. -/
import Derived.Test.YtaekgifbehoipaaEvaQ
namespace Go.Proofs.Ytaekgifbehoipaa.Eva
open Go
set_option linter.unusedVariables false
set_option linter.unusedSimpArgs false

section
variable {P : Program} {call : CallF} {m0 : Mp} {h0 : List Ob} {w0 : World}

theorem list_sound (hS : Sound P call) {ops : Array Oper} {Q : Exit → Act → World → Prop} {st' : St} (hK : ∀ a' w', SRel m0 h0 w0 st' a' w' → Q .normal a' w') :
    ∀ (l : List Oper) (st : St), aReg call (l.map (cIns P ops)) st = some st' → ∀ (a : Act) (w : World), SRel m0 h0 w0 st a w → wpList P ops Q l a w
  | [], st, he, a, w, hr => by
    simp only [List.map_nil, aReg, Option.some.injEq] at he
    subst he
    exact hK a w hr
  | o :: l, st, he, a, w, hr => by
    simp only [List.map_cons, aReg] at he
    obtain ⟨s1, h1, h2⟩ := Option.bind_eq_some_iff.1 he
    exact wpList_step fun K hKK => ins_sound hS stands_cIns h1 hr fun a' w' hr' => hKK _ _ (list_sound hS hK l s1 h2 a' w' hr')

def exRel : Ex → Exit → Prop
  | .nrm, .normal => True
  | .ex i, .exit j => i = j
  | .rt, .ret => True
  | _, _ => False

/-- What code leaves. -/
def CPost (m0 : Mp) (h0 : List Ob) (w0 : World) (e : Ex) (st : St) : Exit → Act → World → Prop := fun x a w => exRel e x ∧ SRel m0 h0 w0 st a w

variable {E : Nat → Option CF}

theorem loop_unroll {c : Code} {Q : Exit → Act → World → Prop} {a : Act} {w : World}
    (h : ∀ (b : Frame) (k : List Item) (cs : List Frame), ∃ e a' w', Q e a' w' ∧ Arrives P (lone (b.at a (.code c :: .inLoop c :: k)) cs w) b k cs e a' w') : (Code.loop c).wp P Q a w := by
  intro b k cs
  obtain ⟨e, a', w', hq, harr⟩ := h b k cs
  exact ⟨e, a', w', hq, .of_steps (.one step_loop) harr⟩

theorem acode_sound : ∀ (k : Nat), (∀ j, j < k → Sound P (callBy E (acode E j))) → ∀ (c : Code) (st : St) (e : Ex) (st' : St), acode E k (cCode P c) st = some (e, st') → ∀ (m0 : Mp) (h0 : List Ob) (w0 : World) (a : Act) (w : World), SRel m0 h0 w0 st a w → c.wp P (CPost m0 h0 w0 e st') a w := by
  intro k
  induction k using Nat.strongRecOn with
  | _ k ih =>
    intro hS c st e st' he m0 h0 w0 a w hr
    cases k with
    | zero => simp [acode] at he
    | succ k =>
      have ihk := fun c st e st' he m0 h0 w0 a w hr => ih k (by omega) (fun j hj => hS j (by omega)) c st e st' he m0 h0 w0 a w hr
      cases c with
      | skip =>
        simp only [cCode, acode, Option.some.injEq, Prod.mk.injEq] at he
        obtain ⟨rfl, rfl⟩ := he
        exact wp_skip ⟨trivial, hr⟩
      | region id ops d =>
        simp only [cCode] at he
        cases d with
        | false =>
          simp only [cReg, Bool.false_eq_true, if_false, acode] at he
          obtain ⟨s, h1, h2⟩ := Option.map_eq_some_iff.1 he
          simp only [Prod.mk.injEq] at h2
          obtain ⟨rfl, rfl⟩ := h2
          exact wp_region_list (list_sound (hS k (by omega)) (fun a' w' hr' => ⟨trivial, hr'⟩) ops.toList st h1 a w hr)
        | true =>
          cases hc : cReg P ops true with
          | reg l =>
            rw [hc] at he
            simp only [acode] at he
            obtain ⟨s, h1, h2⟩ := Option.map_eq_some_iff.1 he
            simp only [Prod.mk.injEq] at h2
            obtain ⟨rfl, rfl⟩ := h2
            exact draw_sound (hS k (by omega)) hc h1 hr (fun a' w' hr' => ⟨trivial, hr'⟩) id
          | bad => rw [hc] at he; simp [acode] at he
          | _ =>
            exfalso
            simp only [cReg, if_true] at hc
            split at hc <;> cases hc
      | seq x y =>
        simp only [cCode, acode] at he
        obtain ⟨⟨e1, s1⟩, h1, h2⟩ := Option.bind_eq_some_iff.1 he
        refine wp_seq (Code.wp_mono (fun ex a' w' hq => ?_) (ihk x st e1 s1 h1 m0 h0 w0 a w hr))
        obtain ⟨hx, hr'⟩ := hq
        cases e1 <;> cases ex <;> simp only [exRel] at hx <;> simp only at h2
        · exact ihk y s1 e st' h2 m0 h0 w0 a' w' hr'
        · simp only [Option.some.injEq, Prod.mk.injEq] at h2
          obtain ⟨rfl, rfl⟩ := h2
          exact ⟨hx, hr'⟩
        · simp only [Option.some.injEq, Prod.mk.injEq] at h2
          obtain ⟨rfl, rfl⟩ := h2
          exact ⟨trivial, hr'⟩
      | cond c x y =>
        simp only [cCode] at he
        cases hc : cOpd c with
        | none => simp [hc, acode] at he
        | some c' =>
          simp only [hc, acode] at he
          split at he <;> (try (cases he; done))
          rename_i b hb
          have hv : a.eval c = .bool b := by
            obtain ⟨m, ht, _⟩ := hr
            have := vrep_opd ht hc
            rw [hb] at this
            simpa only [VRep] using this
          refine wp_cond hv ?_
          cases b with
          | true => exact ihk x st e st' (by simpa using he) m0 h0 w0 a w hr
          | false => exact ihk y st e st' (by simpa using he) m0 h0 w0 a w hr
      | block id x =>
        simp only [cCode, acode] at he
        obtain ⟨⟨e1, s1⟩, h1, h2⟩ := Option.bind_eq_some_iff.1 he
        refine wp_block (Code.wp_mono (fun ex a' w' hq => ?_) (ihk x st e1 s1 h1 m0 h0 w0 a w hr))
        obtain ⟨hx, hr'⟩ := hq
        cases e1 <;> cases ex <;> simp only [exRel] at hx <;> simp only at h2
        · simp only [Option.some.injEq, Prod.mk.injEq] at h2
          obtain ⟨rfl, rfl⟩ := h2
          exact ⟨trivial, hr'⟩
        · subst hx
          split at h2
          · rename_i hj
            simp only [Option.some.injEq, Prod.mk.injEq] at h2
            obtain ⟨rfl, rfl⟩ := h2
            simp only [Exit.inBlock, hj, if_true]
            exact ⟨trivial, hr'⟩
          · rename_i hj
            simp only [Option.some.injEq, Prod.mk.injEq] at h2
            obtain ⟨rfl, rfl⟩ := h2
            simp only [Exit.inBlock, hj, if_false]
            exact ⟨rfl, hr'⟩
        · simp only [Option.some.injEq, Prod.mk.injEq] at h2
          obtain ⟨rfl, rfl⟩ := h2
          exact ⟨trivial, hr'⟩
      | loop x =>
        -- the rounds, from inside
        have rounds : ∀ j, j ≤ k + 1 → ∀ (st : St) (a : Act) (w : World), acode E j (.loop (cCode P x)) st = some (e, st') → SRel m0 h0 w0 st a w →
            ∀ (b : Frame) (kk : List Item) (cs : List Frame), ∃ ex a' w', CPost m0 h0 w0 e st' ex a' w' ∧ Arrives P (lone (b.at a (.code x :: .inLoop x :: kk)) cs w) b kk cs ex a' w' := by
          intro j
          induction j with
          | zero => intro _ st a w h; simp [acode] at h
          | succ j ihj =>
            intro hj st a w h hr b kk cs
            simp only [acode] at h
            obtain ⟨⟨e1, s1⟩, h1, h2⟩ := Option.bind_eq_some_iff.1 h
            have hw := ih j (by omega) (fun i hi => hS i (by omega)) x st e1 s1 h1 m0 h0 w0 a w hr b (.inLoop x :: kk) cs
            obtain ⟨ex, a', w', ⟨hx, hr'⟩, harr⟩ := hw
            cases e1 <;> cases ex <;> simp only [exRel] at hx <;> simp only at h2
            · obtain ⟨ex2, a2, w2, hq2, harr2⟩ := ihj (by omega) s1 a' w' h2 hr' b kk cs
              exact ⟨ex2, a2, w2, hq2, .of_steps (Steps.trans harr (.one step_inLoop)) harr2⟩
            · simp only [Option.some.injEq, Prod.mk.injEq] at h2
              obtain ⟨rfl, rfl⟩ := h2
              exact ⟨.exit _, a', w', ⟨hx, hr'⟩, .pass (x := .inLoop x) rfl (fun _ _ => .inl (by simp)) harr⟩
            · simp only [Option.some.injEq, Prod.mk.injEq] at h2
              obtain ⟨rfl, rfl⟩ := h2
              exact ⟨.ret, a', w', ⟨trivial, hr'⟩, .pass (x := .inLoop x) rfl (fun _ _ => .inl (by simp)) harr⟩
        simp only [cCode] at he
        exact loop_unroll (rounds (k + 1) (Nat.le_refl _) st a w he hr)
      | exit id =>
        simp only [cCode, acode, Option.some.injEq, Prod.mk.injEq] at he
        obtain ⟨rfl, rfl⟩ := he
        exact wp_exit ⟨rfl, hr⟩
      | ret =>
        simp only [cCode, acode, Option.some.injEq, Prod.mk.injEq] at he
        obtain ⟨rfl, rfl⟩ := he
        exact wp_ret ⟨trivial, hr⟩
      | _ => simp [cCode, acode] at he

/-! ### Results -/
def resOne (tmps : Array Value) : ResultVar → Sem Value
  | .tmp t => pure (tmps.getD t undef)
  | .cell x t => do loadVar t (← asAddr (tmps.getD x undef))
theorem results_eq (fn : Func) (tmps : Array Value) : results fn tmps = (do let vs ← fn.results.mapM (resOne tmps); pure (if h : vs.size = 1 then vs[0] else .tuple vs)) := by
  unfold results
  congr 2

theorem results_sound {m : Mp} {st : St} {a : Act} {w : World} (ht : TRep m st.ts a) (H : HRel m (lk st.h) w) : ∀ (rs : List ResultVar) (l : List RV) (vs : List AV), cRes P rs = some l → rvs st l = some vs →
    ∃ V : List Value, (rs.mapM (resOne a.tmps)).run P w = .ok V w ∧ VReps m vs V
  | [], l, vs, h1, h2 => by
    simp only [cRes, Option.some.injEq] at h1
    subst h1
    simp only [rvs, Option.some.injEq] at h2
    subst h2
    exact ⟨[], by simp, vreps_nil⟩
  | r :: rs, l, vs, h1, h2 => by
    simp only [cRes] at h1
    split at h1 <;> (try (cases h1; done))
    rename_i q ql hq hql
    simp only [Option.some.injEq] at h1
    subst h1
    simp only [rvs] at h2
    split at h2 <;> (try (cases h2; done))
    rename_i u us hu hus
    simp only [Option.some.injEq] at h2
    subst h2
    obtain ⟨V, hV, hVr⟩ := results_sound ht H rs ql us hql hus
    have one : ∃ v, (resOne a.tmps r).run P w = .ok v w ∧ VRep m u v := by
      cases r with
      | tmp t =>
        simp only [cRes1, Option.some.injEq] at hq
        subst hq
        simp only [rv1, Option.some.injEq] at hu
        subst hu
        exact ⟨_, rfl, vrep_tmp ht t⟩
      | cell x t =>
        have hx := vrep_tmp ht x
        simp only [cRes1] at hq
        split at hq <;> (try (cases hq; done))
        · rename_i n hg hn
          simp only [Option.some.injEq] at hq
          subst hq
          simp only [rv1] at hu
          obtain ⟨⟨v', s1⟩, ha, rfl⟩ := Option.map_eq_some_iff.1 hu
          simp only [aop, evO] at ha
          split at ha <;> (try (cases ha; done))
          rename_i id ep off hk
          split at ha <;> (try (cases ha; done))
          rename_i ob hob
          split at ha <;> (try (cases ha; done))
          rename_i hfit
          simp only [Option.some.injEq, Prod.mk.injEq] at ha
          obtain ⟨rfl, rfl⟩ := ha
          rw [hk] at hx
          simp only [VRep] at hx
          obtain ⟨lx, hlx, he⟩ := hx
          obtain ⟨f1, f2⟩ := rdObj_some hob
          rw [← f2] at hlx
          obtain ⟨ws, e1, e2, e3, e4⟩ := H.range f1 hlx hfit
          refine ⟨.agg ws.toArray, ?_, ?_⟩
          · simp only [resOne, he, asAddr, Sem.run_bind, Sem.run_pure, Result.andThen_ok, run_loadN hg hn e1 e4]
          · simp only [VRep]
            exact ⟨_, rfl, by simpa using e2, by simpa using e3⟩
        · rename_i hg
          simp only [Option.some.injEq] at hq
          subst hq
          simp only [rv1] at hu
          obtain ⟨⟨v', s1⟩, ha, rfl⟩ := Option.map_eq_some_iff.1 hu
          simp only [aop, evO] at ha
          split at ha <;> (try (cases ha; done))
          rename_i id ep off hk
          split at ha <;> (try (cases ha; done))
          rename_i ob hob
          split at ha <;> (try (cases ha; done))
          rename_i c hc
          simp only [Option.some.injEq, Prod.mk.injEq] at ha
          obtain ⟨rfl, rfl⟩ := ha
          rw [hk] at hx
          simp only [VRep] at hx
          obtain ⟨lx, hlx, he⟩ := hx
          obtain ⟨f1, f2⟩ := rdObj_some hob
          rw [← f2] at hlx
          have hlen : off + 1 ≤ ob.cs.length := (List.getElem?_eq_some_iff.1 hc).1
          obtain ⟨ws, e1, e2, e3, e4⟩ := H.range f1 hlx hlen
          obtain ⟨cv, hcv, hcr⟩ := VReps.get e2 (i := 0) (a := c) (by rw [List.getElem?_take, if_pos (by omega), List.getElem?_drop]; exact hc)
          exact ⟨cv, by simp only [resOne, he, asAddr, Sem.run_bind, Sem.run_pure, Result.andThen_ok, run_load1 hg (show w.cell? ⟨lx.b, lx.base + off, none⟩ = some cv by simpa using e4 0 cv hcv)], hcr⟩
    obtain ⟨v, hv, hvr⟩ := one
    exact ⟨v :: V, by rw [List.mapM_cons]; simp only [Sem.run_bind, hv, Result.andThen_ok, hV, Sem.run_pure], vreps_cons.2 ⟨hvr, hVr⟩⟩

theorem mkRes_sound {m : Mp} {fn : Func} {st : St} {a : Act} {w : World} (ht : TRep m st.ts a) (H : HRel m (lk st.h) w) {l : List RV} {vs : List AV} (h1 : cRes P fn.results.toList = some l) (h2 : rvs st l = some vs) :
    ∃ v, (results fn a.tmps).run P w = .ok v w ∧ VRep m (mkRes vs) v := by
  obtain ⟨V, hV, hVr⟩ := results_sound ht H fn.results.toList l vs h1 h2
  have hm : (fn.results.mapM (resOne a.tmps)).run P w = .ok V.toArray w := by
    rw [Array.mapM_eq_mapM_toList, Sem.run_map, hV]
    rfl
  rw [results_eq, Sem.run_bind, hm]
  refine ⟨if h : V.toArray.size = 1 then V.toArray[0] else .tuple V.toArray, rfl, ?_⟩
  · cases vs with
    | nil =>
      simp only [VReps] at hVr
      subst hVr
      simp [mkRes, VRep, VReps]
    | cons u us =>
      simp only [VReps] at hVr
      obtain ⟨x, xs, rfl, g1, g2⟩ := hVr
      cases us with
      | nil =>
        simp only [VReps] at g2
        subst g2
        simpa [mkRes] using g1
      | cons u2 us2 =>
        simp only [VReps] at g2
        obtain ⟨x2, xs2, rfl, g3, g4⟩ := g2
        have : ¬ (x :: x2 :: xs2).toArray.size = 1 := by simp
        rw [dif_neg this]
        simp only [mkRes, VRep]
        exact ⟨_, rfl, vreps_cons.2 ⟨g1, vreps_cons.2 ⟨g3, g4⟩⟩⟩

/-! ### What the result does not need is forgotten -/
theorem pickObjs_spec {h : List Ob} : ∀ {σ : List (Nat × Nat)} {l : List Ob}, pickObjs h σ = some l → l.length = σ.length ∧ ∀ (j : Nat) (x : Nat × Nat), σ[j]? = some x → ∃ o, rdObj h x.1 x.2 = some o ∧ o.fl = true ∧ l[j]? = some { o with ep := 0 }
  | [], l, e => by simp [pickObjs] at e; subst e; simp
  | (id, ep) :: σ, l, e => by
    simp only [pickObjs] at e
    split at e <;> (try (cases e; done))
    rename_i o r h1 h2
    split at e <;> (try (cases e; done))
    rename_i hf
    simp only [Option.some.injEq] at e
    subst e
    obtain ⟨k1, k2⟩ := pickObjs_spec h2
    refine ⟨by simp [k1], fun j x hj => ?_⟩
    cases j with
    | zero => simp at hj; subst hj; exact ⟨o, h1, hf, by simp⟩
    | succ j => simpa using k2 j x (by simpa using hj)

mutual
theorem vrep_bnd {m m' : Mp} {n : Nat} (hm : ∀ id ep l, id < n → m id ep = some l → m' id ep = some l) : ∀ (a : AV) (v : Value), bndV n a = true → VRep m a v → VRep m' a v
  | .int _ _, _, _, e | .bool _, _, _, e | .str _, _, _, e | .flt _ _, _, _, e | .np, _, _, e | .nf, _, _, e | .ni, _, _, e | .s0 _, _, _, e => by simpa only [VRep] using e
  | .agg cs, v, hb, e => by
    simp only [VRep] at e ⊢
    simp only [bndV] at hb
    obtain ⟨a, h1, h2, h3⟩ := e
    exact ⟨a, h1, vreps_bnd hm cs _ hb h2, h3⟩
  | .tup cs, v, hb, e => by
    simp only [VRep] at e ⊢
    simp only [bndV] at hb
    obtain ⟨a, h1, h2⟩ := e
    exact ⟨a, h1, vreps_bnd hm cs _ hb h2⟩
  | .sl nl id ep sz off len, v, hb, e => by
    simp only [VRep] at e ⊢
    simp only [bndV] at hb
    rcases e with e | ⟨e, l, h1, h2⟩
    · exact .inl e
    · subst e
      exact .inr ⟨rfl, l, hm _ _ _ (by simpa using hb) h1, h2⟩
  | .ptr id ep off, v, hb, e => by
    simp only [VRep] at e ⊢
    simp only [bndV] at hb
    obtain ⟨l, h1, h2⟩ := e
    exact ⟨l, hm _ _ _ (by simpa using hb) h1, h2⟩
  | .fn f cap, v, hb, e => by
    simp only [VRep] at e ⊢
    simp only [bndV] at hb
    obtain ⟨a, h1, h2⟩ := e
    exact ⟨a, h1, vreps_bnd hm cap _ hb h2⟩
theorem vreps_bnd {m m' : Mp} {n : Nat} (hm : ∀ id ep l, id < n → m id ep = some l → m' id ep = some l) : ∀ (as : List AV) (vs : List Value), bndL n as = true → VReps m as vs → VReps m' as vs
  | [], vs, _, e => by simpa only [VReps] using e
  | a :: r, vs, hb, e => by
    simp only [VReps] at e ⊢
    simp only [bndL, Bool.and_eq_true] at hb
    obtain ⟨v, l, h1, h2, h3⟩ := e
    exact ⟨v, l, h1, vrep_bnd hm a v hb.1 h2, vreps_bnd hm r l hb.2 h3⟩
end

mutual
theorem vrep_ren {m m' : Mp} {n : Nat} {σ : List (Nat × Nat)} (h1 : ∀ id ep l, id < n → m id ep = some l → m' id ep = some l) (h2 : ∀ x l, x ∈ σ → m x.1 x.2 = some l → m' (n + σ.idxOf x) 0 = some l) :
    ∀ (a : AV) (v : Value), (∀ x ∈ refs n a, x ∈ σ) → VRep m a v → VRep m' (ren n σ a) v
  | .int _ _, _, _, e | .bool _, _, _, e | .str _, _, _, e | .flt _ _, _, _, e | .np, _, _, e | .nf, _, _, e | .ni, _, _, e | .s0 _, _, _, e => by simpa only [VRep, ren] using e
  | .agg cs, v, hb, e => by
    simp only [VRep, ren] at e ⊢
    simp only [refs] at hb
    obtain ⟨a, e1, e2, e3⟩ := e
    exact ⟨a, e1, vreps_ren h1 h2 cs _ hb e2, e3⟩
  | .tup cs, v, hb, e => by
    simp only [VRep, ren] at e ⊢
    simp only [refs] at hb
    obtain ⟨a, e1, e2⟩ := e
    exact ⟨a, e1, vreps_ren h1 h2 cs _ hb e2⟩
  | .sl nl id ep sz off len, v, hb, e => by
    simp only [ren]
    split
    · rename_i hc
      simp only [VRep] at e ⊢
      rcases e with e | ⟨e, l, k1, k2⟩
      · exact .inl e
      · subst e
        exact .inr ⟨rfl, l, h1 _ _ _ (by simpa using hc) k1, k2⟩
    · rename_i hc
      simp only [VRep] at e ⊢
      rcases e with ⟨e, _⟩ | ⟨e, l, k1, k2⟩
      · exact absurd (.inl e) hc
      · exact .inr ⟨e, l, h2 (id, ep) l (hb _ (by simp [refs, hc])) k1, k2⟩
  | .ptr id ep off, v, hb, e => by
    simp only [ren]
    split
    · rename_i hc
      simp only [VRep] at e ⊢
      obtain ⟨l, k1, k2⟩ := e
      exact ⟨l, h1 _ _ _ hc k1, k2⟩
    · rename_i hc
      simp only [VRep] at e ⊢
      obtain ⟨l, k1, k2⟩ := e
      exact ⟨l, h2 (id, ep) l (hb _ (by simp [refs, hc])) k1, k2⟩
  | .fn f cap, v, hb, e => by
    simp only [VRep, ren] at e ⊢
    simp only [refs] at hb
    obtain ⟨a, e1, e2⟩ := e
    exact ⟨a, e1, vreps_ren h1 h2 cap _ hb e2⟩
theorem vreps_ren {m m' : Mp} {n : Nat} {σ : List (Nat × Nat)} (h1 : ∀ id ep l, id < n → m id ep = some l → m' id ep = some l) (h2 : ∀ x l, x ∈ σ → m x.1 x.2 = some l → m' (n + σ.idxOf x) 0 = some l) :
    ∀ (as : List AV) (vs : List Value), (∀ x ∈ refsL n as, x ∈ σ) → VReps m as vs → VReps m' (renL n σ as) vs
  | [], vs, _, e => by simpa only [VReps, renL] using e
  | a :: r, vs, hb, e => by
    simp only [VReps, renL] at e ⊢
    simp only [refsL, List.mem_append] at hb
    obtain ⟨v, l, k1, k2, k3⟩ := e
    exact ⟨v, l, k1, vrep_ren h1 h2 a v (fun x hx => hb x (.inl hx)) k2, vreps_ren h1 h2 r l (fun x hx => hb x (.inr hx)) k3⟩
end

mutual
theorem refs_ge {n : Nat} : ∀ (a : AV) (x : Nat × Nat), x ∈ refs n a → n ≤ x.1
  | .int _ _, _, e | .bool _, _, e | .str _, _, e | .flt _ _, _, e | .np, _, e | .nf, _, e | .ni, _, e | .s0 _, _, e => by simp [refs] at e
  | .agg cs, x, e | .tup cs, x, e => by simp only [refs] at e; exact refsL_ge cs x e
  | .fn _ cs, x, e => by simp only [refs] at e; exact refsL_ge cs x e
  | .sl nl id ep sz off len, x, e => by
    simp only [refs] at e
    split at e
    · simp at e
    · rename_i hc
      simp at e; subst e
      exact Nat.le_of_not_lt fun h => hc (.inr h)
  | .ptr id ep off, x, e => by
    simp only [refs] at e
    split at e
    · simp at e
    · simp at e; subst e; exact Nat.le_of_not_lt (by assumption)
theorem refsL_ge {n : Nat} : ∀ (as : List AV) (x : Nat × Nat), x ∈ refsL n as → n ≤ x.1
  | [], x, e => by simp [refsL] at e
  | a :: r, x, e => by
    simp only [refsL, List.mem_append] at e
    rcases e with e | e
    · exact refs_ge a x e
    · exact refsL_ge r x e
end

theorem mem_dd : ∀ {l : List (Nat × Nat)} {x : Nat × Nat}, x ∈ dd l ↔ x ∈ l
  | [], x => by simp [dd]
  | y :: l, x => by
    simp only [dd]
    split
    · rename_i h
      rw [mem_dd (l := l)]
      have : y ∈ l := mem_dd.1 (by simpa using h)
      constructor
      · exact fun h => List.mem_cons_of_mem _ h
      · intro h
        rcases List.mem_cons.1 h with rfl | h
        · exact this
        · exact h
    · simp [mem_dd (l := l)]
theorem nodup_dd : ∀ (l : List (Nat × Nat)), (dd l).Nodup
  | [] => by simp [dd]
  | y :: l => by
    simp only [dd]
    split
    · exact nodup_dd l
    · rename_i h
      exact List.nodup_cons.2 ⟨by simpa using h, nodup_dd l⟩

theorem fin_sound {m0 m : Mp} {h0 : List Ob} {w0 w : World} {st : St} {v : AV} {V : Value} (H0 : HRel m0 (lk h0) w0) (H : HRel m (lk st.h) w) (T : Tr st.wl st.wa m0 (lk h0) w0 m (lk st.h) w) (e1 : st.wl ≤ h0.length) (e2 : st.wa ≤ h0.length) (e3 : h0.length ≤ st.h.length)
    (hv : VRep m v V) : ∃ m', VRep m' (fin h0.length v st).1 V ∧ HRel m' (lk (fin h0.length v st).2.1) w ∧ Tr (fin h0.length v st).2.2.1 (fin h0.length v st).2.2.2 m0 (lk h0) w0 m' (lk (fin h0.length v st).2.1) w ∧
      (fin h0.length v st).2.2.1 ≤ h0.length ∧ (fin h0.length v st).2.2.2 ≤ h0.length ∧ h0.length ≤ (fin h0.length v st).2.1.length := by
  unfold fin
  split
  · exact ⟨m, hv, H, T, e1, e2, e3⟩
  rename_i hwa
  split
  rotate_left
  · exact ⟨m, hv, H, T, e1, e2, e3⟩
  rename_i l hl
  have hB : Bnd h0.length m (lk st.h) := T.bnd _ (by omega) H0.bnd
  generalize hσ : dd (refs h0.length v) = σ at hl
  have hmem : ∀ x, x ∈ σ ↔ x ∈ refs h0.length v := fun x => by rw [← hσ]; exact mem_dd
  have hnd : σ.Nodup := by rw [← hσ]; exact nodup_dd _
  obtain ⟨p1, p2⟩ := pickObjs_spec hl
  let m2 : Mp := fun id ep => if id < h0.length then m id ep else if ep = 0 then (σ[id - h0.length]?).bind fun x => m x.1 x.2 else none
  have m2lt : ∀ id ep, id < h0.length → m2 id ep = m id ep := fun id ep h => by simp [m2, h]
  have m2ge : ∀ j x, σ[j]? = some x → m2 (h0.length + j) 0 = m x.1 x.2 := fun j x h => by simp [m2, h, show ¬ (h0.length + j < h0.length) by omega]
  have hlk : ∀ id o, lk (st.h.take h0.length ++ l) id = some o → (id < h0.length ∧ lk st.h id = some o) ∨ ∃ j x ob, id = h0.length + j ∧ σ[j]? = some x ∧ lk st.h x.1 = some ob ∧ ob.ep = x.2 ∧ ob.fl = true ∧ o = { ob with ep := 0 } := by
    intro id o h
    unfold lk at h
    rw [List.getElem?_append] at h
    have htl : (st.h.take h0.length).length = h0.length := by simp; omega
    rw [htl] at h
    split at h
    · rename_i hlt
      rw [List.getElem?_take, if_pos hlt] at h
      exact .inl ⟨hlt, h⟩
    · rename_i hge
      right
      have hj : id - h0.length < σ.length := by rw [← p1]; exact (List.getElem?_eq_some_iff.1 h).1
      obtain ⟨ob, q1, q2, q3⟩ := p2 (id - h0.length) _ (List.getElem?_eq_getElem hj)
      rw [q3] at h
      simp only [Option.some.injEq] at h
      obtain ⟨f1, f2⟩ := rdObj_some q1
      exact ⟨id - h0.length, _, ob, by omega, List.getElem?_eq_getElem hj, f1, f2, q2, h.symm⟩
  have hlk1 : ∀ id o, id < h0.length → lk st.h id = some o → lk (st.h.take h0.length ++ l) id = some o := fun id o hlt h => by
    unfold lk at h ⊢
    have htl : (st.h.take h0.length).length = h0.length := by simp; omega
    rw [List.getElem?_append_left (by omega), List.getElem?_take, if_pos hlt]; exact h
  have h2l : (st.h.take h0.length ++ l).length = h0.length + σ.length := by simp [p1]; omega
  have hold : ∀ id ep lx, id < h0.length → m id ep = some lx → m2 id ep = some lx := fun id ep lx h e => by rw [m2lt id ep h]; exact e
  -- where an object of the new heap lies
  have where_ : ∀ id o lx, lk (st.h.take h0.length ++ l) id = some o → m2 id o.ep = some lx → ∃ id' ob, lk st.h id' = some ob ∧ m id' ob.ep = some lx ∧ ob.rw = o.rw ∧ ob.cs = o.cs ∧ ob.fl = o.fl ∧ ((id < h0.length ∧ id' = id ∧ ob = o) ∨ (∃ j x, id = h0.length + j ∧ σ[j]? = some x ∧ x.1 = id' ∧ x.2 = ob.ep ∧ ob.fl = true)) := by
    intro id o lx h e
    rcases hlk id o h with ⟨a1, a2⟩ | ⟨j, x, ob, rfl, b2, b3, b4, b5, rfl⟩
    · rw [m2lt _ _ a1] at e
      exact ⟨id, o, a2, e, rfl, rfl, rfl, .inl ⟨a1, rfl, rfl⟩⟩
    · simp only at e
      rw [m2ge j x b2] at e
      exact ⟨x.1, ob, b3, by rw [b4]; exact e, rfl, rfl, rfl, .inr ⟨j, x, rfl, b2, rfl, b4.symm, b5⟩⟩
  refine ⟨m2, ?_, ⟨fun id o lx f1 f2 => ?_, fun id o lx id' o' lx' f1 f2 f3 f4 f5 f6 => ?_, fun id ep lx f1 => ?_, fun id o f1 f2 => ?_⟩, ⟨fun id ep lx f1 => ?_, fun id o f1 => ?_, fun id o f1 f2 => ?_, T.wsz, T.blk, fun id o lx f1 f2 f3 => ?_, fun n hn hb id o lx f1 f2 f3 => ?_, fun id o f1 f2 => ?_, T.env⟩, e1, Nat.le_refl _, by rw [h2l]; omega⟩
  · refine vrep_ren hold (fun x lx hx e => ?_) v V (fun x hx => (hmem x).2 hx) hv
    have hi : σ.idxOf x < σ.length := List.idxOf_lt_length_iff.2 hx
    have : σ[σ.idxOf x]? = some x := by rw [List.getElem?_eq_getElem hi, List.getElem_idxOf hi]
    rw [m2ge _ x this]; exact e
  · obtain ⟨i', ob, g1, g2, g3, g4, g5, g6⟩ := where_ id o lx f1 f2
    obtain ⟨cs, t, fr, k1, k2, k3, k4, k5⟩ := H.cells i' ob lx g1 g2
    refine ⟨cs, t, fr, k1, by rw [← g3]; exact k2, k3, by rw [← g4]; exact k4, fun j c hj => ?_⟩
    rw [← g4] at hj
    obtain ⟨u, u1, u2, u3⟩ := k5 j c hj
    refine ⟨u, u1, ?_, u3⟩
    rcases g6 with ⟨a1, rfl, rfl⟩ | ⟨_, _, _, _, _, _, hf⟩
    · exact vrep_bnd hold c u (hB _ _ lx a1 g1 g2 c (List.mem_of_getElem? hj)) u2
    · exact VRep.of_scalar (H.fl i' ob g1 hf c (List.mem_of_getElem? hj)) u2
  · obtain ⟨i1, ob1, g1, g2, g3, g4, g5, g6⟩ := where_ id o lx f1 f2
    obtain ⟨i2, ob2, k1, k2, k3, k4, k5, k6⟩ := where_ id' o' lx' f3 f4
    have heq : i1 = i2 := H.disj i1 ob1 lx i2 ob2 lx' g1 g2 k1 k2 (by rw [g3]; exact f5) f6
    subst heq
    rcases g6 with ⟨a1, rfl, rfl⟩ | ⟨j, x, rfl, b2, b3, b4, _⟩ <;> rcases k6 with ⟨c1, rfl, rfl⟩ | ⟨j', x', rfl, d2, d3, d4, _⟩
    · rfl
    · have := refs_ge v x' ((hmem x').1 (List.mem_of_getElem? d2))
      omega
    · have := refs_ge v x ((hmem x).1 (List.mem_of_getElem? b2))
      omega
    · rw [g1] at k1
      simp only [Option.some.injEq] at k1
      subst k1
      have hx : x = x' := Prod.ext (by rw [b3, d3]) (by rw [b4, d4])
      subst hx
      have hj : j < σ.length := (List.getElem?_eq_some_iff.1 b2).1
      have := List.pairwise_iff_getElem.1 hnd
      by_cases hjj : j = j'
      · rw [hjj]
      · exfalso
        have hj' : j' < σ.length := (List.getElem?_eq_some_iff.1 d2).1
        rcases Nat.lt_or_gt_of_ne hjj with hlt | hlt
        · refine this j j' hj hj' hlt ?_
          rw [List.getElem?_eq_getElem hj] at b2
          rw [List.getElem?_eq_getElem hj'] at d2
          simp only [Option.some.injEq] at b2 d2
          rw [b2, d2]
        · refine this j' j hj' hj hlt ?_
          rw [List.getElem?_eq_getElem hj] at b2
          rw [List.getElem?_eq_getElem hj'] at d2
          simp only [Option.some.injEq] at b2 d2
          rw [b2, d2]
  · by_cases hlt : id < h0.length
    · rw [m2lt _ _ hlt] at f1
      obtain ⟨⟨o, g1, g2⟩, g3⟩ := H.dom id ep lx f1
      exact ⟨⟨o, hlk1 id o hlt g1, g2⟩, g3⟩
    · by_cases hep : ep = 0
      · subst hep
        simp only [m2, hlt, if_false, if_true] at f1
        obtain ⟨x, hx, hmx⟩ := Option.bind_eq_some_iff.1 f1
        obtain ⟨ob, q1, q2, q3⟩ := p2 _ x hx
        refine ⟨⟨{ ob with ep := 0 }, ?_, Nat.le_refl _⟩, (H.dom _ _ _ hmx).2⟩
        unfold lk
        have htl : (st.h.take h0.length).length = h0.length := by simp; omega
        rw [List.getElem?_append_right (by omega), htl]; exact q3
      · simp [m2, hlt, hep] at f1
  · rcases hlk id o f1 with ⟨a1, a2⟩ | ⟨j, x, ob, rfl, b2, b3, b4, b5, rfl⟩
    · exact H.fl id o a2 f2
    · exact H.fl x.1 ob b3 f2
  · have hlt := H0.dom_lt f1
    rw [m2lt _ _ hlt]; exact T.ext _ _ _ f1
  · obtain ⟨o', g1, g2, g3⟩ := T.keep id o f1
    exact ⟨o', hlk1 id o' (lk_lt f1) g1, g2, g3⟩
  · exact hlk1 id o (lk_lt f2) (T.same id o f1 f2)
  · obtain ⟨i', ob, g1, g2, g3, g4, g5, g6⟩ := where_ id o lx f1 f3
    rcases T.new i' ob lx g1 (by rw [g3]; exact f2) g2 with h | ⟨o2, l2, q1, q2, q3, q4⟩
    · exact .inl h
    · rcases g6 with ⟨a1, rfl, rfl⟩ | ⟨j, x, rfl, b2, b3, b4, _⟩
      · exact .inr ⟨o2, l2, q1, q2, q3, q4⟩
      · have := refs_ge v x ((hmem x).1 (List.mem_of_getElem? b2))
        have := lk_lt q1
        omega
  · rcases hlk id o f2 with ⟨a1, a2⟩ | ⟨j, x, ob, rfl, b2, b3, b4, b5, rfl⟩
    · rw [m2lt _ _ a1] at f3
      have hn' : n ≤ h0.length := hn
      exact T.bnd n (by omega) hb id o lx f1 a2 f3
    · have hn' : n ≤ h0.length := hn
      omega
  · obtain ⟨g1, g2⟩ := T.unm id o f1 f2
    have hlt := lk_lt f1
    exact ⟨hlk1 id o hlt g1, fun ep => by rw [m2lt _ _ hlt]; exact g2 ep⟩

/-! ### Calls -/
def EnvOK (P : Program) (E : Nat → Option CF) : Prop := ∀ f cf, E f = some cf → ∃ fn, P.funcs[f]? = some fn ∧ cFunc P fn = some cf

theorem call_sound (hE : EnvOK P E) : ∀ k, Sound P (callBy E (acode E k)) := by
  intro k
  induction k using Nat.strongRecOn with
  | _ k ih =>
    intro f args h r he m w vs H hargs
    unfold callBy at he
    split at he <;> (try (cases he; done))
    rename_i cf hcf
    split at he <;> (try (cases he; done))
    rename_i hnp
    obtain ⟨⟨e, st⟩, h1, h2⟩ := Option.bind_eq_some_iff.1 he
    simp only at h2
    split at h2 <;> (try (cases h2; done))
    rename_i hex
    obtain ⟨rs, h3, h4⟩ := Option.map_eq_some_iff.1 h2
    subst h4
    obtain ⟨fn, g1, g2⟩ := hE f cf hcf
    unfold cFunc at g2
    replace g2 := Option.bind_eq_some_iff.1 g2
    obtain ⟨body, g3, g2⟩ := g2
    split at g2
    · simp [failure] at g2
    rename_i hname
    replace g2 := Option.bind_eq_some_iff.1 g2
    obtain ⟨res, g4, g2⟩ := g2
    simp only [pure, Option.some.injEq] at g2
    subst g2
    refine ⟨⟨fn, g1, by simp [g3], by simpa using hname⟩, ?_⟩
    refine calls_of_wp g1 g3 ?_
    have hal := VReps.length hargs
    have hr : SRel m h w { ts := args ++ List.replicate (fn.ntmps - args.length) und, h := h, wl := h.length, wa := h.length } { tmps := vs ++ Array.replicate (fn.ntmps - vs.size) undef, defers := [] } w := by
      refine ⟨m, ?_, rfl, H, Tr.refl _ _ _ _ _, Nat.le_refl _, Nat.le_refl _, Nat.le_refl _⟩
      unfold TRep
      simp only [Array.toList_append, Array.toList_replicate]
      refine hargs.append ?_
      have : vs.size = args.length := by simp [hal]
      rw [this]
      exact VReps.replicate (vrep_und.2 rfl) _
    have hw := acode_sound (P := P) (E := E) k (fun j hj => ih j hj) body _ e st h1 m h w _ w hr
    refine Code.wp_mono (fun ex a' w' hq => ?_) hw
    obtain ⟨hx, m', t1, t2, t3, t4, t5, t6, t7⟩ := hq
    obtain ⟨V, hV, hVr⟩ := mkRes_sound (P := P) t1 t3 g4 h3
    obtain ⟨m2, f1, f2, f3, f4, f5, f6⟩ := fin_sound H t3 t4 t5 t6 t7 hVr
    have post : bodyPost P fn (Left m h w (fin h.length (mkRes rs) st)) .ret a' w' := ⟨t2, V, hV, m2, V, rfl, f1, f2, f3, f4, f5, f6⟩
    cases e <;> cases ex <;> simp only [exRel] at hx <;> (try (simp [exOk] at hex; done))
    · exact post
    · exact post
end
end Go.Proofs.Ytaekgifbehoipaa.Eva
