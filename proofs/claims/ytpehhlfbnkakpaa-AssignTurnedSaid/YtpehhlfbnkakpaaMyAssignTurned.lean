/- The law AssignTurned: the abstract machine answers true. No condition. -/
import Derived.Test.YtpehhlfbnkakpaaInAssignTurned
import Derived.Test.YtpehhlfbnkakpaaHgT
namespace Go.Proofs.Ytpehhlfbnkakpaa.MyAssignTurned
open Go Go.Proofs.Ytpehhlfbnkakpaa.Eva Go.Proofs.Ytpehhlfbnkakpaa.CodeAll Go.Proofs.Ytpehhlfbnkakpaa.InAssignTurned Go.Proofs.Ytpehhlfbnkakpaa.Fl Go.Proofs.Ytpehhlfbnkakpaa.Hg
set_option linter.unusedVariables false
set_option linter.unusedSimpArgs false
set_option maxRecDepth 10000
set_option maxHeartbeats 4000000

theorem isl_fg {n0 : Nat} {h : List Ob} {u : AV} {sz k : Nat} {cs : List AV} (hI : IsL n0 h u sz true cs k) : FgL h u := by
  intro id ep o hid ho
  rcases hI with ⟨rfl, _⟩ | ⟨id', ep', rfl, h2, _⟩
  · exact absurd hid idOf_nil
  · obtain ⟨_, rfl⟩ := hid
    unfold rdObj at h2 ho
    cases hx : h[id]? with
    | none => rw [hx] at h2; cases h2
    | some y =>
      rw [hx] at h2 ho
      simp only at h2 ho
      split at h2 <;> (try (cases h2; done))
      split at ho <;> (try (cases ho; done))
      simp only [Option.some.injEq] at h2 ho
      subst ho; rw [h2]
theorem wd_fg {n0 : Nat} {h : List Ob} {v : AV} {vs : List AV} {rows : List (List Int)} (W : Wd n0 h v vs rows) : ∀ u ∈ vs, FgL h u := by
  intro u hu
  obtain ⟨i, hi, rfl⟩ := List.getElem_of_mem hu
  exact isl_fg (W.rd i _ _ (List.getElem?_eq_getElem hi) (List.getElem?_eq_getElem (by rw [← W.len]; exact hi)))

theorem appK_mono {n0 sz b : Nat} {h : List Ob} {x y : AV} {K K' : AV → List Ob → Prop} (hk : appK n0 sz b h x y K) (hm : ∀ v h', K v h' → K' v h') : appK n0 sz b h x y K' := ⟨hk.1, hm _ _ hk.2⟩
theorem law (rows : List (List Int)) (V : AV) (vs : List AV) (more : List Int) (W : AV) (miss ia ka : Int) (H : List Ob) (A0 : NsS intC 1 H V vs rows) (hs : SlL H W intC 1 more) : ∃ r, ecall E 13 [V, .int .i64 miss, .int .i64 ia, .int .i64 ka, W] H = some (.bool true, r) := by
  refine call_true e13 rfl (Nat.le_of_ble_eq_true rfl) ?_
  have A := NsL.of A0
  have hf := NsS.fg A0
  have hass := assigns_pc (H := H)
  have hlen := A.out.len
  rw [A.len] at hlen
  have hlm := hs.len
  have b0 : ((0 : Int) == 0) = true := rfl
  have b1 : ((0 : Int) != 0) = false := rfl
  by_cases hok : Ok rows miss
  rotate_left
  · obtain ⟨e, hne, hb⟩ := total_err A hok
    have hp := pcall_some.2 hb
    have b2 : (e != 0) = true := by rw [bne_iff_ne]; exact hne
    simp (config := {maxSteps := 8000000}) only [c13, hass, hp, b0, b2, SS, bne_self_eq_false, wr_def, obOf, List.all_cons, List.all_nil, List.map_cons, List.map_nil, List.length_cons, List.length_nil, List.take_zero, List.take_succ_cons, List.take_nil, List.drop_zero, List.drop_succ_cons, List.drop_nil, Nat.reduceAdd, Nat.reduceMul, Nat.reduceSub, if_true, Nat.reduceLT, Nat.reduceLeDiff, ite_true, ite_false, Nat.reduceEqDiff, if_false, reduceCtorEq, ne_eq, List.getD, List.getElem?_cons_zero, List.getElem?_cons_succ, Option.getD_some, Option.bind_some, Option.map_some, Option.isSome_some, reduceIte, List.length_append, List.append_assoc, List.cons_append, List.nil_append, Option.some.injEq, forall_const, implies_true, Int.reduceNeg, eq_self, Prod.mk.injEq, List.self_eq_append_right, List.append_nil, exists_eq_left, exists_eq_left', exists_and_left, exists_eq_right, exists_and_right]
  obtain ⟨n, T, hn, hC, hLP, hT, hb⟩ := total_ok A hf hok
  have hp := pcall_some.2 hb
  by_cases hR0 : rows.length = 0
  · have hT0 : T = 0 := by
      obtain ⟨⟨τ, _, h1⟩, _⟩ := hLP
      rw [h1, costOf, hR0]; rfl
    subst hT0
    have b2 : ((rows.length : Int) == 0) = true := by rw [hR0]; rfl
    simp (config := {maxSteps := 8000000}) only [c13, hass, hp, hlen, b0, b1, b2, SS, bne_self_eq_false, wr_def, obOf, List.all_cons, List.all_nil, List.map_cons, List.map_nil, List.length_cons, List.length_nil, List.take_zero, List.take_succ_cons, List.take_nil, List.drop_zero, List.drop_succ_cons, List.drop_nil, Nat.reduceAdd, Nat.reduceMul, Nat.reduceSub, if_true, Nat.reduceLT, Nat.reduceLeDiff, ite_true, ite_false, Nat.reduceEqDiff, if_false, reduceCtorEq, ne_eq, List.getD, List.getElem?_cons_zero, List.getElem?_cons_succ, Option.getD_some, Option.bind_some, Option.map_some, Option.isSome_some, reduceIte, List.length_append, List.append_assoc, List.cons_append, List.nil_append, Option.some.injEq, forall_const, implies_true, Int.reduceNeg, eq_self, Prod.mk.injEq, List.self_eq_append_right, List.append_nil, exists_eq_left, exists_eq_left', exists_and_left, exists_eq_right, exists_and_right]
  have b2 : ((rows.length : Int) == 0) = false := by rw [beq_eq_false_iff_ne]; omega
  have hR := hok.1
  obtain ⟨v, o, hAv, hcl⟩ := clone_v A.out (by rw [A.len]; exact hR0) (by rw [A.len]; omega)
  have hcn := ncall_some.2 hcl
  have hlv := hAv.sl.len
  rw [A.len] at hlv
  obtain ⟨i, hi, hwi⟩ := within_ex ia (R := rows.length) (by omega) (by omega) H
  obtain ⟨k, hk, hwk⟩ := within_ex ka (R := rows.length) (by omega) (by omega) H
  have wR : IntKind.i64.wrap ((rows.length : Int) - 1) = (rows.length : Int) - 1 := wrap64 (by omega) (by omega)
  obtain ⟨ui, ri, hri, hui, Si, -, -⟩ := A.row hi
  obtain ⟨uk, rk, hrk, huk, Sk, -, -⟩ := A.row hk
  have ov1 : idxOk 1 v (.int .i64 (i : Int)) := hAv.sl.ok (by omega) (by rw [A.len]; omega)
  have ov2 : idxOk 1 v (.int .i64 (k : Int)) := hAv.sl.ok (by omega) (by rw [A.len]; omega)
  have dv1 : ld1A (H ++ o) (idxV 1 v (.int .i64 (i : Int))) = some ui := by rw [hAv.sl.ld0 (x := ui) (by omega) (by simpa using hui)]; rfl
  have dv2 : ld1A (H ++ o) (idxV 1 v (.int .i64 (k : Int))) = some uk := by rw [hAv.sl.ld0 (x := uk) (by omega) (by simpa using huk)]; rfl
  obtain ⟨s1, s2, s3, s4⟩ := hAv.st (i := i) (by rw [A.len]; exact hi) (u := uk) ⟨Sk.cells, Sk.isTup⟩
  obtain ⟨t1, t2, t3, t4⟩ := s2.st (i := k) (by rw [List.length_set, A.len]; exact hk) (u := ui) ⟨Si.cells, Si.isTup⟩
  have hvid : ∀ id, idOf v id → H.length ≤ id := by
    obtain ⟨id', ep, fl, rfl, h2, h3⟩ := hAv
    rintro id ⟨_, rfl⟩; exact h3
  obtain ⟨g2, hg2⟩ : ∃ g, stH (stH (H ++ o) (idxV 1 v (.int .i64 (i : Int))) uk) (idxV 1 v (.int .i64 (k : Int))) ui = g := ⟨_, rfl⟩
  rw [hg2] at t2 t3 t4
  have hkeep : ∀ id ep ob, id < H.length → rdObj H id ep = some ob → rdObj g2 id ep = some ob := fun id ep ob hlt ho =>
    t3 id ep ob (fun h => by have := hvid id h; omega) (s3 id ep ob (fun h => by have := hvid id h; omega) (rd_keep ho))
  have hrows' : ∀ a, ((rows.set i rk).set k ri)[a]? = rows[sw i k a]? := sw_get hri hrk rfl
  have hvs' : ∀ a, ((vs.set i uk).set k ui)[a]? = vs[sw i k a]? := sw_get hui huk rfl
  have A2 : NsL g2 v ((vs.set i uk).set k ui) ((rows.set i rk).set k ri) := ⟨t2.sl, by simp [A.len], fun a u r hu hr => by
    rw [hvs'] at hu; rw [hrows'] at hr
    have := A.inn _ u r hu hr
    exact this.mono fun id ep ob hid ho => hkeep id ep ob (this.idlt hid) ho⟩
  have hf2 : ∀ u ∈ (vs.set i uk).set k ui, FgL g2 u := by
    intro u hu
    have hu' : u ∈ vs := by
      rcases List.mem_or_eq_of_mem_set hu with h | rfl
      · rcases List.mem_or_eq_of_mem_set h with h | rfl
        · exact h
        · exact List.mem_of_getElem? huk
      · exact List.mem_of_getElem? hui
    obtain ⟨a, ha, hae⟩ := List.getElem_of_mem hu'
    have h1 : vs[a]? = some u := by rw [List.getElem?_eq_getElem ha, hae]
    obtain ⟨r, hr⟩ : ∃ r, rows[a]? = some r := ⟨_, List.getElem?_eq_getElem (by rw [← A.len]; exact ha)⟩
    have S := A.inn a u r h1 hr
    intro id ep ob hid ho
    have hlt := S.idlt hid
    obtain ⟨_, _, _, ⟨_, ⟨nl, rfl⟩ | rfl⟩ | ⟨id', ep', off, o', rfl, k2, _⟩⟩ := (show SlL H u intC 1 r from S)
    · exact absurd hid (fun h => h)
    · exact absurd hid idOf_nil
    · obtain ⟨_, rfl⟩ := (show idOf (.sl false id' ep' 1 off r.length) id from hid)
      have h9 := hkeep _ _ _ hlt k2
      have h10 := hf _ hu' _ _ _ hid k2
      unfold rdObj at h9 ho
      cases hx : g2[id]? with
      | none => rw [hx] at ho; cases ho
      | some y =>
        rw [hx] at h9 ho
        simp only at h9 ho
        split at h9 <;> (try (cases h9; done))
        split at ho <;> (try (cases ho; done))
        simp only [Option.some.injEq] at h9 ho
        subst ho; rw [h9]; exact h10
  have hl2 : ((rows.set i rk).set k ri).length = rows.length := by simp
  obtain ⟨n2, T2, hn2, hC2, hLP2, hT2, hb2⟩ := total_ok A2 hf2 (ok_sw hl2 hrows' hok)
  have hTT : T2 = T := by
    have hnn : n2 = n := by
      have h1 := (hC ri (List.mem_of_getElem? hri)).2.1
      have h2 : ((rows.set i rk).set k ri)[k]? = some ri := List.getElem?_set_self (by rw [List.length_set]; exact hk)
      have h3 := (hC2 ri (List.mem_of_getElem? h2)).2.1
      omega
    subst hnn
    exact least_sw hl2 hrows' hi hk hLP hLP2
  subst hTT
  have hp2 := pcall_some.2 hb2
  have hng : H.length ≤ g2.length := by rw [t4, s4]; simp
  rw [← hg2] at hp2
  simp (config := {maxSteps := 8000000}) only [c13, hass, hp, hlen, b0, b1, b2, rg_calln, ncallV_fn, hcn, hlv, wR, hwi, hwk, ov1, isPtr_idx ov1, ov2, isPtr_idx ov2, dv1, dv2, s1, t1, hp2, Sk.cells, Sk.isTup, Si.cells, Si.isTup, SS, bne_self_eq_false, wr_def, obOf, List.all_cons, List.all_nil, List.map_cons, List.map_nil, List.length_cons, List.length_nil, List.take_zero, List.take_succ_cons, List.take_nil, List.drop_zero, List.drop_succ_cons, List.drop_nil, Nat.reduceAdd, Nat.reduceMul, Nat.reduceSub, if_true, Nat.reduceLT, Nat.reduceLeDiff, ite_true, ite_false, Nat.reduceEqDiff, if_false, reduceCtorEq, ne_eq, List.getD, List.getElem?_cons_zero, List.getElem?_cons_succ, Option.getD_some, Option.bind_some, Option.map_some, Option.isSome_some, reduceIte, List.length_append, List.append_assoc, List.cons_append, List.nil_append, Option.some.injEq, forall_const, implies_true, Int.reduceNeg, eq_self, Prod.mk.injEq, List.self_eq_append_right, List.append_nil, exists_eq_left, exists_eq_left', exists_and_left, exists_eq_right, exists_and_right]
  rw [hg2]
  have htake : g2.take H.length = H := by
    apply List.ext_getElem?
    intro a
    rw [List.getElem?_take]
    by_cases ha : a < H.length
    · rw [if_pos ha]
      have h1 : rdObj H a H[a].ep = some H[a] := by unfold rdObj; rw [List.getElem?_eq_getElem ha]; simp
      have h2 := hkeep a _ _ ha h1
      unfold rdObj at h2
      cases hx : g2[a]? with
      | none => rw [hx] at h2; cases h2
      | some y =>
        rw [hx] at h2
        simp only at h2
        split at h2 <;> (try (cases h2; done))
        rw [h2, List.getElem?_eq_getElem ha]
    · rw [if_neg ha, List.getElem?_eq_none (by omega)]
  refine ⟨hng, ?_⟩
  refine W_loop (fun q f1 h1 => ∃ a : Nat, q = rows.length - a ∧ a ≤ rows.length ∧ f1 0 = V ∧ f1 1 = .int .i64 miss ∧ f1 4 = W ∧ f1 11 = .int .i64 T2 ∧ f1 14 = .int .i64 T2 ∧ f1 15 = .int .i64 0 ∧ f1 71 = V ∧ f1 72 = .int .i64 (rows.length : Int) ∧ f1 73 = .int .i64 (a : Int) ∧ ∃ vs', Wd H.length h1 (f1 16) vs' (wideTo rows more a)) hng rows.length ?_ ?_
  · exact ⟨0, rfl, by omega, rfl, rfl, rfl, rfl, rfl, rfl, rfl, rfl, rfl, [], Wd.nil⟩
  rintro q f1 h1 hn1 ht ⟨a, rfl, ha, e0, e1, e4, e11, e14, e15, e71, e72, e73, vs', hW⟩
  have hH := take_eq (ht.trans htake)
  generalize h1.drop H.length = x at hH
  subst hH
  generalize he16 : f1 16 = vo at *
  by_cases haR : a < rows.length
  · have hc1 : decide ((a : Int) < (rows.length : Int)) = true := decide_eq_true (by omega)
    have hw1 : IntKind.i64.wrap ((a : Int) + 1) = ((a + 1 : Nat) : Int) := by rw [wrap64 (by omega) (by omega)]; omega
    obtain ⟨u, r, hr, hu, S, d1, o1⟩ := A.row haR
    have hrm := List.mem_of_getElem? hr
    have r1 := (hC r hrm).1
    have hfu := hf u (List.mem_of_getElem? hu)
    obtain ⟨X, o', hcl2, hW0⟩ := clone_i (S.keep x) (hfu.keep S x) (by omega)
    have hcn2 := ncall_some.2 hcl2
    have hB0 : Bu H.length (H ++ (x ++ o')) X 1 (r.map gI) r.length := by
      rcases hW0 with ⟨rfl, rfl, rfl⟩ | ⟨rfl, rfl⟩
      · exact ⟨rfl, Or.inl ⟨rfl, rfl⟩⟩
      · refine ⟨by simp, Or.inr ⟨_, 0, r.map gI, rfl, ?_, by simp, Or.inr rfl⟩⟩
        rw [← List.append_assoc]; exact rd_last (o := ⟨r.map gI, 0, 1, true, true⟩)
    have hid0 : ∀ id, idOf X id → ¬ InW vo vs' id := by
      intro id hid hin
      have := hW.lt hin
      rcases hW0 with ⟨rfl, rfl, rfl⟩ | ⟨rfl, rfl⟩
      · exact absurd hid idOf_nil
      · obtain ⟨_, rfl⟩ := hid; omega
    have hW1 := hW.keep o'
    rw [List.append_assoc] at hW1
    have step : ∀ (cv : Int), cv = wdC more a → ∀ (P : AV → List Ob → Prop), (∀ v' h', (∃ vs2, Wd H.length h' v' vs2 (wideTo rows more (a + 1))) → P v' h') → ∀ m, m = H.length + (x.length + o'.length) →
        appK H.length 1 8 (H ++ (x ++ (o' ++ [⟨[.int .i64 cv], 0, 1, true, true⟩]))) X (.sl false m 0 1 0 1) (fun v1 h1 => ∀ k, k = h1.length → cellsOf v1 = [v1] ∧ v1.isTup = false ∧ v1.scalar = false ∧ appK H.length 1 24 (h1 ++ [⟨[v1], 0, 1, true, false⟩]) vo (.sl false k 0 1 0 1) P) := by
      rintro cv rfl P hP m rfl
      have hrm' : rdObj (H ++ (x ++ (o' ++ [(⟨[.int .i64 (wdC more a)], 0, 1, true, true⟩ : Ob)]))) (H.length + (x.length + o'.length)) 0 = some ⟨[.int .i64 (wdC more a)], 0, 1, true, true⟩ := by
        unfold rdObj
        rw [List.getElem?_append_right (by omega), Nat.add_sub_cancel_left, List.getElem?_append_right (by omega), Nat.add_sub_cancel_left, List.getElem?_append_right (Nat.le_refl _), Nat.sub_self]
        rfl
      have hs1 : SlL (H ++ (x ++ (o' ++ [(⟨[.int .i64 (wdC more a)], 0, 1, true, true⟩ : Ob)]))) (.sl false (H.length + (x.length + o'.length)) 0 1 0 1) intC 1 [wdC more a] := ⟨fun _ => rfl, by decide, rfl, Or.inr ⟨_, 0, 0, _, rfl, hrm', by simp, rfl⟩⟩
      have hf1 : FgL (H ++ (x ++ (o' ++ [(⟨[.int .i64 (wdC more a)], 0, 1, true, true⟩ : Ob)]))) (.sl false (H.length + (x.length + o'.length)) 0 1 0 1) := isl_fg (n0 := H.length) (k := 1) (sz := 1) (cs := [.int .i64 (wdC more a)]) (Or.inr ⟨_, 0, rfl, hrm', by omega, by decide⟩)
      have hBk : Bu H.length (H ++ (x ++ (o' ++ [(⟨[.int .i64 (wdC more a)], 0, 1, true, true⟩ : Ob)]))) X 1 (r.map gI) r.length := hB0.mono fun id ep ob _ ho => by
        have := rd_keep (l := [(⟨[.int .i64 (wdC more a)], 0, 1, true, true⟩ : Ob)]) ho
        simpa [List.append_assoc] using this
      refine bu_app hBk hs1 hf1 (by unfold appLim; simp; omega) (by simp) (fun v1 h2 q1 q2 q3 q4 q5 => ?_)
      rintro k rfl
      obtain ⟨sh1, sh2, sh3⟩ := q1.shape
      refine ⟨sh1, sh2, sh3, ?_⟩
      have hlz : (H ++ (x ++ (o' ++ [(⟨[.int .i64 (wdC more a)], 0, 1, true, true⟩ : Ob)]))).length = H.length + (x.length + (o'.length + 1)) := by simp
      have hW2 : Wd H.length h2 vo vs' (wideTo rows more a) := hW1.mono fun id ep ob hin ho => q2 id ep ob (by have := rd_keep (l := [(⟨[.int .i64 (wdC more a)], 0, 1, true, true⟩ : Ob)]) ho; simpa [List.append_assoc] using this) (fun hx => hid0 id hx hin)
      have hI1 : IsL H.length h2 v1 1 true ((r ++ [wdC more a]).map gI) (r ++ [wdC more a]).length := by
        have := q1.isl (by simp)
        simpa [flat, intC, gI] using this
      have hn2 : H.length ≤ h2.length := by rw [hlz] at q3; omega
      refine wd_app (u := v1) (r := r ++ [wdC more a]) (rw' := true) (hW2.keep _) (hI1.keep _) (fun id hid hin => ?_) (by simp [rdObj]) ?_ (by simp; omega) (fun v' h' p1 p2 p3 => ?_)
      · have hlt := hW.lt hin
        rcases q4 with h9 | h9
        · have := idOf_inj h9 hid; rw [hlz] at this; simp at hlt; omega
        · exact hid0 id (h9 id hid) hin
      · have := hW.len; rw [this, wideTo_len]; omega
      · rw [← wideTo_succ hr] at p1
        exact hP v' h' ⟨_, p1⟩
    by_cases ham : a < more.length
    · have hc2 : decide ((a : Int) < (more.length : Int)) = true := decide_eq_true (by omega)
      obtain ⟨cv, hcv⟩ : ∃ cv, more[a]? = some cv := ⟨_, List.getElem?_eq_getElem ham⟩
      have oW : idxOk 1 W (.int .i64 (a : Int)) := hs.ok (by omega) (by omega)
      have dW : ld1A (H ++ x) (idxV 1 W (.int .i64 (a : Int))) = some (.int .i64 cv) := by rw [(hs.keep x).ld0 (x := cv) (by omega) (by simpa using hcv)]; rfl
      simp (config := {maxSteps := 8000000}) only [e0, e1, e4, e11, e14, e15, e71, e72, e73, he16, hc1, hc2, hw1, hlm, o1, isPtr_idx o1, d1, oW, isPtr_idx oW, dW, rg_calln, ncallV_fn, hcn2, SS, bne_self_eq_false, wr_def, obOf, List.all_cons, List.all_nil, List.map_cons, List.map_nil, List.length_cons, List.length_nil, List.take_zero, List.take_succ_cons, List.take_nil, List.drop_zero, List.drop_succ_cons, List.drop_nil, Nat.reduceAdd, Nat.reduceMul, Nat.reduceSub, if_true, Nat.reduceLT, Nat.reduceLeDiff, ite_true, ite_false, Nat.reduceEqDiff, if_false, reduceCtorEq, ne_eq, List.getD, List.getElem?_cons_zero, List.getElem?_cons_succ, Option.getD_some, Option.bind_some, Option.map_some, Option.isSome_some, reduceIte, List.length_append, List.append_assoc, List.cons_append, List.nil_append, Option.some.injEq, forall_const, implies_true, Int.reduceNeg, eq_self, Prod.mk.injEq, List.self_eq_append_right, List.append_nil, exists_eq_left, exists_eq_left', exists_and_left, exists_eq_right, exists_and_right]
      refine appK_mono (step cv (by unfold wdC; rw [if_pos ham, hcv]; rfl) (fun v' h' => ∃ vs2, Wd H.length h' v' vs2 (wideTo rows more (a + 1))) (fun v' h' h => h) _ rfl) (fun v1 h1 hh => ?_)
      obtain ⟨sh1, sh2, sh3, hA⟩ := hh _ rfl
      simp (config := {maxSteps := 8000000}) only [sh1, sh2, sh3, SS, bne_self_eq_false, wr_def, obOf, List.all_cons, List.all_nil, List.map_cons, List.map_nil, List.length_cons, List.length_nil, List.take_zero, List.take_succ_cons, List.take_nil, List.drop_zero, List.drop_succ_cons, List.drop_nil, Nat.reduceAdd, Nat.reduceMul, Nat.reduceSub, if_true, Nat.reduceLT, Nat.reduceLeDiff, ite_true, ite_false, Nat.reduceEqDiff, if_false, reduceCtorEq, ne_eq, List.getD, List.getElem?_cons_zero, List.getElem?_cons_succ, Option.getD_some, Option.bind_some, Option.map_some, Option.isSome_some, reduceIte, List.length_append, List.append_assoc, List.cons_append, List.nil_append, Option.some.injEq, forall_const, implies_true, Int.reduceNeg, eq_self, Prod.mk.injEq, List.self_eq_append_right, List.append_nil, exists_eq_left, exists_eq_left', exists_and_left, exists_eq_right, exists_and_right]
      refine appK_mono hA (fun v2 h2 hh2 => ?_)
      obtain ⟨vs2, hW4⟩ := hh2
      exact ⟨_, by omega, a + 1, rfl, by omega, rfl, vs2, hW4⟩
    · have hc2 : decide ((a : Int) < (more.length : Int)) = false := decide_eq_false (by omega)
      simp (config := {maxSteps := 8000000}) only [e0, e1, e4, e11, e14, e15, e71, e72, e73, he16, hc1, hc2, hw1, hlm, o1, isPtr_idx o1, d1, rg_calln, ncallV_fn, hcn2, SS, bne_self_eq_false, wr_def, obOf, List.all_cons, List.all_nil, List.map_cons, List.map_nil, List.length_cons, List.length_nil, List.take_zero, List.take_succ_cons, List.take_nil, List.drop_zero, List.drop_succ_cons, List.drop_nil, Nat.reduceAdd, Nat.reduceMul, Nat.reduceSub, if_true, Nat.reduceLT, Nat.reduceLeDiff, ite_true, ite_false, Nat.reduceEqDiff, if_false, reduceCtorEq, ne_eq, List.getD, List.getElem?_cons_zero, List.getElem?_cons_succ, Option.getD_some, Option.bind_some, Option.map_some, Option.isSome_some, reduceIte, List.length_append, List.append_assoc, List.cons_append, List.nil_append, Option.some.injEq, forall_const, implies_true, Int.reduceNeg, eq_self, Prod.mk.injEq, List.self_eq_append_right, List.append_nil, exists_eq_left, exists_eq_left', exists_and_left, exists_eq_right, exists_and_right]
      refine appK_mono (step (-1) (by unfold wdC; rw [if_neg ham]) (fun v' h' => ∃ vs2, Wd H.length h' v' vs2 (wideTo rows more (a + 1))) (fun v' h' h => h) _ rfl) (fun v1 h1 hh => ?_)
      obtain ⟨sh1, sh2, sh3, hA⟩ := hh _ rfl
      simp (config := {maxSteps := 8000000}) only [sh1, sh2, sh3, SS, bne_self_eq_false, wr_def, obOf, List.all_cons, List.all_nil, List.map_cons, List.map_nil, List.length_cons, List.length_nil, List.take_zero, List.take_succ_cons, List.take_nil, List.drop_zero, List.drop_succ_cons, List.drop_nil, Nat.reduceAdd, Nat.reduceMul, Nat.reduceSub, if_true, Nat.reduceLT, Nat.reduceLeDiff, ite_true, ite_false, Nat.reduceEqDiff, if_false, reduceCtorEq, ne_eq, List.getD, List.getElem?_cons_zero, List.getElem?_cons_succ, Option.getD_some, Option.bind_some, Option.map_some, Option.isSome_some, reduceIte, List.length_append, List.append_assoc, List.cons_append, List.nil_append, Option.some.injEq, forall_const, implies_true, Int.reduceNeg, eq_self, Prod.mk.injEq, List.self_eq_append_right, List.append_nil, exists_eq_left, exists_eq_left', exists_and_left, exists_eq_right, exists_and_right]
      refine appK_mono hA (fun v2 h2 hh2 => ?_)
      obtain ⟨vs2, hW4⟩ := hh2
      exact ⟨_, by omega, a + 1, rfl, by omega, rfl, vs2, hW4⟩
  · have hc1 : decide ((a : Int) < (rows.length : Int)) = false := decide_eq_false (by omega)
    have haE : a = rows.length := by omega
    subst haE
    have A3 := hW.ns
    have hf3 := wd_fg hW
    have b3 : (T2 == T2) = true := by simp
    by_cases hok3 : Ok (wideTo rows more rows.length) miss
    · obtain ⟨n3, T3, hn3, hC3, hLP3, hT3, hb3⟩ := total_ok A3 hf3 hok3
      have hp3 := pcall_some.2 hb3
      have hle := least_wide hC (by omega) hLP hC3 hLP3
      have b4 : decide (T3 ≤ T2) = true := decide_eq_true hle
      simp (config := {maxSteps := 8000000}) only [e0, e1, e4, e11, e14, e15, e71, e72, e73, he16, hc1, hp3, b0, b1, b3, b4, SS, bne_self_eq_false, wr_def, obOf, List.all_cons, List.all_nil, List.map_cons, List.map_nil, List.length_cons, List.length_nil, List.take_zero, List.take_succ_cons, List.take_nil, List.drop_zero, List.drop_succ_cons, List.drop_nil, Nat.reduceAdd, Nat.reduceMul, Nat.reduceSub, if_true, Nat.reduceLT, Nat.reduceLeDiff, ite_true, ite_false, Nat.reduceEqDiff, if_false, reduceCtorEq, ne_eq, List.getD, List.getElem?_cons_zero, List.getElem?_cons_succ, Option.getD_some, Option.bind_some, Option.map_some, Option.isSome_some, reduceIte, List.length_append, List.append_assoc, List.cons_append, List.nil_append, Option.some.injEq, forall_const, implies_true, Int.reduceNeg, eq_self, Prod.mk.injEq, List.self_eq_append_right, List.append_nil, exists_eq_left, exists_eq_left', exists_and_left, exists_eq_right, exists_and_right]
    · obtain ⟨e, hne, hb3⟩ := total_err A3 hok3
      have hp3 := pcall_some.2 hb3
      have b4 : (e != 0) = true := by rw [bne_iff_ne]; exact hne
      simp (config := {maxSteps := 8000000}) only [e0, e1, e4, e11, e14, e15, e71, e72, e73, he16, hc1, hp3, b0, b1, b3, b4, SS, bne_self_eq_false, wr_def, obOf, List.all_cons, List.all_nil, List.map_cons, List.map_nil, List.length_cons, List.length_nil, List.take_zero, List.take_succ_cons, List.take_nil, List.drop_zero, List.drop_succ_cons, List.drop_nil, Nat.reduceAdd, Nat.reduceMul, Nat.reduceSub, if_true, Nat.reduceLT, Nat.reduceLeDiff, ite_true, ite_false, Nat.reduceEqDiff, if_false, reduceCtorEq, ne_eq, List.getD, List.getElem?_cons_zero, List.getElem?_cons_succ, Option.getD_some, Option.bind_some, Option.map_some, Option.isSome_some, reduceIte, List.length_append, List.append_assoc, List.cons_append, List.nil_append, Option.some.injEq, forall_const, implies_true, Int.reduceNeg, eq_self, Prod.mk.injEq, List.self_eq_append_right, List.append_nil, exists_eq_left, exists_eq_left', exists_and_left, exists_eq_right, exists_and_right]

theorem proved : Pure := by
  intro xs hg
  obtain ⟨e0, s0, rfl, u0, v0⟩ := goodL_cons hg
  obtain ⟨e1, s1, rfl, u1, v1⟩ := goodL_cons v0
  obtain ⟨e2, s2, rfl, u2, v2⟩ := goodL_cons v1
  obtain ⟨e3, s3, rfl, u3, v3⟩ := goodL_cons v2
  obtain ⟨e4, s4, rfl, u4, v4⟩ := goodL_cons v3
  obtain rfl := goodL_nil v4
  obtain ⟨rows, p0, b0, k0⟩ := in_sls (c := intC) (P := fun _ => True) dv_i (fun x => rfl) (by decide) u0
  obtain ⟨n1, rfl, lo1, hi1⟩ := good_i64 u1
  obtain ⟨n2, rfl, lo2, hi2⟩ := good_i64 u2
  obtain ⟨n3, rfl, lo3, hi3⟩ := good_i64 u3
  obtain ⟨ts, p4, b4, k4⟩ := in_sl (c := intC) (P := fun _ => True) dv_i (fun x => rfl) (by decide) u4
  obtain ⟨w0, o0, e0', r0⟩ := k0 0
  obtain ⟨w4, o4, e4', r4⟩ := k4 (o0.length)
  obtain ⟨vs, A⟩ := r0 [] o4 rfl
  have hs := r4 o0 [] rfl
  simp only [List.append_nil, List.nil_append] at A hs
  have := law rows w0 vs ts w4 n1 n2 n3 (o0 ++ o4) A hs
  simpa only [layA, layD, layL, argA, shapes, e0', e4', List.nil_append, List.cons_append, List.append_nil, List.append_assoc, List.length_nil, List.length_append, Nat.add_zero, Nat.zero_add, List.headD_cons] using this
end Go.Proofs.Ytpehhlfbnkakpaa.MyAssignTurned
