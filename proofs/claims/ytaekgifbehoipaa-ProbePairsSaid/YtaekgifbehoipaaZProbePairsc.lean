/- The law ProbePairs over what comes in as told. Conditions stand in the lemma. -/
import Derived.Test.YtaekgifbehoipaaZProbePairsb
namespace Go.Proofs.Ytaekgifbehoipaa.Pb
open Go Go.Proofs.Ytaekgifbehoipaa.Eva Go.Proofs.Ytaekgifbehoipaa.CodeAll Go.Proofs.Ytaekgifbehoipaa.Fl
set_option linter.unusedVariables false
set_option linter.unusedSimpArgs false
set_option maxRecDepth 10000
set_option maxHeartbeats 4000000

theorem sec_ex {xs : List (Int × Int)} {u : Int} (h1 : Spn xs u) (h2 : sec xs = [3, 4, 5, 6, 7]) : xs = [(3, 8)] := by
  match xs with
  | [] => simp [sec] at h2
  | (a, b) :: r =>
    have h3 := (h1.1 (a, b) (by simp)).1
    simp only at h3
    simp only [sec] at h2
    have hl := secs_len (a := a) (b := b)
    have ha : ∀ i : Nat, i < (b - a).toNat → (secs a b)[i]? = some (a + (i : Int)) := fun i hi => by
      unfold secs
      rw [List.getElem?_map, List.getElem?_range hi]; rfl
    have h0 := ha 0 (by omega)
    have e0 : ([3, 4, 5, 6, 7] : List Int)[0]? = some (a + ((0 : Nat) : Int)) := by rw [← h2, List.getElem?_append_left (by omega)]; exact h0
    simp at e0
    have ha3 : a = 3 := e0.symm
    subst ha3
    have htot := congrArg List.length h2
    simp only [List.length_append, List.length_cons, List.length_nil] at htot
    match r with
    | [] =>
      simp only [sec, List.length_nil] at htot
      have : b = 8 := by omega
      rw [this]
    | (c, d) :: r' =>
      exfalso
      have h5 := h1.2 0 (3, b) (c, d) rfl rfl
      have h6 := (h1.1 (c, d) (by simp)).1
      simp only at h5 h6
      have hn : (secs 3 b ++ sec ((c, d) :: r'))[(b - 3).toNat]? = some c := by
        rw [List.getElem?_append_right (by omega), hl, Nat.sub_self]
        simp only [sec]
        rw [List.getElem?_append_left (by rw [secs_len]; omega)]
        unfold secs
        rw [List.getElem?_map, List.getElem?_range (by omega)]
        simp
      rw [h2] at hn
      have hb : (b - 3).toNat < 5 := (List.getElem?_eq_some_iff.1 hn).1
      have : ∃ n : Nat, n < 5 ∧ b = 3 + (n : Int) ∧ (b - 3).toNat = n := ⟨(b - 3).toNat, hb, by omega, rfl⟩
      obtain ⟨n, hn5, hbn, hnn⟩ := this
      rw [hnn] at hn
      match n, hn5 with
      | 0, _ => omega
      | 1, _ => simp at hn; omega
      | 2, _ => simp at hn; omega
      | 3, _ => simp at hn; omega
      | 4, _ => simp at hn; omega
def tA : List Nd := [⟨0, 0, 0, 0, 1, 0⟩, ⟨9, 9, 0, 0, 1, 0⟩]
def tB : List Nd := [⟨0, 5, 4, 0, 0, 0⟩, ⟨9, 5, 4, 0, 0, 0⟩]
def sEx : Se := ⟨4, 9⟩
theorem ex_ck : ckE sEx tA tB = 0 := by decide +kernel
theorem ex_cl : cl (clB sEx tA tB) (cFrom tA tB) (cTo tA tB + 1) = [3, 4, 5, 6, 7] := by decide +kernel
theorem node_pc (t x y h r b : Int) (H : List Ob) : pcall E 50 [.int .i64 t, .int .i64 x, .int .i64 y, .int .i64 h, .int .i64 r, .int .i64 b] H = some (.agg (Nd.c ⟨t, x, y, h, r, b⟩)) := by
  refine pcall_some.2 (call_plain e50 rfl (Nat.le_of_ble_eq_true rfl) (by rfl) ?_)
  simp (config := {maxSteps := 4000000}) only [c50, Nd.c, SS, bne_self_eq_false, wr_def, obOf, List.all_cons, List.all_nil, List.map_cons, List.map_nil, List.length_cons, List.length_nil, List.take_zero, List.take_succ_cons, List.take_nil, List.drop_zero, List.drop_succ_cons, List.drop_nil, Nat.reduceAdd, Nat.reduceMul, Nat.reduceSub, if_true, Nat.reduceLT, Nat.reduceLeDiff, ite_true, ite_false, Nat.reduceEqDiff, if_false, reduceCtorEq, ne_eq, List.getD, List.getElem?_cons_zero, List.getElem?_cons_succ, Option.getD_some, Option.bind_some, Option.map_some, Option.isSome_some, reduceIte, List.length_append, List.append_assoc, List.cons_append, List.nil_append, Option.some.injEq, forall_const, implies_true, Int.reduceNeg, eq_self, Prod.mk.injEq, List.self_eq_append_right, List.append_nil, exists_eq_left, exists_eq_left', exists_and_left, exists_eq_right, exists_and_right]
theorem works_pc (H : List Ob) : pcall E 15 [] H = some (.bool true) := by
  refine pcall_some.2 (call_plain e15 rfl (Nat.le_of_ble_eq_true rfl) rfl ?_)
  have hn := fun t x y h r b H => node_pc t x y h r b H
  have hs : SlL (H ++ [⟨flat Nd.c tA, 0, 6, true, true⟩, ⟨flat Nd.c tB, 0, 6, true, true⟩]) (.sl false H.length 0 6 0 2) Nd.c 6 tA :=
    ⟨fun _ => rfl, by decide, rfl, Or.inr ⟨_, 0, 0, ⟨flat Nd.c tA, 0, 6, true, true⟩, rfl, by simp [rdObj], Nat.le_refl _, rfl⟩⟩
  have ht : SlL (H ++ [⟨flat Nd.c tA, 0, 6, true, true⟩, ⟨flat Nd.c tB, 0, 6, true, true⟩]) (.sl false (H.length + 1) 0 6 0 2) Nd.c 6 tB :=
    ⟨fun _ => rfl, by decide, rfl, Or.inr ⟨_, 0, 0, ⟨flat Nd.c tB, 0, 6, true, true⟩, rfl, by simp [rdObj], Nat.le_refl _, rfl⟩⟩
  obtain ⟨xs, e, ⟨he, _, hx⟩, hc⟩ := Pair_ex (s := sEx) hs ht
  rw [ex_ck] at he
  subst he
  obtain ⟨q1, q2, -⟩ := hx rfl
  rw [ex_cl] at q2
  have hxs := sec_ex q1 q2
  subst hxs
  have hcc := ncall_some.2 hc
  have e2 : (H ++ [(⟨flat Nd.c tA, 0, 6, true, true⟩ : Ob), (⟨flat Nd.c tB, 0, 6, true, true⟩ : Ob)]).length = H.length + 2 := by simp
  rw [e2] at hcc
  have hov : outV (H.length + 2) 2 [((3 : Int), (8 : Int))].length = .sl false (H.length + 2) 0 2 0 1 := rfl
  have hoo : outO 2 [((3 : Int), (8 : Int))].length (flat sc2 [(3, 8)]) = [⟨[.int .i64 3, .int .i64 8], 0, 2, true, true⟩] := rfl
  rw [hov, hoo] at hcc
  have z0 : ((0 : Int) == 0) = true := rfl
  have z1 : (((1 : Nat) : Int) == 1) = true := rfl
  have z3 : ((3 : Int) == 3) = true := rfl
  have z8 : ((8 : Int) == 8) = true := rfl
  have ok : idxOk 2 (.sl false (H.length + 2) 0 2 0 1) (.int .i64 0) := ⟨by omega, by decide, rfl, rfl⟩
  simp only [tA, tB, sEx, Se.c, Nd.c, flat, List.map_cons, List.map_nil, List.flatten_cons, List.flatten_nil, List.cons_append, List.nil_append, List.append_nil] at hcc hn
  have it0 : Int.toNat 0 = 0 := rfl
  have le0 : (0 : Nat) ≤ 0 := Nat.le_refl _
  simp (config := {maxSteps := 4000000}) only [c15, hn, rg_calln, ncallV_fn, hcc, z0, z1, z3, z8, ok, it0, le0, Nat.zero_mul, SS, bne_self_eq_false, wr_def, obOf, List.all_cons, List.all_nil, List.map_cons, List.map_nil, List.length_cons, List.length_nil, List.take_zero, List.take_succ_cons, List.take_nil, List.drop_zero, List.drop_succ_cons, List.drop_nil, Nat.reduceAdd, Nat.reduceMul, Nat.reduceSub, if_true, Nat.reduceLT, Nat.reduceLeDiff, ite_true, ite_false, Nat.reduceEqDiff, if_false, reduceCtorEq, ne_eq, List.getD, List.getElem?_cons_zero, List.getElem?_cons_succ, Option.getD_some, Option.bind_some, Option.map_some, Option.isSome_some, reduceIte, List.length_append, List.append_assoc, List.cons_append, List.nil_append, Option.some.injEq, forall_const, implies_true, Int.reduceNeg, eq_self, Prod.mk.injEq, List.self_eq_append_right, List.append_nil, exists_eq_left, exists_eq_left', exists_and_left, exists_eq_right, exists_and_right]
  rfl
theorem isl_out' {n0 : Nat} {h : List Ob} {sz k : Nat} {cs : List AV} (hn : n0 ≤ h.length) (hk : k = 0 → cs = []) : IsL n0 (h ++ outO sz k cs) (outV h.length sz k) sz true cs k := by
  by_cases h0 : k = 0
  · subst h0
    obtain rfl := hk rfl
    exact IsL.nil
  · refine Or.inr ⟨h.length, 0, by rw [outV, if_neg h0], ?_, hn, h0⟩
    unfold rdObj
    rw [List.getElem?_append_right (Nat.le_refl _), Nat.sub_self, outO, if_neg h0]
    rfl
theorem isl_len {n0 : Nat} {h : List Ob} {v : AV} {sz k : Nat} {fl : Bool} {cs : List AV} (A : IsL n0 h v sz fl cs k) : lenvA false v = some (.int .i64 (k : Int)) := by
  rcases A with ⟨rfl, _, rfl⟩ | ⟨id, ep, rfl, _⟩ <;> rfl
theorem outv_id {n sz k id : Nat} (h : idOf (outV n sz k) id) : id = n := by
  unfold outV at h
  split at h
  · exact absurd h idOf_nil
  · exact h.2
theorem sec_take {xs : List (Int × Int)} {i : Nat} {p : Int × Int} (h : xs[i]? = some p) : sec (xs.take (i + 1)) = sec (xs.take i) ++ secs p.1 p.2 := by
  rw [List.take_add_one, h, sec_app]; simp [sec]
theorem sec_pre (xs : List (Int × Int)) (i : Nat) : (sec (xs.take i)).length ≤ (sec xs).length := by
  have : sec xs = sec (xs.take i) ++ sec (xs.drop i) := by rw [← sec_app, List.take_append_drop]
  rw [this, List.length_append]; omega
theorem pairs_law {H : List Ob} {V W : AV} {l m : List Nd} (s : Se) (hs : SlL H V Nd.c 6 l) (ht : SlL H W Nd.c 6 m) : ∃ r, ecall E 4 [V, W, .agg s.c] H = some (.bool true, r) := by
  refine call_true e4 rfl (Nat.le_of_ble_eq_true rfl) ?_
  have n0 : ((0 : Int) != 0) = false := rfl
  have hw := fun H => works_pc H
  have hs1 := hs.keep [⟨s.c, 0, 0, true, true⟩]
  have ht1 := ht.keep [⟨s.c, 0, 0, true, true⟩]
  obtain ⟨xs, e, ⟨he, hx0, hx1⟩, hc⟩ := Pair_ex (s := s) hs1 ht1
  have hcc := ncall_some.2 hc
  have hio := isl_out' (n0 := H.length) (h := H ++ [(⟨s.c, 0, 0, true, true⟩ : Ob)]) (sz := 2) (k := xs.length) (cs := flat sc2 xs) (by simp) (fun h => by rw [List.length_eq_zero_iff.1 h]; rfl)
  have hvv : ∀ id, idOf (outV (H ++ [(⟨s.c, 0, 0, true, true⟩ : Ob)]).length 2 xs.length) id → id ≠ H.length ∧ ¬ idOf V id ∧ ¬ idOf W id := fun id h => by
    have e := outv_id h
    rw [List.length_append] at e
    simp only [List.length_singleton] at e
    exact ⟨by omega, fun h => by have := hs.idlt h; omega, fun h => by have := ht.idlt h; omega⟩
  generalize outO 2 xs.length (flat sc2 xs) = o1 at hcc hio
  generalize outV (H ++ [(⟨s.c, 0, 0, true, true⟩ : Ob)]).length 2 xs.length = v1 at hcc hio hvv
  have hln := isl_len hio
  have hsp := fun H => sep_pc' s H
  have htl := fun z => tchk_pc ((hs1.keep o1).keep z)
  have htm := fun z => tchk_pc ((ht1.keep o1).keep z)
  simp only [Se.c, List.append_assoc, List.cons_append, List.nil_append] at hcc hio hsp htl htm
  have htl0 := htl []
  have htm0 := htm []
  simp only [List.append_nil] at htl0 htm0
  by_cases hz : e = 0
  rotate_left
  · have b1 : (e != 0) = true := bne_iff_ne.2 hz
    have hxe := hx0 hz
    subst hxe
    have z0 : (((0 : Nat) : Int) == 0) = true := rfl
    rw [List.length_nil] at hln
    rw [he] at hz
    unfold ckE at hz
    by_cases kk1 : s.chk = 0
    rotate_left
    · have b2 : (s.chk != 0) = true := bne_iff_ne.2 kk1
      generalize s.chk = q at *
      simp (config := {maxSteps := 4000000}) only [c4, Se.c, hw, rg_calln, ncallV_fn, hcc, hsp, b2, b1, hln, z0, SS, bne_self_eq_false, wr_def, obOf, List.all_cons, List.all_nil, List.map_cons, List.map_nil, List.length_cons, List.length_nil, List.take_zero, List.take_succ_cons, List.take_nil, List.drop_zero, List.drop_succ_cons, List.drop_nil, Nat.reduceAdd, Nat.reduceMul, Nat.reduceSub, if_true, Nat.reduceLT, Nat.reduceLeDiff, ite_true, ite_false, Nat.reduceEqDiff, if_false, reduceCtorEq, ne_eq, List.getD, List.getElem?_cons_zero, List.getElem?_cons_succ, Option.getD_some, Option.bind_some, Option.map_some, Option.isSome_some, reduceIte, List.length_append, List.append_assoc, List.cons_append, List.nil_append, Option.some.injEq, forall_const, implies_true, Int.reduceNeg, eq_self, Prod.mk.injEq, List.self_eq_append_right, List.append_nil, exists_eq_left, exists_eq_left', exists_and_left, exists_eq_right, exists_and_right]
    rw [kk1] at hsp
    rw [if_neg (fun h => h kk1)] at hz
    by_cases kk2 : tchk l = 0
    rotate_left
    · have b2 : (tchk l != 0) = true := bne_iff_ne.2 kk2
      generalize tchk l = q at *
      simp (config := {maxSteps := 4000000}) only [c4, Se.c, hw, rg_calln, ncallV_fn, hcc, hsp, n0, htl0, b2, b1, hln, z0, SS, bne_self_eq_false, wr_def, obOf, List.all_cons, List.all_nil, List.map_cons, List.map_nil, List.length_cons, List.length_nil, List.take_zero, List.take_succ_cons, List.take_nil, List.drop_zero, List.drop_succ_cons, List.drop_nil, Nat.reduceAdd, Nat.reduceMul, Nat.reduceSub, if_true, Nat.reduceLT, Nat.reduceLeDiff, ite_true, ite_false, Nat.reduceEqDiff, if_false, reduceCtorEq, ne_eq, List.getD, List.getElem?_cons_zero, List.getElem?_cons_succ, Option.getD_some, Option.bind_some, Option.map_some, Option.isSome_some, reduceIte, List.length_append, List.append_assoc, List.cons_append, List.nil_append, Option.some.injEq, forall_const, implies_true, Int.reduceNeg, eq_self, Prod.mk.injEq, List.self_eq_append_right, List.append_nil, exists_eq_left, exists_eq_left', exists_and_left, exists_eq_right, exists_and_right]
    rw [kk2] at htl0
    rw [if_neg (fun h => h kk2)] at hz
    have b2 : (tchk m != 0) = true := bne_iff_ne.2 hz
    generalize tchk m = q at *
    simp (config := {maxSteps := 4000000}) only [c4, Se.c, hw, rg_calln, ncallV_fn, hcc, hsp, n0, htl0, htm0, b2, b1, hln, z0, SS, bne_self_eq_false, wr_def, obOf, List.all_cons, List.all_nil, List.map_cons, List.map_nil, List.length_cons, List.length_nil, List.take_zero, List.take_succ_cons, List.take_nil, List.drop_zero, List.drop_succ_cons, List.drop_nil, Nat.reduceAdd, Nat.reduceMul, Nat.reduceSub, if_true, Nat.reduceLT, Nat.reduceLeDiff, ite_true, ite_false, Nat.reduceEqDiff, if_false, reduceCtorEq, ne_eq, List.getD, List.getElem?_cons_zero, List.getElem?_cons_succ, Option.getD_some, Option.bind_some, Option.map_some, Option.isSome_some, reduceIte, List.length_append, List.append_assoc, List.cons_append, List.nil_append, Option.some.injEq, forall_const, implies_true, Int.reduceNeg, eq_self, Prod.mk.injEq, List.self_eq_append_right, List.append_nil, exists_eq_left, exists_eq_left', exists_and_left, exists_eq_right, exists_and_right]
  rw [hz] at he
  subst hz
  obtain ⟨kk1, kk2, kk3⟩ := ckE_ok.1 he.symm
  rw [kk1] at hsp
  rw [kk2] at htl0
  rw [kk3] at htm0
  obtain ⟨SP, SE, XL⟩ := hx1 rfl
  have p1 : 0 < l.length := List.length_pos_iff.2 (tchk_ne kk2)
  have gl1 := tchk_len kk2
  have len1 := hs.len
  have w1 : IntKind.i64.wrap ((l.length : Int) - 1) = ((l.length - 1 : Nat) : Int) := by rw [wrap64 (by omega) (by omega)]; omega
  have o1' : idxOk 6 V (.int .i64 0) := hs.ok (by omega) (by omega)
  have o3' : idxOk 6 V (.int .i64 ((l.length - 1 : Nat) : Int)) := hs.ok (by omega) (by omega)
  have hs2 := hs1.keep o1
  have ht2 := ht1.keep o1
  simp only [List.append_assoc, List.cons_append, List.nil_append] at hs2 ht2
  have d1 : ld1A _ (fadA (0 + 0) (idxV 6 V (.int .i64 0))) = _ := hs2.ldc (i := 0) (x := nd l 0) (by omega) (nd_get p1) (by decide)
  have d3 : ld1A _ (fadA (0 + 0) (idxV 6 V (.int .i64 ((l.length - 1 : Nat) : Int)))) = _ := hs2.ldc (x := nd l (l.length - 1)) (by omega) (by rw [Int.toNat_natCast]; exact nd_get (by omega)) (by decide)
  simp only [Nd.c, Nat.add_zero, Se.c] at d1 d3
  by_cases kk4 : 4000 < IntKind.i64.wrap ((nd l (l.length - 1)).t - (nd l 0).t)
  · have b4 := decide_eq_true kk4
    simp (config := {maxSteps := 4000000}) only [c4, Se.c, hw, rg_calln, ncallV_fn, hcc, hsp, n0, htl0, htm0, len1, w1, o1', o3', isPtr_idx o1', isPtr_idx o3', d1, d3, fad_fad, isPtr_fad, b4, SS, bne_self_eq_false, wr_def, obOf, List.all_cons, List.all_nil, List.map_cons, List.map_nil, List.length_cons, List.length_nil, List.take_zero, List.take_succ_cons, List.take_nil, List.drop_zero, List.drop_succ_cons, List.drop_nil, Nat.reduceAdd, Nat.reduceMul, Nat.reduceSub, if_true, Nat.reduceLT, Nat.reduceLeDiff, ite_true, ite_false, Nat.reduceEqDiff, if_false, reduceCtorEq, ne_eq, List.getD, List.getElem?_cons_zero, List.getElem?_cons_succ, Option.getD_some, Option.bind_some, Option.map_some, Option.isSome_some, reduceIte, List.length_append, List.append_assoc, List.cons_append, List.nil_append, Option.some.injEq, forall_const, implies_true, Int.reduceNeg, eq_self, Prod.mk.injEq, List.self_eq_append_right, List.append_nil, exists_eq_left, exists_eq_left', exists_and_left, exists_eq_right, exists_and_right]
  have b4 := decide_eq_false kk4
  simp (config := {maxSteps := 4000000}) only [c4, Se.c, hw, rg_calln, ncallV_fn, hcc, hsp, n0, htl0, htm0, len1, w1, o1', o3', isPtr_idx o1', isPtr_idx o3', d1, d3, fad_fad, isPtr_fad, b4, hln, SS, bne_self_eq_false, wr_def, obOf, List.all_cons, List.all_nil, List.map_cons, List.map_nil, List.length_cons, List.length_nil, List.take_zero, List.take_succ_cons, List.take_nil, List.drop_zero, List.drop_succ_cons, List.drop_nil, Nat.reduceAdd, Nat.reduceMul, Nat.reduceSub, if_true, Nat.reduceLT, Nat.reduceLeDiff, ite_true, ite_false, Nat.reduceEqDiff, if_false, reduceCtorEq, ne_eq, List.getD, List.getElem?_cons_zero, List.getElem?_cons_succ, Option.getD_some, Option.bind_some, Option.map_some, Option.isSome_some, reduceIte, List.length_append, List.append_assoc, List.cons_append, List.nil_append, Option.some.injEq, forall_const, implies_true, Int.reduceNeg, eq_self, Prod.mk.injEq, List.self_eq_append_right, List.append_nil, exists_eq_left, exists_eq_left', exists_and_left, exists_eq_right, exists_and_right]
  have XB : (sec xs).length ≤ 200001 := by
    obtain ⟨q0, q1, q2, q3⟩ := com_ok kk2 kk3
    rw [SE]
    exact Nat.le_trans cl_len (by omega)
  have LV : IsL H.length (H ++ (⟨s.c, 0, 0, true, true⟩ :: o1)) v1 2 true (flat sc2 xs) xs.length := hio
  have hvd : ∀ id, idOf v1 id → id ≠ H.length ∧ ¬ idOf V id ∧ ¬ idOf W id := hvv
  refine W_loop (fun k f1 g1 => ∃ i : Nat, k = xs.length - i ∧ i ≤ xs.length ∧ f1 0 = V ∧ f1 1 = W ∧ f1 5 = .ptr H.length 0 0 ∧ f1 7 = v1 ∧ f1 8 = .int .i64 0 ∧ f1 59 = v1 ∧ f1 60 = .int .i64 (xs.length : Int) ∧ f1 61 = .int .i64 (i : Int) ∧ SlL g1 V Nd.c 6 l ∧ SlL g1 W Nd.c 6 m ∧ rdObj g1 H.length 0 = some ⟨s.c, 0, 0, true, true⟩ ∧ IsL H.length g1 v1 2 true (flat sc2 xs) xs.length ∧ (∀ id, idOf (f1 9) id → id ≠ H.length ∧ ¬ idOf V id ∧ ¬ idOf W id ∧ ¬ idOf v1 id) ∧ IsL H.length g1 (f1 9) 1 true (flat intC (sec (xs.take i))) (sec (xs.take i)).length) (by simp) _ ⟨0, rfl, Nat.zero_le _, rfl, rfl, rfl, rfl, rfl, rfl, rfl, rfl, hs2, ht2, by simp [rdObj, Se.c], LV, fun id h => absurd h idOf_nil, IsL.nil⟩ ?_
  rintro k f1 g1 hn1 ht ⟨i, rfl, hi, e0, e1, e5, e7, e8, e59, e60, e61, S, T, R, LL, D, LS⟩
  have hHl := rd_lt R
  generalize e9 : f1 9 = vs at *
  by_cases hix : i < xs.length
  rotate_left
  · have b1 : decide ((i : Int) < (xs.length : Int)) = false := decide_eq_false (by omega)
    have hix' : i = xs.length := by omega
    subst hix'
    rw [List.take_length] at LS
    obtain ⟨ys, hys, hcl⟩ := clash_ex S T kk2 kk3 kk1
    rw [← SE] at hys
    subst hys
    have hcn := ncall_some.2 hcl
    have hlo := isl_out' (n0 := H.length) (h := g1) (sz := 1) (k := (sec xs).length) (cs := flat intC (sec xs)) (by omega) (fun h => by rw [List.length_eq_zero_iff.1 h]; rfl)
    generalize outO 1 (sec xs).length (flat intC (sec xs)) = o2 at hcn hlo
    generalize outV g1.length 1 (sec xs).length = v2 at hcn hlo
    have ln1 := isl_len LS
    have ln2 := isl_len hlo
    have q1 : ((((sec xs).length : Nat) : Int) != ((sec xs).length : Nat)) = false := by simp
    have R' := R
    simp only [Se.c] at R' hcn
    simp (config := {maxSteps := 8000000}) only [e0, e1, e5, e7, e8, e9, e60, e61, b1, R', rg_calln, ncallV_fn, hcn, ln1, ln2, q1, n0, SS, bne_self_eq_false, wr_def, obOf, List.all_cons, List.all_nil, List.map_cons, List.map_nil, List.length_cons, List.length_nil, List.take_zero, List.take_succ_cons, List.take_nil, List.drop_zero, List.drop_succ_cons, List.drop_nil, Nat.reduceAdd, Nat.reduceMul, Nat.reduceSub, if_true, Nat.reduceLT, Nat.reduceLeDiff, ite_true, ite_false, Nat.reduceEqDiff, if_false, reduceCtorEq, ne_eq, List.getD, List.getElem?_cons_zero, List.getElem?_cons_succ, Option.getD_some, Option.bind_some, Option.map_some, Option.isSome_some, reduceIte, List.length_append, List.append_assoc, List.cons_append, List.nil_append, Option.some.injEq, forall_const, implies_true, Int.reduceNeg, eq_self, Prod.mk.injEq, List.self_eq_append_right, List.append_nil, exists_eq_left, exists_eq_left', exists_and_left, exists_eq_right, exists_and_right]
    have SA : SlL (g1 ++ o2) vs intC 1 (sec xs) := ⟨fun _ => rfl, by decide, (LS.keep o2).rd (flat_len (k := 1) (fun _ => rfl) _)⟩
    have SB : SlL (g1 ++ o2) v2 intC 1 (sec xs) := ⟨fun _ => rfl, by decide, hlo.rd (flat_len (k := 1) (fun _ => rfl) _)⟩
    refine ⟨hn1, ?_⟩
    refine W_loop (fun k f2 g2 => ∃ j : Nat, k = (sec xs).length - j ∧ j ≤ (sec xs).length ∧ f2 9 = vs ∧ f2 13 = v2 ∧ f2 113 = .int .i64 ((sec xs).length : Int) ∧ f2 114 = .int .i64 (j : Int) ∧ SlL g2 vs intC 1 (sec xs) ∧ SlL g2 v2 intC 1 (sec xs)) (by simp; omega) _ ⟨0, rfl, Nat.zero_le _, e9, rfl, rfl, rfl, SA, SB⟩ ?_
    rintro k f2 g2 hn2 ht2' ⟨j, rfl, hj, x9, x13, x113, x114, SA, SB⟩
    by_cases hjx : j < (sec xs).length
    rotate_left
    · have b2 : decide ((j : Int) < ((sec xs).length : Int)) = false := decide_eq_false (by omega)
      simp (config := {maxSteps := 8000000}) only [x9, x13, x113, x114, b2, SS, bne_self_eq_false, wr_def, obOf, List.all_cons, List.all_nil, List.map_cons, List.map_nil, List.length_cons, List.length_nil, List.take_zero, List.take_succ_cons, List.take_nil, List.drop_zero, List.drop_succ_cons, List.drop_nil, Nat.reduceAdd, Nat.reduceMul, Nat.reduceSub, if_true, Nat.reduceLT, Nat.reduceLeDiff, ite_true, ite_false, Nat.reduceEqDiff, if_false, reduceCtorEq, ne_eq, List.getD, List.getElem?_cons_zero, List.getElem?_cons_succ, Option.getD_some, Option.bind_some, Option.map_some, Option.isSome_some, reduceIte, List.length_append, List.append_assoc, List.cons_append, List.nil_append, Option.some.injEq, forall_const, implies_true, Int.reduceNeg, eq_self, Prod.mk.injEq, List.self_eq_append_right, List.append_nil, exists_eq_left, exists_eq_left', exists_and_left, exists_eq_right, exists_and_right]
    have b2 : decide ((j : Int) < ((sec xs).length : Int)) = true := decide_eq_true (by omega)
    have wj : IntKind.i64.wrap ((j : Int) + 1) = ((j + 1 : Nat) : Int) := by rw [wrap64 (by omega) (by omega)]; omega
    obtain ⟨z, hz⟩ : ∃ z, (sec xs)[j]? = some z := ⟨_, List.getElem?_eq_getElem hjx⟩
    have oa : idxOk 1 vs (.int .i64 (j : Int)) := SA.ok (by omega) (by omega)
    have ob : idxOk 1 v2 (.int .i64 (j : Int)) := SB.ok (by omega) (by omega)
    have la : ld1A g2 (idxV 1 vs (.int .i64 (j : Int))) = some (.int .i64 z) := SA.ld0 (x := z) (by omega) (by rw [Int.toNat_natCast]; exact hz)
    have lb : ld1A g2 (idxV 1 v2 (.int .i64 (j : Int))) = some (.int .i64 z) := SB.ld0 (x := z) (by omega) (by rw [Int.toNat_natCast]; exact hz)
    have q2 : (z != z) = false := by simp
    simp (config := {maxSteps := 8000000}) only [x9, x13, x113, x114, b2, oa, ob, isPtr_idx oa, isPtr_idx ob, la, lb, wj, q2, n0, SS, bne_self_eq_false, wr_def, obOf, List.all_cons, List.all_nil, List.map_cons, List.map_nil, List.length_cons, List.length_nil, List.take_zero, List.take_succ_cons, List.take_nil, List.drop_zero, List.drop_succ_cons, List.drop_nil, Nat.reduceAdd, Nat.reduceMul, Nat.reduceSub, if_true, Nat.reduceLT, Nat.reduceLeDiff, ite_true, ite_false, Nat.reduceEqDiff, if_false, reduceCtorEq, ne_eq, List.getD, List.getElem?_cons_zero, List.getElem?_cons_succ, Option.getD_some, Option.bind_some, Option.map_some, Option.isSome_some, reduceIte, List.length_append, List.append_assoc, List.cons_append, List.nil_append, Option.some.injEq, forall_const, implies_true, Int.reduceNeg, eq_self, Prod.mk.injEq, List.self_eq_append_right, List.append_nil, exists_eq_left, exists_eq_left', exists_and_left, exists_eq_right, exists_and_right]
    exact ⟨_, by omega, j + 1, rfl, by omega, rfl, SA, SB⟩
  have b1 : decide ((i : Int) < (xs.length : Int)) = true := decide_eq_true (by omega)
  have wi : IntKind.i64.wrap ((i : Int) + 1) = ((i + 1 : Nat) : Int) := by rw [wrap64 (by omega) (by omega)]; omega
  obtain ⟨p, hp⟩ : ∃ p, xs[i]? = some p := ⟨_, List.getElem?_eq_getElem hix⟩
  have SV : SlL g1 v1 sc2 2 xs := ⟨fun _ => rfl, by decide, LL.rd (flat_len (k := 2) (fun _ => rfl) _)⟩
  have ov : idxOk 2 v1 (.int .i64 (i : Int)) := SV.ok (by omega) (by omega)
  have lv : ldnA 2 g1 (idxV 2 v1 (.int .i64 (i : Int))) = some (.agg (sc2 p)) := SV.ldn (by omega) (by rw [Int.toNat_natCast]; exact hp)
  have hp1 := (SP.1 p (List.mem_of_getElem? hp)).1
  have y1 : decide (p.2 ≤ p.1) = false := decide_eq_false (by omega)
  simp only [sc2] at lv
  have st1 := sec_take hp
  have spre : (sec (xs.take i)).length + (p.2 - p.1).toNat ≤ 200001 := by
    have h9 := sec_pre xs (i + 1)
    rw [st1, List.length_append, secs_len] at h9
    omega
  have hp2 : p.2 ≤ 200001 := by
    have := (SP.1 p (List.mem_of_getElem? hp)).2
    obtain ⟨q0, q1, q2, q3⟩ := com_ok kk2 kk3
    omega
  have hp0 : 0 ≤ p.1 := by
    have hm : p.1 ∈ sec xs := by
      have e : sec xs = sec (xs.take (i + 1)) ++ sec (xs.drop (i + 1)) := by rw [← sec_app, List.take_append_drop]
      rw [e, st1]
      refine List.mem_append_left _ (List.mem_append_right _ ?_)
      unfold secs
      rw [List.mem_map]
      exact ⟨0, by rw [List.mem_range]; omega, by simp⟩
    rw [SE] at hm
    have h9 := (List.mem_filter.1 hm).1
    unfold secs at h9
    obtain ⟨n, -, hn⟩ := List.mem_map.1 h9
    obtain ⟨q0, q1, q2, q3⟩ := com_ok kk2 kk3
    omega
  by_cases hi0 : i = 0
  case' pos =>
    have y2 : decide ((0 : Int) < (i : Int)) = false := decide_eq_false (by omega)
    simp (config := {maxSteps := 8000000}) only [e0, e1, e5, e7, e8, e9, e59, e60, e61, b1, ov, isPtr_idx ov, lv, y1, y2, getC, hn1, SS, bne_self_eq_false, wr_def, obOf, List.all_cons, List.all_nil, List.map_cons, List.map_nil, List.length_cons, List.length_nil, List.take_zero, List.take_succ_cons, List.take_nil, List.drop_zero, List.drop_succ_cons, List.drop_nil, Nat.reduceAdd, Nat.reduceMul, Nat.reduceSub, if_true, Nat.reduceLT, Nat.reduceLeDiff, ite_true, ite_false, Nat.reduceEqDiff, if_false, reduceCtorEq, ne_eq, List.getD, List.getElem?_cons_zero, List.getElem?_cons_succ, Option.getD_some, Option.bind_some, Option.map_some, Option.isSome_some, reduceIte, List.length_append, List.append_assoc, List.cons_append, List.nil_append, Option.some.injEq, forall_const, implies_true, Int.reduceNeg, eq_self, Prod.mk.injEq, List.self_eq_append_right, List.append_nil, exists_eq_left, exists_eq_left', exists_and_left, exists_eq_right, exists_and_right]
  case' neg =>
    have y2 : decide ((0 : Int) < (i : Int)) = true := decide_eq_true (by omega)
    have wp : IntKind.i64.wrap ((i : Int) - 1) = ((i - 1 : Nat) : Int) := by rw [wrap64 (by omega) (by omega)]; omega
    obtain ⟨r, hr⟩ : ∃ r, xs[i - 1]? = some r := ⟨_, List.getElem?_eq_getElem (by omega)⟩
    have SV' : SlL (g1 ++ [⟨[.int .i64 p.1, .int .i64 p.2], 0, 0, true, true⟩]) v1 sc2 2 xs := SV.keep _
    have ow : idxOk 2 v1 (.int .i64 ((i - 1 : Nat) : Int)) := SV.ok (by omega) (by omega)
    have lw : ld1A (g1 ++ [⟨[.int .i64 p.1, .int .i64 p.2], 0, 0, true, true⟩]) (fadA 1 (idxV 2 v1 (.int .i64 ((i - 1 : Nat) : Int)))) = _ := SV'.ldc (x := r) (by omega) (by rw [Int.toNat_natCast]; exact hr) (by decide)
    have hrp := SP.2 (i - 1) r p hr (by rw [Nat.sub_add_cancel (by omega)]; exact hp)
    have y3 : decide (p.1 ≤ r.2) = false := decide_eq_false (by omega)
    simp only [sc2] at lw
    simp (config := {maxSteps := 8000000}) only [e0, e1, e5, e7, e8, e9, e59, e60, e61, b1, ov, isPtr_idx ov, lv, y1, y2, y3, wp, ow, isPtr_idx ow, isPtr_fad, lw, getC, hn1, SS, bne_self_eq_false, wr_def, obOf, List.all_cons, List.all_nil, List.map_cons, List.map_nil, List.length_cons, List.length_nil, List.take_zero, List.take_succ_cons, List.take_nil, List.drop_zero, List.drop_succ_cons, List.drop_nil, Nat.reduceAdd, Nat.reduceMul, Nat.reduceSub, if_true, Nat.reduceLT, Nat.reduceLeDiff, ite_true, ite_false, Nat.reduceEqDiff, if_false, reduceCtorEq, ne_eq, List.getD, List.getElem?_cons_zero, List.getElem?_cons_succ, Option.getD_some, Option.bind_some, Option.map_some, Option.isSome_some, reduceIte, List.length_append, List.append_assoc, List.cons_append, List.nil_append, Option.some.injEq, forall_const, implies_true, Int.reduceNeg, eq_self, Prod.mk.injEq, List.self_eq_append_right, List.append_nil, exists_eq_left, exists_eq_left', exists_and_left, exists_eq_right, exists_and_right]
  all_goals
    refine W_loop (fun k f2 g2 => ∃ t : Int, k = (p.2 - t).toNat ∧ p.1 ≤ t ∧ t ≤ p.2 ∧ f2 0 = V ∧ f2 1 = W ∧ f2 5 = .ptr H.length 0 0 ∧ f2 7 = v1 ∧ f2 8 = .int .i64 0 ∧ f2 59 = v1 ∧ f2 60 = .int .i64 (xs.length : Int) ∧ f2 61 = .int .i64 (i : Int) ∧ f2 11 = .ptr g1.length 0 0 ∧ f2 12 = .int .i64 t ∧ SlL g2 V Nd.c 6 l ∧ SlL g2 W Nd.c 6 m ∧ rdObj g2 H.length 0 = some ⟨s.c, 0, 0, true, true⟩ ∧ rdObj g2 g1.length 0 = some ⟨[.int .i64 p.1, .int .i64 p.2], 0, 0, true, true⟩ ∧ IsL H.length g2 v1 2 true (flat sc2 xs) xs.length ∧ (∀ id, idOf (f2 9) id → id ≠ H.length ∧ id ≠ g1.length ∧ ¬ idOf V id ∧ ¬ idOf W id ∧ ¬ idOf v1 id) ∧ IsL H.length g2 (f2 9) 1 true (flat intC (sec (xs.take i) ++ secs p.1 t)) (sec (xs.take i) ++ secs p.1 t).length) (by simp; omega) _ ⟨p.1, rfl, Int.le_refl _, by omega, e0, e1, e5, e7, e8, e59, e60, e61, rfl, rfl, S.keep _, T.keep _, rd_keep R, by simp [rdObj], LL.keep _, ?_, ?_⟩ ?_
    · intro id hid
      have hid' : idOf vs id := by rw [← e9]; exact hid
      have := LS.idlt hid'
      exact ⟨(D id hid').1, by omega, (D id hid').2⟩
    · rw [secs_nil (Int.le_refl _), List.append_nil]
      have := LS.keep [⟨[.int .i64 p.1, .int .i64 p.2], 0, 0, true, true⟩]
      rw [← e9] at this
      exact this
    · clear LS D e0 e1 e5 e7 e8 e9 e59 e60 e61
      rintro k f2 g2 hn2 ht2' ⟨t, rfl, hp1', hpt, e0, e1, e5, e7, e8, e59, e60, e61, e11, e12, S2, T2, R, R2, LL2, D, LS⟩
      generalize e9 : f2 9 = vt at *
      by_cases htx : t < p.2
      rotate_left
      · have b2 : decide (t < p.2) = false := decide_eq_false htx
        have hte : t = p.2 := by omega
        subst hte
        rw [← st1] at LS
        simp (config := {maxSteps := 8000000}) only [e0, e1, e5, e7, e8, e9, e59, e60, e61, e11, e12, R2, b2, wi, getC, SS, bne_self_eq_false, wr_def, obOf, List.all_cons, List.all_nil, List.map_cons, List.map_nil, List.length_cons, List.length_nil, List.take_zero, List.take_succ_cons, List.take_nil, List.drop_zero, List.drop_succ_cons, List.drop_nil, Nat.reduceAdd, Nat.reduceMul, Nat.reduceSub, if_true, Nat.reduceLT, Nat.reduceLeDiff, ite_true, ite_false, Nat.reduceEqDiff, if_false, reduceCtorEq, ne_eq, List.getD, List.getElem?_cons_zero, List.getElem?_cons_succ, Option.getD_some, Option.bind_some, Option.map_some, Option.isSome_some, reduceIte, List.length_append, List.append_assoc, List.cons_append, List.nil_append, Option.some.injEq, forall_const, implies_true, Int.reduceNeg, eq_self, Prod.mk.injEq, List.self_eq_append_right, List.append_nil, exists_eq_left, exists_eq_left', exists_and_left, exists_eq_right, exists_and_right]
        exact ⟨_, by omega, i + 1, rfl, by omega, rfl, S2, T2, R, LL2, fun id h => ⟨(D id h).1, (D id h).2.2⟩, LS⟩
      have b2 : decide (t < p.2) = true := decide_eq_true htx
      have wt : IntKind.i64.wrap (t + 1) = t + 1 := wrap64 (by omega) (by omega)
      have hlt : (sec (xs.take i) ++ secs p.1 t).length ≤ 200001 := by
        rw [List.length_append, secs_len]; omega
      simp (config := {maxSteps := 8000000}) only [e0, e1, e5, e7, e8, e9, e59, e60, e61, e11, e12, R2, b2, wt, getC, hn2, SS, bne_self_eq_false, wr_def, obOf, List.all_cons, List.all_nil, List.map_cons, List.map_nil, List.length_cons, List.length_nil, List.take_zero, List.take_succ_cons, List.take_nil, List.drop_zero, List.drop_succ_cons, List.drop_nil, Nat.reduceAdd, Nat.reduceMul, Nat.reduceSub, if_true, Nat.reduceLT, Nat.reduceLeDiff, ite_true, ite_false, Nat.reduceEqDiff, if_false, reduceCtorEq, ne_eq, List.getD, List.getElem?_cons_zero, List.getElem?_cons_succ, Option.getD_some, Option.bind_some, Option.map_some, Option.isSome_some, reduceIte, List.length_append, List.append_assoc, List.cons_append, List.nil_append, Option.some.injEq, forall_const, implies_true, Int.reduceNeg, eq_self, Prod.mk.injEq, List.self_eq_append_right, List.append_nil, exists_eq_left, exists_eq_left', exists_and_left, exists_eq_right, exists_and_right]
      refine appK_at (c := [.int .i64 t]) (rw' := true) (fl' := true) (LS.keep _) (by simp [rdObj]) (by rw [flat_len (k := 1) (fun _ => rfl)]) rfl (by unfold appLim; omega) (by simp; omega) (fun v' h' hv' hfr hlen' hidv => ?_)
      have kp : ∀ id ep o, rdObj g2 id ep = some o → ¬ idOf vt id → rdObj h' id ep = some o := fun id ep o ho hne => hfr id ep o (rd_keep ho) hne
      simp only [List.length_append, List.length_cons, List.length_nil] at hlen' hidv
      have nid : ∀ id, idOf v' id → id ≠ H.length ∧ id ≠ g1.length ∧ ¬ idOf V id ∧ ¬ idOf W id ∧ ¬ idOf v1 id := fun id h => by
        rcases hidv with h1 | h1
        · have := idOf_inj h h1
          have := rd_lt R
          have := rd_lt R2
          exact ⟨by omega, by omega, fun h => by have := S2.idlt h; omega, fun h => by have := T2.idlt h; omega, fun h => by have := LL2.idlt h; omega⟩
        · exact D id (h1 id h)
      have kq := secs_succ hp1'
      refine ⟨_, ?_, t + 1, rfl, by omega, by omega, rfl, S2.mono fun id ep o hid ho => kp id ep o ho fun h => (D id h).2.2.1 hid, T2.mono fun id ep o hid ho => kp id ep o ho fun h => (D id h).2.2.2.1 hid, kp _ _ _ R fun h => (D _ h).1 rfl, kp _ _ _ R2 fun h => (D _ h).2.1 rfl, LL2.mono fun id ep o hid ho => kp id ep o ho fun h => (D id h).2.2.2.2 hid, nid, ?_⟩
      · omega
      · rw [kq, ← List.append_assoc]
        have e : flat intC (sec (xs.take i) ++ secs p.1 t ++ [t]) = flat intC (sec (xs.take i) ++ secs p.1 t) ++ [.int .i64 t] := by simp [flat, intC]
        have e2 : (sec (xs.take i)).length + (secs p.1 t ++ [t]).length = (sec (xs.take i) ++ secs p.1 t).length + 1 := by simp; omega
        rw [e, e2]
        simp only [Bool.and_self, ite_self] at hv'
        exact hv'
end Go.Proofs.Ytaekgifbehoipaa.Pb
