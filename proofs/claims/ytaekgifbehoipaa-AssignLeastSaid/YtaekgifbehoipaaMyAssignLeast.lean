/- The law AssignLeast: the abstract machine answers true. No condition. -/
import Derived.Test.YtaekgifbehoipaaInAssignLeast
import Derived.Test.YtaekgifbehoipaaHgN
namespace Go.Proofs.Ytaekgifbehoipaa.MyAssignLeast
open Go Go.Proofs.Ytaekgifbehoipaa.Eva Go.Proofs.Ytaekgifbehoipaa.CodeAll Go.Proofs.Ytaekgifbehoipaa.InAssignLeast Go.Proofs.Ytaekgifbehoipaa.Fl Go.Proofs.Ytaekgifbehoipaa.Hg
set_option linter.unusedVariables false
set_option linter.unusedSimpArgs false
set_option maxRecDepth 10000
set_option maxHeartbeats 4000000

theorem law (rows : List (List Int)) (V : AV) (vs : List AV) (ts : List Int) (W : AV) (miss : Int) (H : List Ob) (A0 : NsS intC 1 H V vs rows) (hs : SlL H W intC 1 ts) : ∃ r, ecall E 3 [V, .int .i64 miss, W] H = some (.bool true, r) := by
  refine call_true e3 rfl (Nat.le_of_ble_eq_true rfl) ?_
  have A := NsL.of A0
  have hf := NsS.fg A0
  have hass := assigns_pc (H := H)
  have b0 : ((0 : Int) == 0) = true := rfl
  by_cases hok : Ok rows miss
  · obtain ⟨n, T, τs, hn, hC, hLP, hT, hl, hV, hc, -, hb⟩ := best_ok A hf hok
    have hbn := ncall_some.2 hb
    have hso := out_sl (h := H) hl
    generalize outO 1 rows.length (flat intC τs) = o1 at *
    generalize outV H.length 1 rows.length = v1 at *
    obtain ⟨m, f, h1, h2, h3⟩ := cost_ex (A.keep o1) hso miss
    have hf0 : f = 0 := h1.2 (val_costOk hC hok hl hV)
    subst hf0
    have hm : m = T := by rw [h2 rfl]; exact hc
    subst hm
    obtain ⟨k, g, g1, g2, g3⟩ := cost_ex (A.keep o1) (hs.keep o1) miss
    have hp1 := pcall_some.2 h3
    have hp2 := pcall_some.2 g3
    have b1 : ((0 : Int) != 0) = false := rfl
    have b2 : (m == m) = true := by simp
    by_cases hg : g = 0
    · subst hg
      have hle : m ≤ k := by rw [g2 rfl]; exact hLP.2 _ (costOk_val hC (g1.1 rfl))
      have b3 : decide (m ≤ k) = true := decide_eq_true hle
      simp (config := {maxSteps := 8000000}) only [c3, hass, rg_calln, ncallV_fn, hbn, hp1, hp2, b0, b1, b2, b3, SS, bne_self_eq_false, wr_def, obOf, List.all_cons, List.all_nil, List.map_cons, List.map_nil, List.length_cons, List.length_nil, List.take_zero, List.take_succ_cons, List.take_nil, List.drop_zero, List.drop_succ_cons, List.drop_nil, Nat.reduceAdd, Nat.reduceMul, Nat.reduceSub, if_true, Nat.reduceLT, Nat.reduceLeDiff, ite_true, ite_false, Nat.reduceEqDiff, if_false, reduceCtorEq, ne_eq, List.getD, List.getElem?_cons_zero, List.getElem?_cons_succ, Option.getD_some, Option.bind_some, Option.map_some, Option.isSome_some, reduceIte, List.length_append, List.append_assoc, List.cons_append, List.nil_append, Option.some.injEq, forall_const, implies_true, Int.reduceNeg, eq_self, Prod.mk.injEq, List.self_eq_append_right, List.append_nil, exists_eq_left, exists_eq_left', exists_and_left, exists_eq_right, exists_and_right]
    · have b3 : (g != 0) = true := by rw [bne_iff_ne]; exact hg
      simp (config := {maxSteps := 8000000}) only [c3, hass, rg_calln, ncallV_fn, hbn, hp1, hp2, b0, b1, b2, b3, SS, bne_self_eq_false, wr_def, obOf, List.all_cons, List.all_nil, List.map_cons, List.map_nil, List.length_cons, List.length_nil, List.take_zero, List.take_succ_cons, List.take_nil, List.drop_zero, List.drop_succ_cons, List.drop_nil, Nat.reduceAdd, Nat.reduceMul, Nat.reduceSub, if_true, Nat.reduceLT, Nat.reduceLeDiff, ite_true, ite_false, Nat.reduceEqDiff, if_false, reduceCtorEq, ne_eq, List.getD, List.getElem?_cons_zero, List.getElem?_cons_succ, Option.getD_some, Option.bind_some, Option.map_some, Option.isSome_some, reduceIte, List.length_append, List.append_assoc, List.cons_append, List.nil_append, Option.some.injEq, forall_const, implies_true, Int.reduceNeg, eq_self, Prod.mk.injEq, List.self_eq_append_right, List.append_nil, exists_eq_left, exists_eq_left', exists_and_left, exists_eq_right, exists_and_right]
  · obtain ⟨e, hne, hb⟩ := best_err A hok
    have hp := pcall_some.2 hb
    have b1 : (e != 0) = true := by rw [bne_iff_ne]; exact hne
    have b2 : (((0 : Nat) : Int) == 0) = true := rfl
    simp (config := {maxSteps := 8000000}) only [c3, hass, hp, b0, b1, b2, SS, bne_self_eq_false, wr_def, obOf, List.all_cons, List.all_nil, List.map_cons, List.map_nil, List.length_cons, List.length_nil, List.take_zero, List.take_succ_cons, List.take_nil, List.drop_zero, List.drop_succ_cons, List.drop_nil, Nat.reduceAdd, Nat.reduceMul, Nat.reduceSub, if_true, Nat.reduceLT, Nat.reduceLeDiff, ite_true, ite_false, Nat.reduceEqDiff, if_false, reduceCtorEq, ne_eq, List.getD, List.getElem?_cons_zero, List.getElem?_cons_succ, Option.getD_some, Option.bind_some, Option.map_some, Option.isSome_some, reduceIte, List.length_append, List.append_assoc, List.cons_append, List.nil_append, Option.some.injEq, forall_const, implies_true, Int.reduceNeg, eq_self, Prod.mk.injEq, List.self_eq_append_right, List.append_nil, exists_eq_left, exists_eq_left', exists_and_left, exists_eq_right, exists_and_right]

theorem proved : Pure := by
  intro xs hg
  obtain ⟨e0, s0, rfl, u0, v0⟩ := goodL_cons hg
  obtain ⟨e1, s1, rfl, u1, v1⟩ := goodL_cons v0
  obtain ⟨e2, s2, rfl, u2, v2⟩ := goodL_cons v1
  obtain rfl := goodL_nil v2
  obtain ⟨rows, p0, b0, k0⟩ := in_sls (c := intC) (P := fun _ => True) dv_i (fun x => rfl) (by decide) u0
  obtain ⟨n1, rfl, lo1, hi1⟩ := good_i64 u1
  obtain ⟨ts, p2, b2, k2⟩ := in_sl (c := intC) (P := fun _ => True) dv_i (fun x => rfl) (by decide) u2
  obtain ⟨w0, o0, e0', r0⟩ := k0 0
  obtain ⟨w2, o2, e2', r2⟩ := k2 (o0.length)
  obtain ⟨vs, A⟩ := r0 [] o2 rfl
  have hs := r2 o0 [] rfl
  simp only [List.append_nil, List.nil_append] at A hs
  have := law rows w0 vs ts w2 n1 (o0 ++ o2) A hs
  simpa only [layA, layD, layL, argA, shapes, e0', e2', List.nil_append, List.cons_append, List.append_nil, List.append_assoc, List.length_nil, List.length_append, Nat.add_zero, Nat.zero_add, List.headD_cons] using this
end Go.Proofs.Ytaekgifbehoipaa.MyAssignLeast
