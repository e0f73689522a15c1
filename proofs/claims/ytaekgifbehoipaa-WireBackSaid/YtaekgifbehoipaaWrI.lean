/- frames: an empty frame is encoded and decoded. Conditions stand in each lemma. -/
import Derived.Test.YtaekgifbehoipaaWrP
import Derived.Test.YtaekgifbehoipaaNmI
namespace Go.Proofs.Ytaekgifbehoipaa.Wr
open Go Go.Proofs.Ytaekgifbehoipaa.Eva Go.Proofs.Ytaekgifbehoipaa.CodeAll
set_option linter.unusedVariables false
set_option linter.unusedSimpArgs false
set_option maxRecDepth 10000
set_option maxHeartbeats 4000000

theorem fine1_pc (n : Int) (H : List Ob) : pcall E 81 [.int .i64 n] H = some (.bool (n != 0)) := by
  refine pcall_some.2 (call_plain e81 rfl (Nat.le_of_ble_eq_true rfl) rfl ?_)
  simp (config := {maxSteps := 4000000}) only [c81, SS, bne_self_eq_false, wr_def, obOf, List.all_cons, List.all_nil, List.map_cons, List.map_nil, List.length_cons, List.length_nil, List.take_zero, List.take_succ_cons, List.take_nil, List.drop_zero, List.drop_succ_cons, List.drop_nil, Nat.reduceAdd, Nat.reduceMul, Nat.reduceSub, if_true, Nat.reduceLT, Nat.reduceLeDiff, ite_true, ite_false, Nat.reduceEqDiff, if_false, reduceCtorEq, ne_eq, List.getD, List.getElem?_cons_zero, List.getElem?_cons_succ, Option.getD_some, Option.bind_some, Option.map_some, Option.isSome_some, reduceIte, List.length_append, List.append_assoc, List.cons_append, List.nil_append, Option.some.injEq, forall_const, implies_true, Int.reduceNeg, eq_self, Prod.mk.injEq, List.self_eq_append_right, List.append_nil, exists_eq_left, exists_eq_left', exists_and_left, exists_eq_right, exists_and_right]
theorem indexf_z {H : List Ob} {V : AV} {ks : List Int} (hs : SlL H V Fl.intC 1 ks) (hbig : ks.length ≤ 1125899906842624) (hz : ∀ k ∈ ks, k = 0) :
    pcall E 111 [V, .fn 81 []] H = some (.int .i64 (-1)) := by
  refine pcall_some.2 (call_plain e111 rfl (Nat.le_of_ble_eq_true rfl) rfl ?_)
  have hlen := hs.len
  simp (config := {maxSteps := 4000000}) only [c111, hlen, SS, bne_self_eq_false, wr_def, obOf, List.all_cons, List.all_nil, List.map_cons, List.map_nil, List.length_cons, List.length_nil, List.take_zero, List.take_succ_cons, List.take_nil, List.drop_zero, List.drop_succ_cons, List.drop_nil, Nat.reduceAdd, Nat.reduceMul, Nat.reduceSub, if_true, Nat.reduceLT, Nat.reduceLeDiff, ite_true, ite_false, Nat.reduceEqDiff, if_false, reduceCtorEq, ne_eq, List.getD, List.getElem?_cons_zero, List.getElem?_cons_succ, Option.getD_some, Option.bind_some, Option.map_some, Option.isSome_some, reduceIte, List.length_append, List.append_assoc, List.cons_append, List.nil_append, Option.some.injEq, forall_const, implies_true, Int.reduceNeg, eq_self, Prod.mk.injEq, List.self_eq_append_right, List.append_nil, exists_eq_left, exists_eq_left', exists_and_left, exists_eq_right, exists_and_right]
  refine W_loop (fun q f1 h1 => ∃ j : Nat, q = ks.length - j ∧ j ≤ ks.length ∧ f1 0 = V ∧ f1 1 = .fn 81 [] ∧ f1 7 = .int .i64 ks.length ∧ f1 8 = .int .i64 j) (Nat.le_refl _) ks.length ⟨0, rfl, Nat.zero_le _, rfl, rfl, rfl, rfl⟩ ?_
  rintro q f1 h1 hn1 ht ⟨j, rfl, hj, e0, e1, e7, e8⟩
  rw [List.take_length] at ht
  have hH := take_eq ht
  generalize h1.drop H.length = z at hH
  subst hH
  by_cases hjl : j < ks.length
  · have hjl' : decide ((j : Int) < (ks.length : Int)) = true := by simpa using hjl
    have hk : ks[j]? = some 0 := by rw [List.getElem?_eq_getElem hjl, hz _ (List.getElem_mem hjl)]
    have hwj : IntKind.i64.wrap ((j : Int) + 1) = ((j + 1 : Nat) : Int) := by rw [wrap64 (by omega) (by omega)]; omega
    have hok : idxOk 1 V (.int .i64 (j : Int)) := hs.ok (by omega) (by omega)
    have hld : ld1A (H ++ z) (idxV 1 V (.int .i64 (j : Int))) = some (.int .i64 0) := by rw [(hs.keep z).ld0 (x := 0) (by omega) (by simpa using hk)]; rfl
    have hf := fine1_pc 0
    have b0 : ((0 : Int) != 0) = false := rfl
    simp (config := {maxSteps := 4000000}) only [e0, e1, e7, e8, hjl', hwj, hok, isPtr_idx hok, hld, hf, b0, SS, bne_self_eq_false, wr_def, obOf, List.all_cons, List.all_nil, List.map_cons, List.map_nil, List.length_cons, List.length_nil, List.take_zero, List.take_succ_cons, List.take_nil, List.drop_zero, List.drop_succ_cons, List.drop_nil, Nat.reduceAdd, Nat.reduceMul, Nat.reduceSub, if_true, Nat.reduceLT, Nat.reduceLeDiff, ite_true, ite_false, Nat.reduceEqDiff, if_false, reduceCtorEq, ne_eq, List.getD, List.getElem?_cons_zero, List.getElem?_cons_succ, Option.getD_some, Option.bind_some, Option.map_some, Option.isSome_some, reduceIte, List.length_append, List.append_assoc, List.cons_append, List.nil_append, Option.some.injEq, forall_const, implies_true, Int.reduceNeg, eq_self, Prod.mk.injEq, List.self_eq_append_right, List.append_nil, exists_eq_left, exists_eq_left', exists_and_left, exists_eq_right, exists_and_right]
    exact ⟨_, by omega, j + 1, rfl, by omega, rfl⟩
  · have hjl' : decide ((j : Int) < (ks.length : Int)) = false := by simpa using hjl
    simp (config := {maxSteps := 8000000}) only [e0, e1, e7, e8, hjl', SS, bne_self_eq_false, wr_def, obOf, List.all_cons, List.all_nil, List.map_cons, List.map_nil, List.length_cons, List.length_nil, List.take_zero, List.take_succ_cons, List.take_nil, List.drop_zero, List.drop_succ_cons, List.drop_nil, Nat.reduceAdd, Nat.reduceMul, Nat.reduceSub, if_true, Nat.reduceLT, Nat.reduceLeDiff, ite_true, ite_false, Nat.reduceEqDiff, if_false, reduceCtorEq, ne_eq, List.getD, List.getElem?_cons_zero, List.getElem?_cons_succ, Option.getD_some, Option.bind_some, Option.map_some, Option.isSome_some, reduceIte, List.length_append, List.append_assoc, List.cons_append, List.nil_append, Option.some.injEq, forall_const, implies_true, Int.reduceNeg, eq_self, Prod.mk.injEq, List.self_eq_append_right, List.append_nil, exists_eq_left, exists_eq_left', exists_and_left, exists_eq_right, exists_and_right]
theorem containsf_z {H : List Ob} {V : AV} {ks : List Int} (hs : SlL H V Fl.intC 1 ks) (hbig : ks.length ≤ 1125899906842624) (hz : ∀ k ∈ ks, k = 0) :
    pcall E 80 [V, .fn 81 []] H = some (.bool false) := by
  refine pcall_some.2 (call_plain e80 rfl (Nat.le_of_ble_eq_true rfl) rfl ?_)
  have h1 := indexf_z hs hbig hz
  have b0 : decide ((0 : Int) ≤ -1) = false := rfl
  simp (config := {maxSteps := 4000000}) only [c80, h1, b0, SS, bne_self_eq_false, wr_def, obOf, List.all_cons, List.all_nil, List.map_cons, List.map_nil, List.length_cons, List.length_nil, List.take_zero, List.take_succ_cons, List.take_nil, List.drop_zero, List.drop_succ_cons, List.drop_nil, Nat.reduceAdd, Nat.reduceMul, Nat.reduceSub, if_true, Nat.reduceLT, Nat.reduceLeDiff, ite_true, ite_false, Nat.reduceEqDiff, if_false, reduceCtorEq, ne_eq, List.getD, List.getElem?_cons_zero, List.getElem?_cons_succ, Option.getD_some, Option.bind_some, Option.map_some, Option.isSome_some, reduceIte, List.length_append, List.append_assoc, List.cons_append, List.nil_append, Option.some.injEq, forall_const, implies_true, Int.reduceNeg, eq_self, Prod.mk.injEq, List.self_eq_append_right, List.append_nil, exists_eq_left, exists_eq_left', exists_and_left, exists_eq_right, exists_and_right]
theorem fine_z {H : List Ob} {V : AV} {ks : List Int} (hs : SlL H V Fl.intC 1 ks) (hbig : ks.length ≤ 1125899906842624) (hz : ∀ k ∈ ks, k = 0) :
    pcall E 39 [V] H = some (.bool true) := by
  refine pcall_some.2 (call_plain e39 rfl (Nat.le_of_ble_eq_true rfl) rfl ?_)
  have h1 := containsf_z hs hbig hz
  simp (config := {maxSteps := 4000000}) only [c39, h1, SS, bne_self_eq_false, wr_def, obOf, List.all_cons, List.all_nil, List.map_cons, List.map_nil, List.length_cons, List.length_nil, List.take_zero, List.take_succ_cons, List.take_nil, List.drop_zero, List.drop_succ_cons, List.drop_nil, Nat.reduceAdd, Nat.reduceMul, Nat.reduceSub, if_true, Nat.reduceLT, Nat.reduceLeDiff, ite_true, ite_false, Nat.reduceEqDiff, if_false, reduceCtorEq, ne_eq, List.getD, List.getElem?_cons_zero, List.getElem?_cons_succ, Option.getD_some, Option.bind_some, Option.map_some, Option.isSome_some, reduceIte, List.length_append, List.append_assoc, List.cons_append, List.nil_append, Option.some.injEq, forall_const, implies_true, Int.reduceNeg, eq_self, Prod.mk.injEq, List.self_eq_append_right, List.append_nil, exists_eq_left, exists_eq_left', exists_and_left, exists_eq_right, exists_and_right]
/-- Whoever decodes what was written fails at a plot alone. -/
theorem derr_enc {s : ByteArray} {m : List UInt8} {R T e : Int} {ps : List Pl} (hl : bs s = enc R T ps ++ m) (hv : VF R T ps) (h : DErr s e) :
    ∃ i, i < ps.length ∧ ∃ p V, cellsOf V = [V] ∧ ∀ H, pcall E 58 [.str s, .int .i64 ((9 + 16 * i : Nat) : Int), .agg [.int .i64 R, .int .i64 T, V]] H = some (.tup [.agg (Pl.c p), .bool false]) := by
  obtain ⟨q1, q2, q3, q4, q5, q6, q7, -⟩ := enc_parts hl hv
  obtain ⟨v1, v2, v3, v4, v5, v6⟩ := hv
  have hlen := bs_len s
  rcases h with h | h | h | h | h | h
  · exact absurd h.1 q1
  · exact absurd h.1 q1
  · rcases h.2.1 with h | h <;> omega
  · obtain ⟨-, -, -, h, -⟩ := h
    omega
  · obtain ⟨-, -, -, -, h, -⟩ := h
    rw [q4, q6, q7] at h
    exact absurd rfl h
  · obtain ⟨-, -, -, -, h, -⟩ := h
    rw [q4, q2, q3] at h
    exact h
theorem frames_pc (H : List Ob) : pcall E 20 [] H = some (.bool true) := by
  refine pcall_some.2 (call_plain e20 rfl (Nat.le_of_ble_eq_true rfl) rfl ?_)
  have hn : SlL H (.sl true 0 0 0 0 0) Pl.c 6 ([] : List Pl) := SlL.nil (fun x => rfl) (by decide)
  have hv : VF 3 0 [] := ⟨by decide, by decide, by decide, by decide, by decide, fun p hp => by simp at hp⟩
  have h1 := pcall_some.2 (enc_ok hn hv)
  obtain ⟨s, hs⟩ : ∃ s : ByteArray, ⟨(enc 3 0 []).toArray⟩ = s := ⟨_, rfl⟩
  have hb : bs s = enc 3 0 [] := by rw [← hs]
  have hz : s.size = 11 := by rw [← bs_len, hb, enc_len]; rfl
  rw [hs] at h1
  have hd : pcall E 21 [.str s] H = some (.tup [.agg [.int .i64 3, .int .i64 0, .sl true 0 0 0 0 0], .int .i64 11, .int .i64 0]) := by
    obtain ⟨R, T, ps, n, e, hc, hd⟩ := dec_ex (s := s) (by omega) H
    have hb2 : bs s = enc 3 0 [] ++ [] := by rw [hb, List.append_nil]
    rcases hc with ⟨rfl, hok, rfl⟩ | ⟨-, -, -, -, -, he⟩
    · obtain ⟨q1, q2, q3, q4, -⟩ := enc_parts hb2 hv
      obtain ⟨-, rfl, rfl, -, hl, -⟩ := hok
      rw [q4] at hl
      obtain rfl := List.length_eq_zero_iff.1 hl
      rw [q2, q3] at hd
      have hd2 : ecall E 21 [.str s] H = some (.tup [.agg [.int .i64 3, .int .i64 0, .sl true 0 0 0 0 0], .int .i64 11, .int .i64 0], H, H.length, H.length) := by
        rw [hd]
        simp [outV, outO]
      exact pcall_some.2 hd2
    · obtain ⟨i, hi, -⟩ := derr_enc hb2 hv he
      exact absurd hi (by simp)
  have hf : ∀ a : Ob, pcall E 39 [.sl false (H.length + 1) 0 1 0 2] (H ++ [a, ⟨[.int .i64 0, .int .i64 0], 0, 1, true, true⟩]) = some (.bool true) := fun a => by
    refine fine_z (ks := [0, 0]) ?_ (by decide) (by simp)
    refine ⟨fun x => rfl, by decide, rfl, Or.inr ⟨H.length + 1, 0, 0, ⟨[.int .i64 0, .int .i64 0], 0, 1, true, true⟩, rfl, ?_, by decide, rfl⟩⟩
    unfold rdObj
    rw [List.getElem?_append_right (by omega), Nat.add_sub_cancel_left]
    rfl
  have b1 : ((11 : Int) == 11) = true := rfl
  have b2 : ((3 : Int) == 3) = true := rfl
  simp (config := {maxSteps := 4000000}) only [c20, h1, hd, hf, b1, b2, SS, bne_self_eq_false, wr_def, obOf, List.all_cons, List.all_nil, List.map_cons, List.map_nil, List.length_cons, List.length_nil, List.take_zero, List.take_succ_cons, List.take_nil, List.drop_zero, List.drop_succ_cons, List.drop_nil, Nat.reduceAdd, Nat.reduceMul, Nat.reduceSub, if_true, Nat.reduceLT, Nat.reduceLeDiff, ite_true, ite_false, Nat.reduceEqDiff, if_false, reduceCtorEq, ne_eq, List.getD, List.getElem?_cons_zero, List.getElem?_cons_succ, Option.getD_some, Option.bind_some, Option.map_some, Option.isSome_some, reduceIte, List.length_append, List.append_assoc, List.cons_append, List.nil_append, Option.some.injEq, forall_const, implies_true, Int.reduceNeg, eq_self, Prod.mk.injEq, List.self_eq_append_right, List.append_nil, exists_eq_left, exists_eq_left', exists_and_left, exists_eq_right, exists_and_right]
end Go.Proofs.Ytaekgifbehoipaa.Wr
