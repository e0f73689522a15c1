/- The law WireDamage in the abstract machine. No condition. -/
import Derived.Test.YtaekgifbehoipaaWrQ
namespace Go.Proofs.Ytaekgifbehoipaa.Wr
open Go Go.Proofs.Ytaekgifbehoipaa.Eva Go.Proofs.Ytaekgifbehoipaa.CodeAll
set_option linter.unusedVariables false
set_option linter.unusedSimpArgs false
set_option maxRecDepth 10000
set_option maxHeartbeats 4000000

theorem slsA_from {s : ByteArray} {n : Nat} (h : n ≤ s.size) : slsA (some (n : Int)) none (.str s) = some (.str (s.extract n s.size)) := by
  simp only [slsA, Option.getD_none, Option.getD_some]
  rw [if_pos ⟨by omega, by omega, by omega⟩]; simp
theorem bs_from {s : ByteArray} {n : Nat} (h : n ≤ s.size) : bs (s.extract n s.size) = (bs s).drop n := by
  have hl : s.data.toList.length = s.size := bs_len s
  unfold bs
  rw [ByteArray.data_extract, Array.toList_extract]
  simp
  exact List.take_of_length_le (by rw [List.length_drop, hl]; exact Nat.le_refl _)
theorem abin_sadd {a b : ByteArray} (h : a.size + b.size < 9223372036854775808) : abin .add (.str a) (.str b) = some (.str (a ++ b)) := by
  have e2 : IntKind.i64.max = 9223372036854775807 := by decide
  have : ¬ (((a.size + b.size : Nat) : Int) > IntKind.i64.max) := by rw [e2]; omega
  simp only [abin, if_neg this]
theorem bs_app (a b : ByteArray) : bs (a ++ b) = bs a ++ bs b := by
  unfold bs
  rw [ByteArray.data_append, Array.toList_append]
theorem bs_get_none {s : ByteArray} {k : Nat} (h : s.size ≤ k) : s[k]? = none := by
  rw [getElem?_neg]
  exact Nat.not_lt.2 h
theorem set_cut (l : List UInt8) (k : Nat) (x : UInt8) (h : k < l.length) : l.take k ++ [x] ++ l.drop (k + 1) = l.set k x := by
  rw [List.set_eq_take_append_cons_drop, if_pos h, List.append_assoc]; rfl
theorem damage_law {H : List Ob} {V : AV} {ps : List Pl} (hs : SlL H V Pl.c 6 ps) (hpl : ps.length < 1125899906842624) {R T at_ to : Int} (h0 : 0 ≤ to) (h1 : to ≤ 255) : ∃ r, ecall E 6 [.agg [.int .i64 R, .int .i64 T, V], .int .i64 at_, .int .u8 to] H = some (.bool true, r) := by
  refine call_true e6 rfl (Nat.le_of_ble_eq_true rfl) ?_
  have hfr := fun H => frames_pc H
  have hce := hs.cells
  by_cases hv : VF R T ps
  rotate_left
  · have hex : ∀ o : List Ob, ∃ e : Int, e ≠ 0 ∧ pcall E 22 [.agg [.int .i64 R, .int .i64 T, V]] (H ++ o) = some (.tup [.str ⟨#[]⟩, .int .i64 e]) := fun o => by
      obtain ⟨e, h1, h2⟩ := enc_err (hs.keep o) hpl hv
      exact ⟨e, h1, pcall_some.2 h2⟩
    obtain ⟨fe, hf⟩ := Classical.axiomOfChoice hex
    have b0 : ∀ o, (fe o != 0) = true := fun o => bne_iff_ne.2 (hf o).1
    have b1 := fun o => (hf o).2
    simp (config := {maxSteps := 8000000}) only [c6, hfr, b1, b0, hce, SS, bne_self_eq_false, wr_def, obOf, List.all_cons, List.all_nil, List.map_cons, List.map_nil, List.length_cons, List.length_nil, List.take_zero, List.take_succ_cons, List.take_nil, List.drop_zero, List.drop_succ_cons, List.drop_nil, Nat.reduceAdd, Nat.reduceMul, Nat.reduceSub, if_true, Nat.reduceLT, Nat.reduceLeDiff, ite_true, ite_false, Nat.reduceEqDiff, if_false, reduceCtorEq, ne_eq, List.getD, List.getElem?_cons_zero, List.getElem?_cons_succ, Option.getD_some, Option.bind_some, Option.map_some, Option.isSome_some, reduceIte, List.length_append, List.append_assoc, List.cons_append, List.nil_append, Option.some.injEq, forall_const, implies_true, Int.reduceNeg, eq_self, Prod.mk.injEq, List.self_eq_append_right, List.append_nil, exists_eq_left, exists_eq_left', exists_and_left, exists_eq_right, exists_and_right]
  have hen := fun o => pcall_some.2 (enc_ok (hs.keep o) hv)
  obtain ⟨s, hS⟩ : ∃ s : ByteArray, ⟨(enc R T ps).toArray⟩ = s := ⟨_, rfl⟩
  have hb : bs s = enc R T ps := by rw [← hS]
  rw [hS] at hen
  have hsz : s.size = 11 + 16 * ps.length := by rw [← bs_len, hb, enc_len]
  have hM := hv.1
  obtain ⟨k0, hk0, hw⟩ := within_ex at_ (R := 7 + 16 * ps.length) (by omega) (by omega) H
  have w1 : IntKind.i64.wrap ((s.size : Int) - 5) = ((7 + 16 * ps.length : Nat) : Int) - 1 := by rw [wrap64 (by omega) (by omega)]; omega
  have b0 : ((0 : Int) != 0) = false := rfl
  obtain ⟨x, hx⟩ : ∃ x : UInt8, to = (x.toNat : Int) := ⟨UInt8.ofNat to.toNat, by rw [UInt8.toNat_ofNat']; omega⟩
  subst hx
  have hrem : ∀ a : Int, abin .rem (.int .u8 a) (.int .u8 255) = some (.int .u8 (a.tmod 255)) := fun a => abin_rem _ _ _ (by decide)
  -- the byte, whichever it is
  have key : ∀ k : Nat, 2 ≤ k → k ≠ 7 → k ≠ 8 → k < 11 + 16 * ps.length → ∃ y, s[k]? = some y ∧ (y.toNat % 255 = x.toNat % 255 ∨ ∃ z, ∃ fe : List Ob → Int, abin .add (.str (s.extract 0 k)) (.str ⟨#[x]⟩) = some (.str (s.extract 0 k ++ ⟨#[x]⟩)) ∧ abin .add (.str (s.extract 0 k ++ ⟨#[x]⟩)) (.str (s.extract (k + 1) s.size)) = some (.str z) ∧ (∀ h, (fe h != 0) = true) ∧
      ∀ h, pcall E 21 [.str z] h = some (.tup [.agg [.int .i64 0, .int .i64 0, .sl true 0 0 0 0 0], .int .i64 0, .int .i64 (fe h)])) := by
    intro k k1 k2 k3 k4
    obtain ⟨y, hy⟩ : ∃ y, (enc R T ps)[k]? = some y := ⟨_, List.getElem?_eq_getElem (by rw [enc_len]; exact k4)⟩
    refine ⟨y, by rw [bs_get (by omega), hb]; exact hy, ?_⟩
    by_cases hxy : y.toNat % 255 = x.toNat % 255
    · exact Or.inl hxy
    have z1 : (s.extract 0 k).size = k := ext_size (by omega)
    have z2 : (⟨#[x]⟩ : ByteArray).size = 1 := rfl
    have z3 : (s.extract 0 k ++ ⟨#[x]⟩ : ByteArray).size = k + 1 := by rw [ByteArray.size_append, z1, z2]
    have z4 : (s.extract (k + 1) s.size).size = 10 + 16 * ps.length - k := by rw [← bs_len, bs_from (by omega), List.length_drop, bs_len]; omega
    have hz : bs ((s.extract 0 k ++ ⟨#[x]⟩) ++ s.extract (k + 1) s.size) = (enc R T ps).set k x := by
      rw [bs_app, bs_app, bs_ext (by omega), bs_from (by omega), hb, ← set_cut _ _ _ (by rw [enc_len]; exact k4)]
    have hbad := fun R' T' ps' => dok_damage (R' := R') (T' := T') (ps' := ps') hv hy hz k1 k2 k3 hxy
    obtain ⟨fe, hfe⟩ := Classical.axiomOfChoice (dec_bad (by rw [ByteArray.size_append, z3, z4]; omega) hbad)
    exact Or.inr ⟨_, fe, abin_sadd (by omega), abin_sadd (by omega), fun h => bne_iff_ne.2 (hfe h).1.1, fun h => (hfe h).2⟩
  have b00 : ((0 : Int) == 0) = true := rfl
  have hcb : ∀ (a b : Ob) (id : Nat), id = H.length + 1 → cbsA (H ++ [a, ⟨[.int .u8 (x.toNat : Int)], 0, 1, true, true⟩, b]) (.sl false id 0 1 0 1) = some (.str ⟨#[x]⟩) := fun a b id hid => by
    subst hid
    have A : Arr 0 (H ++ [a, ⟨[.int .u8 (x.toNat : Int)], 0, 1, true, true⟩, b]) (.sl false (H.length + 1) 0 1 0 1) gU [x] := ⟨H.length + 1, 0, rfl, by
      unfold rdObj
      rw [List.getElem?_append_right (by omega), Nat.add_sub_cancel_left]
      rfl, Nat.zero_le _⟩
    exact cbs_arr A
  have hcb' := fun a b => hcb a b _ rfl
  by_cases hk5 : k0 < 5
  · have c5 : decide ((k0 : Int) < 5) = true := decide_eq_true (by omega)
    have w2 : IntKind.i64.wrap ((k0 : Int) + 2) = ((k0 + 2 : Nat) : Int) := by rw [wrap64 (by omega) (by omega)]; omega
    obtain ⟨y, hy, hk⟩ := key (k0 + 2) (by omega) (by omega) (by omega) (by omega)
    generalize k0 + 2 = k at *
    have hky : k < s.size := by
      rcases Nat.lt_or_ge k s.size with h | h
      · exact h
      · rw [bs_get_none h] at hy; cases hy
    have hix : ixsA (.str s) (.int .i64 (k : Int)) = some (.int .u8 (y.toNat : Int)) := ixsA_i hy
    by_cases e1 : y = x
    · have b1 : ((y.toNat : Int) == (x.toNat : Int)) = true := by rw [e1]; simp
      simp (config := {maxSteps := 8000000}) only [c6, hfr, hen, b0, hce, w1, hw, c5, w2, hix, b1, hrem, kq_ixs, vq_ixs, kq_sls', vq_sls', SS, bne_self_eq_false, wr_def, obOf, List.all_cons, List.all_nil, List.map_cons, List.map_nil, List.length_cons, List.length_nil, List.take_zero, List.take_succ_cons, List.take_nil, List.drop_zero, List.drop_succ_cons, List.drop_nil, Nat.reduceAdd, Nat.reduceMul, Nat.reduceSub, if_true, Nat.reduceLT, Nat.reduceLeDiff, ite_true, ite_false, Nat.reduceEqDiff, if_false, reduceCtorEq, ne_eq, List.getD, List.getElem?_cons_zero, List.getElem?_cons_succ, Option.getD_some, Option.bind_some, Option.map_some, Option.isSome_some, reduceIte, List.length_append, List.append_assoc, List.cons_append, List.nil_append, Option.some.injEq, forall_const, implies_true, Int.reduceNeg, eq_self, Prod.mk.injEq, List.self_eq_append_right, List.append_nil, exists_eq_left, exists_eq_left', exists_and_left, exists_eq_right, exists_and_right]
    have b1 : ((y.toNat : Int) == (x.toNat : Int)) = false := by
      rw [beq_eq_false_iff_ne]
      intro h
      exact e1 (UInt8.toNat_inj.1 (by omega))
    rcases hk with hk | ⟨z, fe, a1, a2, a3, a4⟩
    · have b2 : ((y.toNat : Int).tmod 255 == (x.toNat : Int).tmod 255) = true := by
        rw [beq_iff_eq, Int.tmod_eq_emod_of_nonneg (by omega), Int.tmod_eq_emod_of_nonneg (by omega)]
        omega
      simp (config := {maxSteps := 8000000}) only [c6, hfr, hen, b0, hce, w1, hw, c5, w2, hix, b1, b2, hrem, kq_ixs, vq_ixs, kq_sls', vq_sls', SS, bne_self_eq_false, wr_def, obOf, List.all_cons, List.all_nil, List.map_cons, List.map_nil, List.length_cons, List.length_nil, List.take_zero, List.take_succ_cons, List.take_nil, List.drop_zero, List.drop_succ_cons, List.drop_nil, Nat.reduceAdd, Nat.reduceMul, Nat.reduceSub, if_true, Nat.reduceLT, Nat.reduceLeDiff, ite_true, ite_false, Nat.reduceEqDiff, if_false, reduceCtorEq, ne_eq, List.getD, List.getElem?_cons_zero, List.getElem?_cons_succ, Option.getD_some, Option.bind_some, Option.map_some, Option.isSome_some, reduceIte, List.length_append, List.append_assoc, List.cons_append, List.nil_append, Option.some.injEq, forall_const, implies_true, Int.reduceNeg, eq_self, Prod.mk.injEq, List.self_eq_append_right, List.append_nil, exists_eq_left, exists_eq_left', exists_and_left, exists_eq_right, exists_and_right]
    · by_cases hxy : y.toNat % 255 = x.toNat % 255
      · have b2 : ((y.toNat : Int).tmod 255 == (x.toNat : Int).tmod 255) = true := by
          rw [beq_iff_eq, Int.tmod_eq_emod_of_nonneg (by omega), Int.tmod_eq_emod_of_nonneg (by omega)]
          omega
        simp (config := {maxSteps := 8000000}) only [c6, hfr, hen, b0, hce, w1, hw, c5, w2, hix, b1, b2, hrem, kq_ixs, vq_ixs, kq_sls', vq_sls', SS, bne_self_eq_false, wr_def, obOf, List.all_cons, List.all_nil, List.map_cons, List.map_nil, List.length_cons, List.length_nil, List.take_zero, List.take_succ_cons, List.take_nil, List.drop_zero, List.drop_succ_cons, List.drop_nil, Nat.reduceAdd, Nat.reduceMul, Nat.reduceSub, if_true, Nat.reduceLT, Nat.reduceLeDiff, ite_true, ite_false, Nat.reduceEqDiff, if_false, reduceCtorEq, ne_eq, List.getD, List.getElem?_cons_zero, List.getElem?_cons_succ, Option.getD_some, Option.bind_some, Option.map_some, Option.isSome_some, reduceIte, List.length_append, List.append_assoc, List.cons_append, List.nil_append, Option.some.injEq, forall_const, implies_true, Int.reduceNeg, eq_self, Prod.mk.injEq, List.self_eq_append_right, List.append_nil, exists_eq_left, exists_eq_left', exists_and_left, exists_eq_right, exists_and_right]
      have b2 : ((y.toNat : Int).tmod 255 == (x.toNat : Int).tmod 255) = false := by
        rw [beq_eq_false_iff_ne, Int.tmod_eq_emod_of_nonneg (by omega), Int.tmod_eq_emod_of_nonneg (by omega)]
        omega
      have s1 := slsA_to (s := s) (n := k) (by omega)
      have s2 := slsA_from (s := s) (n := k + 1) (by omega)
      have w3 : IntKind.i64.wrap ((k : Int) + 1) = ((k + 1 : Nat) : Int) := by rw [wrap64 (by omega) (by omega)]; omega
      simp (config := {maxSteps := 8000000}) only [c6, hfr, hen, b0, b00, hce, w1, hw, c5, w2, w3, hix, b1, b2, hrem, s1, s2, a1, a2, a3, a4, hcb', kq_ixs, vq_ixs, kq_sls', vq_sls', SS, bne_self_eq_false, wr_def, obOf, List.all_cons, List.all_nil, List.map_cons, List.map_nil, List.length_cons, List.length_nil, List.take_zero, List.take_succ_cons, List.take_nil, List.drop_zero, List.drop_succ_cons, List.drop_nil, Nat.reduceAdd, Nat.reduceMul, Nat.reduceSub, if_true, Nat.reduceLT, Nat.reduceLeDiff, ite_true, ite_false, Nat.reduceEqDiff, if_false, reduceCtorEq, ne_eq, List.getD, List.getElem?_cons_zero, List.getElem?_cons_succ, Option.getD_some, Option.bind_some, Option.map_some, Option.isSome_some, reduceIte, List.length_append, List.append_assoc, List.cons_append, List.nil_append, Option.some.injEq, forall_const, implies_true, Int.reduceNeg, eq_self, Prod.mk.injEq, List.self_eq_append_right, List.append_nil, exists_eq_left, exists_eq_left', exists_and_left, exists_eq_right, exists_and_right]
  · have c5 : decide ((k0 : Int) < 5) = false := decide_eq_false (by omega)
    have w2 : IntKind.i64.wrap ((k0 : Int) + 4) = ((k0 + 4 : Nat) : Int) := by rw [wrap64 (by omega) (by omega)]; omega
    obtain ⟨y, hy, hk⟩ := key (k0 + 4) (by omega) (by omega) (by omega) (by omega)
    generalize k0 + 4 = k at *
    have hky : k < s.size := by
      rcases Nat.lt_or_ge k s.size with h | h
      · exact h
      · rw [bs_get_none h] at hy; cases hy
    have hix : ixsA (.str s) (.int .i64 (k : Int)) = some (.int .u8 (y.toNat : Int)) := ixsA_i hy
    by_cases e1 : y = x
    · have b1 : ((y.toNat : Int) == (x.toNat : Int)) = true := by rw [e1]; simp
      simp (config := {maxSteps := 8000000}) only [c6, hfr, hen, b0, hce, w1, hw, c5, w2, hix, b1, hrem, kq_ixs, vq_ixs, kq_sls', vq_sls', SS, bne_self_eq_false, wr_def, obOf, List.all_cons, List.all_nil, List.map_cons, List.map_nil, List.length_cons, List.length_nil, List.take_zero, List.take_succ_cons, List.take_nil, List.drop_zero, List.drop_succ_cons, List.drop_nil, Nat.reduceAdd, Nat.reduceMul, Nat.reduceSub, if_true, Nat.reduceLT, Nat.reduceLeDiff, ite_true, ite_false, Nat.reduceEqDiff, if_false, reduceCtorEq, ne_eq, List.getD, List.getElem?_cons_zero, List.getElem?_cons_succ, Option.getD_some, Option.bind_some, Option.map_some, Option.isSome_some, reduceIte, List.length_append, List.append_assoc, List.cons_append, List.nil_append, Option.some.injEq, forall_const, implies_true, Int.reduceNeg, eq_self, Prod.mk.injEq, List.self_eq_append_right, List.append_nil, exists_eq_left, exists_eq_left', exists_and_left, exists_eq_right, exists_and_right]
    have b1 : ((y.toNat : Int) == (x.toNat : Int)) = false := by
      rw [beq_eq_false_iff_ne]
      intro h
      exact e1 (UInt8.toNat_inj.1 (by omega))
    rcases hk with hk | ⟨z, fe, a1, a2, a3, a4⟩
    · have b2 : ((y.toNat : Int).tmod 255 == (x.toNat : Int).tmod 255) = true := by
        rw [beq_iff_eq, Int.tmod_eq_emod_of_nonneg (by omega), Int.tmod_eq_emod_of_nonneg (by omega)]
        omega
      simp (config := {maxSteps := 8000000}) only [c6, hfr, hen, b0, hce, w1, hw, c5, w2, hix, b1, b2, hrem, kq_ixs, vq_ixs, kq_sls', vq_sls', SS, bne_self_eq_false, wr_def, obOf, List.all_cons, List.all_nil, List.map_cons, List.map_nil, List.length_cons, List.length_nil, List.take_zero, List.take_succ_cons, List.take_nil, List.drop_zero, List.drop_succ_cons, List.drop_nil, Nat.reduceAdd, Nat.reduceMul, Nat.reduceSub, if_true, Nat.reduceLT, Nat.reduceLeDiff, ite_true, ite_false, Nat.reduceEqDiff, if_false, reduceCtorEq, ne_eq, List.getD, List.getElem?_cons_zero, List.getElem?_cons_succ, Option.getD_some, Option.bind_some, Option.map_some, Option.isSome_some, reduceIte, List.length_append, List.append_assoc, List.cons_append, List.nil_append, Option.some.injEq, forall_const, implies_true, Int.reduceNeg, eq_self, Prod.mk.injEq, List.self_eq_append_right, List.append_nil, exists_eq_left, exists_eq_left', exists_and_left, exists_eq_right, exists_and_right]
    · by_cases hxy : y.toNat % 255 = x.toNat % 255
      · have b2 : ((y.toNat : Int).tmod 255 == (x.toNat : Int).tmod 255) = true := by
          rw [beq_iff_eq, Int.tmod_eq_emod_of_nonneg (by omega), Int.tmod_eq_emod_of_nonneg (by omega)]
          omega
        simp (config := {maxSteps := 8000000}) only [c6, hfr, hen, b0, hce, w1, hw, c5, w2, hix, b1, b2, hrem, kq_ixs, vq_ixs, kq_sls', vq_sls', SS, bne_self_eq_false, wr_def, obOf, List.all_cons, List.all_nil, List.map_cons, List.map_nil, List.length_cons, List.length_nil, List.take_zero, List.take_succ_cons, List.take_nil, List.drop_zero, List.drop_succ_cons, List.drop_nil, Nat.reduceAdd, Nat.reduceMul, Nat.reduceSub, if_true, Nat.reduceLT, Nat.reduceLeDiff, ite_true, ite_false, Nat.reduceEqDiff, if_false, reduceCtorEq, ne_eq, List.getD, List.getElem?_cons_zero, List.getElem?_cons_succ, Option.getD_some, Option.bind_some, Option.map_some, Option.isSome_some, reduceIte, List.length_append, List.append_assoc, List.cons_append, List.nil_append, Option.some.injEq, forall_const, implies_true, Int.reduceNeg, eq_self, Prod.mk.injEq, List.self_eq_append_right, List.append_nil, exists_eq_left, exists_eq_left', exists_and_left, exists_eq_right, exists_and_right]
      have b2 : ((y.toNat : Int).tmod 255 == (x.toNat : Int).tmod 255) = false := by
        rw [beq_eq_false_iff_ne, Int.tmod_eq_emod_of_nonneg (by omega), Int.tmod_eq_emod_of_nonneg (by omega)]
        omega
      have s1 := slsA_to (s := s) (n := k) (by omega)
      have s2 := slsA_from (s := s) (n := k + 1) (by omega)
      have w3 : IntKind.i64.wrap ((k : Int) + 1) = ((k + 1 : Nat) : Int) := by rw [wrap64 (by omega) (by omega)]; omega
      simp (config := {maxSteps := 8000000}) only [c6, hfr, hen, b0, b00, hce, w1, hw, c5, w2, w3, hix, b1, b2, hrem, s1, s2, a1, a2, a3, a4, hcb', kq_ixs, vq_ixs, kq_sls', vq_sls', SS, bne_self_eq_false, wr_def, obOf, List.all_cons, List.all_nil, List.map_cons, List.map_nil, List.length_cons, List.length_nil, List.take_zero, List.take_succ_cons, List.take_nil, List.drop_zero, List.drop_succ_cons, List.drop_nil, Nat.reduceAdd, Nat.reduceMul, Nat.reduceSub, if_true, Nat.reduceLT, Nat.reduceLeDiff, ite_true, ite_false, Nat.reduceEqDiff, if_false, reduceCtorEq, ne_eq, List.getD, List.getElem?_cons_zero, List.getElem?_cons_succ, Option.getD_some, Option.bind_some, Option.map_some, Option.isSome_some, reduceIte, List.length_append, List.append_assoc, List.cons_append, List.nil_append, Option.some.injEq, forall_const, implies_true, Int.reduceNeg, eq_self, Prod.mk.injEq, List.self_eq_append_right, List.append_nil, exists_eq_left, exists_eq_left', exists_and_left, exists_eq_right, exists_and_right]
end Go.Proofs.Ytaekgifbehoipaa.Wr
