/- Equal frames, and the law WireBack in the abstract machine. Conditions stand in each lemma. -/
import Derived.Test.YtaekgifbehoipaaWrX
import Derived.Test.YtaekgifbehoipaaWrU
import Derived.Test.YtaekgifbehoipaaWrV
namespace Go.Proofs.Ytaekgifbehoipaa.Wr
open Go Go.Proofs.Ytaekgifbehoipaa.Eva Go.Proofs.Ytaekgifbehoipaa.CodeAll
set_option linter.unusedVariables false
set_option linter.unusedSimpArgs false
set_option maxRecDepth 10000
set_option maxHeartbeats 4000000

theorem equal_pl {H : List Ob} {V W : AV} {ks : List Pl} (hs : SlL H V Pl.c 6 ks) (ht : SlL H W Pl.c 6 ks) (hbig : ks.length ≤ 1125899906842624) :
    pcall E 44 [V, W] H = some (.bool true) := by
  refine pcall_some.2 (call_plain e44 rfl (Nat.le_of_ble_eq_true rfl) rfl ?_)
  have hlen := hs.len
  have hlen2 := ht.len
  have hb : ((ks.length : Int) != (ks.length : Int)) = false := by simp
  simp (config := {maxSteps := 4000000}) only [c44, hlen, hlen2, hb, SS, bne_self_eq_false, wr_def, obOf, List.all_cons, List.all_nil, List.map_cons, List.map_nil, List.length_cons, List.length_nil, List.take_zero, List.take_succ_cons, List.take_nil, List.drop_zero, List.drop_succ_cons, List.drop_nil, Nat.reduceAdd, Nat.reduceMul, Nat.reduceSub, if_true, Nat.reduceLT, Nat.reduceLeDiff, ite_true, ite_false, Nat.reduceEqDiff, if_false, reduceCtorEq, ne_eq, List.getD, List.getElem?_cons_zero, List.getElem?_cons_succ, Option.getD_some, Option.bind_some, Option.map_some, Option.isSome_some, reduceIte, List.length_append, List.append_assoc, List.cons_append, List.nil_append, Option.some.injEq, forall_const, implies_true, Int.reduceNeg, eq_self, Prod.mk.injEq, List.self_eq_append_right, List.append_nil, exists_eq_left, exists_eq_left', exists_and_left, exists_eq_right, exists_and_right]
  refine W_loop (fun q f1 h1 => ∃ j : Nat, q = ks.length - j ∧ j ≤ ks.length ∧ f1 0 = V ∧ f1 1 = W ∧ f1 12 = .int .i64 ks.length ∧ f1 13 = .int .i64 j) (Nat.le_refl _) ks.length ⟨0, rfl, Nat.zero_le _, rfl, rfl, rfl, rfl⟩ ?_
  rintro q f1 h1 hn1 ht1 ⟨j, rfl, hj, e0, e1, e12, e13⟩
  rw [List.take_length] at ht1
  have hH := take_eq ht1
  generalize h1.drop H.length = z at hH
  subst hH
  by_cases hjl : j < ks.length
  · have hjl' : decide ((j : Int) < (ks.length : Int)) = true := by simpa using hjl
    have hwj : IntKind.i64.wrap ((j : Int) + 1) = ((j + 1 : Nat) : Int) := by rw [wrap64 (by omega) (by omega)]; omega
    obtain ⟨p, hp⟩ : ∃ k, ks[j]? = some k := ⟨_, List.getElem?_eq_getElem hjl⟩
    have hok : idxOk 6 V (.int .i64 (j : Int)) := hs.ok (by omega) (by omega)
    have hok2 : idxOk 6 W (.int .i64 (j : Int)) := ht.ok (by omega) (by omega)
    have hld := (hs.keep z).ldn (i := (j : Int)) (kk := .i64) (x := p) (by omega) (by simpa using hp)
    have hld2 := (ht.keep z).ldn (i := (j : Int)) (kk := .i64) (x := p) (by omega) (by simpa using hp)
    unfold Pl.c at hld hld2
    have b3 : ∀ x : Int, (x == x) = true := fun x => by simp
    simp (config := {maxSteps := 4000000}) only [e0, e1, e12, e13, hjl', hwj, hok, hok2, hld, hld2, b3, SS, bne_self_eq_false, wr_def, obOf, List.all_cons, List.all_nil, List.map_cons, List.map_nil, List.length_cons, List.length_nil, List.take_zero, List.take_succ_cons, List.take_nil, List.drop_zero, List.drop_succ_cons, List.drop_nil, Nat.reduceAdd, Nat.reduceMul, Nat.reduceSub, if_true, Nat.reduceLT, Nat.reduceLeDiff, ite_true, ite_false, Nat.reduceEqDiff, if_false, reduceCtorEq, ne_eq, List.getD, List.getElem?_cons_zero, List.getElem?_cons_succ, Option.getD_some, Option.bind_some, Option.map_some, Option.isSome_some, reduceIte, List.length_append, List.append_assoc, List.cons_append, List.nil_append, Option.some.injEq, forall_const, implies_true, Int.reduceNeg, eq_self, Prod.mk.injEq, List.self_eq_append_right, List.append_nil, exists_eq_left, exists_eq_left', exists_and_left, exists_eq_right, exists_and_right]
    exact ⟨_, by omega, j + 1, rfl, by omega, rfl⟩
  · have hjl' : decide ((j : Int) < (ks.length : Int)) = false := by simpa using hjl
    simp (config := {maxSteps := 8000000}) only [e0, e1, e12, e13, hjl', SS, bne_self_eq_false, wr_def, obOf, List.all_cons, List.all_nil, List.map_cons, List.map_nil, List.length_cons, List.length_nil, List.take_zero, List.take_succ_cons, List.take_nil, List.drop_zero, List.drop_succ_cons, List.drop_nil, Nat.reduceAdd, Nat.reduceMul, Nat.reduceSub, if_true, Nat.reduceLT, Nat.reduceLeDiff, ite_true, ite_false, Nat.reduceEqDiff, if_false, reduceCtorEq, ne_eq, List.getD, List.getElem?_cons_zero, List.getElem?_cons_succ, Option.getD_some, Option.bind_some, Option.map_some, Option.isSome_some, reduceIte, List.length_append, List.append_assoc, List.cons_append, List.nil_append, Option.some.injEq, forall_const, implies_true, Int.reduceNeg, eq_self, Prod.mk.injEq, List.self_eq_append_right, List.append_nil, exists_eq_left, exists_eq_left', exists_and_left, exists_eq_right, exists_and_right]
theorem same_pc {H : List Ob} {V W : AV} {R T : Int} {ks : List Pl} (hs : SlL H V Pl.c 6 ks) (ht : SlL H W Pl.c 6 ks) (hbig : ks.length ≤ 1125899906842624) :
    pcall E 24 [.agg [.int .i64 R, .int .i64 T, V], .agg [.int .i64 R, .int .i64 T, W]] H = some (.bool true) := by
  refine pcall_some.2 (call_plain e24 rfl (Nat.le_of_ble_eq_true rfl) rfl ?_)
  have he := fun o => equal_pl (hs.keep o) (ht.keep o) hbig
  have b3 : ∀ x : Int, (x == x) = true := fun x => by simp
  have c1 := hs.cells
  have c2 := ht.cells
  simp (config := {maxSteps := 8000000}) only [c24, he, b3, c1, c2, SS, bne_self_eq_false, wr_def, obOf, List.all_cons, List.all_nil, List.map_cons, List.map_nil, List.length_cons, List.length_nil, List.take_zero, List.take_succ_cons, List.take_nil, List.drop_zero, List.drop_succ_cons, List.drop_nil, Nat.reduceAdd, Nat.reduceMul, Nat.reduceSub, if_true, Nat.reduceLT, Nat.reduceLeDiff, ite_true, ite_false, Nat.reduceEqDiff, if_false, reduceCtorEq, ne_eq, List.getD, List.getElem?_cons_zero, List.getElem?_cons_succ, Option.getD_some, Option.bind_some, Option.map_some, Option.isSome_some, reduceIte, List.length_append, List.append_assoc, List.cons_append, List.nil_append, Option.some.injEq, forall_const, implies_true, Int.reduceNeg, eq_self, Prod.mk.injEq, List.self_eq_append_right, List.append_nil, exists_eq_left, exists_eq_left', exists_and_left, exists_eq_right, exists_and_right]
theorem back_law {H : List Ob} {V : AV} {ps : List Pl} (hs : SlL H V Pl.c 6 ps) (hpl : ps.length < 1125899906842624) {R T cut : Int} {more : ByteArray} (hm : more.size ≤ 140737488351232) : ∃ r, ecall E 7 [.agg [.int .i64 R, .int .i64 T, V], .str more, .int .i64 cut] H = some (.bool true, r) := by
  refine call_true e7 rfl (Nat.le_of_ble_eq_true rfl) ?_
  have hfr := fun H => frames_pc H
  have hce := hs.cells
  by_cases hv : VF R T ps
  rotate_left
  · have hex : ∀ o : List Ob, ∃ e : Int, e ≠ 0 ∧ pcall E 22 [.agg [.int .i64 R, .int .i64 T, V]] (H ++ o) = some (.tup [.str ⟨#[]⟩, .int .i64 e]) := fun o => by
      obtain ⟨e, h1, h2⟩ := enc_err (hs.keep o) hpl hv
      exact ⟨e, h1, pcall_some.2 h2⟩
    obtain ⟨fe, hf⟩ := Classical.axiomOfChoice hex
    have b0 : ∀ o, (fe o != 0) = true := fun o => bne_iff_ne.2 (hf o).1
    have b1 := fun o => (hf o).2
    have b2 : ∀ l : List UInt8, (l == l) = true := fun l => by simp
    simp (config := {maxSteps := 8000000}) only [c7, hfr, b1, b0, b2, hce, SS, bne_self_eq_false, wr_def, obOf, List.all_cons, List.all_nil, List.map_cons, List.map_nil, List.length_cons, List.length_nil, List.take_zero, List.take_succ_cons, List.take_nil, List.drop_zero, List.drop_succ_cons, List.drop_nil, Nat.reduceAdd, Nat.reduceMul, Nat.reduceSub, if_true, Nat.reduceLT, Nat.reduceLeDiff, ite_true, ite_false, Nat.reduceEqDiff, if_false, reduceCtorEq, ne_eq, List.getD, List.getElem?_cons_zero, List.getElem?_cons_succ, Option.getD_some, Option.bind_some, Option.map_some, Option.isSome_some, reduceIte, List.length_append, List.append_assoc, List.cons_append, List.nil_append, Option.some.injEq, forall_const, implies_true, Int.reduceNeg, eq_self, Prod.mk.injEq, List.self_eq_append_right, List.append_nil, exists_eq_left, exists_eq_left', exists_and_left, exists_eq_right, exists_and_right]
  have hen := fun o => pcall_some.2 (enc_ok (hs.keep o) hv)
  obtain ⟨s, hS⟩ : ∃ s : ByteArray, ⟨(enc R T ps).toArray⟩ = s := ⟨_, rfl⟩
  have hb : bs s = enc R T ps := by rw [← hS]
  rw [hS] at hen
  have hsz : s.size = 11 + 16 * ps.length := by rw [← bs_len, hb, enc_len]
  have hM := hv.1
  obtain ⟨k, hk, hw⟩ := within_ex cut (R := 11 + 16 * ps.length) (by omega) (by omega) H
  have w1 : IntKind.i64.wrap ((s.size : Int) - 1) = ((11 + 16 * ps.length : Nat) : Int) - 1 := by rw [wrap64 (by omega) (by omega)]; omega
  have b0 : ((0 : Int) != 0) = false := rfl
  have b00 : ((0 : Int) == 0) = true := rfl
  have b8 : ((8 : Int) == 8) = true := rfl
  have bs1 : (((11 + 16 * ps.length : Nat) : Int) == (s.size : Int)) = true := by rw [hsz]; simp
  have hadd := abin_sadd (a := s) (b := more) (by omega)
  have hz : bs (s ++ more) = enc R T ps ++ bs more := by rw [bs_app, hb]
  have hde := fun o => ncall_some.2 (dec_enc (s := s ++ more) (by rw [ByteArray.size_append]; omega) hz hv (H ++ o))
  have s1 := slsA_to (s := s) (n := k) (by omega)
  have hdp := fun H => dec_pre (s := s.extract 0 k) hk (by rw [bs_ext (by omega), hb]) hv H
  have hso := fun o => out_slc (c := Pl.c) (sz := 6) (H ++ o) (fun x => rfl) (by decide) ps
  have hco := fun o => (hso o).cells
  have hsame := fun o o' => same_pc (R := R) (T := T) (((hs.keep o).keep (outO 6 ps.length (flat Pl.c ps))).keep o') ((hso o).keep o') (by omega)
  have hsame' := fun a o' => hsame [a] o'
  simp only [List.append_assoc, List.length_append, List.length_cons, List.length_nil, List.cons_append, List.nil_append, Nat.zero_add] at hsame'
  generalize outO 6 ps.length (flat Pl.c ps) = o1 at *
  simp (config := {maxSteps := 8000000}) only [c7, hfr, hen, b0, b00, b8, bs1, hce, w1, hw, hadd, hde, s1, hdp, hsame', hco, rg_calln, ncallV_fn, kq_sls', vq_sls', SS, bne_self_eq_false, wr_def, obOf, List.all_cons, List.all_nil, List.map_cons, List.map_nil, List.length_cons, List.length_nil, List.take_zero, List.take_succ_cons, List.take_nil, List.drop_zero, List.drop_succ_cons, List.drop_nil, Nat.reduceAdd, Nat.reduceMul, Nat.reduceSub, if_true, Nat.reduceLT, Nat.reduceLeDiff, ite_true, ite_false, Nat.reduceEqDiff, if_false, reduceCtorEq, ne_eq, List.getD, List.getElem?_cons_zero, List.getElem?_cons_succ, Option.getD_some, Option.bind_some, Option.map_some, Option.isSome_some, reduceIte, List.length_append, List.append_assoc, List.cons_append, List.nil_append, Option.some.injEq, forall_const, implies_true, Int.reduceNeg, eq_self, Prod.mk.injEq, List.self_eq_append_right, List.append_nil, exists_eq_left, exists_eq_left', exists_and_left, exists_eq_right, exists_and_right]
end Go.Proofs.Ytaekgifbehoipaa.Wr
