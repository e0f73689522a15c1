/- The law WireUnique in the abstract machine. No condition. -/
import Derived.Test.YtaekgifbehoipaaWrI
namespace Go.Proofs.Ytaekgifbehoipaa.Wr
open Go Go.Proofs.Ytaekgifbehoipaa.Eva Go.Proofs.Ytaekgifbehoipaa.CodeAll
set_option linter.unusedVariables false
set_option linter.unusedSimpArgs false
set_option maxRecDepth 10000
set_option maxHeartbeats 4000000

theorem out_slc {α : Type} {c : α → List AV} {sz : Nat} (h : List Ob) (hc : ∀ x, (c x).length = sz) (h0 : 0 < sz) (xs : List α) : SlL (h ++ outO sz xs.length (flat c xs)) (outV h.length sz xs.length) c sz xs := by
  by_cases hx : xs.length = 0
  · obtain rfl := List.length_eq_zero_iff.1 hx
    have : outV h.length sz ([] : List α).length = .sl true 0 0 0 0 0 := by simp [outV]
    rw [this]
    exact SlL.nil hc h0
  · refine ⟨hc, h0, flat_len hc xs, Or.inr ⟨h.length, 0, 0, ⟨flat c xs, 0, sz, true, true⟩, ?_, ?_, ?_, ?_⟩⟩
    · simp [outV, hx]
    · unfold rdObj
      rw [List.getElem?_append_right (Nat.le_refl _), Nat.sub_self, outO, if_neg hx]
      rfl
    · rw [flat_len hc]; simp
    · rw [List.drop_zero, List.take_of_length_le]
      rw [flat_len hc]; exact Nat.le_refl _
theorem unique_law (s : ByteArray) (hs : s.size < 1125899906842624) (H : List Ob) : ∃ r, ecall E 5 [.str s] H = some (.bool true, r) := by
  refine call_true e5 rfl (Nat.le_of_ble_eq_true rfl) ?_
  have hfr := frames_pc (H := H)
  have hl := bs_len s
  obtain ⟨R, T, ps, n, e, hc, hd⟩ := dec_ex hs H
  have hn := ncall_some.2 hd
  have so := out_slc (c := Pl.c) (sz := 6) H (fun x => rfl) (by decide) ps
  generalize outO 6 ps.length (flat Pl.c ps) = o1 at *
  generalize hV : outV H.length 6 ps.length = V at *
  have hlen := so.len
  have hce := so.cells
  rcases hc with ⟨rfl, hok, rfl⟩ | ⟨he, rfl, rfl, rfl, rfl, -⟩
  · obtain ⟨hv, hen⟩ := dok_enc hok
    have b0 : ((0 : Int) != 0) = false := rfl
    have b1 : ((0 : Int) == 0) = true := rfl
    have he := fun a => pcall_some.2 (enc_ok (so.keep a) hv)
    simp only [List.append_assoc] at he
    have hsz : 11 + 16 * ps.length ≤ s.size := hok.2.2.2.2.2.2.1
    have b2 : decide (((11 + 16 * ps.length : Nat) : Int) ≤ (s.size : Int)) = true := decide_eq_true (by omega)
    have hsl := slsA_to hsz
    have ht1 : (⟨(enc R T ps).toArray⟩ : ByteArray).toList = (bs s).take (11 + 16 * ps.length) := by rw [ByteArray.toList_eq, ← hen]
    have ht2 : (s.extract 0 (11 + 16 * ps.length)).toList = (bs s).take (11 + 16 * ps.length) := by rw [ByteArray.toList_eq, ← bs_ext hsz, bs]
    have b3 : ∀ l : List UInt8, (l == l) = true := fun l => by simp
    simp (config := {maxSteps := 8000000}) only [c5, hfr, rg_calln, ncallV_fn, hn, hce, he, b0, b1, b2, hsl, ht1, ht2, b3, kq_sls', vq_sls', SS, bne_self_eq_false, wr_def, obOf, List.all_cons, List.all_nil, List.map_cons, List.map_nil, List.length_cons, List.length_nil, List.take_zero, List.take_succ_cons, List.take_nil, List.drop_zero, List.drop_succ_cons, List.drop_nil, Nat.reduceAdd, Nat.reduceMul, Nat.reduceSub, if_true, Nat.reduceLT, Nat.reduceLeDiff, ite_true, ite_false, Nat.reduceEqDiff, if_false, reduceCtorEq, ne_eq, List.getD, List.getElem?_cons_zero, List.getElem?_cons_succ, Option.getD_some, Option.bind_some, Option.map_some, Option.isSome_some, reduceIte, List.length_append, List.append_assoc, List.cons_append, List.nil_append, Option.some.injEq, forall_const, implies_true, Int.reduceNeg, eq_self, Prod.mk.injEq, List.self_eq_append_right, List.append_nil, exists_eq_left, exists_eq_left', exists_and_left, exists_eq_right, exists_and_right]
  · have b0 : (e != 0) = true := by rw [bne_iff_ne]; exact he
    have b1 : ((0 : Int) == 0) = true := rfl
    have b2 : ((([] : List Pl).length : Int) == 0) = true := rfl
    simp (config := {maxSteps := 8000000}) only [c5, hfr, rg_calln, ncallV_fn, hn, hce, b0, b1, b2, hlen, kq_sls', vq_sls', SS, bne_self_eq_false, wr_def, obOf, List.all_cons, List.all_nil, List.map_cons, List.map_nil, List.length_cons, List.length_nil, List.take_zero, List.take_succ_cons, List.take_nil, List.drop_zero, List.drop_succ_cons, List.drop_nil, Nat.reduceAdd, Nat.reduceMul, Nat.reduceSub, if_true, Nat.reduceLT, Nat.reduceLeDiff, ite_true, ite_false, Nat.reduceEqDiff, if_false, reduceCtorEq, ne_eq, List.getD, List.getElem?_cons_zero, List.getElem?_cons_succ, Option.getD_some, Option.bind_some, Option.map_some, Option.isSome_some, reduceIte, List.length_append, List.append_assoc, List.cons_append, List.nil_append, Option.some.injEq, forall_const, implies_true, Int.reduceNeg, eq_self, Prod.mk.injEq, List.self_eq_append_right, List.append_nil, exists_eq_left, exists_eq_left', exists_and_left, exists_eq_right, exists_and_right]
    rfl
end Go.Proofs.Ytaekgifbehoipaa.Wr
