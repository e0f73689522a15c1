/- The law FuseTracks: the abstract machine answers true. No condition. -/
import Derived.Test.YtpehhlfbnkakpaaInFuseTracks
import Derived.Test.YtpehhlfbnkakpaaFuP
namespace Go.Proofs.Ytpehhlfbnkakpaa.MyFuseTracks
open Go Go.Proofs.Ytpehhlfbnkakpaa.Eva Go.Proofs.Ytpehhlfbnkakpaa.CodeAll Go.Proofs.Ytpehhlfbnkakpaa.InFuseTracks Go.Proofs.Ytpehhlfbnkakpaa.Fl
set_option linter.unusedVariables false
set_option linter.unusedSimpArgs false
set_option maxRecDepth 10000
set_option maxHeartbeats 4000000

def one : T := ⟨0, 0, 0, 0, 0, 0, 0, 0, 0, 0, 5, 0, 0, 0, 0, 0, 0, 0, 0, 0⟩
def x1 : List T := (trk [one, one] 0).1
theorem x1_len : x1.length = 1 := by decide +kernel
theorem x1_err : (trk [one, one] 0).2 = 0 := by decide +kernel
theorem outv1 (n sz : Nat) : outV n sz 1 = .sl false n 0 sz 0 1 := rfl
theorem outo1 (sz : Nat) (cs : List AV) : outO sz 1 cs = [⟨cs, 0, sz, true, true⟩] := rfl

/-- Which values the closures tell apart. -/
theorem tw_pc {H : List Ob} {j : Nat} {band : Int} {rw' fl' : Bool} (hj : rdObj H j 0 = some ⟨[.int .i64 band], 0, 0, rw', fl'⟩) (a b : T) : pcall E 29 [.agg a.c, .agg b.c, .ptr j 0 0] H = some (.bool (twins band a b)) := by
  refine pcall_some.2 (call_plain e29 rfl (Nat.le_of_ble_eq_true rfl) rfl ?_)
  have hjj := fun o => rd_keep (l := o) hj
  have hsm := fun H => same_pc a b band H
  unfold twins
  generalize sameT a b band = S at *
  simp only [T.c] at hsm
  simp (config := {maxSteps := 8000000}) only [c29, T.c, hjj, hsm, SS, bne_self_eq_false, wr_def, obOf, List.all_cons, List.all_nil, List.map_cons, List.map_nil, List.length_cons, List.length_nil, List.take_zero, List.take_succ_cons, List.take_nil, List.drop_zero, List.drop_succ_cons, List.drop_nil, Nat.reduceAdd, Nat.reduceMul, Nat.reduceSub, if_true, Nat.reduceLT, Nat.reduceLeDiff, ite_true, ite_false, Nat.reduceEqDiff, if_false, reduceCtorEq, ne_eq, List.getD, List.getElem?_cons_zero, List.getElem?_cons_succ, Option.getD_some, Option.bind_some, Option.map_some, Option.isSome_some, reduceIte, List.length_append, List.append_assoc, List.cons_append, List.nil_append, Option.some.injEq, forall_const, implies_true, Int.reduceNeg, eq_self, Prod.mk.injEq, List.self_eq_append_right, List.append_nil, exists_eq_left, exists_eq_left', exists_and_left, exists_eq_right, exists_and_right]
theorem cl_pc {H : List Ob} {j p q : Nat} {band : Int} {a : T} {rw' fl' rw2 fl2 rw3 fl3 : Bool} (hj : rdObj H j 0 = some ⟨[.int .i64 band], 0, 0, rw', fl'⟩) (hp : rdObj H p 0 = some ⟨[.fn 29 [.ptr j 0 0]], 0, 0, rw2, fl2⟩) (hq : rdObj H q 0 = some ⟨a.c, 0, 0, rw3, fl3⟩) (b : T) :
    pcall E 32 [.agg b.c, .ptr p 0 0, .ptr q 0 0] H = some (.bool (twins band a b)) := by
  refine pcall_some.2 (call_plain e32 rfl (Nat.le_of_ble_eq_true rfl) rfl ?_)
  have hpp := fun o => rd_keep (l := o) hp
  have hqq := fun o => rd_keep (l := o) hq
  have htw := fun o => tw_pc (rd_keep (l := o) hj) a b
  simp only [T.c] at htw hqq
  simp (config := {maxSteps := 8000000}) only [c32, T.c, hpp, hqq, htw, SS, bne_self_eq_false, wr_def, obOf, List.all_cons, List.all_nil, List.map_cons, List.map_nil, List.length_cons, List.length_nil, List.take_zero, List.take_succ_cons, List.take_nil, List.drop_zero, List.drop_succ_cons, List.drop_nil, Nat.reduceAdd, Nat.reduceMul, Nat.reduceSub, if_true, Nat.reduceLT, Nat.reduceLeDiff, ite_true, ite_false, Nat.reduceEqDiff, if_false, reduceCtorEq, ne_eq, List.getD, List.getElem?_cons_zero, List.getElem?_cons_succ, Option.getD_some, Option.bind_some, Option.map_some, Option.isSome_some, reduceIte, List.length_append, List.append_assoc, List.cons_append, List.nil_append, Option.some.injEq, forall_const, implies_true, Int.reduceNeg, eq_self, Prod.mk.injEq, List.self_eq_append_right, List.append_nil, exists_eq_left, exists_eq_left', exists_and_left, exists_eq_right, exists_and_right]
theorem cl3_pc {H : List Ob} {j p q : Nat} {band : Int} {a : T} {rw' fl' rw2 fl2 rw3 fl3 : Bool} (hj : rdObj H j 0 = some ⟨[.int .i64 band], 0, 0, rw', fl'⟩) (hp : rdObj H p 0 = some ⟨[.fn 29 [.ptr j 0 0]], 0, 0, rw2, fl2⟩) (hq : rdObj H q 0 = some ⟨a.c, 0, 0, rw3, fl3⟩) (b : T) :
    pcall E 35 [.agg b.c, .ptr p 0 0, .ptr q 0 0] H = some (.bool (twins band a b)) := by
  refine pcall_some.2 (call_plain e35 rfl (Nat.le_of_ble_eq_true rfl) rfl ?_)
  have hpp := fun o => rd_keep (l := o) hp
  have hqq := fun o => rd_keep (l := o) hq
  have htw := fun o => tw_pc (rd_keep (l := o) hj) a b
  simp only [T.c] at htw hqq
  simp (config := {maxSteps := 8000000}) only [c35, T.c, hpp, hqq, htw, SS, bne_self_eq_false, wr_def, obOf, List.all_cons, List.all_nil, List.map_cons, List.map_nil, List.length_cons, List.length_nil, List.take_zero, List.take_succ_cons, List.take_nil, List.drop_zero, List.drop_succ_cons, List.drop_nil, Nat.reduceAdd, Nat.reduceMul, Nat.reduceSub, if_true, Nat.reduceLT, Nat.reduceLeDiff, ite_true, ite_false, Nat.reduceEqDiff, if_false, reduceCtorEq, ne_eq, List.getD, List.getElem?_cons_zero, List.getElem?_cons_succ, Option.getD_some, Option.bind_some, Option.map_some, Option.isSome_some, reduceIte, List.length_append, List.append_assoc, List.cons_append, List.nil_append, Option.some.injEq, forall_const, implies_true, Int.reduceNeg, eq_self, Prod.mk.injEq, List.self_eq_append_right, List.append_nil, exists_eq_left, exists_eq_left', exists_and_left, exists_eq_right, exists_and_right]

theorem law (l0 : List T) (V0 : AV) (band : Int) (H : List Ob) (hs0 : SlL H V0 T.c 20 l0 ∧ FgL H V0) : ∃ r, ecall E 8 [V0, .int .i64 band] H = some (.bool true, r) := by
  obtain ⟨hs0, hf0⟩ := hs0
  refine call_true e8 rfl (Nat.le_of_ble_eq_true rfl) ?_
  have hlen0 := hs0.len
  -- the example
  have hx : ∀ A B o, SlL (H ++ (A :: B :: ⟨one.c ++ one.c, 0, 20, true, true⟩ :: o)) (.sl false (H.length + 2) 0 20 0 2) T.c 20 [one, one] := fun A B o =>
    ⟨fun _ => rfl, by decide, rfl, Or.inr ⟨_, 0, 0, ⟨one.c ++ one.c, 0, 20, true, true⟩, rfl, by simp [rdObj], by decide, rfl⟩⟩
  have k1 := fun A B o => ncall_some.2 (tracks_run (hx A B o) 0)
  rw [x1_err] at k1
  have ex1 : (trk [one, one] 0).1.length = 1 := x1_len
  rw [ex1] at k1
  simp only [outv1, outo1] at k1
  generalize hxx : flat T.c (trk [one, one] 0).1 = XX at k1
  -- the first eight
  obtain ⟨V, hV1, hV2, hV3⟩ := hs0.slc (a := none) (b := some (min (l0.length : Int) 8)) (lo := 0) (hi := min l0.length 8) rfl (by simp only [Option.getD_some]; omega) (by omega) (by omega)
  simp only [List.drop_zero, Nat.sub_zero] at hV2
  have hV1' : slcA 20 none (some (min (8 : Int) (l0.length : Int))) V0 = some V := by rw [Int.min_comm]; exact hV1
  have hl8 : (l0.take (min l0.length 8)).length ≤ 8 := by rw [List.length_take]; omega
  generalize l0.take (min l0.length 8) = l at hV2 hl8
  have hf : FgL H V := fun id ep o hid ho => hf0 id ep o (hV3 id hid) ho
  have k2 := fun o => ncall_some.2 (tracks_run (hV2.keep o) band)
  have hok := trk_ok (l := l) (band := band)
  have her := trk_err (l := l) (band := band)
  generalize hE : (trk l band).2 = er at *
  generalize hO : (trk l band).1 = out at *
  simp only [one, T.c, List.length_append, List.length_cons, List.length_nil, List.cons_append, List.nil_append, List.append_assoc] at k1 k2
  have d1 : (((1 : Nat) : Int) != 1) = false := rfl
  by_cases c1 : er = 0
  rotate_left
  · have ho := her c1
    subst ho
    have c1' : (er != 0) = true := by simpa using c1
    have o0 : ∀ n, outV n 20 0 = .sl true 0 0 0 0 0 := fun n => rfl
    have o1 : ∀ cs, outO 20 0 cs = [] := fun cs => rfl
    simp only [List.length_nil, o0, o1, List.append_nil] at k2
    simp (config := {maxSteps := 8000000}) only [c8, hlen0, rg_calln, ncallV_fn, k1, k2, kq_slc, vq_slc, hV1, hV1', d1, c1', bne_self_eq_false, beq_self_eq_true, SS, bne_self_eq_false, wr_def, obOf, List.all_cons, List.all_nil, List.map_cons, List.map_nil, List.length_cons, List.length_nil, List.take_zero, List.take_succ_cons, List.take_nil, List.drop_zero, List.drop_succ_cons, List.drop_nil, Nat.reduceAdd, Nat.reduceMul, Nat.reduceSub, if_true, Nat.reduceLT, Nat.reduceLeDiff, ite_true, ite_false, Nat.reduceEqDiff, if_false, reduceCtorEq, ne_eq, List.getD, List.getElem?_cons_zero, List.getElem?_cons_succ, Option.getD_some, Option.bind_some, Option.map_some, Option.isSome_some, reduceIte, List.length_append, List.append_assoc, List.cons_append, List.nil_append, Option.some.injEq, forall_const, implies_true, Int.reduceNeg, eq_self, Prod.mk.injEq, List.self_eq_append_right, List.append_nil, exists_eq_left, exists_eq_left', exists_and_left, exists_eq_right, exists_and_right]
    rfl
  have hoo := hok c1
  subst c1
  have hOut : ∀ A B C D o, SlL (H ++ (A :: B :: C :: D :: (outO 20 out.length (flat T.c out) ++ o))) (outV (H.length + 4) 20 out.length) T.c 20 out := fun A B C D o => by
    have := out_rd (h := H ++ [A, B, C, D]) (sz := 20) (k := out.length) (cs := flat T.c out) (flat_len (k := 20) (fun x => rfl) out)
    have h2 := this.keep o
    simp only [List.length_append, List.length_cons, List.length_nil, List.append_assoc, List.cons_append, List.nil_append] at h2
    exact ⟨fun _ => rfl, by decide, h2⟩
  generalize hOV : outV (H.length + 4) 20 out.length = O at *
  have hOlen : lenvA false O = some (.int .i64 out.length) := (hOut ⟨[], 0, 0, true, true⟩ ⟨[], 0, 0, true, true⟩ ⟨[], 0, 0, true, true⟩ ⟨[], 0, 0, true, true⟩ []).len
  have hol : out.length ≤ 8 := by
    rw [hoo]; exact Nat.le_trans (outG_len _ _ _ _) hl8
  simp (config := {maxSteps := 8000000}) only [c8, hlen0, rg_calln, ncallV_fn, k1, k2, kq_slc, vq_slc, hV1, hV1', d1, hOV, hOlen, bne_self_eq_false, beq_self_eq_true, SS, bne_self_eq_false, wr_def, obOf, List.all_cons, List.all_nil, List.map_cons, List.map_nil, List.length_cons, List.length_nil, List.take_zero, List.take_succ_cons, List.take_nil, List.drop_zero, List.drop_succ_cons, List.drop_nil, Nat.reduceAdd, Nat.reduceMul, Nat.reduceSub, if_true, Nat.reduceLT, Nat.reduceLeDiff, ite_true, ite_false, Nat.reduceEqDiff, if_false, reduceCtorEq, ne_eq, List.getD, List.getElem?_cons_zero, List.getElem?_cons_succ, Option.getD_some, Option.bind_some, Option.map_some, Option.isSome_some, reduceIte, List.length_append, List.append_assoc, List.cons_append, List.nil_append, Option.some.injEq, forall_const, implies_true, Int.reduceNeg, eq_self, Prod.mk.injEq, List.self_eq_append_right, List.append_nil, exists_eq_left, exists_eq_left', exists_and_left, exists_eq_right, exists_and_right]
  have hVlen := hV2.len
  refine W_loop (fun q f1 h1 => ∃ (i : Nat) (p : Nat), q = out.length - i ∧ i ≤ out.length ∧ f1 0 = V ∧ f1 8 = O ∧ f1 10 = .ptr p 0 0 ∧ f1 48 = O ∧ f1 49 = .int .i64 out.length ∧ f1 50 = .int .i64 i ∧ rdObj h1 p 0 = some ⟨[.fn 29 [.ptr H.length 0 0]], 0, 0, true, false⟩ ∧ rdObj h1 H.length 0 = some ⟨[.int .i64 band], 0, 0, true, true⟩ ∧ SlL h1 O T.c 20 out) (by simp) out.length ⟨0, _, rfl, by omega, rfl, rfl, rfl, rfl, rfl, rfl, ?_, ?_, ?_⟩ ?_
  · simp [rdObj]
  · simp [rdObj]
  · exact hOut _ _ _ _ _
  rintro q f1 h1 hn1 ht ⟨i, p, rfl, hi, e0, e8, e10, e48, e49, e50, rp, rb, hO⟩
  rw [List.take_left] at ht
  have hH := take_eq ht
  generalize h1.drop H.length = y at hH
  subst hH
  by_cases hil : i < out.length
  · have hil' : decide ((i : Int) < (out.length : Int)) = true := decide_eq_true (by omega)
    obtain ⟨a, ha⟩ : ∃ b, out[i]? = some b := ⟨_, List.getElem?_eq_getElem hil⟩
    have hwi : IntKind.i64.wrap ((i : Int) + 1) = ((i + 1 : Nat) : Int) := by rw [wrap64 (by omega) (by omega)]; omega
    have hok2 : idxOk 20 O (.int .i64 (i : Int)) := hO.ok (by omega) (by omega)
    have hld := hO.ldn (i := (i : Int)) (kk := .i64) (x := a) (by omega) (by simpa using ha)
    obtain ⟨O', hq1, hq2, hq3⟩ := hO.slc (a := none) (b := some (i : Int)) (lo := 0) (hi := i) rfl rfl (by omega) (by omega)
    simp only [List.drop_zero, Nat.sub_zero] at hq2
    have hcl := fun (x : List Ob) (k : T) => cl_pc (H := H ++ (y ++ (⟨a.c, 0, 0, true, true⟩ :: x))) (q := H.length + y.length) (a := a) (rw3 := true) (fl3 := true) (rd_keep2 rb) (rd_keep2 rp) (by simp [rdObj]) k
    have hany : (out.take i).any (twins band a) = false := by
      rw [hoo]; exact out_apart l band i a (by rw [← hoo]; exact ha)
    have hcf := ctf_T (H := H ++ (y ++ [⟨a.c, 0, 0, true, true⟩])) (V := O') (ks := out.take i) (g := 32) (caps := [.ptr p 0 0, .ptr (H.length + y.length) 0 0]) (p := twins band a) (by have := hq2.keep [⟨a.c, 0, 0, true, true⟩]; rwa [List.append_assoc] at this) (by rw [List.length_take]; omega) (fun x k hk => by have := hcl x k; simpa using this)
    rw [hany] at hcf
    have hin : l.any (eqT a) = true := by
      rw [List.any_eq_true]
      exact ⟨a, out_sub (by rw [← hoo]; exact List.mem_of_getElem? ha), (eqT_iff a a).2 rfl⟩
    have hcn := fun o => con_T (hV2.keep o) (by omega) a
    rw [hin] at hcn
    simp only [T.c] at hld hcf hcn
    simp (config := {maxSteps := 8000000}) only [e0, e8, e10, e48, e49, e50, hil', hwi, hok2, isPtr_idx hok2, hld, kq_slc, vq_slc, hq1, hcf, hcn, hn1, SS, bne_self_eq_false, wr_def, obOf, List.all_cons, List.all_nil, List.map_cons, List.map_nil, List.length_cons, List.length_nil, List.take_zero, List.take_succ_cons, List.take_nil, List.drop_zero, List.drop_succ_cons, List.drop_nil, Nat.reduceAdd, Nat.reduceMul, Nat.reduceSub, if_true, Nat.reduceLT, Nat.reduceLeDiff, ite_true, ite_false, Nat.reduceEqDiff, if_false, reduceCtorEq, ne_eq, List.getD, List.getElem?_cons_zero, List.getElem?_cons_succ, Option.getD_some, Option.bind_some, Option.map_some, Option.isSome_some, reduceIte, List.length_append, List.append_assoc, List.cons_append, List.nil_append, Option.some.injEq, forall_const, implies_true, Int.reduceNeg, eq_self, Prod.mk.injEq, List.self_eq_append_right, List.append_nil, exists_eq_left, exists_eq_left', exists_and_left, exists_eq_right, exists_and_right]
    exact ⟨_, by omega, i + 1, rfl, by omega, p, rfl, rfl, rd_keep2 rp, (by have := rd_keep2 (l := [⟨a.c, 0, 0, true, true⟩]) rb; rw [rd_new0] at this; exact this), by have := hO.keep [⟨a.c, 0, 0, true, true⟩]; rw [List.append_assoc] at this; exact this⟩
  have hil' : decide ((i : Int) < (out.length : Int)) = false := decide_eq_false (by omega)
  simp (config := {maxSteps := 8000000}) only [e0, e8, e10, e48, e49, e50, hil', hVlen, SS, bne_self_eq_false, wr_def, obOf, List.all_cons, List.all_nil, List.map_cons, List.map_nil, List.length_cons, List.length_nil, List.take_zero, List.take_succ_cons, List.take_nil, List.drop_zero, List.drop_succ_cons, List.drop_nil, Nat.reduceAdd, Nat.reduceMul, Nat.reduceSub, if_true, Nat.reduceLT, Nat.reduceLeDiff, ite_true, ite_false, Nat.reduceEqDiff, if_false, reduceCtorEq, ne_eq, List.getD, List.getElem?_cons_zero, List.getElem?_cons_succ, Option.getD_some, Option.bind_some, Option.map_some, Option.isSome_some, reduceIte, List.length_append, List.append_assoc, List.cons_append, List.nil_append, Option.some.injEq, forall_const, implies_true, Int.reduceNeg, eq_self, Prod.mk.injEq, List.self_eq_append_right, List.append_nil, exists_eq_left, exists_eq_left', exists_and_left, exists_eq_right, exists_and_right]
  have hend : decide ((0 : Int) < (out.length : Int)) = true ∨ l = [] := by
    by_cases hl0 : l = []
    · exact Or.inr hl0
    · left
      have := out_some (band := band) hl0
      rw [← hoo] at this
      have := List.length_pos_iff.2 this
      exact decide_eq_true (by omega)
  refine W_loopW (fun q f2 h2 => ∃ (i : Nat), q = l.length - i ∧ i ≤ l.length ∧ f2 0 = V ∧ f2 8 = O ∧ f2 10 = .ptr p 0 0 ∧ f2 67 = V ∧ f2 68 = .int .i64 l.length ∧ f2 69 = .int .i64 i ∧ rdObj h2 p 0 = some ⟨[.fn 29 [.ptr H.length 0 0]], 0, 0, true, false⟩ ∧ rdObj h2 H.length 0 = some ⟨[.int .i64 band], 0, 0, true, true⟩ ∧ SlL h2 O T.c 20 out) (by simp) l.length ⟨0, rfl, by omega, by simp only [e0, SS, bne_self_eq_false, wr_def, obOf, List.all_cons, List.all_nil, List.map_cons, List.map_nil, List.length_cons, List.length_nil, List.take_zero, List.take_succ_cons, List.take_nil, List.drop_zero, List.drop_succ_cons, List.drop_nil, Nat.reduceAdd, Nat.reduceMul, Nat.reduceSub, if_true, Nat.reduceLT, Nat.reduceLeDiff, ite_true, ite_false, Nat.reduceEqDiff, if_false, reduceCtorEq, ne_eq, List.getD, List.getElem?_cons_zero, List.getElem?_cons_succ, Option.getD_some, Option.bind_some, Option.map_some, Option.isSome_some, reduceIte, List.length_append, List.append_assoc, List.cons_append, List.nil_append, Option.some.injEq, forall_const, implies_true, Int.reduceNeg, eq_self, Prod.mk.injEq, List.self_eq_append_right, List.append_nil, exists_eq_left, exists_eq_left', exists_and_left, exists_eq_right, exists_and_right], by simp only [e8, SS, bne_self_eq_false, wr_def, obOf, List.all_cons, List.all_nil, List.map_cons, List.map_nil, List.length_cons, List.length_nil, List.take_zero, List.take_succ_cons, List.take_nil, List.drop_zero, List.drop_succ_cons, List.drop_nil, Nat.reduceAdd, Nat.reduceMul, Nat.reduceSub, if_true, Nat.reduceLT, Nat.reduceLeDiff, ite_true, ite_false, Nat.reduceEqDiff, if_false, reduceCtorEq, ne_eq, List.getD, List.getElem?_cons_zero, List.getElem?_cons_succ, Option.getD_some, Option.bind_some, Option.map_some, Option.isSome_some, reduceIte, List.length_append, List.append_assoc, List.cons_append, List.nil_append, Option.some.injEq, forall_const, implies_true, Int.reduceNeg, eq_self, Prod.mk.injEq, List.self_eq_append_right, List.append_nil, exists_eq_left, exists_eq_left', exists_and_left, exists_eq_right, exists_and_right], by simp only [e10, SS, bne_self_eq_false, wr_def, obOf, List.all_cons, List.all_nil, List.map_cons, List.map_nil, List.length_cons, List.length_nil, List.take_zero, List.take_succ_cons, List.take_nil, List.drop_zero, List.drop_succ_cons, List.drop_nil, Nat.reduceAdd, Nat.reduceMul, Nat.reduceSub, if_true, Nat.reduceLT, Nat.reduceLeDiff, ite_true, ite_false, Nat.reduceEqDiff, if_false, reduceCtorEq, ne_eq, List.getD, List.getElem?_cons_zero, List.getElem?_cons_succ, Option.getD_some, Option.bind_some, Option.map_some, Option.isSome_some, reduceIte, List.length_append, List.append_assoc, List.cons_append, List.nil_append, Option.some.injEq, forall_const, implies_true, Int.reduceNeg, eq_self, Prod.mk.injEq, List.self_eq_append_right, List.append_nil, exists_eq_left, exists_eq_left', exists_and_left, exists_eq_right, exists_and_right], rfl, rfl, rfl, rp, rb, hO⟩ ?_
  clear e0 e8 e10 e48 e49 e50 rp rb hO ht hn1 hil' hil hi
  rintro q f2 h2 hn2 ht ⟨i, rfl, hi, e0, e8, e10, e67, e68, e69, rp, rb, hO⟩
  rw [List.take_left] at ht
  have hH := take_eq ht
  generalize h2.drop H.length = z at hH
  subst hH
  by_cases hil : i < l.length
  rotate_left
  · have hil' : decide ((i : Int) < (l.length : Int)) = false := decide_eq_false (by omega)
    refine wc_sound _ _ _ _ hn2 ?_
    rcases hend with hend | hend
    · simp (config := {maxSteps := 8000000}) only [e0, e8, e10, e67, e68, e69, hil', hVlen, hOlen, hend, SS, bne_self_eq_false, wr_def, obOf, List.all_cons, List.all_nil, List.map_cons, List.map_nil, List.length_cons, List.length_nil, List.take_zero, List.take_succ_cons, List.take_nil, List.drop_zero, List.drop_succ_cons, List.drop_nil, Nat.reduceAdd, Nat.reduceMul, Nat.reduceSub, if_true, Nat.reduceLT, Nat.reduceLeDiff, ite_true, ite_false, Nat.reduceEqDiff, if_false, reduceCtorEq, ne_eq, List.getD, List.getElem?_cons_zero, List.getElem?_cons_succ, Option.getD_some, Option.bind_some, Option.map_some, Option.isSome_some, reduceIte, List.length_append, List.append_assoc, List.cons_append, List.nil_append, Option.some.injEq, forall_const, implies_true, Int.reduceNeg, eq_self, Prod.mk.injEq, List.self_eq_append_right, List.append_nil, exists_eq_left, exists_eq_left', exists_and_left, exists_eq_right, exists_and_right]
    · have z0 : ((l.length : Int) == 0) = true := by simp [hend]
      simp (config := {maxSteps := 8000000}) only [e0, e8, e10, e67, e68, e69, hil', hVlen, hOlen, z0, SS, bne_self_eq_false, wr_def, obOf, List.all_cons, List.all_nil, List.map_cons, List.map_nil, List.length_cons, List.length_nil, List.take_zero, List.take_succ_cons, List.take_nil, List.drop_zero, List.drop_succ_cons, List.drop_nil, Nat.reduceAdd, Nat.reduceMul, Nat.reduceSub, if_true, Nat.reduceLT, Nat.reduceLeDiff, ite_true, ite_false, Nat.reduceEqDiff, if_false, reduceCtorEq, ne_eq, List.getD, List.getElem?_cons_zero, List.getElem?_cons_succ, Option.getD_some, Option.bind_some, Option.map_some, Option.isSome_some, reduceIte, List.length_append, List.append_assoc, List.cons_append, List.nil_append, Option.some.injEq, forall_const, implies_true, Int.reduceNeg, eq_self, Prod.mk.injEq, List.self_eq_append_right, List.append_nil, exists_eq_left, exists_eq_left', exists_and_left, exists_eq_right, exists_and_right]
  have hil' : decide ((i : Int) < (l.length : Int)) = true := decide_eq_true (by omega)
  obtain ⟨a, ha⟩ : ∃ b, l[i]? = some b := ⟨_, List.getElem?_eq_getElem hil⟩
  have hwi : IntKind.i64.wrap ((i : Int) + 1) = ((i + 1 : Nat) : Int) := by rw [wrap64 (by omega) (by omega)]; omega
  have hok2 : idxOk 20 V (.int .i64 (i : Int)) := hV2.ok (by omega) (by omega)
  have hld := fun x => (hV2.keep x).ldn (i := (i : Int)) (kk := .i64) (x := a) (by omega) (by simpa using ha)
  have hcn := fun o => con_T (H := H ++ (z ++ o)) (by have := hO.keep o; rwa [List.append_assoc] at this) (by omega) a
  cases hin : out.any (eqT a)
  rotate_left
  · refine wc_sound _ _ _ _ hn2 ?_
    rw [hin] at hcn
    simp only [T.c] at hld hcn
    simp (config := {maxSteps := 8000000}) only [e0, e8, e10, e67, e68, e69, hil', hwi, hok2, isPtr_idx hok2, hld, hcn, hn2, rg_mksg, SS, bne_self_eq_false, wr_def, obOf, List.all_cons, List.all_nil, List.map_cons, List.map_nil, List.length_cons, List.length_nil, List.take_zero, List.take_succ_cons, List.take_nil, List.drop_zero, List.drop_succ_cons, List.drop_nil, Nat.reduceAdd, Nat.reduceMul, Nat.reduceSub, if_true, Nat.reduceLT, Nat.reduceLeDiff, ite_true, ite_false, Nat.reduceEqDiff, if_false, reduceCtorEq, ne_eq, List.getD, List.getElem?_cons_zero, List.getElem?_cons_succ, Option.getD_some, Option.bind_some, Option.map_some, Option.isSome_some, reduceIte, List.length_append, List.append_assoc, List.cons_append, List.nil_append, Option.some.injEq, forall_const, implies_true, Int.reduceNeg, eq_self, Prod.mk.injEq, List.self_eq_append_right, List.append_nil, exists_eq_left, exists_eq_left', exists_and_left, exists_eq_right, exists_and_right]
    exact ⟨_, by omega, i + 1, rfl, by omega, rfl, rd_keep2 rp, (by have := rd_keep2 (l := [⟨a.c, 0, 0, true, true⟩]) rb; rw [rd_new0] at this; exact this), by have := hO.keep [⟨a.c, 0, 0, true, true⟩]; rw [List.append_assoc] at this; exact this⟩
  have hno : a ∉ outG l band l 0 := by
    intro hm
    rw [List.any_eq_false] at hin
    exact hin a (by rw [hoo]; exact hm) ((eqT_iff a a).2 rfl)
  have hgone := out_gone ha hno
  obtain ⟨A1, p1, p2, p3⟩ := hV2.slc (a := none) (b := some (i : Int)) (lo := 0) (hi := i) rfl rfl (by omega) (by omega)
  obtain ⟨B1, q1, q2, q3⟩ := hV2.slc (a := some ((i + 1 : Nat) : Int)) (b := none) (lo := i + 1) (hi := l.length) rfl rfl (by omega) (by omega)
  simp only [List.drop_zero, Nat.sub_zero] at p2
  rw [List.take_of_length_le (by simp)] at q2
  have fA : FgL H A1 := fun id ep o hid ho => hf id ep o (p3 id hid) ho
  have fB : FgL H B1 := fun id ep o hid ho => hf id ep o (q3 id hid) ho
  rw [hin] at hcn
  have hcells1 := p2.cells
  have hcells2 := q2.cells
  have ht1 := p2.isTup
  have ht2 := q2.isTup
  have hcc := fun (x : Ob) fl' => ncall_some.2 (concat_T (H := H ++ (z ++ (x :: [⟨[A1, B1], 0, 1, true, fl'⟩]))) (j := H.length + (z.length + 1)) (rw' := true) (fl' := fl') (by simp [rdObj]) (p2.keep _) (fA.keep p2 _) (q2.keep _) (fB.keep q2 _) (by rw [List.length_take, List.length_drop]; omega))
  have hcl := fun (x : List Ob) (k : T) => cl3_pc (H := H ++ (z ++ (⟨a.c, 0, 0, true, true⟩ :: x))) (q := H.length + z.length) (a := a) (rw3 := true) (fl3 := true) (rd_keep2 rb) (rd_keep2 rp) (by simp [rdObj]) k
  simp only [T.c] at hld hcn
  refine W_seqI (wc_sound _ _ _ _ hn2 ?_)
  simp (config := {maxSteps := 8000000}) only [e0, e8, e10, e67, e68, e69, hil', SS, bne_self_eq_false, wr_def, obOf, List.all_cons, List.all_nil, List.map_cons, List.map_nil, List.length_cons, List.length_nil, List.take_zero, List.take_succ_cons, List.take_nil, List.drop_zero, List.drop_succ_cons, List.drop_nil, Nat.reduceAdd, Nat.reduceMul, Nat.reduceSub, if_true, Nat.reduceLT, Nat.reduceLeDiff, ite_true, ite_false, Nat.reduceEqDiff, if_false, reduceCtorEq, ne_eq, List.getD, List.getElem?_cons_zero, List.getElem?_cons_succ, Option.getD_some, Option.bind_some, Option.map_some, Option.isSome_some, reduceIte, List.length_append, List.append_assoc, List.cons_append, List.nil_append, Option.some.injEq, forall_const, implies_true, Int.reduceNeg, eq_self, Prod.mk.injEq, List.self_eq_append_right, List.append_nil, exists_eq_left, exists_eq_left', exists_and_left, exists_eq_right, exists_and_right]
  refine W_seqI (wc_sound _ _ _ _ hn2 ?_)
  simp (config := {maxSteps := 8000000}) only [e0, e8, e10, e67, e68, e69, hil', SS, bne_self_eq_false, wr_def, obOf, List.all_cons, List.all_nil, List.map_cons, List.map_nil, List.length_cons, List.length_nil, List.take_zero, List.take_succ_cons, List.take_nil, List.drop_zero, List.drop_succ_cons, List.drop_nil, Nat.reduceAdd, Nat.reduceMul, Nat.reduceSub, if_true, Nat.reduceLT, Nat.reduceLeDiff, ite_true, ite_false, Nat.reduceEqDiff, if_false, reduceCtorEq, ne_eq, List.getD, List.getElem?_cons_zero, List.getElem?_cons_succ, Option.getD_some, Option.bind_some, Option.map_some, Option.isSome_some, reduceIte, List.length_append, List.append_assoc, List.cons_append, List.nil_append, Option.some.injEq, forall_const, implies_true, Int.reduceNeg, eq_self, Prod.mk.injEq, List.self_eq_append_right, List.append_nil, exists_eq_left, exists_eq_left', exists_and_left, exists_eq_right, exists_and_right]
  refine W_seqI (W_blkI (W_seqI (wc_sound _ _ _ _ hn2 ?_)))
  simp (config := {maxSteps := 8000000}) only [e0, e8, e10, e67, e68, e69, hwi, hok2, isPtr_idx hok2, hld, hcn, hn2, SS, bne_self_eq_false, wr_def, obOf, List.all_cons, List.all_nil, List.map_cons, List.map_nil, List.length_cons, List.length_nil, List.take_zero, List.take_succ_cons, List.take_nil, List.drop_zero, List.drop_succ_cons, List.drop_nil, Nat.reduceAdd, Nat.reduceMul, Nat.reduceSub, if_true, Nat.reduceLT, Nat.reduceLeDiff, ite_true, ite_false, Nat.reduceEqDiff, if_false, reduceCtorEq, ne_eq, List.getD, List.getElem?_cons_zero, List.getElem?_cons_succ, Option.getD_some, Option.bind_some, Option.map_some, Option.isSome_some, reduceIte, List.length_append, List.append_assoc, List.cons_append, List.nil_append, Option.some.injEq, forall_const, implies_true, Int.reduceNeg, eq_self, Prod.mk.injEq, List.self_eq_append_right, List.append_nil, exists_eq_left, exists_eq_left', exists_and_left, exists_eq_right, exists_and_right]
  refine W_seqI (W_regI (RG_cut (K1 := fun f' h' => f' 0 = V ∧ f' 8 = O ∧ f' 10 = .ptr p 0 0 ∧ f' 67 = V ∧ f' 68 = .int .i64 l.length ∧ f' 69 = .int .i64 i ∧ f' 78 = .bool true ∧ f' 86 = .sl false (H.length + (z.length + 1)) 0 1 0 2 ∧ f' 88 = .fn 35 [.ptr p 0 0, .ptr (H.length + z.length) 0 0] ∧ ∃ fl', h' = H ++ (z ++ [⟨a.c, 0, 0, true, true⟩, ⟨[A1, B1], 0, 1, true, fl'⟩])) 14 (RG_of (by simp) ?_) ?_))
  · simp (config := {maxSteps := 8000000}) only [e0, e8, e10, e67, e68, e69, hwi, hcn, hn2, rg_mksg, kq_slc, vq_slc, p1, q1, hcells1, hcells2, ht1, ht2, T.c, SS, bne_self_eq_false, wr_def, obOf, List.all_cons, List.all_nil, List.map_cons, List.map_nil, List.length_cons, List.length_nil, List.take_zero, List.take_succ_cons, List.take_nil, List.drop_zero, List.drop_succ_cons, List.drop_nil, Nat.reduceAdd, Nat.reduceMul, Nat.reduceSub, if_true, Nat.reduceLT, Nat.reduceLeDiff, ite_true, ite_false, Nat.reduceEqDiff, if_false, reduceCtorEq, ne_eq, List.getD, List.getElem?_cons_zero, List.getElem?_cons_succ, Option.getD_some, Option.bind_some, Option.map_some, Option.isSome_some, reduceIte, List.length_append, List.append_assoc, List.cons_append, List.nil_append, Option.some.injEq, forall_const, implies_true, Int.reduceNeg, eq_self, Prod.mk.injEq, List.self_eq_append_right, List.append_nil, exists_eq_left, exists_eq_left', exists_and_left, exists_eq_right, exists_and_right]
    exact ⟨_, rfl⟩
  rintro f3 h3 hn3 ht3 ⟨e0, e8, e10, e67, e68, e69, e78, e86, e88, fl', rfl⟩
  simp (config := {maxSteps := 8000000}) only [SS, bne_self_eq_false, wr_def, obOf, List.all_cons, List.all_nil, List.map_cons, List.map_nil, List.length_cons, List.length_nil, List.take_zero, List.take_succ_cons, List.take_nil, List.drop_zero, List.drop_succ_cons, List.drop_nil, Nat.reduceAdd, Nat.reduceMul, Nat.reduceSub, if_true, Nat.reduceLT, Nat.reduceLeDiff, ite_true, ite_false, Nat.reduceEqDiff, if_false, reduceCtorEq, ne_eq, List.getD, List.getElem?_cons_zero, List.getElem?_cons_succ, Option.getD_some, Option.bind_some, Option.map_some, Option.isSome_some, reduceIte, List.length_append, List.append_assoc, List.cons_append, List.nil_append, Option.some.injEq, forall_const, implies_true, Int.reduceNeg, eq_self, Prod.mk.injEq, List.self_eq_append_right, List.append_nil, exists_eq_left, exists_eq_left', exists_and_left, exists_eq_right, exists_and_right]
  refine RG_guard_t (by rw [ev_t, e78]; rfl) (RG_of hn3 ?_)
  have hc1 := hcc ⟨a.c, 0, 0, true, true⟩ fl'
  have hL2 : (l.take i ++ l.drop (i + 1)).length ≤ 500 := by rw [List.length_append, List.length_take, List.length_drop]; omega
  generalize l.take i ++ l.drop (i + 1) = L2 at *
  simp only [List.length_append, List.length_cons, List.length_nil, Nat.zero_add, Nat.reduceAdd] at hc1
  have hS2 : SlL (H ++ (z ++ (⟨a.c, 0, 0, true, true⟩ :: ⟨[A1, B1], 0, 1, true, fl'⟩ :: outO 20 L2.length (flat T.c L2)))) (outV (H.length + (z.length + 2)) 20 L2.length) T.c 20 L2 := by
    have := out_rd (h := H ++ (z ++ [⟨a.c, 0, 0, true, true⟩, ⟨[A1, B1], 0, 1, true, fl'⟩])) (sz := 20) (k := L2.length) (cs := flat T.c L2) (flat_len (k := 20) (fun x => rfl) L2)
    simp only [List.length_append, List.length_cons, List.length_nil, List.append_assoc, List.cons_append, List.nil_append, Nat.zero_add, Nat.reduceAdd] at this
    exact ⟨fun _ => rfl, by decide, this⟩
  have hcf := ctf_T (V := outV (H.length + (z.length + 2)) 20 L2.length) (ks := L2) (g := 35) (caps := [.ptr p 0 0, .ptr (H.length + z.length) 0 0]) (p := twins band a) hS2 (by omega) (fun x k hk => by have := hcl (⟨[A1, B1], 0, 1, true, fl'⟩ :: (outO 20 L2.length (flat T.c L2) ++ x)) k; simpa using this)
  rw [hgone] at hcf
  generalize outV (H.length + (z.length + 2)) 20 L2.length = VV at *
  generalize outO 20 L2.length (flat T.c L2) = OO at *
  simp only [T.c] at hc1 hcf
  simp (config := {maxSteps := 8000000}) only [e0, e8, e10, e67, e68, e69, e78, e86, e88, T.c, rg_calln, ncallV_fn, hc1, hcf, hn3, SS, bne_self_eq_false, wr_def, obOf, List.all_cons, List.all_nil, List.map_cons, List.map_nil, List.length_cons, List.length_nil, List.take_zero, List.take_succ_cons, List.take_nil, List.drop_zero, List.drop_succ_cons, List.drop_nil, Nat.reduceAdd, Nat.reduceMul, Nat.reduceSub, if_true, Nat.reduceLT, Nat.reduceLeDiff, ite_true, ite_false, Nat.reduceEqDiff, if_false, reduceCtorEq, ne_eq, List.getD, List.getElem?_cons_zero, List.getElem?_cons_succ, Option.getD_some, Option.bind_some, Option.map_some, Option.isSome_some, reduceIte, List.length_append, List.append_assoc, List.cons_append, List.nil_append, Option.some.injEq, forall_const, implies_true, Int.reduceNeg, eq_self, Prod.mk.injEq, List.self_eq_append_right, List.append_nil, exists_eq_left, exists_eq_left', exists_and_left, exists_eq_right, exists_and_right]
  refine wc_sound _ _ _ _ (by simp) ?_
  simp (config := {maxSteps := 8000000}) only [e0, e8, e10, e67, e68, e69, e78, e86, e88, SS, bne_self_eq_false, wr_def, obOf, List.all_cons, List.all_nil, List.map_cons, List.map_nil, List.length_cons, List.length_nil, List.take_zero, List.take_succ_cons, List.take_nil, List.drop_zero, List.drop_succ_cons, List.drop_nil, Nat.reduceAdd, Nat.reduceMul, Nat.reduceSub, if_true, Nat.reduceLT, Nat.reduceLeDiff, ite_true, ite_false, Nat.reduceEqDiff, if_false, reduceCtorEq, ne_eq, List.getD, List.getElem?_cons_zero, List.getElem?_cons_succ, Option.getD_some, Option.bind_some, Option.map_some, Option.isSome_some, reduceIte, List.length_append, List.append_assoc, List.cons_append, List.nil_append, Option.some.injEq, forall_const, implies_true, Int.reduceNeg, eq_self, Prod.mk.injEq, List.self_eq_append_right, List.append_nil, exists_eq_left, exists_eq_left', exists_and_left, exists_eq_right, exists_and_right]
  refine wc_sound _ _ _ _ (by simp) ?_
  simp (config := {maxSteps := 8000000}) only [e0, e8, e10, e67, e68, e69, e78, e86, e88, hwi, SS, bne_self_eq_false, wr_def, obOf, List.all_cons, List.all_nil, List.map_cons, List.map_nil, List.length_cons, List.length_nil, List.take_zero, List.take_succ_cons, List.take_nil, List.drop_zero, List.drop_succ_cons, List.drop_nil, Nat.reduceAdd, Nat.reduceMul, Nat.reduceSub, if_true, Nat.reduceLT, Nat.reduceLeDiff, ite_true, ite_false, Nat.reduceEqDiff, if_false, reduceCtorEq, ne_eq, List.getD, List.getElem?_cons_zero, List.getElem?_cons_succ, Option.getD_some, Option.bind_some, Option.map_some, Option.isSome_some, reduceIte, List.length_append, List.append_assoc, List.cons_append, List.nil_append, Option.some.injEq, forall_const, implies_true, Int.reduceNeg, eq_self, Prod.mk.injEq, List.self_eq_append_right, List.append_nil, exists_eq_left, exists_eq_left', exists_and_left, exists_eq_right, exists_and_right]
  refine ⟨_, by omega, i + 1, rfl, by omega, rfl, rd_keep2 rp, ?_, ?_⟩
  · have := rd_keep2 (l := ⟨a.c, 0, 0, true, true⟩ :: ⟨[A1, B1], 0, 1, true, fl'⟩ :: OO) rb
    rw [rd_new0] at this; exact this
  · have := hO.keep (⟨a.c, 0, 0, true, true⟩ :: ⟨[A1, B1], 0, 1, true, fl'⟩ :: OO)
    rw [List.append_assoc] at this; exact this

theorem dv_T (d : DV) (h : goodD (.st [.st [.int .i64, .int .i64, .int .i64, .st [.int .i64, .int .i64], .st [.int .i64, .int .i64], .int .i64, .int .i64, .int .i64, .int .i64, .int .i64, .int .i64], .int .i64, .st [.int .i64, .st [.int .i64, .int .i64], .int .i64, .int .i64, .int .i64]]) d) : ∃ x : T, (fun _ => True) x ∧ ∀ n, layD n (.st [.st [.int .i64, .int .i64, .int .i64, .st [.int .i64, .int .i64], .st [.int .i64, .int .i64], .int .i64, .int .i64, .int .i64, .int .i64, .int .i64, .int .i64], .int .i64, .st [.int .i64, .st [.int .i64, .int .i64], .int .i64, .int .i64, .int .i64]]) d = (T.c x, []) := by
  obtain ⟨l1, rfl, q1⟩ := good_st h
  obtain ⟨d1_0, r1_0, rfl, h1_0, g1_0⟩ := goodL_cons q1
  obtain ⟨l2, rfl, q2⟩ := good_st h1_0
  obtain ⟨d2_0, r2_0, rfl, h2_0, g2_0⟩ := goodL_cons q2
  obtain ⟨n3, rfl, lo3, hi3⟩ := good_i64 h2_0
  obtain ⟨d2_1, r2_1, rfl, h2_1, g2_1⟩ := goodL_cons g2_0
  obtain ⟨n4, rfl, lo4, hi4⟩ := good_i64 h2_1
  obtain ⟨d2_2, r2_2, rfl, h2_2, g2_2⟩ := goodL_cons g2_1
  obtain ⟨n5, rfl, lo5, hi5⟩ := good_i64 h2_2
  obtain ⟨d2_3, r2_3, rfl, h2_3, g2_3⟩ := goodL_cons g2_2
  obtain ⟨l6, rfl, q6⟩ := good_st h2_3
  obtain ⟨d6_0, r6_0, rfl, h6_0, g6_0⟩ := goodL_cons q6
  obtain ⟨n7, rfl, lo7, hi7⟩ := good_i64 h6_0
  obtain ⟨d6_1, r6_1, rfl, h6_1, g6_1⟩ := goodL_cons g6_0
  obtain ⟨n8, rfl, lo8, hi8⟩ := good_i64 h6_1
  obtain rfl := goodL_nil g6_1
  obtain ⟨d2_4, r2_4, rfl, h2_4, g2_4⟩ := goodL_cons g2_3
  obtain ⟨l9, rfl, q9⟩ := good_st h2_4
  obtain ⟨d9_0, r9_0, rfl, h9_0, g9_0⟩ := goodL_cons q9
  obtain ⟨n10, rfl, lo10, hi10⟩ := good_i64 h9_0
  obtain ⟨d9_1, r9_1, rfl, h9_1, g9_1⟩ := goodL_cons g9_0
  obtain ⟨n11, rfl, lo11, hi11⟩ := good_i64 h9_1
  obtain rfl := goodL_nil g9_1
  obtain ⟨d2_5, r2_5, rfl, h2_5, g2_5⟩ := goodL_cons g2_4
  obtain ⟨n12, rfl, lo12, hi12⟩ := good_i64 h2_5
  obtain ⟨d2_6, r2_6, rfl, h2_6, g2_6⟩ := goodL_cons g2_5
  obtain ⟨n13, rfl, lo13, hi13⟩ := good_i64 h2_6
  obtain ⟨d2_7, r2_7, rfl, h2_7, g2_7⟩ := goodL_cons g2_6
  obtain ⟨n14, rfl, lo14, hi14⟩ := good_i64 h2_7
  obtain ⟨d2_8, r2_8, rfl, h2_8, g2_8⟩ := goodL_cons g2_7
  obtain ⟨n15, rfl, lo15, hi15⟩ := good_i64 h2_8
  obtain ⟨d2_9, r2_9, rfl, h2_9, g2_9⟩ := goodL_cons g2_8
  obtain ⟨n16, rfl, lo16, hi16⟩ := good_i64 h2_9
  obtain ⟨d2_10, r2_10, rfl, h2_10, g2_10⟩ := goodL_cons g2_9
  obtain ⟨n17, rfl, lo17, hi17⟩ := good_i64 h2_10
  obtain rfl := goodL_nil g2_10
  obtain ⟨d1_1, r1_1, rfl, h1_1, g1_1⟩ := goodL_cons g1_0
  obtain ⟨n18, rfl, lo18, hi18⟩ := good_i64 h1_1
  obtain ⟨d1_2, r1_2, rfl, h1_2, g1_2⟩ := goodL_cons g1_1
  obtain ⟨l19, rfl, q19⟩ := good_st h1_2
  obtain ⟨d19_0, r19_0, rfl, h19_0, g19_0⟩ := goodL_cons q19
  obtain ⟨n20, rfl, lo20, hi20⟩ := good_i64 h19_0
  obtain ⟨d19_1, r19_1, rfl, h19_1, g19_1⟩ := goodL_cons g19_0
  obtain ⟨l21, rfl, q21⟩ := good_st h19_1
  obtain ⟨d21_0, r21_0, rfl, h21_0, g21_0⟩ := goodL_cons q21
  obtain ⟨n22, rfl, lo22, hi22⟩ := good_i64 h21_0
  obtain ⟨d21_1, r21_1, rfl, h21_1, g21_1⟩ := goodL_cons g21_0
  obtain ⟨n23, rfl, lo23, hi23⟩ := good_i64 h21_1
  obtain rfl := goodL_nil g21_1
  obtain ⟨d19_2, r19_2, rfl, h19_2, g19_2⟩ := goodL_cons g19_1
  obtain ⟨n24, rfl, lo24, hi24⟩ := good_i64 h19_2
  obtain ⟨d19_3, r19_3, rfl, h19_3, g19_3⟩ := goodL_cons g19_2
  obtain ⟨n25, rfl, lo25, hi25⟩ := good_i64 h19_3
  obtain ⟨d19_4, r19_4, rfl, h19_4, g19_4⟩ := goodL_cons g19_3
  obtain ⟨n26, rfl, lo26, hi26⟩ := good_i64 h19_4
  obtain rfl := goodL_nil g19_4
  obtain rfl := goodL_nil g1_2
  exact ⟨⟨n3, n4, n5, n7, n8, n10, n11, n12, n13, n14, n15, n16, n17, n18, n20, n22, n23, n24, n25, n26⟩, trivial, fun n => rfl⟩

theorem proved : Pure := by
  intro xs hg
  obtain ⟨e0, s0, rfl, u0, v0⟩ := goodL_cons hg
  obtain ⟨x0, p0, b0, k0⟩ := in_slf (c := T.c) (P := (fun _ => True)) dv_T (fun x => rfl) (by decide) u0
  obtain ⟨w0, o0, e0', r0⟩ := k0 (0)
  obtain ⟨e1, s1, rfl, u1, v1⟩ := goodL_cons v0
  obtain ⟨n27, rfl, lo27, hi27⟩ := good_i64 u1
  obtain rfl := goodL_nil v1
  have := law x0 w0 n27 (o0) (by have := r0 ([] : List Ob) [] (by simp); simp only [List.append_nil, List.nil_append, List.append_assoc] at this; exact this)
  simpa only [layA, layD, layL, argA, shapes, e0', List.nil_append, List.cons_append, List.append_nil, List.append_assoc, List.length_nil, List.length_append, Nat.add_zero, Nat.zero_add, List.headD_cons] using this

end Go.Proofs.Ytpehhlfbnkakpaa.MyFuseTracks
