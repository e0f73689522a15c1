/- What ToFixed answers, whatever comes in; and that it gives back what FromFixed has made of a small number. Conditions stand in each lemma. -/
import Derived.Test.YtaekgifbehoipaaBtC
import Derived.Test.YtaekgifbehoipaaLnA
import Derived.Test.YtaekgifbehoipaaWrD
namespace Go.Proofs.Ytaekgifbehoipaa.Wr
open Go Go.Proofs.Ytaekgifbehoipaa.Eva Go.Proofs.Ytaekgifbehoipaa.CodeAll
set_option linter.unusedVariables false
set_option linter.unusedSimpArgs false
set_option maxRecDepth 10000
set_option maxHeartbeats 4000000

theorem mask_nat (a k : Nat) : a &&& (2 ^ k - 1) = a % 2 ^ k := Nat.and_two_pow_sub_one_eq_mod a k
theorem shrU (b k : Nat) (hk : k ≤ 64) {kk : IntKind} : abin .shr (.int .u64 (b : Int)) (.int kk (k : Int)) = some (.int .u64 ((b / 2 ^ k : Nat) : Int)) := shrk (kk := kk) b k _ rfl hk
theorem fin_pc {b : Nat} (hb : b < M64) (H : List Ob) : pcall E 116 [.int .u64 (b : Int)] H = some (.bool (((b / 4503599627370496 % 2048 : Nat) : Int) != 2047)) := by
  refine pcall_some.2 (call_plain e116 rfl (Nat.le_of_ble_eq_true rfl) rfl ?_)
  have h1 : abin .shr (.int .u64 (b : Int)) (.int .u64 52) = some (.int .u64 ((b / 4503599627370496 : Nat) : Int)) := shrU (kk := .u64) b 52 (by decide)
  have h2 : abin .and (.int .u64 ((b / 4503599627370496 : Nat) : Int)) (.int .u64 2047) = some (.int .u64 ((b / 4503599627370496 % 2048 : Nat) : Int)) := by
    have := abin_and_u (b / 4503599627370496) 2047 (Nat.lt_of_le_of_lt (Nat.div_le_self _ _) hb) (by decide)
    rw [show (2047 : Nat) = 2 ^ 11 - 1 from rfl, mask_nat] at this
    exact this
  simp (config := {maxSteps := 4000000}) only [c116, h1, h2, SS, bne_self_eq_false, wr_def, obOf, List.all_cons, List.all_nil, List.map_cons, List.map_nil, List.length_cons, List.length_nil, List.take_zero, List.take_succ_cons, List.take_nil, List.drop_zero, List.drop_succ_cons, List.drop_nil, Nat.reduceAdd, Nat.reduceMul, Nat.reduceSub, if_true, Nat.reduceLT, Nat.reduceLeDiff, ite_true, ite_false, Nat.reduceEqDiff, if_false, reduceCtorEq, ne_eq, List.getD, List.getElem?_cons_zero, List.getElem?_cons_succ, Option.getD_some, Option.bind_some, Option.map_some, Option.isSome_some, reduceIte, List.length_append, List.append_assoc, List.cons_append, List.nil_append, Option.some.injEq, forall_const, implies_true, Int.reduceNeg, eq_self, Prod.mk.injEq, List.self_eq_append_right, List.append_nil, exists_eq_left, exists_eq_left', exists_and_left, exists_eq_right, exists_and_right]
theorem parts_pc {b : Nat} (hb : b < M64) : ∃ m : Nat, m < 9007199254740992 ∧ (b < 9223372036854775808 → 0 < b / 4503599627370496 % 2048 → m = b % 4503599627370496 + 4503599627370496) ∧ (b = 0 → m = 0) ∧
    ∀ H, pcall E 117 [.int .u64 (b : Int)] H = some (.tup [.bool (((b / 9223372036854775808 : Nat) : Int) == 1), .int .i64 ((if 0 < b / 4503599627370496 % 2048 then ((b / 4503599627370496 % 2048 : Nat) : Int) else 1) - 1075), .int .u64 (m : Int)]) := by
  have h1 : abin .shr (.int .u64 (b : Int)) (.int .u64 63) = some (.int .u64 ((b / 9223372036854775808 : Nat) : Int)) := shrU (kk := .u64) b 63 (by decide)
  have h2 : abin .shr (.int .u64 (b : Int)) (.int .u64 52) = some (.int .u64 ((b / 4503599627370496 : Nat) : Int)) := shrU (kk := .u64) b 52 (by decide)
  have h3 : abin .and (.int .u64 ((b / 4503599627370496 : Nat) : Int)) (.int .u64 2047) = some (.int .u64 ((b / 4503599627370496 % 2048 : Nat) : Int)) := by
    have := abin_and_u (b / 4503599627370496) 2047 (Nat.lt_of_le_of_lt (Nat.div_le_self _ _) hb) (by decide)
    rw [show (2047 : Nat) = 2 ^ 11 - 1 from rfl, mask_nat] at this
    exact this
  have h4 : abin .and (.int .u64 (b : Int)) (.int .u64 4503599627370495) = some (.int .u64 ((b % 4503599627370496 : Nat) : Int)) := by
    have := abin_and_u b 4503599627370495 hb (by decide)
    rw [show (4503599627370495 : Nat) = 2 ^ 52 - 1 from rfl, mask_nat] at this
    exact this
  have hE : b / 4503599627370496 % 2048 < 2048 := Nat.mod_lt _ (by decide)
  have hF : b % 4503599627370496 < 4503599627370496 := Nat.mod_lt _ (by decide)
  have hz : b = 0 → b / 4503599627370496 % 2048 = 0 ∧ b % 4503599627370496 = 0 := fun h => by subst h; exact ⟨rfl, rfl⟩
  have hb1 : b / 9223372036854775808 < 2 := by unfold M64 at hb; omega
  generalize b / 4503599627370496 % 2048 = e at *
  generalize b % 4503599627370496 = F at *
  generalize b / 4503599627370496 = G at *
  generalize b / 9223372036854775808 = N at *
  have h5 : cviA .i64 (.int .u64 (e : Int)) = some (.int .i64 (e : Int)) := by rw [cviA_i, wrap64 (by omega) (by omega)]
  by_cases he : 0 < e
  · have d1 : decide ((0 : Int) < (e : Int)) = true := decide_eq_true (by omega)
    have h6 : abin .or (.int .u64 (F : Int)) (.int .u64 4503599627370496) = some (.int .u64 ((F + 4503599627370496 : Nat) : Int)) := by
      have := abin_or_u F 4503599627370496 (by unfold M64; omega) (by decide)
      have h9 : F ||| 4503599627370496 = F + 4503599627370496 := by
        have := Nat.shiftLeft_add_eq_or_of_lt (i := 52) (b := F) hF 1
        rw [Nat.shiftLeft_eq, Nat.or_comm, show (1 * 2 ^ 52 : Nat) = 4503599627370496 from rfl] at this
        omega
      rw [h9] at this; exact this
    have w1 : IntKind.i64.wrap ((e : Int) - 1023) = (e : Int) - 1023 := wrap64 (by omega) (by omega)
    have w2 : IntKind.i64.wrap ((e : Int) - 1023 - 52) = (e : Int) - 1075 := by rw [wrap64 (by omega) (by omega)]; omega
    refine ⟨F + 4503599627370496, by omega, fun _ _ => rfl, fun h => by have := hz h; omega, fun H => pcall_some.2 (call_plain e117 rfl (Nat.le_of_ble_eq_true rfl) rfl ?_)⟩
    simp (config := {maxSteps := 4000000}) only [c117, h1, h2, h3, h4, h5, d1, h6, w1, w2, if_pos he, SS, bne_self_eq_false, wr_def, obOf, List.all_cons, List.all_nil, List.map_cons, List.map_nil, List.length_cons, List.length_nil, List.take_zero, List.take_succ_cons, List.take_nil, List.drop_zero, List.drop_succ_cons, List.drop_nil, Nat.reduceAdd, Nat.reduceMul, Nat.reduceSub, if_true, Nat.reduceLT, Nat.reduceLeDiff, ite_true, ite_false, Nat.reduceEqDiff, if_false, reduceCtorEq, ne_eq, List.getD, List.getElem?_cons_zero, List.getElem?_cons_succ, Option.getD_some, Option.bind_some, Option.map_some, Option.isSome_some, reduceIte, List.length_append, List.append_assoc, List.cons_append, List.nil_append, Option.some.injEq, forall_const, implies_true, Int.reduceNeg, eq_self, Prod.mk.injEq, List.self_eq_append_right, List.append_nil, exists_eq_left, exists_eq_left', exists_and_left, exists_eq_right, exists_and_right]
  · have d1 : decide ((0 : Int) < (e : Int)) = false := decide_eq_false (by omega)
    refine ⟨F, by omega, fun _ h => absurd h he, fun h => (hz h).2, fun H => pcall_some.2 (call_plain e117 rfl (Nat.le_of_ble_eq_true rfl) rfl ?_)⟩
    have w1 : IntKind.i64.wrap ((1 : Int) - 1023) = -1022 := by rw [wrap64 (by omega) (by omega)]; rfl
    have w2 : IntKind.i64.wrap ((-1022 : Int) - 52) = 1 - 1075 := by rw [wrap64 (by omega) (by omega)]; rfl
    simp (config := {maxSteps := 4000000}) only [c117, h1, h2, h3, h4, h5, d1, w1, w2, if_neg he, SS, bne_self_eq_false, wr_def, obOf, List.all_cons, List.all_nil, List.map_cons, List.map_nil, List.length_cons, List.length_nil, List.take_zero, List.take_succ_cons, List.take_nil, List.drop_zero, List.drop_succ_cons, List.drop_nil, Nat.reduceAdd, Nat.reduceMul, Nat.reduceSub, if_true, Nat.reduceLT, Nat.reduceLeDiff, ite_true, ite_false, Nat.reduceEqDiff, if_false, reduceCtorEq, ne_eq, List.getD, List.getElem?_cons_zero, List.getElem?_cons_succ, Option.getD_some, Option.bind_some, Option.map_some, Option.isSome_some, reduceIte, List.length_append, List.append_assoc, List.cons_append, List.nil_append, Option.some.injEq, forall_const, implies_true, Int.reduceNeg, eq_self, Prod.mk.injEq, List.self_eq_append_right, List.append_nil, exists_eq_left, exists_eq_left', exists_and_left, exists_eq_right, exists_and_right]


theorem call_plainW {E : Nat → Option CF} {g : Nat} {cf : CF} (hE : E g = some cf) {args : List AV} (hn : args.length = cf.np) (hnt : args.length ≤ cf.nt) {h : List Ob} {v : AV} (hp : plainV v = true)
    (hw : W E h.length cf.nt cf.code (fun e f h => exOk e = true ∧ (rvq cf.nt f h cf.res).map mkRes = some v) (ofL args) h) : ecall E g args h = some (v, h, h.length, h.length) := by
  obtain ⟨e, f', h', k1, k2, k3, k4, k5⟩ := hw
  obtain ⟨vs, hv, rfl⟩ := Option.map_eq_some_iff.1 k5
  rw [ec_call hE hn hnt, k1]
  simp only [retE, Option.bind_some, k4, if_true, rvq_eq, hv, Option.map_some]
  unfold fin
  simp only [Nat.lt_irrefl, if_false, refs_plain _ hp, dd, pickObjs, ren_plain _ _ hp, List.append_nil, k3, List.take_length]
/-- What is done with the sign at the end. -/
def tl (neg : Bool) (m : Nat) (rs : Bool) : Int × Bool × Int :=
  if neg then
    (if 9223372036854775808 < (if rs then (m + 1) % M64 else m) then (0, false, 2) else (IntKind.i64.wrap (IntKind.u64.wrap (0 - (((if rs then (m + 1) % M64 else m) : Nat) : Int))), !rs, 0))
  else if 9223372036854775808 ≤ m then (0, false, 2) else (IntKind.i64.wrap (m : Int), !rs, 0)
def rng (r : Int) : Prop := -9223372036854775808 ≤ r ∧ r < 9223372036854775808
theorem wrap_rng (x : Int) : rng (IntKind.i64.wrap x) := by
  unfold rng
  simp only [IntKind.wrap, IntKind.signed, IntKind.bits, Bool.true_and]
  have h1 : 0 ≤ x % (2 ^ 64 : Int) := Int.emod_nonneg _ (by decide)
  have h2 : x % (2 ^ 64 : Int) < 2 ^ 64 := Int.emod_lt_of_pos _ (by decide)
  split <;> rename_i hc <;> simp only [decide_eq_true_eq, ge_iff_le] at hc <;> omega
theorem tl_rng (neg : Bool) (m : Nat) (rs : Bool) : rng (tl neg m rs).1 := by
  have r0 : rng 0 := ⟨by decide, by decide⟩
  cases neg
  · show rng (if 9223372036854775808 ≤ m then ((0, false, 2) : Int × Bool × Int) else (IntKind.i64.wrap (m : Int), !rs, 0)).1
    split
    · exact r0
    · exact wrap_rng _
  · show rng (if 9223372036854775808 < (if rs then (m + 1) % M64 else m) then ((0, false, 2) : Int × Bool × Int) else (IntKind.i64.wrap (IntKind.u64.wrap (0 - (((if rs then (m + 1) % M64 else m) : Nat) : Int))), !rs, 0)).1
    generalize (if rs then (m + 1) % M64 else m) = x
    split
    · exact r0
    · exact wrap_rng _
theorem tofix_ex {b : Nat} (hb : b < M64) : ∃ r x e, rng r ∧ ∀ H, pcall E 97 [.int .u64 (b : Int), .int .i64 0] H = some (.tup [.int .i64 r, .bool x, .int .i64 e]) := by
  have key : ∃ v, (∃ r x e, rng r ∧ v = .tup [.int .i64 r, .bool x, .int .i64 e]) ∧ ∀ H, ecall E 97 [.int .u64 (b : Int), .int .i64 0] H = some (v, H, H.length, H.length) := by
    have r0 : rng 0 := ⟨by decide, by decide⟩
    have d0 : decide ((0 : Int) < 0) = false := rfl
    have d1 : decide ((60 : Int) < 0) = false := rfl
    have hfi := fun H => fin_pc hb H
    by_cases c1 : (((b / 4503599627370496 % 2048 : Nat) : Int) != 2047) = false
    · rw [c1] at hfi
      refine ⟨_, ⟨0, false, 3, r0, rfl⟩, fun H => call_plain e97 rfl (Nat.le_of_ble_eq_true rfl) rfl ?_⟩
      simp (config := {maxSteps := 4000000}) only [c97, d0, d1, hfi, SS, bne_self_eq_false, wr_def, obOf, List.all_cons, List.all_nil, List.map_cons, List.map_nil, List.length_cons, List.length_nil, List.take_zero, List.take_succ_cons, List.take_nil, List.drop_zero, List.drop_succ_cons, List.drop_nil, Nat.reduceAdd, Nat.reduceMul, Nat.reduceSub, if_true, Nat.reduceLT, Nat.reduceLeDiff, ite_true, ite_false, Nat.reduceEqDiff, if_false, reduceCtorEq, ne_eq, List.getD, List.getElem?_cons_zero, List.getElem?_cons_succ, Option.getD_some, Option.bind_some, Option.map_some, Option.isSome_some, reduceIte, List.length_append, List.append_assoc, List.cons_append, List.nil_append, Option.some.injEq, forall_const, implies_true, Int.reduceNeg, eq_self, Prod.mk.injEq, List.self_eq_append_right, List.append_nil, exists_eq_left, exists_eq_left', exists_and_left, exists_eq_right, exists_and_right]
    rw [Bool.not_eq_false] at c1
    rw [c1] at hfi
    obtain ⟨m, hm, -, -, hpa⟩ := parts_pc hb
    have hE : b / 4503599627370496 % 2048 < 2048 := Nat.mod_lt _ (by decide)
    obtain ⟨ee, hee⟩ : ∃ ee : Int, (if 0 < b / 4503599627370496 % 2048 then ((b / 4503599627370496 % 2048 : Nat) : Int) else 1) - 1075 = ee := ⟨_, rfl⟩
    rw [hee] at hpa
    have he1 : -1074 ≤ ee ∧ ee ≤ 1000 := by rw [← hee]; split <;> omega
    generalize (((b / 9223372036854775808 : Nat) : Int) == 1) = neg at hpa
    clear hee hE c1
    have we : IntKind.i64.wrap (ee + 0) = ee := by rw [wrap64 (by omega) (by omega)]; omega
    by_cases cA : m = 0
    · have bA : ((m : Int) == 0) = true := by rw [cA]; rfl
      refine ⟨_, ⟨0, true, 0, r0, rfl⟩, fun H => call_plain e97 rfl (Nat.le_of_ble_eq_true rfl) rfl ?_⟩
      simp (config := {maxSteps := 4000000}) only [c97, d0, d1, hfi, hpa, we, bA, SS, bne_self_eq_false, wr_def, obOf, List.all_cons, List.all_nil, List.map_cons, List.map_nil, List.length_cons, List.length_nil, List.take_zero, List.take_succ_cons, List.take_nil, List.drop_zero, List.drop_succ_cons, List.drop_nil, Nat.reduceAdd, Nat.reduceMul, Nat.reduceSub, if_true, Nat.reduceLT, Nat.reduceLeDiff, ite_true, ite_false, Nat.reduceEqDiff, if_false, reduceCtorEq, ne_eq, List.getD, List.getElem?_cons_zero, List.getElem?_cons_succ, Option.getD_some, Option.bind_some, Option.map_some, Option.isSome_some, reduceIte, List.length_append, List.append_assoc, List.cons_append, List.nil_append, Option.some.injEq, forall_const, implies_true, Int.reduceNeg, eq_self, Prod.mk.injEq, List.self_eq_append_right, List.append_nil, exists_eq_left, exists_eq_left', exists_and_left, exists_eq_right, exists_and_right]
    have bA : ((m : Int) == 0) = false := by rw [beq_eq_false_iff_ne]; omega
    have hlen := fun H => Fl.len64_pc (x := m) (by unfold M64; omega) H
    have hl2 : Fl.len2 m ≤ 53 := Fl.len2_le (k := 53) (by omega)
    have wl : IntKind.i64.wrap ((Fl.len2 m : Int) + ee) = (Fl.len2 m : Int) + ee := wrap64 (by omega) (by omega)
    by_cases cB : 0 < ee ∧ 64 < (Fl.len2 m : Int) + ee
    · have b1 : decide (0 < ee) = true := decide_eq_true cB.1
      have b2 : decide (64 < (Fl.len2 m : Int) + ee) = true := decide_eq_true cB.2
      refine ⟨_, ⟨0, false, 2, r0, rfl⟩, fun H => call_plain e97 rfl (Nat.le_of_ble_eq_true rfl) rfl ?_⟩
      simp (config := {maxSteps := 4000000}) only [c97, d0, d1, hfi, hpa, we, bA, b1, hlen, wl, b2, SS, bne_self_eq_false, wr_def, obOf, List.all_cons, List.all_nil, List.map_cons, List.map_nil, List.length_cons, List.length_nil, List.take_zero, List.take_succ_cons, List.take_nil, List.drop_zero, List.drop_succ_cons, List.drop_nil, Nat.reduceAdd, Nat.reduceMul, Nat.reduceSub, if_true, Nat.reduceLT, Nat.reduceLeDiff, ite_true, ite_false, Nat.reduceEqDiff, if_false, reduceCtorEq, ne_eq, List.getD, List.getElem?_cons_zero, List.getElem?_cons_succ, Option.getD_some, Option.bind_some, Option.map_some, Option.isSome_some, reduceIte, List.length_append, List.append_assoc, List.cons_append, List.nil_append, Option.some.injEq, forall_const, implies_true, Int.reduceNeg, eq_self, Prod.mk.injEq, List.self_eq_append_right, List.append_nil, exists_eq_left, exists_eq_left', exists_and_left, exists_eq_right, exists_and_right]
    obtain ⟨m', rs, hm', hcase⟩ : ∃ (m' : Nat) (rs : Bool), m' < M64 ∧ ((∃ s : Nat, ee = (s : Int) ∧ 0 < s ∧ ¬ 64 < (Fl.len2 m : Int) + ee ∧ m' = m * 2 ^ (min s 64) % M64 ∧ rs = false) ∨ (ee < -63 ∧ m' = 0 ∧ rs = true) ∨ (∃ s : Nat, s ≤ 63 ∧ ee = -(s : Int) ∧ m' = m / 2 ^ s ∧ rs = (((m &&& (2 ^ s - 1) : Nat) : Int) != 0))) := by
      by_cases h1 : 0 < ee
      · exact ⟨_, _, Nat.mod_lt _ (by unfold M64; decide), Or.inl ⟨ee.toNat, by omega, by omega, fun h => cB ⟨h1, h⟩, rfl, rfl⟩⟩
      · by_cases h2 : ee < -63
        · exact ⟨0, true, by unfold M64; decide, Or.inr (Or.inl ⟨h2, rfl, rfl⟩)⟩
        · exact ⟨_, _, Nat.lt_of_le_of_lt (Nat.div_le_self _ _) (by unfold M64; omega), Or.inr (Or.inr ⟨(-ee).toNat, by omega, by omega, rfl, rfl⟩)⟩
    refine ⟨.tup [.int .i64 (tl neg m' rs).1, .bool (tl neg m' rs).2.1, .int .i64 (tl neg m' rs).2.2], ⟨_, _, _, ?_, rfl⟩, fun H => ?_⟩
    · exact tl_rng _ _ _
    refine call_plainW e97 rfl (Nat.le_of_ble_eq_true rfl) rfl ?_
    have hn : H.length ≤ H.length := Nat.le_refl _
    refine W_seqI (wc_sound _ _ _ _ hn ?_)
    simp (config := {maxSteps := 4000000}) only [c97, SS, bne_self_eq_false, wr_def, obOf, List.all_cons, List.all_nil, List.map_cons, List.map_nil, List.length_cons, List.length_nil, List.take_zero, List.take_succ_cons, List.take_nil, List.drop_zero, List.drop_succ_cons, List.drop_nil, Nat.reduceAdd, Nat.reduceMul, Nat.reduceSub, if_true, Nat.reduceLT, Nat.reduceLeDiff, ite_true, ite_false, Nat.reduceEqDiff, if_false, reduceCtorEq, ne_eq, List.getD, List.getElem?_cons_zero, List.getElem?_cons_succ, Option.getD_some, Option.bind_some, Option.map_some, Option.isSome_some, reduceIte, List.length_append, List.append_assoc, List.cons_append, List.nil_append, Option.some.injEq, forall_const, implies_true, Int.reduceNeg, eq_self, Prod.mk.injEq, List.self_eq_append_right, List.append_nil, exists_eq_left, exists_eq_left', exists_and_left, exists_eq_right, exists_and_right]
    refine W_seqI (wc_sound _ _ _ _ hn ?_)
    simp (config := {maxSteps := 4000000}) only [c97, d0, d1, hfi, SS, bne_self_eq_false, wr_def, obOf, List.all_cons, List.all_nil, List.map_cons, List.map_nil, List.length_cons, List.length_nil, List.take_zero, List.take_succ_cons, List.take_nil, List.drop_zero, List.drop_succ_cons, List.drop_nil, Nat.reduceAdd, Nat.reduceMul, Nat.reduceSub, if_true, Nat.reduceLT, Nat.reduceLeDiff, ite_true, ite_false, Nat.reduceEqDiff, if_false, reduceCtorEq, ne_eq, List.getD, List.getElem?_cons_zero, List.getElem?_cons_succ, Option.getD_some, Option.bind_some, Option.map_some, Option.isSome_some, reduceIte, List.length_append, List.append_assoc, List.cons_append, List.nil_append, Option.some.injEq, forall_const, implies_true, Int.reduceNeg, eq_self, Prod.mk.injEq, List.self_eq_append_right, List.append_nil, exists_eq_left, exists_eq_left', exists_and_left, exists_eq_right, exists_and_right]
    refine W_seqI (wc_sound _ _ _ _ hn ?_)
    simp (config := {maxSteps := 4000000}) only [c97, hpa, SS, bne_self_eq_false, wr_def, obOf, List.all_cons, List.all_nil, List.map_cons, List.map_nil, List.length_cons, List.length_nil, List.take_zero, List.take_succ_cons, List.take_nil, List.drop_zero, List.drop_succ_cons, List.drop_nil, Nat.reduceAdd, Nat.reduceMul, Nat.reduceSub, if_true, Nat.reduceLT, Nat.reduceLeDiff, ite_true, ite_false, Nat.reduceEqDiff, if_false, reduceCtorEq, ne_eq, List.getD, List.getElem?_cons_zero, List.getElem?_cons_succ, Option.getD_some, Option.bind_some, Option.map_some, Option.isSome_some, reduceIte, List.length_append, List.append_assoc, List.cons_append, List.nil_append, Option.some.injEq, forall_const, implies_true, Int.reduceNeg, eq_self, Prod.mk.injEq, List.self_eq_append_right, List.append_nil, exists_eq_left, exists_eq_left', exists_and_left, exists_eq_right, exists_and_right]
    refine W_seqI (wc_sound _ _ _ _ hn ?_)
    simp (config := {maxSteps := 4000000}) only [c97, we, SS, bne_self_eq_false, wr_def, obOf, List.all_cons, List.all_nil, List.map_cons, List.map_nil, List.length_cons, List.length_nil, List.take_zero, List.take_succ_cons, List.take_nil, List.drop_zero, List.drop_succ_cons, List.drop_nil, Nat.reduceAdd, Nat.reduceMul, Nat.reduceSub, if_true, Nat.reduceLT, Nat.reduceLeDiff, ite_true, ite_false, Nat.reduceEqDiff, if_false, reduceCtorEq, ne_eq, List.getD, List.getElem?_cons_zero, List.getElem?_cons_succ, Option.getD_some, Option.bind_some, Option.map_some, Option.isSome_some, reduceIte, List.length_append, List.append_assoc, List.cons_append, List.nil_append, Option.some.injEq, forall_const, implies_true, Int.reduceNeg, eq_self, Prod.mk.injEq, List.self_eq_append_right, List.append_nil, exists_eq_left, exists_eq_left', exists_and_left, exists_eq_right, exists_and_right]
    refine W_seqI (wc_sound _ _ _ _ hn ?_)
    simp (config := {maxSteps := 4000000}) only [c97, SS, bne_self_eq_false, wr_def, obOf, List.all_cons, List.all_nil, List.map_cons, List.map_nil, List.length_cons, List.length_nil, List.take_zero, List.take_succ_cons, List.take_nil, List.drop_zero, List.drop_succ_cons, List.drop_nil, Nat.reduceAdd, Nat.reduceMul, Nat.reduceSub, if_true, Nat.reduceLT, Nat.reduceLeDiff, ite_true, ite_false, Nat.reduceEqDiff, if_false, reduceCtorEq, ne_eq, List.getD, List.getElem?_cons_zero, List.getElem?_cons_succ, Option.getD_some, Option.bind_some, Option.map_some, Option.isSome_some, reduceIte, List.length_append, List.append_assoc, List.cons_append, List.nil_append, Option.some.injEq, forall_const, implies_true, Int.reduceNeg, eq_self, Prod.mk.injEq, List.self_eq_append_right, List.append_nil, exists_eq_left, exists_eq_left', exists_and_left, exists_eq_right, exists_and_right]
    refine W_seqI (W.mono (Q := fun e f1 h1 => e = .nrm ∧ h1 = H ∧ f1 7 = .bool neg ∧ f1 9 = .int .u64 (m' : Int) ∧ f1 10 = .bool rs) ?_ ?_)
    · refine wc_sound _ _ _ _ hn ?_
      rcases hcase with ⟨s, q1, q2, q3, q4, rfl⟩ | ⟨q1, rfl, rfl⟩ | ⟨s, q0, q1, rfl, rfl⟩
      · have b1 : decide (0 < ee) = true := decide_eq_true (by omega)
        have b2 : decide (64 < (Fl.len2 m : Int) + ee) = false := decide_eq_false q3
        have hsh : abin .shl (.int .u64 (m : Int)) (.int .i64 ee) = some (.int .u64 (m' : Int)) := by rw [q1, abin_shl_u, q4]
        simp (config := {maxSteps := 4000000}) only [c97, bA, b1, hlen, wl, b2, hsh, SS, bne_self_eq_false, wr_def, obOf, List.all_cons, List.all_nil, List.map_cons, List.map_nil, List.length_cons, List.length_nil, List.take_zero, List.take_succ_cons, List.take_nil, List.drop_zero, List.drop_succ_cons, List.drop_nil, Nat.reduceAdd, Nat.reduceMul, Nat.reduceSub, if_true, Nat.reduceLT, Nat.reduceLeDiff, ite_true, ite_false, Nat.reduceEqDiff, if_false, reduceCtorEq, ne_eq, List.getD, List.getElem?_cons_zero, List.getElem?_cons_succ, Option.getD_some, Option.bind_some, Option.map_some, Option.isSome_some, reduceIte, List.length_append, List.append_assoc, List.cons_append, List.nil_append, Option.some.injEq, forall_const, implies_true, Int.reduceNeg, eq_self, Prod.mk.injEq, List.self_eq_append_right, List.append_nil, exists_eq_left, exists_eq_left', exists_and_left, exists_eq_right, exists_and_right]
      · have b1 : decide (0 < ee) = false := decide_eq_false (by omega)
        have b2 : decide (ee < -63) = true := decide_eq_true q1
        simp (config := {maxSteps := 4000000}) only [c97, bA, b1, b2, SS, bne_self_eq_false, wr_def, obOf, List.all_cons, List.all_nil, List.map_cons, List.map_nil, List.length_cons, List.length_nil, List.take_zero, List.take_succ_cons, List.take_nil, List.drop_zero, List.drop_succ_cons, List.drop_nil, Nat.reduceAdd, Nat.reduceMul, Nat.reduceSub, if_true, Nat.reduceLT, Nat.reduceLeDiff, ite_true, ite_false, Nat.reduceEqDiff, if_false, reduceCtorEq, ne_eq, List.getD, List.getElem?_cons_zero, List.getElem?_cons_succ, Option.getD_some, Option.bind_some, Option.map_some, Option.isSome_some, reduceIte, List.length_append, List.append_assoc, List.cons_append, List.nil_append, Option.some.injEq, forall_const, implies_true, Int.reduceNeg, eq_self, Prod.mk.injEq, List.self_eq_append_right, List.append_nil, exists_eq_left, exists_eq_left', exists_and_left, exists_eq_right, exists_and_right]
        rfl
      · have b1 : decide (0 < ee) = false := decide_eq_false (by omega)
        have b2 : decide (ee < -63) = false := decide_eq_false (by omega)
        have wn : IntKind.i64.wrap (0 - ee) = (s : Int) := by rw [wrap64 (by omega) (by omega)]; omega
        have hp : (2 : Nat) ^ s ≤ 2 ^ 63 := Nat.pow_le_pow_right (by decide) q0
        have hp1 := Nat.two_pow_pos s
        have h1 : abin .shl (.int .u64 1) (.int .i64 (s : Int)) = some (.int .u64 ((2 ^ s : Nat) : Int)) := by
          have := abin_shl_u (kk := .i64) 1 s
          rw [Nat.min_eq_left (by omega), Nat.one_mul, Nat.mod_eq_of_lt (by unfold M64; omega)] at this
          exact this
        have h2 : IntKind.u64.wrap (((2 ^ s : Nat) : Int) - 1) = ((2 ^ s - 1 : Nat) : Int) := by rw [wu64 (by omega) (by omega)]; omega
        have h3 := abin_and_u m (2 ^ s - 1) (by unfold M64; omega) (by unfold M64; omega)
        have h4 : abin .shr (.int .u64 (m : Int)) (.int .i64 (s : Int)) = some (.int .u64 ((m / 2 ^ s : Nat) : Int)) := shrU m s (by omega)
        simp (config := {maxSteps := 4000000}) only [c97, bA, b1, b2, wn, h1, h2, h3, h4, SS, bne_self_eq_false, wr_def, obOf, List.all_cons, List.all_nil, List.map_cons, List.map_nil, List.length_cons, List.length_nil, List.take_zero, List.take_succ_cons, List.take_nil, List.drop_zero, List.drop_succ_cons, List.drop_nil, Nat.reduceAdd, Nat.reduceMul, Nat.reduceSub, if_true, Nat.reduceLT, Nat.reduceLeDiff, ite_true, ite_false, Nat.reduceEqDiff, if_false, reduceCtorEq, ne_eq, List.getD, List.getElem?_cons_zero, List.getElem?_cons_succ, Option.getD_some, Option.bind_some, Option.map_some, Option.isSome_some, reduceIte, List.length_append, List.append_assoc, List.cons_append, List.nil_append, Option.some.injEq, forall_const, implies_true, Int.reduceNeg, eq_self, Prod.mk.injEq, List.self_eq_append_right, List.append_nil, exists_eq_left, exists_eq_left', exists_and_left, exists_eq_right, exists_and_right]
    rintro e f1 h1 hn1 ht ⟨rfl, rfl, e7, e9, e10⟩
    refine wc_sound _ _ _ _ hn1 ?_
    cases neg
    · by_cases c5 : 9223372036854775808 ≤ m'
      · have b5 : decide ((9223372036854775808 : Int) ≤ (m' : Int)) = true := decide_eq_true (by omega)
        simp (config := {maxSteps := 4000000}) only [c97, e7, e9, e10, b5, tl, if_pos c5, SS, bne_self_eq_false, wr_def, obOf, List.all_cons, List.all_nil, List.map_cons, List.map_nil, List.length_cons, List.length_nil, List.take_zero, List.take_succ_cons, List.take_nil, List.drop_zero, List.drop_succ_cons, List.drop_nil, Nat.reduceAdd, Nat.reduceMul, Nat.reduceSub, if_true, Nat.reduceLT, Nat.reduceLeDiff, ite_true, ite_false, Nat.reduceEqDiff, if_false, reduceCtorEq, ne_eq, List.getD, List.getElem?_cons_zero, List.getElem?_cons_succ, Option.getD_some, Option.bind_some, Option.map_some, Option.isSome_some, reduceIte, List.length_append, List.append_assoc, List.cons_append, List.nil_append, Option.some.injEq, forall_const, implies_true, Int.reduceNeg, eq_self, Prod.mk.injEq, List.self_eq_append_right, List.append_nil, exists_eq_left, exists_eq_left', exists_and_left, exists_eq_right, exists_and_right]
      · have b5 : decide ((9223372036854775808 : Int) ≤ (m' : Int)) = false := decide_eq_false (by omega)
        simp (config := {maxSteps := 4000000}) only [c97, e7, e9, e10, b5, tl, if_neg c5, SS, bne_self_eq_false, wr_def, obOf, List.all_cons, List.all_nil, List.map_cons, List.map_nil, List.length_cons, List.length_nil, List.take_zero, List.take_succ_cons, List.take_nil, List.drop_zero, List.drop_succ_cons, List.drop_nil, Nat.reduceAdd, Nat.reduceMul, Nat.reduceSub, if_true, Nat.reduceLT, Nat.reduceLeDiff, ite_true, ite_false, Nat.reduceEqDiff, if_false, reduceCtorEq, ne_eq, List.getD, List.getElem?_cons_zero, List.getElem?_cons_succ, Option.getD_some, Option.bind_some, Option.map_some, Option.isSome_some, reduceIte, List.length_append, List.append_assoc, List.cons_append, List.nil_append, Option.some.injEq, forall_const, implies_true, Int.reduceNeg, eq_self, Prod.mk.injEq, List.self_eq_append_right, List.append_nil, exists_eq_left, exists_eq_left', exists_and_left, exists_eq_right, exists_and_right]
    · cases rs
      · by_cases c5 : 9223372036854775808 < m'
        · have b5 : decide ((9223372036854775808 : Int) < (m' : Int)) = true := decide_eq_true (by omega)
          simp (config := {maxSteps := 4000000}) only [c97, e7, e9, e10, b5, tl, if_pos c5, Bool.false_eq_true, SS, bne_self_eq_false, wr_def, obOf, List.all_cons, List.all_nil, List.map_cons, List.map_nil, List.length_cons, List.length_nil, List.take_zero, List.take_succ_cons, List.take_nil, List.drop_zero, List.drop_succ_cons, List.drop_nil, Nat.reduceAdd, Nat.reduceMul, Nat.reduceSub, if_true, Nat.reduceLT, Nat.reduceLeDiff, ite_true, ite_false, Nat.reduceEqDiff, if_false, reduceCtorEq, ne_eq, List.getD, List.getElem?_cons_zero, List.getElem?_cons_succ, Option.getD_some, Option.bind_some, Option.map_some, Option.isSome_some, reduceIte, List.length_append, List.append_assoc, List.cons_append, List.nil_append, Option.some.injEq, forall_const, implies_true, Int.reduceNeg, eq_self, Prod.mk.injEq, List.self_eq_append_right, List.append_nil, exists_eq_left, exists_eq_left', exists_and_left, exists_eq_right, exists_and_right]
        · have b5 : decide ((9223372036854775808 : Int) < (m' : Int)) = false := decide_eq_false (by omega)
          simp (config := {maxSteps := 4000000}) only [c97, e7, e9, e10, b5, tl, if_neg c5, Bool.false_eq_true, SS, bne_self_eq_false, wr_def, obOf, List.all_cons, List.all_nil, List.map_cons, List.map_nil, List.length_cons, List.length_nil, List.take_zero, List.take_succ_cons, List.take_nil, List.drop_zero, List.drop_succ_cons, List.drop_nil, Nat.reduceAdd, Nat.reduceMul, Nat.reduceSub, if_true, Nat.reduceLT, Nat.reduceLeDiff, ite_true, ite_false, Nat.reduceEqDiff, if_false, reduceCtorEq, ne_eq, List.getD, List.getElem?_cons_zero, List.getElem?_cons_succ, Option.getD_some, Option.bind_some, Option.map_some, Option.isSome_some, reduceIte, List.length_append, List.append_assoc, List.cons_append, List.nil_append, Option.some.injEq, forall_const, implies_true, Int.reduceNeg, eq_self, Prod.mk.injEq, List.self_eq_append_right, List.append_nil, exists_eq_left, exists_eq_left', exists_and_left, exists_eq_right, exists_and_right]
      · have wa : IntKind.u64.wrap ((m' : Int) + 1) = (((m' + 1) % M64 : Nat) : Int) := u_add m' 1
        by_cases c5 : 9223372036854775808 < (m' + 1) % M64
        · have b5 : decide ((9223372036854775808 : Int) < (((m' + 1) % M64 : Nat) : Int)) = true := decide_eq_true (by omega)
          simp (config := {maxSteps := 4000000}) only [c97, e7, e9, e10, wa, b5, tl, if_pos c5, SS, bne_self_eq_false, wr_def, obOf, List.all_cons, List.all_nil, List.map_cons, List.map_nil, List.length_cons, List.length_nil, List.take_zero, List.take_succ_cons, List.take_nil, List.drop_zero, List.drop_succ_cons, List.drop_nil, Nat.reduceAdd, Nat.reduceMul, Nat.reduceSub, if_true, Nat.reduceLT, Nat.reduceLeDiff, ite_true, ite_false, Nat.reduceEqDiff, if_false, reduceCtorEq, ne_eq, List.getD, List.getElem?_cons_zero, List.getElem?_cons_succ, Option.getD_some, Option.bind_some, Option.map_some, Option.isSome_some, reduceIte, List.length_append, List.append_assoc, List.cons_append, List.nil_append, Option.some.injEq, forall_const, implies_true, Int.reduceNeg, eq_self, Prod.mk.injEq, List.self_eq_append_right, List.append_nil, exists_eq_left, exists_eq_left', exists_and_left, exists_eq_right, exists_and_right]
        · have b5 : decide ((9223372036854775808 : Int) < (((m' + 1) % M64 : Nat) : Int)) = false := decide_eq_false (by omega)
          simp (config := {maxSteps := 4000000}) only [c97, e7, e9, e10, wa, b5, tl, if_neg c5, SS, bne_self_eq_false, wr_def, obOf, List.all_cons, List.all_nil, List.map_cons, List.map_nil, List.length_cons, List.length_nil, List.take_zero, List.take_succ_cons, List.take_nil, List.drop_zero, List.drop_succ_cons, List.drop_nil, Nat.reduceAdd, Nat.reduceMul, Nat.reduceSub, if_true, Nat.reduceLT, Nat.reduceLeDiff, ite_true, ite_false, Nat.reduceEqDiff, if_false, reduceCtorEq, ne_eq, List.getD, List.getElem?_cons_zero, List.getElem?_cons_succ, Option.getD_some, Option.bind_some, Option.map_some, Option.isSome_some, reduceIte, List.length_append, List.append_assoc, List.cons_append, List.nil_append, Option.some.injEq, forall_const, implies_true, Int.reduceNeg, eq_self, Prod.mk.injEq, List.self_eq_append_right, List.append_nil, exists_eq_left, exists_eq_left', exists_and_left, exists_eq_right, exists_and_right]
  obtain ⟨v, ⟨r, x, e, h1, rfl⟩, hv⟩ := key
  exact ⟨r, x, e, h1, fun H => pcall_some.2 (hv H)⟩
end Go.Proofs.Ytaekgifbehoipaa.Wr
