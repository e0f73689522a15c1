/- Quotients of 128 bits. Conditions stand in each lemma. -/
import Derived.Test.YtpehhlfbnkakpaaRtD
namespace Go.Proofs.Ytpehhlfbnkakpaa.Fl
open Go Go.Proofs.Ytpehhlfbnkakpaa.Eva Go.Proofs.Ytpehhlfbnkakpaa.CodeAll
set_option linter.unusedVariables false
set_option linter.unusedSimpArgs false
set_option maxRecDepth 10000
set_option maxHeartbeats 4000000

def FD (f : Fr) (Y s y1 y0 U d1 d0 : Nat) : Prop := f 2 = .int .u64 (Y : Int) ∧ f 8 = .int .u64 (s : Int) ∧ f 9 = .int .u64 (y1 : Int) ∧ f 10 = .int .u64 (y0 : Int) ∧ f 11 = .int .u64 (U : Int) ∧ f 13 = .int .u64 (d1 : Int) ∧ f 14 = .int .u64 (d0 : Int)

theorem u_rem {U d q Y R : Nat} (h : U * 4294967296 + d = q * Y + R) (hR : R < 18446744073709551616) : IntKind.u64.wrap (IntKind.u64.wrap (IntKind.u64.wrap ((U : Int) * 4294967296) + (d : Int)) - IntKind.u64.wrap ((q : Int) * (Y : Int))) = ((R : Nat) : Int) := by
  have e : ((q : Int) * (Y : Int)) = ((q * Y : Nat) : Int) := by simp
  rw [e]
  simp only [wu64_mod]
  generalize q * Y = p at *
  omega

theorem div64_pc {hi lo y qq rr : Nat} (hy : y < 18446744073709551616) (hh : hi < y) (hlo : lo < 18446744073709551616) (hqq : (hi * 18446744073709551616 + lo) / y = qq) (hrr : (hi * 18446744073709551616 + lo) % y = rr) (H : List Ob) : pcall E 83 [.int .u64 (hi : Int), .int .u64 (lo : Int), .int .u64 (y : Int)] H = some (.tup [.int .u64 (qq : Int), .int .u64 (rr : Int)]) := by
  refine pcall_some.2 (call_plain e83 rfl (Nat.le_of_ble_eq_true rfl) rfl ?_)
  have c1 : ((y : Int) == 0) = false := by simp; omega
  have c2 : decide ((y : Int) ≤ (hi : Int)) = false := decide_eq_false (by omega)
  by_cases h0 : hi = 0
  · subst h0
    have c3 : (((0 : Nat) : Int) == 0) = true := rfl
    have q1 := abin_quo_u lo y (by omega) hlo
    have q2 := abin_rem_u lo y (by omega)
    rw [Nat.zero_mul, Nat.zero_add] at hqq hrr
    rw [hqq] at q1
    rw [hrr] at q2
    simp (config := {maxSteps := 4000000}) only [c83, c1, c2, c3, q1, q2, SS, bne_self_eq_false, wr_def, obOf, List.all_cons, List.all_nil, List.map_cons, List.map_nil, List.length_cons, List.length_nil, List.take_zero, List.take_succ_cons, List.take_nil, List.drop_zero, List.drop_succ_cons, List.drop_nil, Nat.reduceAdd, Nat.reduceMul, Nat.reduceSub, if_true, Nat.reduceLT, Nat.reduceLeDiff, ite_true, ite_false, Nat.reduceEqDiff, if_false, reduceCtorEq, ne_eq, List.getD, List.getElem?_cons_zero, List.getElem?_cons_succ, Option.getD_some, Option.bind_some, Option.map_some, Option.isSome_some, reduceIte, List.length_append, List.append_assoc, List.cons_append, List.nil_append, Option.some.injEq, forall_const, implies_true, Int.reduceNeg, eq_self, Prod.mk.injEq, List.self_eq_append_right, List.append_nil, exists_eq_left, exists_eq_left', exists_and_left, exists_eq_right, exists_and_right]
  have c3 : ((hi : Int) == 0) = false := by simp; omega
  have hlz := fun H => lz64_pc hy H
  obtain ⟨l1, l2, l3⟩ := len2_spec (x := y) (by omega)
  have l4 : len2 y ≤ 64 := len2_le (by omega)
  have hs64 : 64 - len2 y < 64 := by omega
  have hYlt : y * 2 ^ (64 - len2 y) < 18446744073709551616 := by
    have : y * 2 ^ (64 - len2 y) < 2 ^ len2 y * 2 ^ (64 - len2 y) := Nat.mul_lt_mul_of_pos_right l2 (Nat.two_pow_pos _)
    rw [← Nat.pow_add] at this
    have e : len2 y + (64 - len2 y) = 64 := by omega
    rw [e] at this; exact this
  have hYge : 9223372036854775808 ≤ y * 2 ^ (64 - len2 y) := by
    have : 2 ^ (len2 y - 1) * 2 ^ (64 - len2 y) ≤ y * 2 ^ (64 - len2 y) := Nat.mul_le_mul_right _ l1
    rw [← Nat.pow_add] at this
    have e : len2 y - 1 + (64 - len2 y) = 63 := by omega
    rw [e] at this; exact this
  obtain ⟨p1, p2, p3, p4, p5⟩ := Dv.shift_in hs64 hYlt hh hlo
  have aY := abin_shl_u (kk := .u64) y (64 - len2 y)
  have aU := abin_shl_u (kk := .u64) hi (64 - len2 y)
  have aL := abin_shl_u (kk := .u64) lo (64 - len2 y)
  have aR := abin_shr_u (kk := .u64) lo (64 - (64 - len2 y))
  have aO := abin_or_u (hi * 2 ^ (64 - len2 y)) (lo / 2 ^ (64 - (64 - len2 y))) p1 (Nat.lt_of_le_of_lt (Nat.div_le_self _ _) hlo)
  have aE := fun x : Nat => abin_shr_u (kk := .u64) x (64 - len2 y)
  have cv := cvi_u .i64 (64 - len2 y) (Nat.lt_of_le_of_lt (Nat.sub_le _ _) (by decide))
  rw [Nat.min_eq_left (by omega)] at aY aU aL aR
  rw [p3] at aO
  rw [Nat.mod_eq_of_lt p1] at aU
  rw [Nat.mod_eq_of_lt hYlt] at aY
  have ws : IntKind.u64.wrap (64 - ((64 - len2 y : Nat) : Int)) = ((64 - (64 - len2 y) : Nat) : Int) := by rw [wu64 (by omega) (by omega)]; omega
  -- what is answered
  have hYpos : 0 < y * 2 ^ (64 - len2 y) := by omega
  have hans1 : (hi * 18446744073709551616 + lo) * 2 ^ (64 - len2 y) / (y * 2 ^ (64 - len2 y)) = (hi * 18446744073709551616 + lo) / y := Nat.mul_div_mul_right _ _ (Nat.two_pow_pos _)
  have hans2 : (hi * 18446744073709551616 + lo) * 2 ^ (64 - len2 y) % (y * 2 ^ (64 - len2 y)) = (hi * 18446744073709551616 + lo) % y * 2 ^ (64 - len2 y) := by rw [Nat.mul_mod_mul_right]
  have hshr : rr * 2 ^ (64 - len2 y) / 2 ^ (min (64 - len2 y) 64) = rr := by
    rw [Nat.min_eq_left (by omega)]; exact Nat.mul_div_cancel _ (Nat.two_pow_pos _)
  rw [hrr] at hans2
  rw [hqq] at hans1
  rw [← hans2] at hshr
  rw [← p5] at hans1 hshr
  generalize hY : y * 2 ^ (64 - len2 y) = Y at *
  generalize hU : hi * 2 ^ (64 - len2 y) + lo / 2 ^ (64 - (64 - len2 y)) = U at *
  have hun : lo * 2 ^ (64 - len2 y) % 18446744073709551616 < 18446744073709551616 := by omega
  have hL : ∃ un, lo * 2 ^ (64 - len2 y) % 18446744073709551616 = un := ⟨_, rfl⟩
  obtain ⟨un, hL⟩ := hL
  rw [hL] at aL hun hans1 hshr
  generalize hZ : hi * 2 ^ (64 - len2 y) = Z at *
  generalize hV : lo / 2 ^ (64 - (64 - len2 y)) = V at *
  generalize hs : 64 - len2 y = s at *
  clear hans2 p5 p2 p3 p1 l1 l2 l3 l4 hlo hh hL hqq hrr
  have a5 := shr32 (kk := .u64) Y
  have a6 := and32 Y hYlt
  have a7 := shr32 (kk := .u64) un
  have a8 := and32 un hun
  have hsplitY : Y / 4294967296 * 4294967296 + Y % 4294967296 = Y := Nat.div_add_mod' Y 4294967296
  have hsplitU : un / 4294967296 * 4294967296 + un % 4294967296 = un := Nat.div_add_mod' un 4294967296
  have N1 : Dv.Nm (Y / 4294967296) (Y % 4294967296) U (un / 4294967296) := ⟨by omega, by omega, by omega, by omega, by omega⟩
  have d0b : un % 4294967296 < 4294967296 := by omega
  generalize hy1 : Y / 4294967296 = y1 at *
  generalize hy0 : Y % 4294967296 = y0 at *
  generalize hd1 : un / 4294967296 = d1 at *
  generalize hd0 : un % 4294967296 = d0 at *
  obtain ⟨S1, B1⟩ := Dv.st_init N1
  obtain ⟨t1, t2⟩ := Dv.div_two (Y := Y) (A := U * 4294967296 + d1) (d0 := d0) hYpos
  have eT : (U * 4294967296 + d1) * 4294967296 + d0 = U * 18446744073709551616 + un := Dv.two_limbs hsplitU
  rw [eT, hans1] at t1
  rw [eT] at t2
  have hUlt : U < 18446744073709551616 := by omega
  have hq1lt := Dv.qlt N1
  have hUY : y1 * 4294967296 + y0 = Y := hsplitY
  have hQ1 : (U * 4294967296 + d1) / (y1 * 4294967296 + y0) = (U * 4294967296 + d1) / Y := by rw [hUY]
  rw [hQ1] at hq1lt
  have hR1 : (U * 4294967296 + d1) % Y < Y := Nat.mod_lt _ hYpos
  have hD1 : U * 4294967296 + d1 = (U * 4294967296 + d1) / Y * Y + (U * 4294967296 + d1) % Y := (Nat.div_add_mod' _ _).symm
  obtain ⟨Q1, hq1⟩ : ∃ q, (U * 4294967296 + d1) / Y = q := ⟨_, rfl⟩
  obtain ⟨R1, hr1⟩ : ∃ q, (U * 4294967296 + d1) % Y = q := ⟨_, rfl⟩
  rw [hq1, hr1] at hD1 t1
  rw [hr1] at t2 hR1
  rw [hq1] at hQ1 hq1lt
  have N2 : Dv.Nm y1 y0 R1 d0 := ⟨N1.h1, N1.h2, N1.h3, by omega, d0b⟩
  obtain ⟨S2, B2⟩ := Dv.st_init N2
  have hq2lt := Dv.qlt N2
  have hQ2 : (R1 * 4294967296 + d0) / (y1 * 4294967296 + y0) = (R1 * 4294967296 + d0) / Y := by rw [hUY]
  rw [hQ2] at hq2lt
  have hR2 : (R1 * 4294967296 + d0) % Y < Y := Nat.mod_lt _ hYpos
  have hD2 : R1 * 4294967296 + d0 = (R1 * 4294967296 + d0) / Y * Y + (R1 * 4294967296 + d0) % Y := (Nat.div_add_mod' _ _).symm
  obtain ⟨Q2, hq2⟩ : ∃ q, (R1 * 4294967296 + d0) / Y = q := ⟨_, rfl⟩
  obtain ⟨R2, hr2⟩ : ∃ q, (R1 * 4294967296 + d0) % Y = q := ⟨_, rfl⟩
  rw [hq2, hr2] at hD2
  rw [hq2] at t1 hQ2 hq2lt
  rw [hr2] at t2 hR2
  have hrem1 := u_rem hD1 (by omega)
  have hrem2 := u_rem hD2 (by omega)
  have e1 : ∀ V : Nat, V < 18446744073709551616 → abin .quo (.int .u64 (V : Int)) (.int .u64 (y1 : Int)) = some (.int .u64 ((V / y1 : Nat) : Int)) ∧ IntKind.u64.wrap (((V / y1 : Nat) : Int) * (y1 : Int)) = ((V / y1 * y1 : Nat) : Int) ∧ IntKind.u64.wrap ((V : Int) - ((V / y1 * y1 : Nat) : Int)) = ((V % y1 : Nat) : Int) := by
    intro V hV
    have h1 := Nat.div_add_mod' V y1
    have h2 := N1.h1
    refine ⟨abin_quo_u V y1 (by omega) hV, u_mul_lt (Nat.lt_of_le_of_lt (by omega) hV), ?_⟩
    rw [u_sub (by omega) hV]
    congr 1
    omega
  obtain ⟨g1, g2, g3⟩ := e1 U hUlt
  obtain ⟨g4, g5, g6⟩ := e1 R1 (by omega)
  have hf1 : U % y1 < 4294967296 := Nat.lt_of_lt_of_le (Nat.mod_lt _ (by have := N1.h1; omega)) (by have := N1.h2; omega)
  have hf2 : R1 % y1 < 4294967296 := Nat.lt_of_lt_of_le (Nat.mod_lt _ (by have := N1.h1; omega)) (by have := N1.h2; omega)
  have aE3 := aE R2
  rw [t2] at hshr
  rw [hshr] at aE3
  have hfin : IntKind.u64.wrap (IntKind.u64.wrap ((Q1 : Int) * 4294967296) + (Q2 : Int)) = (qq : Int) := by
    rw [wu64 (x := (Q1 : Int) * 4294967296) (by omega) (by omega), wu64 (by omega) (by omega)]
    omega
  clear hshr aE e1 eT t1 t2 hsplitY hsplitU hans1 hR1 hR2 hD1 hD2
  simp (config := {maxSteps := 4000000}) only [c83, c1, c2, c3, hlz, cv, aY, aU, aL, aR, aO, ws, a5, a6, a7, a8, g1, g2, g3, SS, bne_self_eq_false, wr_def, obOf, List.all_cons, List.all_nil, List.map_cons, List.map_nil, List.length_cons, List.length_nil, List.take_zero, List.take_succ_cons, List.take_nil, List.drop_zero, List.drop_succ_cons, List.drop_nil, Nat.reduceAdd, Nat.reduceMul, Nat.reduceSub, if_true, Nat.reduceLT, Nat.reduceLeDiff, ite_true, ite_false, Nat.reduceEqDiff, if_false, reduceCtorEq, ne_eq, List.getD, List.getElem?_cons_zero, List.getElem?_cons_succ, Option.getD_some, Option.bind_some, Option.map_some, Option.isSome_some, reduceIte, List.length_append, List.append_assoc, List.cons_append, List.nil_append, Option.some.injEq, forall_const, implies_true, Int.reduceNeg, eq_self, Prod.mk.injEq, List.self_eq_append_right, List.append_nil, exists_eq_left, exists_eq_left', exists_and_left, exists_eq_right, exists_and_right]
  refine W.mono (Q := fun e f2 h2 => e = .ex 0 ∧ FD f2 Y s y1 y0 U d1 d0 ∧ f2 15 = .int .u64 (Q1 : Int) ∧ h2 = H) (W_loop (fun k f2 h2 => ∃ rh : Nat, k ≤ 4294967297 ∧ rh < 4294967296 ∧ Dv.St y1 y0 U d1 k rh ∧ FD f2 Y s y1 y0 U d1 d0 ∧ f2 15 = .int .u64 (k : Int) ∧ f2 16 = .int .u64 (rh : Int) ∧ h2 = H) (by simp) (U / y1) ⟨U % y1, B1, hf1, S1, by  simp only [FD, SS, bne_self_eq_false, wr_def, obOf, List.all_cons, List.all_nil, List.map_cons, List.map_nil, List.length_cons, List.length_nil, List.take_zero, List.take_succ_cons, List.take_nil, List.drop_zero, List.drop_succ_cons, List.drop_nil, Nat.reduceAdd, Nat.reduceMul, Nat.reduceSub, if_true, Nat.reduceLT, Nat.reduceLeDiff, ite_true, ite_false, Nat.reduceEqDiff, if_false, reduceCtorEq, ne_eq, List.getD, List.getElem?_cons_zero, List.getElem?_cons_succ, Option.getD_some, Option.bind_some, Option.map_some, Option.isSome_some, reduceIte, List.length_append, List.append_assoc, List.cons_append, List.nil_append, Option.some.injEq, forall_const, implies_true, Int.reduceNeg, eq_self, Prod.mk.injEq, List.self_eq_append_right, List.append_nil, exists_eq_left, exists_eq_left', exists_and_left, exists_eq_right, exists_and_right], by simp only [SS, bne_self_eq_false, wr_def, obOf, List.all_cons, List.all_nil, List.map_cons, List.map_nil, List.length_cons, List.length_nil, List.take_zero, List.take_succ_cons, List.take_nil, List.drop_zero, List.drop_succ_cons, List.drop_nil, Nat.reduceAdd, Nat.reduceMul, Nat.reduceSub, if_true, Nat.reduceLT, Nat.reduceLeDiff, ite_true, ite_false, Nat.reduceEqDiff, if_false, reduceCtorEq, ne_eq, List.getD, List.getElem?_cons_zero, List.getElem?_cons_succ, Option.getD_some, Option.bind_some, Option.map_some, Option.isSome_some, reduceIte, List.length_append, List.append_assoc, List.cons_append, List.nil_append, Option.some.injEq, forall_const, implies_true, Int.reduceNeg, eq_self, Prod.mk.injEq, List.self_eq_append_right, List.append_nil, exists_eq_left, exists_eq_left', exists_and_left, exists_eq_right, exists_and_right], by simp only [SS, bne_self_eq_false, wr_def, obOf, List.all_cons, List.all_nil, List.map_cons, List.map_nil, List.length_cons, List.length_nil, List.take_zero, List.take_succ_cons, List.take_nil, List.drop_zero, List.drop_succ_cons, List.drop_nil, Nat.reduceAdd, Nat.reduceMul, Nat.reduceSub, if_true, Nat.reduceLT, Nat.reduceLeDiff, ite_true, ite_false, Nat.reduceEqDiff, if_false, reduceCtorEq, ne_eq, List.getD, List.getElem?_cons_zero, List.getElem?_cons_succ, Option.getD_some, Option.bind_some, Option.map_some, Option.isSome_some, reduceIte, List.length_append, List.append_assoc, List.cons_append, List.nil_append, Option.some.injEq, forall_const, implies_true, Int.reduceNeg, eq_self, Prod.mk.injEq, List.self_eq_append_right, List.append_nil, exists_eq_left, exists_eq_left', exists_and_left, exists_eq_right, exists_and_right], rfl⟩ ?_) ?_
  · rintro q f2 h2 hn2 ht2 ⟨rh, hk, hrh, St, ⟨e2, e8, e9, e10, e11, e13, e14⟩, eq, erh, rfl⟩
    have wr : IntKind.u64.wrap ((rh : Int) + (y1 : Int)) = ((rh + y1 : Nat) : Int) := u_add_lt (Nat.lt_of_lt_of_le (m := 8589934592) (by have := N1.h2; omega) (by decide))
    by_cases k1 : 4294967296 ≤ q
    · have k1' : decide ((4294967296 : Int) ≤ (q : Int)) = true := decide_eq_true (by omega)
      have St' := Dv.st_big N1 St k1
      have wq : IntKind.u64.wrap ((q : Int) - 1) = ((q - 1 : Nat) : Int) := by rw [wu64 (by omega) (by omega)]; omega
      by_cases k3 : 4294967296 ≤ rh + y1
      · have k3' : decide ((4294967296 : Int) ≤ ((rh + y1 : Nat) : Int)) = true := decide_eq_true (by omega)
        have hE := Dv.st_break N1 St' k3
        rw [hQ1] at hE
        rw [hE] at wq
        simp (config := {maxSteps := 4000000}) only [FD, e2, e8, e9, e10, e11, e13, e14, eq, erh, k1', wq, wr, k3', SS, bne_self_eq_false, wr_def, obOf, List.all_cons, List.all_nil, List.map_cons, List.map_nil, List.length_cons, List.length_nil, List.take_zero, List.take_succ_cons, List.take_nil, List.drop_zero, List.drop_succ_cons, List.drop_nil, Nat.reduceAdd, Nat.reduceMul, Nat.reduceSub, if_true, Nat.reduceLT, Nat.reduceLeDiff, ite_true, ite_false, Nat.reduceEqDiff, if_false, reduceCtorEq, ne_eq, List.getD, List.getElem?_cons_zero, List.getElem?_cons_succ, Option.getD_some, Option.bind_some, Option.map_some, Option.isSome_some, reduceIte, List.length_append, List.append_assoc, List.cons_append, List.nil_append, Option.some.injEq, forall_const, implies_true, Int.reduceNeg, eq_self, Prod.mk.injEq, List.self_eq_append_right, List.append_nil, exists_eq_left, exists_eq_left', exists_and_left, exists_eq_right, exists_and_right]
      · have k3' : decide ((4294967296 : Int) ≤ ((rh + y1 : Nat) : Int)) = false := decide_eq_false (by omega)
        simp (config := {maxSteps := 4000000}) only [FD, e2, e8, e9, e10, e11, e13, e14, eq, erh, k1', wq, wr, k3', SS, bne_self_eq_false, wr_def, obOf, List.all_cons, List.all_nil, List.map_cons, List.map_nil, List.length_cons, List.length_nil, List.take_zero, List.take_succ_cons, List.take_nil, List.drop_zero, List.drop_succ_cons, List.drop_nil, Nat.reduceAdd, Nat.reduceMul, Nat.reduceSub, if_true, Nat.reduceLT, Nat.reduceLeDiff, ite_true, ite_false, Nat.reduceEqDiff, if_false, reduceCtorEq, ne_eq, List.getD, List.getElem?_cons_zero, List.getElem?_cons_succ, Option.getD_some, Option.bind_some, Option.map_some, Option.isSome_some, reduceIte, List.length_append, List.append_assoc, List.cons_append, List.nil_append, Option.some.injEq, forall_const, implies_true, Int.reduceNeg, eq_self, Prod.mk.injEq, List.self_eq_append_right, List.append_nil, exists_eq_left, exists_eq_left', exists_and_left, exists_eq_right, exists_and_right]
        exact ⟨q - 1, by omega, by omega, rh + y1, by omega, St', rfl, rfl⟩
    have k1' : decide ((4294967296 : Int) ≤ (q : Int)) = false := decide_eq_false (by omega)
    have hqy : q * y0 ≤ 4294967295 * 4294967295 := Nat.mul_le_mul (by omega) (by have := N1.h3; omega)
    have w1 : IntKind.u64.wrap ((q : Int) * (y0 : Int)) = ((q * y0 : Nat) : Int) := u_mul_lt (Nat.lt_of_le_of_lt hqy (by decide))
    have w2 : IntKind.u64.wrap (4294967296 * (rh : Int)) = ((4294967296 * rh : Nat) : Int) := u_mul_lt (a := 4294967296) (Nat.lt_of_lt_of_le (m := 18446744073709551616) (by omega) (by decide))
    have w3 : IntKind.u64.wrap (((4294967296 * rh : Nat) : Int) + (d1 : Int)) = ((4294967296 * rh + d1 : Nat) : Int) := u_add_lt (Nat.lt_of_lt_of_le (m := 18446744073709551616) (by have := N1.h5; omega) (by decide))
    by_cases k2 : 4294967296 * rh + d1 < q * y0
    · have k2' : decide (((4294967296 * rh + d1 : Nat) : Int) < ((q * y0 : Nat) : Int)) = true := decide_eq_true (by omega)
      obtain ⟨hq1p, St'⟩ := Dv.st_step N1 St k2
      have wq : IntKind.u64.wrap ((q : Int) - 1) = ((q - 1 : Nat) : Int) := by rw [wu64 (by omega) (by omega)]; omega
      by_cases k3 : 4294967296 ≤ rh + y1
      · have k3' : decide ((4294967296 : Int) ≤ ((rh + y1 : Nat) : Int)) = true := decide_eq_true (by omega)
        have hE := Dv.st_break N1 St' k3
        rw [hQ1] at hE
        rw [hE] at wq
        simp (config := {maxSteps := 4000000}) only [FD, e2, e8, e9, e10, e11, e13, e14, eq, erh, k1', w1, w2, w3, k2', wq, wr, k3', SS, bne_self_eq_false, wr_def, obOf, List.all_cons, List.all_nil, List.map_cons, List.map_nil, List.length_cons, List.length_nil, List.take_zero, List.take_succ_cons, List.take_nil, List.drop_zero, List.drop_succ_cons, List.drop_nil, Nat.reduceAdd, Nat.reduceMul, Nat.reduceSub, if_true, Nat.reduceLT, Nat.reduceLeDiff, ite_true, ite_false, Nat.reduceEqDiff, if_false, reduceCtorEq, ne_eq, List.getD, List.getElem?_cons_zero, List.getElem?_cons_succ, Option.getD_some, Option.bind_some, Option.map_some, Option.isSome_some, reduceIte, List.length_append, List.append_assoc, List.cons_append, List.nil_append, Option.some.injEq, forall_const, implies_true, Int.reduceNeg, eq_self, Prod.mk.injEq, List.self_eq_append_right, List.append_nil, exists_eq_left, exists_eq_left', exists_and_left, exists_eq_right, exists_and_right]
      · have k3' : decide ((4294967296 : Int) ≤ ((rh + y1 : Nat) : Int)) = false := decide_eq_false (by omega)
        simp (config := {maxSteps := 4000000}) only [FD, e2, e8, e9, e10, e11, e13, e14, eq, erh, k1', w1, w2, w3, k2', wq, wr, k3', SS, bne_self_eq_false, wr_def, obOf, List.all_cons, List.all_nil, List.map_cons, List.map_nil, List.length_cons, List.length_nil, List.take_zero, List.take_succ_cons, List.take_nil, List.drop_zero, List.drop_succ_cons, List.drop_nil, Nat.reduceAdd, Nat.reduceMul, Nat.reduceSub, if_true, Nat.reduceLT, Nat.reduceLeDiff, ite_true, ite_false, Nat.reduceEqDiff, if_false, reduceCtorEq, ne_eq, List.getD, List.getElem?_cons_zero, List.getElem?_cons_succ, Option.getD_some, Option.bind_some, Option.map_some, Option.isSome_some, reduceIte, List.length_append, List.append_assoc, List.cons_append, List.nil_append, Option.some.injEq, forall_const, implies_true, Int.reduceNeg, eq_self, Prod.mk.injEq, List.self_eq_append_right, List.append_nil, exists_eq_left, exists_eq_left', exists_and_left, exists_eq_right, exists_and_right]
        exact ⟨q - 1, by omega, by omega, rh + y1, by omega, St', rfl, rfl⟩
    · have k2' : decide (((4294967296 * rh + d1 : Nat) : Int) < ((q * y0 : Nat) : Int)) = false := decide_eq_false (by omega)
      have hE := Dv.st_end N1 St (by omega)
      rw [hQ1] at hE
      subst hE
      simp (config := {maxSteps := 4000000}) only [FD, e2, e8, e9, e10, e11, e13, e14, eq, erh, k1', w1, w2, w3, k2', SS, bne_self_eq_false, wr_def, obOf, List.all_cons, List.all_nil, List.map_cons, List.map_nil, List.length_cons, List.length_nil, List.take_zero, List.take_succ_cons, List.take_nil, List.drop_zero, List.drop_succ_cons, List.drop_nil, Nat.reduceAdd, Nat.reduceMul, Nat.reduceSub, if_true, Nat.reduceLT, Nat.reduceLeDiff, ite_true, ite_false, Nat.reduceEqDiff, if_false, reduceCtorEq, ne_eq, List.getD, List.getElem?_cons_zero, List.getElem?_cons_succ, Option.getD_some, Option.bind_some, Option.map_some, Option.isSome_some, reduceIte, List.length_append, List.append_assoc, List.cons_append, List.nil_append, Option.some.injEq, forall_const, implies_true, Int.reduceNeg, eq_self, Prod.mk.injEq, List.self_eq_append_right, List.append_nil, exists_eq_left, exists_eq_left', exists_and_left, exists_eq_right, exists_and_right]
  rintro e f1 h1 hn1 ht ⟨rfl, ⟨e2, e8, e9, e10, e11, e13, e14⟩, e15, rfl⟩
  simp (config := {maxSteps := 4000000}) only [e2, e8, e9, e10, e11, e13, e14, e15, hrem1, g4, g5, g6, SS, bne_self_eq_false, wr_def, obOf, List.all_cons, List.all_nil, List.map_cons, List.map_nil, List.length_cons, List.length_nil, List.take_zero, List.take_succ_cons, List.take_nil, List.drop_zero, List.drop_succ_cons, List.drop_nil, Nat.reduceAdd, Nat.reduceMul, Nat.reduceSub, if_true, Nat.reduceLT, Nat.reduceLeDiff, ite_true, ite_false, Nat.reduceEqDiff, if_false, reduceCtorEq, ne_eq, List.getD, List.getElem?_cons_zero, List.getElem?_cons_succ, Option.getD_some, Option.bind_some, Option.map_some, Option.isSome_some, reduceIte, List.length_append, List.append_assoc, List.cons_append, List.nil_append, Option.some.injEq, forall_const, implies_true, Int.reduceNeg, eq_self, Prod.mk.injEq, List.self_eq_append_right, List.append_nil, exists_eq_left, exists_eq_left', exists_and_left, exists_eq_right, exists_and_right]
  refine W.mono (Q := fun e f2 h2 => e = .ex 2 ∧ FD f2 Y s y1 y0 U d1 d0 ∧ f2 15 = .int .u64 (Q1 : Int) ∧ f2 17 = .int .u64 (R1 : Int) ∧ f2 18 = .int .u64 (Q2 : Int) ∧ h2 = h1) (W_loop (fun k f2 h2 => ∃ rh : Nat, k ≤ 4294967297 ∧ rh < 4294967296 ∧ Dv.St y1 y0 R1 d0 k rh ∧ FD f2 Y s y1 y0 U d1 d0 ∧ f2 15 = .int .u64 (Q1 : Int) ∧ f2 17 = .int .u64 (R1 : Int) ∧ f2 18 = .int .u64 (k : Int) ∧ f2 16 = .int .u64 (rh : Int) ∧ h2 = h1) (by simp) (R1 / y1) ⟨R1 % y1, B2, hf2, S2, by  simp only [FD, e2, e8, e9, e10, e11, e13, e14, e15, SS, bne_self_eq_false, wr_def, obOf, List.all_cons, List.all_nil, List.map_cons, List.map_nil, List.length_cons, List.length_nil, List.take_zero, List.take_succ_cons, List.take_nil, List.drop_zero, List.drop_succ_cons, List.drop_nil, Nat.reduceAdd, Nat.reduceMul, Nat.reduceSub, if_true, Nat.reduceLT, Nat.reduceLeDiff, ite_true, ite_false, Nat.reduceEqDiff, if_false, reduceCtorEq, ne_eq, List.getD, List.getElem?_cons_zero, List.getElem?_cons_succ, Option.getD_some, Option.bind_some, Option.map_some, Option.isSome_some, reduceIte, List.length_append, List.append_assoc, List.cons_append, List.nil_append, Option.some.injEq, forall_const, implies_true, Int.reduceNeg, eq_self, Prod.mk.injEq, List.self_eq_append_right, List.append_nil, exists_eq_left, exists_eq_left', exists_and_left, exists_eq_right, exists_and_right], by simp only [e15, SS, bne_self_eq_false, wr_def, obOf, List.all_cons, List.all_nil, List.map_cons, List.map_nil, List.length_cons, List.length_nil, List.take_zero, List.take_succ_cons, List.take_nil, List.drop_zero, List.drop_succ_cons, List.drop_nil, Nat.reduceAdd, Nat.reduceMul, Nat.reduceSub, if_true, Nat.reduceLT, Nat.reduceLeDiff, ite_true, ite_false, Nat.reduceEqDiff, if_false, reduceCtorEq, ne_eq, List.getD, List.getElem?_cons_zero, List.getElem?_cons_succ, Option.getD_some, Option.bind_some, Option.map_some, Option.isSome_some, reduceIte, List.length_append, List.append_assoc, List.cons_append, List.nil_append, Option.some.injEq, forall_const, implies_true, Int.reduceNeg, eq_self, Prod.mk.injEq, List.self_eq_append_right, List.append_nil, exists_eq_left, exists_eq_left', exists_and_left, exists_eq_right, exists_and_right], by simp only [SS, bne_self_eq_false, wr_def, obOf, List.all_cons, List.all_nil, List.map_cons, List.map_nil, List.length_cons, List.length_nil, List.take_zero, List.take_succ_cons, List.take_nil, List.drop_zero, List.drop_succ_cons, List.drop_nil, Nat.reduceAdd, Nat.reduceMul, Nat.reduceSub, if_true, Nat.reduceLT, Nat.reduceLeDiff, ite_true, ite_false, Nat.reduceEqDiff, if_false, reduceCtorEq, ne_eq, List.getD, List.getElem?_cons_zero, List.getElem?_cons_succ, Option.getD_some, Option.bind_some, Option.map_some, Option.isSome_some, reduceIte, List.length_append, List.append_assoc, List.cons_append, List.nil_append, Option.some.injEq, forall_const, implies_true, Int.reduceNeg, eq_self, Prod.mk.injEq, List.self_eq_append_right, List.append_nil, exists_eq_left, exists_eq_left', exists_and_left, exists_eq_right, exists_and_right], by simp only [e2, e8, e9, e10, e11, e13, e14, e15, SS, bne_self_eq_false, wr_def, obOf, List.all_cons, List.all_nil, List.map_cons, List.map_nil, List.length_cons, List.length_nil, List.take_zero, List.take_succ_cons, List.take_nil, List.drop_zero, List.drop_succ_cons, List.drop_nil, Nat.reduceAdd, Nat.reduceMul, Nat.reduceSub, if_true, Nat.reduceLT, Nat.reduceLeDiff, ite_true, ite_false, Nat.reduceEqDiff, if_false, reduceCtorEq, ne_eq, List.getD, List.getElem?_cons_zero, List.getElem?_cons_succ, Option.getD_some, Option.bind_some, Option.map_some, Option.isSome_some, reduceIte, List.length_append, List.append_assoc, List.cons_append, List.nil_append, Option.some.injEq, forall_const, implies_true, Int.reduceNeg, eq_self, Prod.mk.injEq, List.self_eq_append_right, List.append_nil, exists_eq_left, exists_eq_left', exists_and_left, exists_eq_right, exists_and_right], by simp only [e2, e8, e9, e10, e11, e13, e14, e15, SS, bne_self_eq_false, wr_def, obOf, List.all_cons, List.all_nil, List.map_cons, List.map_nil, List.length_cons, List.length_nil, List.take_zero, List.take_succ_cons, List.take_nil, List.drop_zero, List.drop_succ_cons, List.drop_nil, Nat.reduceAdd, Nat.reduceMul, Nat.reduceSub, if_true, Nat.reduceLT, Nat.reduceLeDiff, ite_true, ite_false, Nat.reduceEqDiff, if_false, reduceCtorEq, ne_eq, List.getD, List.getElem?_cons_zero, List.getElem?_cons_succ, Option.getD_some, Option.bind_some, Option.map_some, Option.isSome_some, reduceIte, List.length_append, List.append_assoc, List.cons_append, List.nil_append, Option.some.injEq, forall_const, implies_true, Int.reduceNeg, eq_self, Prod.mk.injEq, List.self_eq_append_right, List.append_nil, exists_eq_left, exists_eq_left', exists_and_left, exists_eq_right, exists_and_right], rfl⟩ ?_) ?_
  · rintro q f2 h2 hn2 ht2 ⟨rh, hk, hrh, St, ⟨e2, e8, e9, e10, e11, e13, e14⟩, e15, e17, eq, erh, rfl⟩
    have wr : IntKind.u64.wrap ((rh : Int) + (y1 : Int)) = ((rh + y1 : Nat) : Int) := u_add_lt (Nat.lt_of_lt_of_le (m := 8589934592) (by have := N1.h2; omega) (by decide))
    by_cases k1 : 4294967296 ≤ q
    · have k1' : decide ((4294967296 : Int) ≤ (q : Int)) = true := decide_eq_true (by omega)
      have St' := Dv.st_big N2 St k1
      have wq : IntKind.u64.wrap ((q : Int) - 1) = ((q - 1 : Nat) : Int) := by rw [wu64 (by omega) (by omega)]; omega
      by_cases k3 : 4294967296 ≤ rh + y1
      · have k3' : decide ((4294967296 : Int) ≤ ((rh + y1 : Nat) : Int)) = true := decide_eq_true (by omega)
        have hE := Dv.st_break N2 St' k3
        rw [hQ2] at hE
        rw [hE] at wq
        simp (config := {maxSteps := 4000000}) only [FD, e2, e8, e9, e10, e11, e13, e14, eq, erh, e15, e17, k1', wq, wr, k3', SS, bne_self_eq_false, wr_def, obOf, List.all_cons, List.all_nil, List.map_cons, List.map_nil, List.length_cons, List.length_nil, List.take_zero, List.take_succ_cons, List.take_nil, List.drop_zero, List.drop_succ_cons, List.drop_nil, Nat.reduceAdd, Nat.reduceMul, Nat.reduceSub, if_true, Nat.reduceLT, Nat.reduceLeDiff, ite_true, ite_false, Nat.reduceEqDiff, if_false, reduceCtorEq, ne_eq, List.getD, List.getElem?_cons_zero, List.getElem?_cons_succ, Option.getD_some, Option.bind_some, Option.map_some, Option.isSome_some, reduceIte, List.length_append, List.append_assoc, List.cons_append, List.nil_append, Option.some.injEq, forall_const, implies_true, Int.reduceNeg, eq_self, Prod.mk.injEq, List.self_eq_append_right, List.append_nil, exists_eq_left, exists_eq_left', exists_and_left, exists_eq_right, exists_and_right]
      · have k3' : decide ((4294967296 : Int) ≤ ((rh + y1 : Nat) : Int)) = false := decide_eq_false (by omega)
        simp (config := {maxSteps := 4000000}) only [FD, e2, e8, e9, e10, e11, e13, e14, eq, erh, e15, e17, k1', wq, wr, k3', SS, bne_self_eq_false, wr_def, obOf, List.all_cons, List.all_nil, List.map_cons, List.map_nil, List.length_cons, List.length_nil, List.take_zero, List.take_succ_cons, List.take_nil, List.drop_zero, List.drop_succ_cons, List.drop_nil, Nat.reduceAdd, Nat.reduceMul, Nat.reduceSub, if_true, Nat.reduceLT, Nat.reduceLeDiff, ite_true, ite_false, Nat.reduceEqDiff, if_false, reduceCtorEq, ne_eq, List.getD, List.getElem?_cons_zero, List.getElem?_cons_succ, Option.getD_some, Option.bind_some, Option.map_some, Option.isSome_some, reduceIte, List.length_append, List.append_assoc, List.cons_append, List.nil_append, Option.some.injEq, forall_const, implies_true, Int.reduceNeg, eq_self, Prod.mk.injEq, List.self_eq_append_right, List.append_nil, exists_eq_left, exists_eq_left', exists_and_left, exists_eq_right, exists_and_right]
        exact ⟨q - 1, by omega, by omega, rh + y1, by omega, St', rfl, rfl⟩
    have k1' : decide ((4294967296 : Int) ≤ (q : Int)) = false := decide_eq_false (by omega)
    have hqy : q * y0 ≤ 4294967295 * 4294967295 := Nat.mul_le_mul (by omega) (by have := N1.h3; omega)
    have w1 : IntKind.u64.wrap ((q : Int) * (y0 : Int)) = ((q * y0 : Nat) : Int) := u_mul_lt (Nat.lt_of_le_of_lt hqy (by decide))
    have w2 : IntKind.u64.wrap (4294967296 * (rh : Int)) = ((4294967296 * rh : Nat) : Int) := u_mul_lt (a := 4294967296) (Nat.lt_of_lt_of_le (m := 18446744073709551616) (by omega) (by decide))
    have w3 : IntKind.u64.wrap (((4294967296 * rh : Nat) : Int) + (d0 : Int)) = ((4294967296 * rh + d0 : Nat) : Int) := u_add_lt (Nat.lt_of_lt_of_le (m := 18446744073709551616) (by have := N2.h5; omega) (by decide))
    by_cases k2 : 4294967296 * rh + d0 < q * y0
    · have k2' : decide (((4294967296 * rh + d0 : Nat) : Int) < ((q * y0 : Nat) : Int)) = true := decide_eq_true (by omega)
      obtain ⟨hq1p, St'⟩ := Dv.st_step N2 St k2
      have wq : IntKind.u64.wrap ((q : Int) - 1) = ((q - 1 : Nat) : Int) := by rw [wu64 (by omega) (by omega)]; omega
      by_cases k3 : 4294967296 ≤ rh + y1
      · have k3' : decide ((4294967296 : Int) ≤ ((rh + y1 : Nat) : Int)) = true := decide_eq_true (by omega)
        have hE := Dv.st_break N2 St' k3
        rw [hQ2] at hE
        rw [hE] at wq
        simp (config := {maxSteps := 4000000}) only [FD, e2, e8, e9, e10, e11, e13, e14, eq, erh, e15, e17, k1', w1, w2, w3, k2', wq, wr, k3', SS, bne_self_eq_false, wr_def, obOf, List.all_cons, List.all_nil, List.map_cons, List.map_nil, List.length_cons, List.length_nil, List.take_zero, List.take_succ_cons, List.take_nil, List.drop_zero, List.drop_succ_cons, List.drop_nil, Nat.reduceAdd, Nat.reduceMul, Nat.reduceSub, if_true, Nat.reduceLT, Nat.reduceLeDiff, ite_true, ite_false, Nat.reduceEqDiff, if_false, reduceCtorEq, ne_eq, List.getD, List.getElem?_cons_zero, List.getElem?_cons_succ, Option.getD_some, Option.bind_some, Option.map_some, Option.isSome_some, reduceIte, List.length_append, List.append_assoc, List.cons_append, List.nil_append, Option.some.injEq, forall_const, implies_true, Int.reduceNeg, eq_self, Prod.mk.injEq, List.self_eq_append_right, List.append_nil, exists_eq_left, exists_eq_left', exists_and_left, exists_eq_right, exists_and_right]
      · have k3' : decide ((4294967296 : Int) ≤ ((rh + y1 : Nat) : Int)) = false := decide_eq_false (by omega)
        simp (config := {maxSteps := 4000000}) only [FD, e2, e8, e9, e10, e11, e13, e14, eq, erh, e15, e17, k1', w1, w2, w3, k2', wq, wr, k3', SS, bne_self_eq_false, wr_def, obOf, List.all_cons, List.all_nil, List.map_cons, List.map_nil, List.length_cons, List.length_nil, List.take_zero, List.take_succ_cons, List.take_nil, List.drop_zero, List.drop_succ_cons, List.drop_nil, Nat.reduceAdd, Nat.reduceMul, Nat.reduceSub, if_true, Nat.reduceLT, Nat.reduceLeDiff, ite_true, ite_false, Nat.reduceEqDiff, if_false, reduceCtorEq, ne_eq, List.getD, List.getElem?_cons_zero, List.getElem?_cons_succ, Option.getD_some, Option.bind_some, Option.map_some, Option.isSome_some, reduceIte, List.length_append, List.append_assoc, List.cons_append, List.nil_append, Option.some.injEq, forall_const, implies_true, Int.reduceNeg, eq_self, Prod.mk.injEq, List.self_eq_append_right, List.append_nil, exists_eq_left, exists_eq_left', exists_and_left, exists_eq_right, exists_and_right]
        exact ⟨q - 1, by omega, by omega, rh + y1, by omega, St', rfl, rfl⟩
    · have k2' : decide (((4294967296 * rh + d0 : Nat) : Int) < ((q * y0 : Nat) : Int)) = false := decide_eq_false (by omega)
      have hE := Dv.st_end N2 St (by omega)
      rw [hQ2] at hE
      subst hE
      simp (config := {maxSteps := 4000000}) only [FD, e2, e8, e9, e10, e11, e13, e14, eq, erh, e15, e17, k1', w1, w2, w3, k2', SS, bne_self_eq_false, wr_def, obOf, List.all_cons, List.all_nil, List.map_cons, List.map_nil, List.length_cons, List.length_nil, List.take_zero, List.take_succ_cons, List.take_nil, List.drop_zero, List.drop_succ_cons, List.drop_nil, Nat.reduceAdd, Nat.reduceMul, Nat.reduceSub, if_true, Nat.reduceLT, Nat.reduceLeDiff, ite_true, ite_false, Nat.reduceEqDiff, if_false, reduceCtorEq, ne_eq, List.getD, List.getElem?_cons_zero, List.getElem?_cons_succ, Option.getD_some, Option.bind_some, Option.map_some, Option.isSome_some, reduceIte, List.length_append, List.append_assoc, List.cons_append, List.nil_append, Option.some.injEq, forall_const, implies_true, Int.reduceNeg, eq_self, Prod.mk.injEq, List.self_eq_append_right, List.append_nil, exists_eq_left, exists_eq_left', exists_and_left, exists_eq_right, exists_and_right]
  rintro e f2 h2 hn2 ht2 ⟨rfl, ⟨e2, e8, e9, e10, e11, e13, e14⟩, e15, e17, e18, rfl⟩
  simp (config := {maxSteps := 4000000}) only [e2, e8, e9, e10, e11, e13, e14, e15, e17, e18, hrem2, hfin, aE3, SS, bne_self_eq_false, wr_def, obOf, List.all_cons, List.all_nil, List.map_cons, List.map_nil, List.length_cons, List.length_nil, List.take_zero, List.take_succ_cons, List.take_nil, List.drop_zero, List.drop_succ_cons, List.drop_nil, Nat.reduceAdd, Nat.reduceMul, Nat.reduceSub, if_true, Nat.reduceLT, Nat.reduceLeDiff, ite_true, ite_false, Nat.reduceEqDiff, if_false, reduceCtorEq, ne_eq, List.getD, List.getElem?_cons_zero, List.getElem?_cons_succ, Option.getD_some, Option.bind_some, Option.map_some, Option.isSome_some, reduceIte, List.length_append, List.append_assoc, List.cons_append, List.nil_append, Option.some.injEq, forall_const, implies_true, Int.reduceNeg, eq_self, Prod.mk.injEq, List.self_eq_append_right, List.append_nil, exists_eq_left, exists_eq_left', exists_and_left, exists_eq_right, exists_and_right]
end Go.Proofs.Ytpehhlfbnkakpaa.Fl
