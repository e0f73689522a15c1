/- Decode of the package wire. Conditions stand in each lemma. -/
import Derived.Test.YtaekgifbehoipaaWrF
namespace Go.Proofs.Ytaekgifbehoipaa.Wr
open Go Go.Proofs.Ytaekgifbehoipaa.Eva Go.Proofs.Ytaekgifbehoipaa.CodeAll
set_option linter.unusedVariables false
set_option linter.unusedSimpArgs false
set_option maxRecDepth 10000
set_option maxHeartbeats 4000000

/-- A part of a string. -/
def slsA (lo hi : Option Int) : AV → Option AV
  | .str b => if 0 ≤ lo.getD 0 ∧ lo.getD 0 ≤ hi.getD b.size ∧ hi.getD b.size ≤ b.size then some (.str (b.extract (lo.getD 0).toNat (hi.getD b.size).toNat)) else none
  | _ => none
theorem aop_sls {ρ : Opd → AV} (s : Mem) (x : Opd) (lo hi : Option Opd) : aop ρ s (.sls x lo hi) = (obd ρ lo).bind fun a => (obd ρ hi).bind fun b => (slsA a b (ρ x)).map fun v => (v, s) := by
  simp only [aop, bound_obd]
  cases ρ x <;> simp only [slsA, Option.map_none] <;> cases obd ρ lo <;> (try rfl) <;> cases obd ρ hi <;> (try rfl) <;> simp only [Option.map_some, Option.bind_some, apply_ite (Option.map fun v => (v, s)), Option.map_none] <;> rfl
theorem kq_sls' {ρ : Opd → AV} {h : List Ob} (x : Opd) (lo hi : Option Opd) : kq ρ h (.sls x lo hi) = ((obd ρ lo).bind fun a => (obd ρ hi).bind fun b => slsA a b (ρ x)).isSome := by
  simp only [kq, aop_sls]; cases obd ρ lo <;> (try rfl); cases obd ρ hi <;> (try rfl); simp only [Option.bind_some]; cases slsA _ _ (ρ x) <;> rfl
theorem vq_sls' {ρ : Opd → AV} {h : List Ob} (x : Opd) (lo hi : Option Opd) : vq ρ h (.sls x lo hi) = ((obd ρ lo).bind fun a => (obd ρ hi).bind fun b => slsA a b (ρ x)).getD und := by
  simp only [vq, aop_sls]; cases obd ρ lo <;> (try rfl); cases obd ρ hi <;> (try rfl); simp only [Option.bind_some]; cases slsA _ _ (ρ x) <;> rfl
theorem slsA_to {s : ByteArray} {n : Nat} (h : n ≤ s.size) : slsA none (some (n : Int)) (.str s) = some (.str (s.extract 0 n)) := by
  simp only [slsA, Option.getD_none, Option.getD_some]
  rw [if_pos ⟨by omega, by omega, by omega⟩]; simp
theorem bs_ext {s : ByteArray} {n : Nat} (h : n ≤ s.size) : bs (s.extract 0 n) = (bs s).take n := by
  unfold bs
  rw [ByteArray.data_extract, Array.toList_extract]
  simp
theorem ext_size {s : ByteArray} {n : Nat} (h : n ≤ s.size) : (s.extract 0 n).size = n := by
  rw [← bs_len, bs_ext h, List.length_take, bs_len, Nat.min_eq_left h]

def short (l : List UInt8) : Prop := l.length < 9 ∨ l.take 2 ≠ [83, 87]
def bad (l : List UInt8) : Prop := (2 ≤ l.length ∧ l.take 2 ≠ [83, 87]) ∨ (l.length = 1 ∧ l[0]? ≠ some 83)
def DOk (s : ByteArray) (R T : Int) (ps : List Pl) : Prop :=
  ¬ short (bs s) ∧ R = (gB (bs s) 2 1 : Int) ∧ T = (gB (bs s) 3 4 : Int) ∧ T ≤ 200000 ∧ ps.length = gB (bs s) 7 2 ∧ ps.length ≤ 32 ∧ 11 + 16 * ps.length ≤ s.size ∧ gB (bs s) (9 + 16 * ps.length) 2 = sumL ((bs s).take (9 + 16 * ps.length)) ∧
    ∀ (i : Nat) p, ps[i]? = some p → ∃ r, p = plAt (bs s) (9 + 16 * i) R T r ∧ rng r ∧ Fl.dblW r 0 = gB (bs s) (9 + 16 * i) 8 ∧ VP R T p
/-- What an error of Decode tells. -/
def DErr (s : ByteArray) (e : Int) : Prop :=
  (short (bs s) ∧ bad (bs s) ∧ e = 3) ∨ (short (bs s) ∧ ¬ bad (bs s) ∧ e = 8) ∨ (¬ short (bs s) ∧ (200000 < gB (bs s) 3 4 ∨ 32 < gB (bs s) 7 2) ∧ e = 3) ∨
  (¬ short (bs s) ∧ gB (bs s) 3 4 ≤ 200000 ∧ gB (bs s) 7 2 ≤ 32 ∧ s.size < 11 + 16 * gB (bs s) 7 2 ∧ e = 8) ∨
  (¬ short (bs s) ∧ gB (bs s) 3 4 ≤ 200000 ∧ gB (bs s) 7 2 ≤ 32 ∧ 11 + 16 * gB (bs s) 7 2 ≤ s.size ∧ gB (bs s) (9 + 16 * gB (bs s) 7 2) 2 ≠ sumL ((bs s).take (9 + 16 * gB (bs s) 7 2)) ∧ e = 13) ∨
  (¬ short (bs s) ∧ gB (bs s) 3 4 ≤ 200000 ∧ gB (bs s) 7 2 ≤ 32 ∧ 11 + 16 * gB (bs s) 7 2 ≤ s.size ∧ (∃ i, i < gB (bs s) 7 2 ∧ ∃ p V, cellsOf V = [V] ∧ ∀ H, pcall E 58 [.str s, .int .i64 ((9 + 16 * i : Nat) : Int), .agg [.int .i64 (gB (bs s) 2 1 : Int), .int .i64 (gB (bs s) 3 4 : Int), V]] H = some (.tup [.agg (Pl.c p), .bool false])) ∧ e = 3)
theorem fin_fr {n0 : Nat} {h : List Ob} {v : AV} {k : Nat} {cs : List AV} {n : Nat} {f : Fr} {R T m e : Int} (H : IsL n0 h v 6 true cs k) :
    fin n0 (.tup [.agg [.int .i64 R, .int .i64 T, v], .int .i64 m, .int .i64 e]) (stt n f h n0 n0) = (.tup [.agg [.int .i64 R, .int .i64 T, outV n0 6 k], .int .i64 m, .int .i64 e], h.take n0 ++ outO 6 k cs, n0, n0) := by
  rcases H with ⟨rfl, rfl, rfl⟩ | ⟨id, ep, rfl, h2, h3, h4⟩
  · simp only [fin, Nat.lt_irrefl, if_false, refs, refsL, true_or, if_true, List.append_nil, dd, pickObjs, ren, renL, outV, outO]
  · have h5 : ¬ id < n0 := by omega
    have h6 : ¬ (False ∨ id < n0) := by simp [h5]
    simp only [fin, Nat.lt_irrefl, if_false, refs, refsL, Bool.false_eq_true, if_neg h6, List.append_nil, List.nil_append, dd, List.contains_nil, pickObjs, h2, if_true, ren, renL, outV, outO, if_neg h4]
    simp [List.idxOf, h5]
theorem isl_shape {n0 : Nat} {h : List Ob} {v : AV} {sz k : Nat} {fl : Bool} {cs : List AV} (H : IsL n0 h v sz fl cs k) : cellsOf v = [v] ∧ v.isTup = false ∧ v.scalar = false := by
  rcases H with ⟨rfl, _, _⟩ | ⟨id, ep, rfl, _⟩ <;> exact ⟨rfl, rfl, rfl⟩
theorem dec_ex {s : ByteArray} (hs : s.size < 1125899906842624) (H : List Ob) :
    ∃ R T ps n e, ((e = 0 ∧ DOk s R T ps ∧ n = ((11 + 16 * ps.length : Nat) : Int)) ∨ (e ≠ 0 ∧ R = 0 ∧ T = 0 ∧ ps = [] ∧ n = 0 ∧ DErr s e)) ∧
      ecall E 21 [.str s] H = some (.tup [.agg [.int .i64 R, .int .i64 T, outV H.length 6 ps.length], .int .i64 n, .int .i64 e], H ++ outO 6 ps.length (flat Pl.c ps), H.length, H.length) := by
  suffices key : wc E H.length c21.nt c21.code (fun x f h' => exOk x = true ∧ ∃ R T v n e, rvq c21.nt f h' c21.res = some [.agg [.int .i64 R, .int .i64 T, v], .int .i64 n, .int .i64 e] ∧ ∃ ps, IsL H.length h' v 6 true (flat Pl.c ps) ps.length ∧
      ((e = 0 ∧ DOk s R T ps ∧ n = ((11 + 16 * ps.length : Nat) : Int)) ∨ (e ≠ 0 ∧ R = 0 ∧ T = 0 ∧ ps = [] ∧ n = 0 ∧ DErr s e))) (ofL [.str s]) H from by
    obtain ⟨x, f', h', k1, k2, ⟨k3, R, T, v, n, e, k4, ps, hI, hc⟩, k6⟩ := call_wc e21 rfl (Nat.le_of_ble_eq_true rfl) key
    exact ⟨R, T, ps, n, e, hc, by rw [k6 _ k3 k4, show mkRes [AV.agg [.int .i64 R, .int .i64 T, v], .int .i64 n, .int .i64 e] = .tup [.agg [.int .i64 R, .int .i64 T, v], .int .i64 n, .int .i64 e] from rfl, fin_fr hI, k2]⟩
  have hl := bs_len s
  have hb9 : decide ((s.size : Int) < 9) = decide (s.size < 9) := by simp; omega
  have sw : (⟨#[83, 87]⟩ : ByteArray).toList = [83, 87] := by rw [ByteArray.toList_eq]
  have h2 : 2 ≤ s.size → slsA none (some 2) (.str s) = some (.str (s.extract 0 2)) := fun h => slsA_to (n := 2) h
  have htl : 2 ≤ s.size → (s.extract 0 2).toList = (bs s).take 2 := fun h => by rw [ByteArray.toList_eq, ← bs_ext h]
  have sw0 : ixsA (.str ⟨#[83, 87]⟩) (.int .i64 0) = some (.int .u8 83) := rfl
  have ge2 : 2 ≤ s.size → decide ((2 : Int) ≤ (s.size : Int)) = true := fun h => decide_eq_true (by omega)
  have err : ∀ (e : Int), e ≠ 0 → DErr s e → ∀ h' : List Ob, ∃ ps : List Pl, IsL H.length h' (.sl true 0 0 0 0 0) 6 true (flat Pl.c ps) ps.length ∧ (((e = 0 ∧ DOk s 0 0 ps ∧ (0 : Int) = ((11 + 16 * ps.length : Nat) : Int)) ∨ (e ≠ 0 ∧ (0 : Int) = 0 ∧ (0 : Int) = 0 ∧ ps = [] ∧ (0 : Int) = 0 ∧ DErr s e))) := fun e he hd h' => ⟨[], IsL.nil, Or.inr ⟨he, rfl, rfl, rfl, rfl, hd⟩⟩
  by_cases cA : short (bs s)
  · by_cases c9 : s.size < 9
    · have b9 : decide ((s.size : Int) < 9) = true := decide_eq_true (by omega)
      by_cases c2 : 2 ≤ s.size
      · by_cases cq : (bs s).take 2 = [83, 87]
        · have bq : ((bs s).take 2 == [83, 87]) = true := by rw [cq]; rfl
          have b1 : ((s.size : Int) == 1) = false := by rw [beq_eq_false_iff_ne]; omega
          simp (config := {maxSteps := 4000000}) only [b9, ge2 c2, h2 c2, htl c2, sw, bq, b1, c21, kq_sls', vq_sls', SS, bne_self_eq_false, wr_def, obOf, List.all_cons, List.all_nil, List.map_cons, List.map_nil, List.length_cons, List.length_nil, List.take_zero, List.take_succ_cons, List.take_nil, List.drop_zero, List.drop_succ_cons, List.drop_nil, Nat.reduceAdd, Nat.reduceMul, Nat.reduceSub, if_true, Nat.reduceLT, Nat.reduceLeDiff, ite_true, ite_false, Nat.reduceEqDiff, if_false, reduceCtorEq, ne_eq, List.getD, List.getElem?_cons_zero, List.getElem?_cons_succ, Option.getD_some, Option.bind_some, Option.map_some, Option.isSome_some, reduceIte, List.length_append, List.append_assoc, List.cons_append, List.nil_append, Option.some.injEq, forall_const, implies_true, Int.reduceNeg, eq_self, Prod.mk.injEq, List.self_eq_append_right, List.append_nil, exists_eq_left, exists_eq_left', exists_and_left, exists_eq_right, exists_and_right]
          exact ⟨0, 0, _, 0, 8, rfl, err 8 (by decide) (Or.inr (Or.inl ⟨cA, fun h => h.elim (fun h => h.2 cq) (fun h => by have := h.1; omega), rfl⟩)) _⟩
        · have bq : ((bs s).take 2 == [83, 87]) = false := by rw [beq_eq_false_iff_ne]; exact cq
          simp (config := {maxSteps := 4000000}) only [b9, ge2 c2, h2 c2, htl c2, sw, bq, c21, kq_sls', vq_sls', SS, bne_self_eq_false, wr_def, obOf, List.all_cons, List.all_nil, List.map_cons, List.map_nil, List.length_cons, List.length_nil, List.take_zero, List.take_succ_cons, List.take_nil, List.drop_zero, List.drop_succ_cons, List.drop_nil, Nat.reduceAdd, Nat.reduceMul, Nat.reduceSub, if_true, Nat.reduceLT, Nat.reduceLeDiff, ite_true, ite_false, Nat.reduceEqDiff, if_false, reduceCtorEq, ne_eq, List.getD, List.getElem?_cons_zero, List.getElem?_cons_succ, Option.getD_some, Option.bind_some, Option.map_some, Option.isSome_some, reduceIte, List.length_append, List.append_assoc, List.cons_append, List.nil_append, Option.some.injEq, forall_const, implies_true, Int.reduceNeg, eq_self, Prod.mk.injEq, List.self_eq_append_right, List.append_nil, exists_eq_left, exists_eq_left', exists_and_left, exists_eq_right, exists_and_right]
          exact ⟨0, 0, _, 0, 3, rfl, err 3 (by decide) (Or.inl ⟨cA, Or.inl ⟨by omega, cq⟩, rfl⟩) _⟩
      · have bg : decide ((2 : Int) ≤ (s.size : Int)) = false := decide_eq_false (by omega)
        by_cases c1 : s.size = 1
        · have b1 : ((s.size : Int) == 1) = true := by rw [c1]; rfl
          obtain ⟨x, hx⟩ : ∃ x, (bs s)[0]? = some x := ⟨_, List.getElem?_eq_getElem (by omega)⟩
          have hix : ixsA (.str s) (.int .i64 0) = some (.int .u8 x.toNat) := ixsA_i (i := 0) (by rw [bs_get (by omega)]; exact hx)
          by_cases cx : x = 83
          · have bx : ((x.toNat : Int) != 83) = false := by rw [cx]; rfl
            simp (config := {maxSteps := 4000000}) only [b9, bg, b1, hix, sw0, bx, kq_ixs, vq_ixs, c21, kq_sls', vq_sls', SS, bne_self_eq_false, wr_def, obOf, List.all_cons, List.all_nil, List.map_cons, List.map_nil, List.length_cons, List.length_nil, List.take_zero, List.take_succ_cons, List.take_nil, List.drop_zero, List.drop_succ_cons, List.drop_nil, Nat.reduceAdd, Nat.reduceMul, Nat.reduceSub, if_true, Nat.reduceLT, Nat.reduceLeDiff, ite_true, ite_false, Nat.reduceEqDiff, if_false, reduceCtorEq, ne_eq, List.getD, List.getElem?_cons_zero, List.getElem?_cons_succ, Option.getD_some, Option.bind_some, Option.map_some, Option.isSome_some, reduceIte, List.length_append, List.append_assoc, List.cons_append, List.nil_append, Option.some.injEq, forall_const, implies_true, Int.reduceNeg, eq_self, Prod.mk.injEq, List.self_eq_append_right, List.append_nil, exists_eq_left, exists_eq_left', exists_and_left, exists_eq_right, exists_and_right]
            exact ⟨0, 0, _, 0, 8, rfl, err 8 (by decide) (Or.inr (Or.inl ⟨cA, fun h => h.elim (fun h => by have := h.1; omega) (fun h => h.2 (by rw [hx, cx])), rfl⟩)) _⟩
          · have bx : ((x.toNat : Int) != 83) = true := by
              rw [bne_iff_ne]
              intro h
              exact cx (UInt8.toNat_inj.1 (by have : (83 : UInt8).toNat = 83 := rfl; omega))
            simp (config := {maxSteps := 4000000}) only [b9, bg, b1, hix, sw0, bx, kq_ixs, vq_ixs, c21, kq_sls', vq_sls', SS, bne_self_eq_false, wr_def, obOf, List.all_cons, List.all_nil, List.map_cons, List.map_nil, List.length_cons, List.length_nil, List.take_zero, List.take_succ_cons, List.take_nil, List.drop_zero, List.drop_succ_cons, List.drop_nil, Nat.reduceAdd, Nat.reduceMul, Nat.reduceSub, if_true, Nat.reduceLT, Nat.reduceLeDiff, ite_true, ite_false, Nat.reduceEqDiff, if_false, reduceCtorEq, ne_eq, List.getD, List.getElem?_cons_zero, List.getElem?_cons_succ, Option.getD_some, Option.bind_some, Option.map_some, Option.isSome_some, reduceIte, List.length_append, List.append_assoc, List.cons_append, List.nil_append, Option.some.injEq, forall_const, implies_true, Int.reduceNeg, eq_self, Prod.mk.injEq, List.self_eq_append_right, List.append_nil, exists_eq_left, exists_eq_left', exists_and_left, exists_eq_right, exists_and_right]
            exact ⟨0, 0, _, 0, 3, rfl, err 3 (by decide) (Or.inl ⟨cA, Or.inr ⟨by omega, fun h => cx (by rw [hx] at h; simpa using h)⟩, rfl⟩) _⟩
        · have b1 : ((s.size : Int) == 1) = false := by rw [beq_eq_false_iff_ne]; omega
          simp (config := {maxSteps := 4000000}) only [b9, bg, b1, c21, kq_sls', vq_sls', SS, bne_self_eq_false, wr_def, obOf, List.all_cons, List.all_nil, List.map_cons, List.map_nil, List.length_cons, List.length_nil, List.take_zero, List.take_succ_cons, List.take_nil, List.drop_zero, List.drop_succ_cons, List.drop_nil, Nat.reduceAdd, Nat.reduceMul, Nat.reduceSub, if_true, Nat.reduceLT, Nat.reduceLeDiff, ite_true, ite_false, Nat.reduceEqDiff, if_false, reduceCtorEq, ne_eq, List.getD, List.getElem?_cons_zero, List.getElem?_cons_succ, Option.getD_some, Option.bind_some, Option.map_some, Option.isSome_some, reduceIte, List.length_append, List.append_assoc, List.cons_append, List.nil_append, Option.some.injEq, forall_const, implies_true, Int.reduceNeg, eq_self, Prod.mk.injEq, List.self_eq_append_right, List.append_nil, exists_eq_left, exists_eq_left', exists_and_left, exists_eq_right, exists_and_right]
          exact ⟨0, 0, _, 0, 8, rfl, err 8 (by decide) (Or.inr (Or.inl ⟨cA, fun h => h.elim (fun h => by have := h.1; omega) (fun h => by have := h.1; omega), rfl⟩)) _⟩
    · have b9 : decide ((s.size : Int) < 9) = false := decide_eq_false (by omega)
      have cq : (bs s).take 2 ≠ [83, 87] := cA.elim (fun h => by omega) id
      have bq : ((bs s).take 2 == [83, 87]) = false := by rw [beq_eq_false_iff_ne]; exact cq
      have c2 : 2 ≤ s.size := by omega
      simp (config := {maxSteps := 4000000}) only [b9, ge2 c2, h2 c2, htl c2, sw, bq, c21, kq_sls', vq_sls', SS, bne_self_eq_false, wr_def, obOf, List.all_cons, List.all_nil, List.map_cons, List.map_nil, List.length_cons, List.length_nil, List.take_zero, List.take_succ_cons, List.take_nil, List.drop_zero, List.drop_succ_cons, List.drop_nil, Nat.reduceAdd, Nat.reduceMul, Nat.reduceSub, if_true, Nat.reduceLT, Nat.reduceLeDiff, ite_true, ite_false, Nat.reduceEqDiff, if_false, reduceCtorEq, ne_eq, List.getD, List.getElem?_cons_zero, List.getElem?_cons_succ, Option.getD_some, Option.bind_some, Option.map_some, Option.isSome_some, reduceIte, List.length_append, List.append_assoc, List.cons_append, List.nil_append, Option.some.injEq, forall_const, implies_true, Int.reduceNeg, eq_self, Prod.mk.injEq, List.self_eq_append_right, List.append_nil, exists_eq_left, exists_eq_left', exists_and_left, exists_eq_right, exists_and_right]
      exact ⟨0, 0, _, 0, 3, rfl, err 3 (by decide) (Or.inl ⟨cA, Or.inl ⟨by omega, cq⟩, rfl⟩) _⟩
  · have c9 : 9 ≤ s.size := by
      rcases Nat.lt_or_ge s.size 9 with h | h
      · exact absurd (Or.inl (by omega)) cA
      · exact h
    have cq : (bs s).take 2 = [83, 87] := Classical.byContradiction fun h => cA (Or.inr h)
    have bq : ((bs s).take 2 == [83, 87]) = true := by rw [cq]; rfl
    have b9 : decide ((s.size : Int) < 9) = false := decide_eq_false (by omega)
    have c2 : 2 ≤ s.size := by omega
    have g1 : ∀ H, pcall E 56 [.str s, .int .i64 2, .int .i64 1] H = some (.int .u64 (gB (bs s) 2 1 : Int)) := fun H => get_pc (a := 2) (k := 1) hs (by omega) (by decide) H
    have g2 : ∀ H, pcall E 56 [.str s, .int .i64 3, .int .i64 4] H = some (.int .u64 (gB (bs s) 3 4 : Int)) := fun H => get_pc (a := 3) (k := 4) hs (by omega) (by decide) H
    have g3 : ∀ H, pcall E 56 [.str s, .int .i64 7, .int .i64 2] H = some (.int .u64 (gB (bs s) 7 2 : Int)) := fun H => get_pc (a := 7) (k := 2) hs (by omega) (by decide) H
    have l1 := gB1 (bs s) 2
    have l2 := gB4 (bs s) 3
    have l3 := gB2 (bs s) 7
    have v1 : cviA .i64 (.int .u64 (gB (bs s) 2 1 : Int)) = some (.int .i64 (gB (bs s) 2 1 : Int)) := by rw [cviA_i, wrap64 (by omega) (by omega)]
    have v2 : cviA .i64 (.int .u64 (gB (bs s) 3 4 : Int)) = some (.int .i64 (gB (bs s) 3 4 : Int)) := by rw [cviA_i, wrap64 (by omega) (by omega)]
    have v3 : cviA .i64 (.int .u64 (gB (bs s) 7 2 : Int)) = some (.int .i64 (gB (bs s) 7 2 : Int)) := by rw [cviA_i, wrap64 (by omega) (by omega)]
    generalize hT : gB (bs s) 3 4 = T at *
    generalize hR : gB (bs s) 2 1 = R at *
    generalize hM : gB (bs s) 7 2 = M at *
    by_cases cT : 200000 < T
    · have bT : decide ((200000 : Int) < (T : Int)) = true := decide_eq_true (by omega)
      simp (config := {maxSteps := 4000000}) only [b9, h2 c2, htl c2, sw, bq, g1, g2, g3, v1, v2, v3, bT, c21, kq_sls', vq_sls', SS, bne_self_eq_false, wr_def, obOf, List.all_cons, List.all_nil, List.map_cons, List.map_nil, List.length_cons, List.length_nil, List.take_zero, List.take_succ_cons, List.take_nil, List.drop_zero, List.drop_succ_cons, List.drop_nil, Nat.reduceAdd, Nat.reduceMul, Nat.reduceSub, if_true, Nat.reduceLT, Nat.reduceLeDiff, ite_true, ite_false, Nat.reduceEqDiff, if_false, reduceCtorEq, ne_eq, List.getD, List.getElem?_cons_zero, List.getElem?_cons_succ, Option.getD_some, Option.bind_some, Option.map_some, Option.isSome_some, reduceIte, List.length_append, List.append_assoc, List.cons_append, List.nil_append, Option.some.injEq, forall_const, implies_true, Int.reduceNeg, eq_self, Prod.mk.injEq, List.self_eq_append_right, List.append_nil, exists_eq_left, exists_eq_left', exists_and_left, exists_eq_right, exists_and_right]
      exact ⟨0, 0, _, 0, 3, rfl, err 3 (by decide) (Or.inr (Or.inr (Or.inl ⟨cA, by rw [hT]; exact Or.inl cT, rfl⟩))) _⟩
    have bT : decide ((200000 : Int) < (T : Int)) = false := decide_eq_false (by omega)
    by_cases cM : 32 < M
    · have bM : decide ((32 : Int) < (M : Int)) = true := decide_eq_true (by omega)
      simp (config := {maxSteps := 4000000}) only [b9, h2 c2, htl c2, sw, bq, g1, g2, g3, v1, v2, v3, bT, bM, c21, kq_sls', vq_sls', SS, bne_self_eq_false, wr_def, obOf, List.all_cons, List.all_nil, List.map_cons, List.map_nil, List.length_cons, List.length_nil, List.take_zero, List.take_succ_cons, List.take_nil, List.drop_zero, List.drop_succ_cons, List.drop_nil, Nat.reduceAdd, Nat.reduceMul, Nat.reduceSub, if_true, Nat.reduceLT, Nat.reduceLeDiff, ite_true, ite_false, Nat.reduceEqDiff, if_false, reduceCtorEq, ne_eq, List.getD, List.getElem?_cons_zero, List.getElem?_cons_succ, Option.getD_some, Option.bind_some, Option.map_some, Option.isSome_some, reduceIte, List.length_append, List.append_assoc, List.cons_append, List.nil_append, Option.some.injEq, forall_const, implies_true, Int.reduceNeg, eq_self, Prod.mk.injEq, List.self_eq_append_right, List.append_nil, exists_eq_left, exists_eq_left', exists_and_left, exists_eq_right, exists_and_right]
      exact ⟨0, 0, _, 0, 3, rfl, err 3 (by decide) (Or.inr (Or.inr (Or.inl ⟨cA, by rw [hM]; exact Or.inr cM, rfl⟩))) _⟩
    have bM : decide ((32 : Int) < (M : Int)) = false := decide_eq_false (by omega)
    have w1 : IntKind.i64.wrap ((M : Int) * 16) = ((16 * M : Nat) : Int) := by rw [wrap64 (by omega) (by omega)]; omega
    have w2 : IntKind.i64.wrap (9 + ((16 * M : Nat) : Int)) = ((9 + 16 * M : Nat) : Int) := by rw [wrap64 (by omega) (by omega)]; omega
    have w3 : IntKind.i64.wrap (((9 + 16 * M : Nat) : Int) + 2) = ((11 + 16 * M : Nat) : Int) := by rw [wrap64 (by omega) (by omega)]; omega
    by_cases cL : s.size < 11 + 16 * M
    · have bL : decide ((s.size : Int) < ((11 + 16 * M : Nat) : Int)) = true := decide_eq_true (by omega)
      simp (config := {maxSteps := 4000000}) only [b9, h2 c2, htl c2, sw, bq, g1, g2, g3, v1, v2, v3, bT, bM, w1, w2, w3, bL, c21, kq_sls', vq_sls', SS, bne_self_eq_false, wr_def, obOf, List.all_cons, List.all_nil, List.map_cons, List.map_nil, List.length_cons, List.length_nil, List.take_zero, List.take_succ_cons, List.take_nil, List.drop_zero, List.drop_succ_cons, List.drop_nil, Nat.reduceAdd, Nat.reduceMul, Nat.reduceSub, if_true, Nat.reduceLT, Nat.reduceLeDiff, ite_true, ite_false, Nat.reduceEqDiff, if_false, reduceCtorEq, ne_eq, List.getD, List.getElem?_cons_zero, List.getElem?_cons_succ, Option.getD_some, Option.bind_some, Option.map_some, Option.isSome_some, reduceIte, List.length_append, List.append_assoc, List.cons_append, List.nil_append, Option.some.injEq, forall_const, implies_true, Int.reduceNeg, eq_self, Prod.mk.injEq, List.self_eq_append_right, List.append_nil, exists_eq_left, exists_eq_left', exists_and_left, exists_eq_right, exists_and_right]
      exact ⟨0, 0, _, 0, 8, rfl, err 8 (by decide) (Or.inr (Or.inr (Or.inr (Or.inl ⟨cA, by rw [hT]; omega, by rw [hM]; omega, by rw [hM]; exact cL, rfl⟩)))) _⟩
    have bL : decide ((s.size : Int) < ((11 + 16 * M : Nat) : Int)) = false := decide_eq_false (by omega)
    have g4 : ∀ H, pcall E 56 [.str s, .int .i64 ((9 + 16 * M : Nat) : Int), .int .i64 2] H = some (.int .u64 (gB (bs s) (9 + 16 * M) 2 : Int)) := fun H => get_pc (a := 9 + 16 * M) (k := 2) hs (by omega) (by decide) H
    have l4 := gB2 (bs s) (9 + 16 * M)
    have v4 : cviA .i64 (.int .u64 (gB (bs s) (9 + 16 * M) 2 : Int)) = some (.int .i64 (gB (bs s) (9 + 16 * M) 2 : Int)) := by rw [cviA_i, wrap64 (by omega) (by omega)]
    have hsl := slsA_to (s := s) (n := 9 + 16 * M) (by omega)
    have hsm := fun H => sum_pc (s := s.extract 0 (9 + 16 * M)) (by rw [ext_size (by omega)]; omega) H
    rw [bs_ext (by omega)] at hsm
    by_cases cS : gB (bs s) (9 + 16 * M) 2 = sumL ((bs s).take (9 + 16 * M))
    rotate_left
    · have bS : ((gB (bs s) (9 + 16 * M) 2 : Int) != (sumL ((bs s).take (9 + 16 * M)) : Int)) = true := by rw [bne_iff_ne]; omega
      simp (config := {maxSteps := 4000000}) only [b9, h2 c2, htl c2, sw, bq, g1, g2, g3, v1, v2, v3, bT, bM, w1, w2, w3, bL, g4, v4, hsl, hsm, bS, c21, kq_sls', vq_sls', SS, bne_self_eq_false, wr_def, obOf, List.all_cons, List.all_nil, List.map_cons, List.map_nil, List.length_cons, List.length_nil, List.take_zero, List.take_succ_cons, List.take_nil, List.drop_zero, List.drop_succ_cons, List.drop_nil, Nat.reduceAdd, Nat.reduceMul, Nat.reduceSub, if_true, Nat.reduceLT, Nat.reduceLeDiff, ite_true, ite_false, Nat.reduceEqDiff, if_false, reduceCtorEq, ne_eq, List.getD, List.getElem?_cons_zero, List.getElem?_cons_succ, Option.getD_some, Option.bind_some, Option.map_some, Option.isSome_some, reduceIte, List.length_append, List.append_assoc, List.cons_append, List.nil_append, Option.some.injEq, forall_const, implies_true, Int.reduceNeg, eq_self, Prod.mk.injEq, List.self_eq_append_right, List.append_nil, exists_eq_left, exists_eq_left', exists_and_left, exists_eq_right, exists_and_right]
      exact ⟨0, 0, _, 0, 13, rfl, err 13 (by decide) (Or.inr (Or.inr (Or.inr (Or.inr (Or.inl ⟨cA, by rw [hT]; omega, by rw [hM]; omega, by rw [hM]; omega, by rw [hM]; exact cS, rfl⟩))))) _⟩
    have bS : ((gB (bs s) (9 + 16 * M) 2 : Int) != (sumL ((bs s).take (9 + 16 * M)) : Int)) = false := by rw [cS]; simp
    simp (config := {maxSteps := 4000000}) only [b9, h2 c2, htl c2, sw, bq, g1, g2, g3, v1, v2, v3, bT, bM, w1, w2, w3, bL, g4, v4, hsl, hsm, bS, c21, kq_sls', vq_sls', SS, bne_self_eq_false, wr_def, obOf, List.all_cons, List.all_nil, List.map_cons, List.map_nil, List.length_cons, List.length_nil, List.take_zero, List.take_succ_cons, List.take_nil, List.drop_zero, List.drop_succ_cons, List.drop_nil, Nat.reduceAdd, Nat.reduceMul, Nat.reduceSub, if_true, Nat.reduceLT, Nat.reduceLeDiff, ite_true, ite_false, Nat.reduceEqDiff, if_false, reduceCtorEq, ne_eq, List.getD, List.getElem?_cons_zero, List.getElem?_cons_succ, Option.getD_some, Option.bind_some, Option.map_some, Option.isSome_some, reduceIte, List.length_append, List.append_assoc, List.cons_append, List.nil_append, Option.some.injEq, forall_const, implies_true, Int.reduceNeg, eq_self, Prod.mk.injEq, List.self_eq_append_right, List.append_nil, exists_eq_left, exists_eq_left', exists_and_left, exists_eq_right, exists_and_right]
    refine W_loop (fun q f1 h1 => ∃ i : Nat, q = M - i ∧ i ≤ M ∧ f1 0 = .str s ∧ f1 2 = .ptr H.length 0 0 ∧ f1 5 = .ptr (H.length + 1) 0 0 ∧ f1 7 = .int .i64 ((9 + 16 * M : Nat) : Int) ∧ f1 77 = .int .i64 (M : Int) ∧ f1 78 = .int .i64 (i : Int) ∧ (∃ fl, rdObj h1 H.length 0 = some ⟨[.int .i64 0, .int .i64 0, .sl true 0 0 0 0 0], 0, 0, true, fl⟩) ∧ ∃ v ps, (∃ fl, rdObj h1 (H.length + 1) 0 = some ⟨[.int .i64 (R : Int), .int .i64 (T : Int), v], 0, 0, true, fl⟩) ∧ ps.length = i ∧ IsL H.length h1 v 6 true (flat Pl.c ps) i ∧ (∀ id, idOf v id → H.length + 2 ≤ id) ∧
      ∀ (j : Nat) p, ps[j]? = some p → ∃ r, p = plAt (bs s) (9 + 16 * j) (R : Int) (T : Int) r ∧ rng r ∧ Fl.dblW r 0 = gB (bs s) (9 + 16 * j) 8 ∧ VP (R : Int) (T : Int) p) (by simp) M ?_ ?_
    · exact ⟨0, rfl, by omega, rfl, rfl, rfl, rfl, rfl, rfl, ⟨_, by simp [rdObj]; rfl⟩, _, [], ⟨_, by simp [rdObj]; rfl⟩, rfl, IsL.nil, fun id hid => absurd hid idOf_nil, fun j p hp => by simp at hp⟩
    rintro q f1 h1 hn1 ht ⟨i, rfl, hi, e0, e2, e5, e7, e77, e78, ⟨fl1, r1⟩, v, ps, ⟨fl2, r2⟩, hpl, hI, hid, hgood⟩
    have hH1 : h1.take H.length = H := by rw [ht]; simp
    have hH := take_eq hH1
    generalize h1.drop H.length = z at hH
    subst hH
    have r1' : ∀ y, rdObj (H ++ (z ++ y)) H.length 0 = _ := fun y => rd_keep2 r1
    have r2' : ∀ y, rdObj (H ++ (z ++ y)) (H.length + 1) 0 = _ := fun y => rd_keep2 r2
    obtain ⟨sh1, sh2, sh3⟩ := isl_shape hI
    have r0z : rdObj z 0 0 = some ⟨[.int .i64 0, .int .i64 0, .sl true 0 0 0 0 0], 0, 0, true, fl1⟩ := by
      have := r1
      unfold rdObj at this ⊢
      rwa [List.getElem?_append_right (Nat.le_refl _), Nat.sub_self] at this
    by_cases hiM : i < M
    · have hc : decide ((i : Int) < (M : Int)) = true := decide_eq_true (by omega)
      have u1 : IntKind.i64.wrap ((i : Int) + 1) = ((i + 1 : Nat) : Int) := by rw [wrap64 (by omega) (by omega)]; omega
      have u2 : IntKind.i64.wrap ((i : Int) * 16) = ((16 * i : Nat) : Int) := by rw [wrap64 (by omega) (by omega)]; omega
      have u3 : IntKind.i64.wrap (9 + ((16 * i : Nat) : Int)) = ((9 + 16 * i : Nat) : Int) := by rw [wrap64 (by omega) (by omega)]; omega
      obtain ⟨r, x, e, ok, hr, htf, hok, hpl2⟩ := plot_ex hs (a := 9 + 16 * i) (by omega) (R : Int) (T : Int) sh1
      have hpl3 := hpl2
      cases ok
      · simp only [Pl.c] at hpl2
        simp (config := {maxSteps := 4000000}) only [e0, e2, e5, e7, e77, e78, hc, u1, u2, u3, r1, r2, r1', r2', hpl2, hn1, c21, kq_sls', vq_sls', SS, bne_self_eq_false, wr_def, obOf, List.all_cons, List.all_nil, List.map_cons, List.map_nil, List.length_cons, List.length_nil, List.take_zero, List.take_succ_cons, List.take_nil, List.drop_zero, List.drop_succ_cons, List.drop_nil, Nat.reduceAdd, Nat.reduceMul, Nat.reduceSub, if_true, Nat.reduceLT, Nat.reduceLeDiff, ite_true, ite_false, Nat.reduceEqDiff, if_false, reduceCtorEq, ne_eq, List.getD, List.getElem?_cons_zero, List.getElem?_cons_succ, Option.getD_some, Option.bind_some, Option.map_some, Option.isSome_some, reduceIte, List.length_append, List.append_assoc, List.cons_append, List.nil_append, Option.some.injEq, forall_const, implies_true, Int.reduceNeg, eq_self, Prod.mk.injEq, List.self_eq_append_right, List.append_nil, exists_eq_left, exists_eq_left', exists_and_left, exists_eq_right, exists_and_right]
        refine ⟨0, 0, .sl true 0 0 0 0 0, 0, 3, ?_, err 3 (by decide) (Or.inr (Or.inr (Or.inr (Or.inr (Or.inr ⟨cA, by rw [hT]; omega, by rw [hM]; omega, by rw [hM]; omega, ⟨i, by rw [hM]; exact hiM, _, v, sh1, by rw [hR, hT]; exact hpl3⟩, rfl⟩))))) _⟩
        rw [rd_put_same (rd_keep r0z)]
        simp [wr]
      · obtain ⟨-, -, g5, g6⟩ := hok.1 rfl
        generalize hp : plAt (bs s) (9 + 16 * i) (R : Int) (T : Int) r = p at *
        simp only [Pl.c] at hpl2
        simp (config := {maxSteps := 4000000}) only [e0, e2, e5, e7, e77, e78, hc, u1, u2, u3, r1, r2, r1', r2', hpl2, hn1, c21, kq_sls', vq_sls', SS, bne_self_eq_false, wr_def, obOf, List.all_cons, List.all_nil, List.map_cons, List.map_nil, List.length_cons, List.length_nil, List.take_zero, List.take_succ_cons, List.take_nil, List.drop_zero, List.drop_succ_cons, List.drop_nil, Nat.reduceAdd, Nat.reduceMul, Nat.reduceSub, if_true, Nat.reduceLT, Nat.reduceLeDiff, ite_true, ite_false, Nat.reduceEqDiff, if_false, reduceCtorEq, ne_eq, List.getD, List.getElem?_cons_zero, List.getElem?_cons_succ, Option.getD_some, Option.bind_some, Option.map_some, Option.isSome_some, reduceIte, List.length_append, List.append_assoc, List.cons_append, List.nil_append, Option.some.injEq, forall_const, implies_true, Int.reduceNeg, eq_self, Prod.mk.injEq, List.self_eq_append_right, List.append_nil, exists_eq_left, exists_eq_left', exists_and_left, exists_eq_right, exists_and_right]
        have hre : rdObj (H ++ (z ++ [(⟨p.c, 0, 0, true, true⟩ : Ob), ⟨p.c, 0, 6, true, true⟩])) (H.length + (z.length + 1)) 0 = some ⟨p.c, 0, 6, true, true⟩ := by
          unfold rdObj
          rw [List.getElem?_append_right (by omega), Nat.add_sub_cancel_left, List.getElem?_append_right (by omega), Nat.add_sub_cancel_left]
          rfl
        refine appK_at (c := p.c) (rw' := true) (fl' := true) (hI.keep2 _) hre (by rw [flat_len (k := 6) (fun x => rfl), hpl]) rfl (by unfold appLim; omega) (by simp) (fun v' h' hv' hfr hlen' hidv => ?_)
        have r2h : rdObj h' (H.length + 1) 0 = some ⟨[.int .i64 (R : Int), .int .i64 (T : Int), v], 0, 0, true, fl2⟩ := hfr _ _ _ (r2' _) (fun h => by have := hid _ h; omega)
        have r1h : rdObj h' H.length 0 = some ⟨[.int .i64 0, .int .i64 0, .sl true 0 0 0 0 0], 0, 0, true, fl1⟩ := hfr _ _ _ (r1' _) (fun h => by have := hid _ h; omega)
        obtain ⟨c1, c2', c3⟩ := isl_shape hv'
        have hid2 : ∀ id, idOf v' id → H.length + 2 ≤ id := fun id h => by
          rcases hidv with h9 | h9
          · have := idOf_inj h9 h
            have hz := rd_lt r2
            simp at this hz
            omega
          · exact hid id (h9 id h)
        simp (config := {maxSteps := 4000000}) only [r2h, c1, c2', List.length_cons, List.length_nil]
        refine ⟨⟨by first | trivial | rfl, by first | trivial | decide, by first | trivial | rfl, by first | trivial | rfl⟩, _, by omega, i + 1, rfl, by omega, rfl, ⟨fl1, by rw [rd_put_ne (by omega)]; exact r1h⟩, v', ⟨_, by rw [rd_put_same r2h]; simp [wr]; rfl⟩, ps ++ [p], by simp [hpl], ?_, hid2, fun j q hj => ?_⟩
        · have h8 : IsL H.length h' v' 6 true (flat Pl.c (ps ++ [p])) (i + 1) := by
            have : flat Pl.c (ps ++ [p]) = flat Pl.c ps ++ p.c := by simp [flat]
            rw [this]
            simpa using hv'
          exact h8.mono fun id ep ob hidd ho => by rw [rd_put_ne (by have := hid2 id hidd; omega)]; exact ho
        · by_cases hji : j < i
          · rw [List.getElem?_append_left (by omega)] at hj
            exact hgood j q hj
          · have hjE : j = i := by
              have := (List.getElem?_eq_some_iff.1 hj).1
              simp [hpl] at this; omega
            subst hjE
            rw [List.getElem?_append_right (by omega), hpl, Nat.sub_self] at hj
            simp only [List.getElem?_cons_zero, Option.some.injEq] at hj
            subst hj
            exact ⟨r, hp.symm, hr, g5, by rw [← hp]; rw [hp]; exact g6⟩
    · have hc : decide ((i : Int) < (M : Int)) = false := decide_eq_false (by omega)
      have hiE : i = M := by omega
      subst hiE
      simp (config := {maxSteps := 4000000}) only [e0, e2, e5, e7, e77, e78, hc, w3, r1, r2, c21, kq_sls', vq_sls', SS, bne_self_eq_false, wr_def, obOf, List.all_cons, List.all_nil, List.map_cons, List.map_nil, List.length_cons, List.length_nil, List.take_zero, List.take_succ_cons, List.take_nil, List.drop_zero, List.drop_succ_cons, List.drop_nil, Nat.reduceAdd, Nat.reduceMul, Nat.reduceSub, if_true, Nat.reduceLT, Nat.reduceLeDiff, ite_true, ite_false, Nat.reduceEqDiff, if_false, reduceCtorEq, ne_eq, List.getD, List.getElem?_cons_zero, List.getElem?_cons_succ, Option.getD_some, Option.bind_some, Option.map_some, Option.isSome_some, reduceIte, List.length_append, List.append_assoc, List.cons_append, List.nil_append, Option.some.injEq, forall_const, implies_true, Int.reduceNeg, eq_self, Prod.mk.injEq, List.self_eq_append_right, List.append_nil, exists_eq_left, exists_eq_left', exists_and_left, exists_eq_right, exists_and_right]
      refine ⟨(R : Int), (T : Int), v, _, 0, ?_, ps, ?_, Or.inl ⟨rfl, ⟨cA, by rw [hR], by rw [hT], by omega, by rw [hpl, hM], by omega, by rw [hpl]; omega, by rw [hpl]; exact cS, hgood⟩, rfl⟩⟩
      · rw [rd_put_same r0z, hpl]
        simp [wr]
      · rw [← put_new0, hpl]
        exact hI.mono fun id ep ob hidd ho => by rw [rd_put_ne (by have := hid id hidd; omega)]; exact ho
end Go.Proofs.Ytaekgifbehoipaa.Wr
