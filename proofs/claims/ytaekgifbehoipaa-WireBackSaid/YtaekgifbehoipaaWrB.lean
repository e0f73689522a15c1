/- put of the package wire: a slice of bytes that grows in its caller's object. Conditions stand in each lemma. -/
import Derived.Test.YtaekgifbehoipaaWrA
namespace Go.Proofs.Ytaekgifbehoipaa.Wr
open Go Go.Proofs.Ytaekgifbehoipaa.Eva Go.Proofs.Ytaekgifbehoipaa.CodeAll
set_option linter.unusedVariables false
set_option linter.unusedSimpArgs false
set_option maxRecDepth 10000
set_option maxHeartbeats 4000000

def gU (x : UInt8) : AV := .int .u8 x.toNat
instance : Sc gU := ⟨fun _ => rfl⟩
theorem gU_c (x : UInt8) : cellsOf (gU x) = [gU x] := rfl
theorem gU_t (x : UInt8) : (gU x).isTup = false := rfl
theorem gU_s (x : UInt8) : (gU x).scalar = true := rfl
/-- The bytes of a number, the greatest first. -/
def pB (n : Nat) : Nat → List UInt8
  | 0 => []
  | k + 1 => UInt8.ofNat (n / 256 ^ k) :: pB n k
theorem pB_len (n : Nat) : ∀ k, (pB n k).length = k
  | 0 => rfl
  | k + 1 => by simp [pB, pB_len n k]
/-- A call that writes into objects from n0 on, of the caller too, and returns the address of one of those. -/
theorem call_mutB {E : Nat → Option CF} {g n0 : Nat} {cf : CF} {P : AV → List Ob → Prop} (hE : E g = some cf) {args : List AV} (hn : args.length = cf.np) (hnt : args.length ≤ cf.nt) {h : List Ob} (h0 : n0 ≤ h.length)
    (hw : wc E n0 cf.nt cf.code (fun e f h' => exOk e = true ∧ h.length ≤ h'.length ∧ ∃ v, (rvq cf.nt f h' cf.res).map mkRes = some v ∧ refs h.length v = [] ∧ (∀ σ, ren h.length σ v = v) ∧ P v h') (ofL args) h) :
    ∃ v h' h2 wl wa, ecall E g args h = some (v, h2, wl, wa) ∧ n0 ≤ wl ∧ n0 ≤ wa ∧ h2.take n0 = h.take n0 ∧ h.length ≤ h2.length ∧ h2.take h.length = h'.take h.length ∧ P v h' := by
  obtain ⟨e, f', h', k1, k2, k3, k4, k6, v, k5, r1, r2, k7⟩ := wc_sound _ _ _ _ h0 hw
  obtain ⟨s2, m1, m2, m3, m4, m5⟩ := ecode_w (s1 := stt cf.nt (ofL args) h n0 n0) (s2 := stt cf.nt (ofL args) h h.length h.length) ⟨rfl, rfl, h0, h0⟩ k1
  obtain ⟨ts2, hh2, wl2, wa2⟩ := s2
  simp only [stt] at m2 m3 m4 m5
  subst m2; subst m3
  obtain ⟨vs, hv, rfl⟩ := Option.map_eq_some_iff.1 k5
  have hr : rvs ⟨mkE cf.nt f', hh2, wl2, wa2⟩ cf.res = some vs := by
    rw [rvs_w (wl' := n0) (wa' := n0)]
    exact (rvq_eq f' hh2 cf.res).trans hv
  have hc : ecall E g args h = some (fin h.length (mkRes vs) ⟨mkE cf.nt f', hh2, wl2, wa2⟩) := by
    rw [ec_call hE hn hnt, m1]
    simp only [retE, Option.bind_some, k4, if_true, hr, Option.map_some]
  have hlt : ∀ n, n ≤ hh2.length → (hh2.take n).length = n := fun n hn => by rw [List.length_take, Nat.min_eq_left hn]
  by_cases hwa : wa2 < h.length
  · refine ⟨_, hh2, hh2, wl2, wa2, ?_, m4, m5, k3, k6, rfl, k7⟩
    rw [hc]; simp only [fin, hwa, if_true]
  · refine ⟨_, hh2, hh2.take h.length, wl2, h.length, ?_, m4, h0, ?_, by rw [hlt _ k6]; exact Nat.le_refl _, by rw [List.take_take, Nat.min_self], k7⟩
    · rw [hc]; simp only [fin, hwa, if_false, r1, dd, pickObjs, r2, List.append_nil]
    · rw [List.take_take, Nat.min_eq_left h0, k3]
theorem rd_of_take {h h' : List Ob} {n id ep : Nat} {o : Ob} (ht : h'.take n = h.take n) (hid : id < n) (e : rdObj h id ep = some o) : rdObj h' id ep = some o := rd_take ht hid e

/-- One byte is appended in place. -/
theorem appU {n0 : Nat} {h : List Ob} {v : AV} {xs : List UInt8} {j : Nat} {x : UInt8} {rw' : Bool} {P : AV → List Ob → Prop} (A : Arr n0 h v gU xs) (hr : rdObj h j 0 = some ⟨[gU x], 0, 1, rw', true⟩) (hb : xs.length + 1 ≤ 1000000) (hn : n0 ≤ h.length)
    (hP : ∀ v' h', Arr n0 h' v' gU (xs ++ [x]) → (∀ id, idOf v' id ↔ idOf v id) → (∀ id ep o, ¬ idOf v id → rdObj h id ep = some o → rdObj h' id ep = some o) → h'.length = h.length → P v' h') : appK n0 1 1 h v (.sl false j 0 1 0 1) P := by
  obtain ⟨id, ep, rfl, h2, h3⟩ := A
  have hcont : content 1 ⟨h, n0, n0⟩ (.sl false j 0 1 0 1) = some ([gU x], 1, true) := by
    simp only [content, hr, Nat.one_ne_zero, if_false, Bool.false_eq_true, if_true]
    rw [if_pos (by simp)]; rfl
  have hlt := rd_lt h2
  have ha : aapp 1 1 ⟨h, n0, n0⟩ (.sl false id ep 1 0 xs.length) (.sl false j 0 1 0 1) = some (.sl false id (ep + 1) 1 0 (xs.length + 1), ⟨h.set id ⟨(xs ++ [x]).map gU, ep + 1, 1, true, true⟩, n0, n0⟩) := by
    simp only [aapp, hcont, Option.bind_some, Nat.one_ne_zero, if_false, h2]
    rw [if_pos ⟨trivial, by unfold appLim; omega⟩, if_pos ⟨trivial, by simp⟩]
    simp only [List.drop_zero, Nat.mul_one, Nat.min_eq_left h3, if_true, Bool.and_self, List.map_append, List.map_cons, List.map_nil]
    rw [List.take_of_length_le (by simp)]
  unfold appK
  simp only [appOk, appV, appH, ha]
  refine ⟨⟨trivial, trivial, List.take_set_of_le h3, by simp; omega⟩, hP _ _ ⟨id, ep + 1, by simp, rd_set_same (o := ⟨(xs ++ [x]).map gU, ep + 1, 1, true, true⟩) hlt, h3⟩ (fun i => Iff.rfl) (fun id' ep' o hne ho => ?_) (by simp)⟩
  rw [rd_set_ne (fun e => hne ⟨rfl, e⟩)]; exact ho

theorem put_ex {n0 : Nat} {h : List Ob} {v : AV} {xs : List UInt8} (A : Arr n0 h v gU xs) (hn : n0 ≤ h.length) {n k : Nat} (hM : n < M64) (hk : k ≤ 8) (hb : xs.length ≤ 100000) :
    ∃ v' h2 wl wa, ecall E 60 [v, .int .u64 (n : Int), .int .i64 (k : Int)] h = some (v', h2, wl, wa) ∧ n0 ≤ wl ∧ n0 ≤ wa ∧ h2.take n0 = h.take n0 ∧ h.length ≤ h2.length ∧ Arr n0 h2 v' gU (xs ++ pB n k) ∧ (∀ id, idOf v' id ↔ idOf v id) ∧ (∀ id ep o, ¬ idOf v id → rdObj h id ep = some o → rdObj h2 id ep = some o) := by
  have key : wc E n0 c60.nt c60.code (fun e f h' => exOk e = true ∧ h.length ≤ h'.length ∧ ∃ v', (rvq c60.nt f h' c60.res).map mkRes = some v' ∧ refs h.length v' = [] ∧ (∀ σ, ren h.length σ v' = v') ∧ Arr n0 h' v' gU (xs ++ pB n k) ∧ (∀ id, idOf v' id ↔ idOf v id) ∧ (∀ id ep o, ¬ idOf v id → rdObj h id ep = some o → rdObj h' id ep = some o)) (ofL [v, .int .u64 (n : Int), .int .i64 (k : Int)]) h := by
    have w0 : IntKind.i64.wrap ((k : Int) - 1) = (k : Int) - 1 := wrap64 (by omega) (by omega)
    simp (config := {maxSteps := 4000000}) only [c60, w0, SS, bne_self_eq_false, wr_def, obOf, List.all_cons, List.all_nil, List.map_cons, List.map_nil, List.length_cons, List.length_nil, List.take_zero, List.take_succ_cons, List.take_nil, List.drop_zero, List.drop_succ_cons, List.drop_nil, Nat.reduceAdd, Nat.reduceMul, Nat.reduceSub, if_true, Nat.reduceLT, Nat.reduceLeDiff, ite_true, ite_false, Nat.reduceEqDiff, if_false, reduceCtorEq, ne_eq, List.getD, List.getElem?_cons_zero, List.getElem?_cons_succ, Option.getD_some, Option.bind_some, Option.map_some, Option.isSome_some, reduceIte, List.length_append, List.append_assoc, List.cons_append, List.nil_append, Option.some.injEq, forall_const, implies_true, Int.reduceNeg, eq_self, Prod.mk.injEq, List.self_eq_append_right, List.append_nil, exists_eq_left, exists_eq_left', exists_and_left, exists_eq_right, exists_and_right]
    refine W_loop (fun q f1 h1 => ∃ j : Nat, q = j ∧ j ≤ k ∧ f1 1 = .int .u64 (n : Int) ∧ f1 7 = .int .i64 ((j : Int) - 1) ∧ h.length ≤ h1.length ∧ ∃ ys, ys ++ pB n j = pB n k ∧ Arr n0 h1 (f1 0) gU (xs ++ ys) ∧ (∀ id, idOf (f1 0) id ↔ idOf v id) ∧ (∀ id ep o, ¬ idOf v id → rdObj h id ep = some o → rdObj h1 id ep = some o)) hn k ⟨k, rfl, Nat.le_refl _, rfl, rfl, Nat.le_refl _, [], rfl, by rw [List.append_nil]; exact A, fun id => Iff.rfl, fun _ _ _ _ ho => ho⟩ ?_
    rintro j f1 h1 hn1 ht ⟨_, rfl, hj, e1, e7, hl1, ys, hys, A1, hid, hfr⟩
    generalize e0 : f1 0 = v1 at *
    have hvlt : ∀ id, idOf v id → id < h.length := fun id hid => A.lt hid
    by_cases hj0 : 0 < j
    · obtain ⟨i, rfl⟩ : ∃ i, j = i + 1 := ⟨j - 1, by omega⟩
      have hc : decide ((0 : Int) ≤ ((i + 1 : Nat) : Int) - 1) = true := decide_eq_true (by omega)
      have w1 : IntKind.i64.wrap (((i + 1 : Nat) : Int) - 1 - 1) = (i : Int) - 1 := by rw [wrap64 (by omega) (by omega)]; omega
      have w2 : IntKind.i64.wrap (8 * (((i + 1 : Nat) : Int) - 1)) = ((8 * i : Nat) : Int) := by rw [wrap64 (by omega) (by omega)]; omega
      have hsh : abin .shr (.int .u64 (n : Int)) (.int .i64 ((8 * i : Nat) : Int)) = some (.int .u64 ((n / 256 ^ i : Nat) : Int)) := by
        have := shrk (kk := .i64) n (8 * i) _ rfl (by omega)
        rw [Nat.pow_mul] at this
        exact this
      have hcv : cviA .u8 (.int .u64 ((n / 256 ^ i : Nat) : Int)) = some (gU (UInt8.ofNat (n / 256 ^ i))) := by
        rw [cviA_i]
        have : IntKind.u8.wrap ((n / 256 ^ i : Nat) : Int) = ((UInt8.ofNat (n / 256 ^ i)).toNat : Int) := by
          rw [UInt8.toNat_ofNat']
          show (((n / 256 ^ i : Nat) : Int) % ((2 ^ 8 : Nat) : Int)) = _
          rfl
        rw [this]; rfl
      have hpl : (ys ++ pB n (i + 1)).length = k := by rw [hys, pB_len]
      rw [List.length_append, pB_len] at hpl
      simp (config := {maxSteps := 4000000}) only [e0, e1, e7, hc, w1, w2, hsh, hcv, gU_c, gU_t, gU_s, SS, bne_self_eq_false, wr_def, obOf, List.all_cons, List.all_nil, List.map_cons, List.map_nil, List.length_cons, List.length_nil, List.take_zero, List.take_succ_cons, List.take_nil, List.drop_zero, List.drop_succ_cons, List.drop_nil, Nat.reduceAdd, Nat.reduceMul, Nat.reduceSub, if_true, Nat.reduceLT, Nat.reduceLeDiff, ite_true, ite_false, Nat.reduceEqDiff, if_false, reduceCtorEq, ne_eq, List.getD, List.getElem?_cons_zero, List.getElem?_cons_succ, Option.getD_some, Option.bind_some, Option.map_some, Option.isSome_some, reduceIte, List.length_append, List.append_assoc, List.cons_append, List.nil_append, Option.some.injEq, forall_const, implies_true, Int.reduceNeg, eq_self, Prod.mk.injEq, List.self_eq_append_right, List.append_nil, exists_eq_left, exists_eq_left', exists_and_left, exists_eq_right, exists_and_right]
      refine appU (A1.keep _) (rd_last (o := ⟨[gU (UInt8.ofNat (n / 256 ^ i))], 0, 1, true, true⟩)) (by rw [List.length_append]; omega) (by simp; omega) (fun v' h' A2 hid2 hfr2 hl2 => ?_)
      refine ⟨i, by omega, by omega, rfl, by simp at hl2; omega, ys ++ [UInt8.ofNat (n / 256 ^ i)], ?_, ?_, fun id => (hid2 id).trans (hid id), fun id ep o hne ho => hfr2 id ep o (fun hx => hne ((hid id).1 hx)) (rd_keep (hfr id ep o hne ho))⟩
      · rw [← hys, List.append_assoc]; rfl
      · rw [List.append_assoc] at A2; exact A2
    · have hjE : j = 0 := by omega
      subst hjE
      have hc : decide ((0 : Int) ≤ ((0 : Nat) : Int) - 1) = false := decide_eq_false (by omega)
      simp only [pB, List.append_nil] at hys
      subst hys
      simp (config := {maxSteps := 4000000}) only [e0, e1, e7, hc, SS, bne_self_eq_false, wr_def, obOf, List.all_cons, List.all_nil, List.map_cons, List.map_nil, List.length_cons, List.length_nil, List.take_zero, List.take_succ_cons, List.take_nil, List.drop_zero, List.drop_succ_cons, List.drop_nil, Nat.reduceAdd, Nat.reduceMul, Nat.reduceSub, if_true, Nat.reduceLT, Nat.reduceLeDiff, ite_true, ite_false, Nat.reduceEqDiff, if_false, reduceCtorEq, ne_eq, List.getD, List.getElem?_cons_zero, List.getElem?_cons_succ, Option.getD_some, Option.bind_some, Option.map_some, Option.isSome_some, reduceIte, List.length_append, List.append_assoc, List.cons_append, List.nil_append, Option.some.injEq, forall_const, implies_true, Int.reduceNeg, eq_self, Prod.mk.injEq, List.self_eq_append_right, List.append_nil, exists_eq_left, exists_eq_left', exists_and_left, exists_eq_right, exists_and_right]
      refine ⟨hl1, ?_, ?_, A1, hid, hfr⟩
      · obtain ⟨id', ep, rfl, h2, h3⟩ := A1
        have := hvlt id' ((hid id').1 ⟨rfl, rfl⟩)
        simp [refs, this]
      · obtain ⟨id', ep, rfl, h2, h3⟩ := A1
        have := hvlt id' ((hid id').1 ⟨rfl, rfl⟩)
        intro σ
        simp [ren, this]
  obtain ⟨v', h', h2, wl, wa, k1, k2, k3, k4, k5, k6, A', hid, hfr⟩ := call_mutB e60 rfl (Nat.le_of_ble_eq_true rfl) hn key
  have hvlt : ∀ id, idOf v id → id < h.length := fun id hid => A.lt hid
  exact ⟨v', h2, wl, wa, k1, k2, k3, k4, k5, A'.mono fun id ep o hid' ho => rd_of_take k6 (hvlt id ((hid id).1 hid')) ho, hid, fun id ep o hne ho => rd_of_take k6 (rd_lt ho) (hfr id ep o hne ho)⟩
end Go.Proofs.Ytaekgifbehoipaa.Wr
