/- The bytes of a frame: plain facts. No condition. -/
import Derived.Test.YtaekgifbehoipaaWrH
namespace Go.Proofs.Ytaekgifbehoipaa.Wr
open Go Go.Proofs.Ytaekgifbehoipaa.Eva Go.Proofs.Ytaekgifbehoipaa.CodeAll
set_option linter.unusedVariables false
set_option linter.unusedSimpArgs false
set_option maxRecDepth 10000
set_option maxHeartbeats 4000000

theorem pB_snoc (n : Nat) : ∀ k, pB n (k + 1) = pB (n / 256) k ++ [UInt8.ofNat n]
  | 0 => by simp [pB]
  | k + 1 => by
    have e : n / 256 ^ (k + 1) = n / 256 / 256 ^ k := by rw [Nat.div_div_eq_div_mul, Nat.pow_succ, Nat.mul_comm]
    rw [pB, pB_snoc n k, e, pB]
    rfl
theorem gB_app (x : List UInt8) : ∀ (k n : Nat) (y : List UInt8), gB (x ++ (pB n k ++ y)) x.length k = n % 256 ^ k
  | 0, n, y => by simp [gB, Nat.mod_one]
  | k + 1, n, y => by
    rw [pB_snoc, List.append_assoc, gB, gB_app x k (n / 256)]
    have e : (x ++ (pB (n / 256) k ++ ([UInt8.ofNat n] ++ y)))[x.length + k]? = some (UInt8.ofNat n) := by
      rw [List.getElem?_append_right (by omega), Nat.add_sub_cancel_left, List.getElem?_append_right (by rw [pB_len]; omega), pB_len, Nat.sub_self]; rfl
    have e2 : n % 256 ^ (k + 1) = n % 256 + 256 * (n / 256 % 256 ^ k) := by rw [Nat.pow_succ, Nat.mul_comm, Nat.mod_mul]
    rw [e, Option.getD_some, UInt8.toNat_ofNat', e2]
    omega
theorem gB_at {l x y : List UInt8} {n k a : Nat} (h : l = x ++ (pB n k ++ y)) (ha : x.length = a) (hn : n < 256 ^ k) : gB l a k = n := by
  subst h ha
  rw [gB_app, Nat.mod_eq_of_lt hn]
theorem pB_gB (l : List UInt8) (a : Nat) : ∀ k, a + k ≤ l.length → pB (gB l a k) k = (l.drop a).take k
  | 0, _ => by simp [pB]
  | k + 1, h => by
    obtain ⟨x, hx⟩ : ∃ x, l[a + k]? = some x := ⟨_, List.getElem?_eq_getElem (by omega)⟩
    have hb := x.toNat_lt
    rw [pB_snoc, gB, hx, Option.getD_some]
    have e1 : (gB l a k * 256 + x.toNat) / 256 = gB l a k := by omega
    have e2 : UInt8.ofNat (gB l a k * 256 + x.toNat) = x := by
      apply UInt8.toNat_inj.1
      rw [UInt8.toNat_ofNat']
      omega
    rw [e1, e2, pB_gB l a k (by omega), List.take_add_one, List.getElem?_drop, hx]
    rfl
theorem take_cat (l : List UInt8) (a k : Nat) : l.take a ++ (l.drop a).take k = l.take (a + k) := (List.take_add ..).symm
theorem drop_cat (l : List UInt8) (c a k : Nat) : (l.drop c).take a ++ (l.drop (c + a)).take k = (l.drop c).take (a + k) := by
  rw [← List.drop_drop, take_cat]
/-- What is decoded is what Encode writes. -/
theorem dok_enc {s : ByteArray} {R T : Int} {ps : List Pl} (h : DOk s R T ps) : VF R T ps ∧ enc R T ps = (bs s).take (11 + 16 * ps.length) := by
  obtain ⟨h1, rfl, rfl, h4, h5, h6, h7, h8, h9⟩ := h
  have hl := bs_len s
  have b1 := gB_lt (bs s) 2 1
  have hv : VF (gB (bs s) 2 1 : Int) (gB (bs s) 3 4 : Int) ps := by
    refine ⟨h6, by omega, by omega, by omega, h4, fun p hp => ?_⟩
    obtain ⟨i, hi, rfl⟩ := List.getElem_of_mem hp
    obtain ⟨r, g1, g2, g3, g4⟩ := h9 i _ (List.getElem?_eq_getElem hi)
    exact g4
  refine ⟨hv, ?_⟩
  have c9 : 9 ≤ (bs s).length := Nat.not_lt.1 fun h => h1 (Or.inl h)
  have cq : (bs s).take 2 = [83, 87] := Classical.byContradiction fun h => h1 (Or.inr h)
  have hhd : hd (gB (bs s) 2 1 : Int) (gB (bs s) 3 4 : Int) ps.length = (bs s).take 9 := by
    rw [hd, h5, Int.toNat_natCast, Int.toNat_natCast, pB_gB _ _ _ (by omega), pB_gB _ _ _ (by omega), pB_gB _ _ _ (by omega), drop_cat, drop_cat, ← cq, take_cat]
  have hps : ∀ j, j ≤ ps.length → ((ps.take j).map encP).flatten = ((bs s).drop 9).take (16 * j) := by
    intro j
    induction j with
    | zero => intro _; simp
    | succ j ih =>
      intro hj
      obtain ⟨p, hp⟩ : ∃ p, ps[j]? = some p := ⟨_, List.getElem?_eq_getElem (by omega)⟩
      obtain ⟨r, g1, g2, g3, g4⟩ := h9 j p hp
      have e : encP p = ((bs s).drop (9 + 16 * j)).take 16 := by
        have e1 : p.rg = r := by rw [g1]; rfl
        have e2 : p.az.toNat = gB (bs s) (9 + 16 * j + 8) 2 := by rw [g1]; exact Int.toNat_natCast _
        have e3 : p.ht.toNat = gB (bs s) (9 + 16 * j + 10) 4 := by rw [g1]; exact Int.toNat_natCast _
        have e4 : (p.cd + 1).toNat = gB (bs s) (9 + 16 * j + 14) 2 := by
          rw [g1]; show ((gB (bs s) (9 + 16 * j + 14) 2 : Int) - 1 + 1).toNat = _; omega
        rw [encP, e1, e2, e3, e4, g3, pB_gB _ _ _ (by omega), pB_gB _ _ _ (by omega), pB_gB _ _ _ (by omega), pB_gB _ _ _ (by omega), drop_cat _ (9 + 16 * j + 10), drop_cat _ (9 + 16 * j + 8), drop_cat]
      rw [List.take_add_one, hp, List.map_append, List.flatten_append, ih (by omega)]
      show _ ++ (encP p ++ []) = _
      rw [List.append_nil, e, drop_cat, Nat.mul_succ]
  have hbody : body (gB (bs s) 2 1 : Int) (gB (bs s) 3 4 : Int) ps = (bs s).take (9 + 16 * ps.length) := by
    have := hps ps.length (Nat.le_refl _)
    rw [List.take_length] at this
    rw [body, hhd, this, take_cat]
  rw [enc, hbody, ← h8, pB_gB _ _ _ (by omega), take_cat]
  congr 1
  omega
/-- A frame that is written, and what follows. -/
theorem enc_parts {l m : List UInt8} {R T : Int} {ps : List Pl} (hl : l = enc R T ps ++ m) (hv : VF R T ps) :
    ¬ short l ∧ (gB l 2 1 : Int) = R ∧ (gB l 3 4 : Int) = T ∧ gB l 7 2 = ps.length ∧ 11 + 16 * ps.length ≤ l.length ∧ l.take (9 + 16 * ps.length) = body R T ps ∧ gB l (9 + 16 * ps.length) 2 = sumL (body R T ps) ∧
      ∀ i p, ps[i]? = some p → gB l (9 + 16 * i) 8 = Fl.dblW p.rg 0 ∧ plAt l (9 + 16 * i) R T p.rg = p := by
  obtain ⟨v1, v2, v3, v4, v5, v6⟩ := hv
  have hlen : l.length = 11 + 16 * ps.length + m.length := by rw [hl, List.length_append, enc_len]
  have hhd : ∀ z, l = hd R T ps.length ++ z → ¬ short l ∧ (gB l 2 1 : Int) = R ∧ (gB l 3 4 : Int) = T ∧ gB l 7 2 = ps.length := by
    intro z hz
    have e1 : gB l 2 1 = R.toNat := gB_at (x := [83, 87]) (y := pB T.toNat 4 ++ pB ps.length 2 ++ z) (by rw [hz, hd]; simp [List.append_assoc]) rfl (by omega)
    have e2 : gB l 3 4 = T.toNat := gB_at (x := [83, 87] ++ pB R.toNat 1) (y := pB ps.length 2 ++ z) (by rw [hz, hd]; simp [List.append_assoc]) (by simp [pB_len]) (by omega)
    have e3 : gB l 7 2 = ps.length := gB_at (x := [83, 87] ++ (pB R.toNat 1 ++ pB T.toNat 4)) (y := z) (by rw [hz, hd]; simp [List.append_assoc]) (by simp [pB_len]) (by omega)
    refine ⟨fun h => ?_, by omega, by omega, e3⟩
    rcases h with h | h
    · omega
    · exact h (by rw [hz, hd]; rfl)
  obtain ⟨q1, q2, q3, q4⟩ := hhd (((ps.map encP).flatten ++ pB (sumL (body R T ps)) 2) ++ m) (by rw [hl, enc]; simp [body, List.append_assoc])
  have hbl := body_len R T ps
  have hsm := sm_lt (body R T ps)
  refine ⟨q1, q2, q3, q4, by omega, ?_, ?_, ?_⟩
  · rw [hl, enc, List.append_assoc, ← hbl, List.take_left']
    rfl
  · exact gB_at (x := body R T ps) (y := m) (by rw [hl, enc, List.append_assoc]) hbl (by unfold sumL; omega)
  · intro i p hp
    have hi : i < ps.length := List.getElem?_eq_some_iff.1 hp |>.1
    obtain ⟨w1, w2, w3, w4, w5, w6, w7, w8, w9, w10⟩ := v6 p (List.mem_of_getElem? hp)
    obtain ⟨x, y, hxy, hx⟩ : ∃ x y, l = x ++ (encP p ++ y) ∧ x.length = 9 + 16 * i := by
      refine ⟨hd R T ps.length ++ ((ps.take i).map encP).flatten, ((ps.drop (i + 1)).map encP).flatten ++ (pB (sumL (body R T ps)) 2 ++ m), ?_, ?_⟩
      · have hps : ps = ps.take i ++ (p :: ps.drop (i + 1)) := by
          rw [← (List.getElem?_eq_some_iff.1 hp).2, ← List.drop_eq_getElem_cons hi, List.take_append_drop]
        have hfl : (ps.map encP).flatten = ((ps.take i).map encP).flatten ++ (encP p ++ ((ps.drop (i + 1)).map encP).flatten) := by
          conv => lhs; rw [hps]
          simp
        have hl2 : l = body R T ps ++ (pB (sumL (body R T ps)) 2 ++ m) := by rw [hl, enc, List.append_assoc]
        rw [hl2]
        generalize pB (sumL (body R T ps)) 2 = q
        rw [body, hfl, List.append_assoc, List.append_assoc, List.append_assoc, List.append_assoc]
      · rw [List.length_append, hd_len, encs_len, List.length_take, Nat.min_eq_left (by omega)]
    have hdb := dbl_lt w3 w4
    have e0 : gB l (9 + 16 * i) 8 = Fl.dblW p.rg 0 := gB_at (x := x) (y := pB p.az.toNat 2 ++ (pB p.ht.toNat 4 ++ pB (p.cd + 1).toNat 2) ++ y) (by rw [hxy, encP]; simp [List.append_assoc]) hx hdb
    have e1 : gB l (9 + 16 * i + 8) 2 = p.az.toNat := gB_at (x := x ++ pB (Fl.dblW p.rg 0) 8) (y := (pB p.ht.toNat 4 ++ pB (p.cd + 1).toNat 2) ++ y) (by rw [hxy, encP]; simp [List.append_assoc]) (by simp [pB_len, hx]) (by omega)
    have e2 : gB l (9 + 16 * i + 10) 4 = p.ht.toNat := gB_at (x := x ++ (pB (Fl.dblW p.rg 0) 8 ++ pB p.az.toNat 2)) (y := pB (p.cd + 1).toNat 2 ++ y) (by rw [hxy, encP]; simp [List.append_assoc]) (by simp [pB_len, hx]) (by omega)
    have e3 : gB l (9 + 16 * i + 14) 2 = (p.cd + 1).toNat := gB_at (x := x ++ (pB (Fl.dblW p.rg 0) 8 ++ (pB p.az.toNat 2 ++ pB p.ht.toNat 4))) (y := y) (by rw [hxy, encP]; simp [List.append_assoc]) (by simp [pB_len, hx]) (by omega)
    refine ⟨e0, ?_⟩
    obtain ⟨rd, tm, rg, az, ht, cd⟩ := p
    simp only at w1 w2 w5 w7 w9 e1 e2 e3
    unfold plAt
    rw [e1, e2, e3, w1, w2]
    simp only [Pl.mk.injEq, true_and]
    omega
end Go.Proofs.Ytaekgifbehoipaa.Wr
