/- What is written is read back; a beginning of it is no frame. Conditions stand in each lemma. -/
import Derived.Test.YtaekgifbehoipaaWrW
import Derived.Test.YtaekgifbehoipaaWrQ
namespace Go.Proofs.Ytaekgifbehoipaa.Wr
open Go Go.Proofs.Ytaekgifbehoipaa.Eva Go.Proofs.Ytaekgifbehoipaa.CodeAll
set_option linter.unusedVariables false
set_option linter.unusedSimpArgs false
set_option maxRecDepth 10000
set_option maxHeartbeats 4000000

theorem tofix_b {r : Int} (h0 : 0 ≤ r) (h1 : r ≤ 2000000) (H : List Ob) : pcall E 97 [.int .u64 (Fl.dblW r 0 : Int), .int .i64 0] H = some (.tup [.int .i64 r, .bool true, .int .i64 0]) := by
  obtain ⟨n, rfl⟩ : ∃ n : Nat, r = (n : Int) := ⟨r.toNat, by omega⟩
  exact tofix_back (by omega) H
theorem dec_enc {s : ByteArray} {m : List UInt8} {R T : Int} {ps : List Pl} (hs : s.size < 1125899906842624) (hl : bs s = enc R T ps ++ m) (hv : VF R T ps) (H : List Ob) :
    ecall E 21 [.str s] H = some (.tup [.agg [.int .i64 R, .int .i64 T, outV H.length 6 ps.length], .int .i64 ((11 + 16 * ps.length : Nat) : Int), .int .i64 0], H ++ outO 6 ps.length (flat Pl.c ps), H.length, H.length) := by
  obtain ⟨q1, q2, q3, q4, q5, q6, q7, q8⟩ := enc_parts hl hv
  have hlen := bs_len s
  obtain ⟨R', T', ps', n, e, hc, hd⟩ := dec_ex hs H
  rcases hc with ⟨rfl, hok, rfl⟩ | ⟨-, -, -, -, -, he⟩
  · obtain ⟨-, g2, g3, -, g5, -, -, -, g9⟩ := hok
    rw [q2] at g2
    rw [q3] at g3
    rw [q4] at g5
    subst g2 g3
    have : ps' = ps := by
      apply List.ext_getElem? 
      intro i
      by_cases hi : i < ps.length
      · obtain ⟨p, hp⟩ : ∃ p, ps[i]? = some p := ⟨_, List.getElem?_eq_getElem hi⟩
        obtain ⟨p', hp'⟩ : ∃ p', ps'[i]? = some p' := ⟨_, List.getElem?_eq_getElem (by omega)⟩
        obtain ⟨r, k1, k2, k3, k4⟩ := g9 i p' hp'
        obtain ⟨k5, k6⟩ := q8 i p hp
        have k7 := hv.2.2.2.2.2 p (List.mem_of_getElem? hp)
        have e1 : p'.rg = r := by rw [k1]; rfl
        have t1 := tofix_b (r := r) (by rw [← e1]; exact k4.2.2.1) (by rw [← e1]; exact k4.2.2.2.1) H
        have t2 := tofix_b (r := p.rg) k7.2.2.1 k7.2.2.2.1 H
        rw [k3, k5, t2] at t1
        have e2 : p.rg = r := by
          injection t1 with t1
          injection t1 with t1
          injection t1 with t1 _
          injection t1
        rw [hp, hp', k1, ← e2, k6]
      · rw [List.getElem?_eq_none (by omega), List.getElem?_eq_none (by omega)]
    rw [this] at hd
    exact hd
  · obtain ⟨i, hi, p, V, hV, hpl⟩ := derr_enc hl hv he
    obtain ⟨r, x, e, ok, k1, k2, k3, k4⟩ := plot_ex (s := s) (a := 9 + 16 * i) hs (by omega) R T hV
    obtain ⟨p0, hp0⟩ : ∃ p, ps[i]? = some p := ⟨_, List.getElem?_eq_getElem hi⟩
    obtain ⟨k5, k6⟩ := q8 i p0 hp0
    have k7 := hv.2.2.2.2.2 p0 (List.mem_of_getElem? hp0)
    have t1 := k2 H
    have t2 := tofix_b (r := p0.rg) k7.2.2.1 k7.2.2.2.1 H
    rw [k5, t2] at t1
    simp only [Option.some.injEq, AV.tup.injEq, List.cons.injEq, AV.int.injEq, AV.bool.injEq, true_and, and_true] at t1
    obtain ⟨t3, t4, t5⟩ := t1
    have hok : ok = true := k3.2 ⟨t5.symm, t4.symm, by rw [← t3, k5], by rw [← t3, k6]; exact k7⟩
    have := hpl H
    rw [k4 H, hok] at this
    simp at this
theorem dec_pre {s : ByteArray} {R T : Int} {ps : List Pl} {k : Nat} (hk : k < 11 + 16 * ps.length) (hl : bs s = (enc R T ps).take k) (hv : VF R T ps) (H : List Ob) :
    pcall E 21 [.str s] H = some (.tup [.agg [.int .i64 0, .int .i64 0, .sl true 0 0 0 0 0], .int .i64 0, .int .i64 8]) := by
  obtain ⟨q1, q2, q3, q4, q5, q6, q7, -⟩ := enc_parts (m := []) (l := enc R T ps) (by rw [List.append_nil]) hv
  obtain ⟨v1, v2, v3, v4, v5, v6⟩ := hv
  have hel := enc_len R T ps
  have e0 : (enc R T ps)[0]? = some 83 := rfl
  have e01 : (enc R T ps).take 2 = [83, 87] := rfl
  generalize enc R T ps = l at *
  have hlen := bs_len s
  have hsz : s.size = k := by rw [← hlen, hl, List.length_take, hel]; omega
  have hg : ∀ a n, a + n ≤ k → gB (bs s) a n = gB l a n := fun a n h => gB_congr n (fun j hj => by rw [hl, List.getElem?_take, if_pos (by omega)])
  have c9 : ¬ short (bs s) → 9 ≤ k := fun h => by
    rcases Nat.lt_or_ge k 9 with h9 | h9
    · exact absurd (Or.inl (by omega)) h
    · exact h9
  have hbad : ∀ R' T' ps', ¬ DOk s R' T' ps' := by
    rintro R' T' ps' ⟨g1, -, -, -, g5, -, g7, -⟩
    have := c9 g1
    rw [hg 7 2 (by omega), q4] at g5
    omega
  obtain ⟨e, ⟨-, he⟩, hd⟩ := dec_bad (by omega) hbad H
  rw [hd]
  have hnb : ¬ bad (bs s) := by
    rintro (⟨h1, h2⟩ | ⟨h1, h2⟩)
    · rw [hlen, hsz] at h1
      apply h2
      rw [hl, List.take_take, Nat.min_eq_left h1, e01]
    · rw [hlen, hsz] at h1
      apply h2
      rw [hl, List.getElem?_take, if_pos (by omega), e0]
  have : e = 8 := by
    rcases he with h | h | h | h | h | h
    · exact absurd h.2.1 hnb
    · exact h.2.2
    · have := c9 h.1
      rw [hg 3 4 (by omega), hg 7 2 (by omega), q4] at h
      omega
    · exact h.2.2.2.2
    · have := c9 h.1
      rw [hg 7 2 (by omega), q4] at h
      omega
    · have := c9 h.1
      rw [hg 7 2 (by omega), q4] at h
      omega
  rw [this]
end Go.Proofs.Ytaekgifbehoipaa.Wr
