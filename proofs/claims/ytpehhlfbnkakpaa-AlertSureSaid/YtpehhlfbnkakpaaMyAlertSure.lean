/- The law AlertSure: the abstract machine answers true. No condition. -/
import Derived.Test.YtpehhlfbnkakpaaInAlertSure
import Derived.Test.YtpehhlfbnkakpaaEvaY
import Derived.Test.YtpehhlfbnkakpaaAlB
namespace Go.Proofs.Ytpehhlfbnkakpaa.MyAlertSure
open Go Go.Proofs.Ytpehhlfbnkakpaa.Eva Go.Proofs.Ytpehhlfbnkakpaa.CodeAll Go.Proofs.Ytpehhlfbnkakpaa.InAlertSure Go.Proofs.Ytpehhlfbnkakpaa.Fl
set_option linter.unusedVariables false
set_option linter.unusedSimpArgs false
set_option maxRecDepth 10000
set_option maxHeartbeats 4000000

theorem acheck_ok {a b : T} {lat ver secs accel climb : Int} (h : acheck a b lat ver secs accel climb = 0) : a.Ok ∧ b.Ok ∧ 0 ≤ lat ∧ lat ≤ 1000000 ∧ 0 ≤ ver ∧ ver ≤ 60000 ∧ 0 ≤ secs ∧ secs ≤ 300 ∧ 0 ≤ accel ∧ accel ≤ 20 ∧ 0 ≤ climb ∧ climb ≤ 200 := by
  unfold acheck at h
  split at h
  · rename_i c; rw [h] at c; simp at c
  · rename_i c1
    split at h
    · rename_i c; rw [h] at c; simp at c
    · rename_i c2
      split at h
      · omega
      · rename_i c
        simp only [Bool.or_eq_true, decide_eq_true_eq, not_or, Int.not_lt] at c
        exact ⟨chk_ok (by simpa using c1), chk_ok (by simpa using c2), by omega⟩

/-- What a pair that has not failed is. -/
theorem at_ok {a b : T} {t accel climb : Int} (c0 : 0 ≤ climb) (c1 : climb ≤ 200) (h : (atT a b t accel climb).f = 0) :
    ∃ A B, a.pred t accel = (A, 0) ∧ b.pred t accel = (B, 0) ∧ A.Ok ∧ B.Ok ∧ (atT a b t accel climb) = ⟨A, B, 100 + climb * (t - a.ti), 100 + climb * (t - b.ti), 0⟩ ∧ 100 ≤ 100 + climb * (t - a.ti) ∧ 100 ≤ 100 + climb * (t - b.ti) ∧ 100 + climb * (t - a.ti) ≤ 200000 ∧ 100 + climb * (t - b.ti) ≤ 200000 := by
  unfold atT at h ⊢
  split at h
  · simp at h
  · rename_i c
    rw [if_neg c]
    simp only [Bool.or_eq_true, bne_iff_ne, ne_eq, not_or, Classical.not_not] at c
    have hA : a.pred t accel = ((a.pred t accel).1, 0) := by rw [← c.1]
    have hB : b.pred t accel = ((b.pred t accel).1, 0) := by rw [← c.2]
    obtain ⟨ao, Ao, _, _, _, _, k1, k2, _⟩ := pred_ok hA
    obtain ⟨bo, Bo, _, _, _, _, k3, k4, _⟩ := pred_ok hB
    have at0 := ao.ti0; have at1 := ao.ti1; have bt0 := bo.ti0; have bt1 := bo.ti1
    have m1 := mul_le (a := climb) (b := t - a.ti) (A := 200) (B := 600) (by omega) (by omega) (by omega) (by omega)
    have m2 := mul_le (a := climb) (b := t - b.ti) (A := 200) (B := 600) (by omega) (by omega) (by omega) (by omega)
    have p1 := Int.mul_nonneg c0 (show 0 ≤ t - a.ti by omega)
    have p2 := Int.mul_nonneg c0 (show 0 ≤ t - b.ti by omega)
    refine ⟨_, _, hA, hB, Ao, Bo, ?_, by omega, by omega, by omega, by omega⟩
    rw [w_id (x := t - a.ti) (by omega) (by omega), w_id (x := t - b.ti) (by omega) (by omega), w_id (x := climb * (t - a.ti)) (by omega) (by omega), w_id (x := climb * (t - b.ti)) (by omega) (by omega), w_id (by omega) (by omega), w_id (by omega) (by omega)]

theorem alGo_spec (P : Pr → Bool) (a b : T) (t0 accel climb : Int) : ∀ n k : Nat,
    (∃ m : Nat, k ≤ m ∧ m < k + n ∧ alGo P a b t0 accel climb n k = ((m : Int), 0) ∧ (∀ j : Nat, k ≤ j → j ≤ m → (atT a b (w (t0 + j)) accel climb).f = 0) ∧ P (atT a b (w (t0 + m)) accel climb) = true ∧ ∀ j : Nat, k ≤ j → j < m → P (atT a b (w (t0 + j)) accel climb) = false) ∨
    (alGo P a b t0 accel climb n k = (0, 12) ∧ ∃ m : Nat, k ≤ m ∧ m < k + n ∧ (atT a b (w (t0 + m)) accel climb).f ≠ 0 ∧ ∀ j : Nat, k ≤ j → j < m → (atT a b (w (t0 + j)) accel climb).f = 0 ∧ P (atT a b (w (t0 + j)) accel climb) = false) ∨
    (alGo P a b t0 accel climb n k = (0, 8) ∧ ∀ j : Nat, k ≤ j → j < k + n → (atT a b (w (t0 + j)) accel climb).f = 0 ∧ P (atT a b (w (t0 + j)) accel climb) = false)
  | 0, k => Or.inr (Or.inr ⟨rfl, fun j h1 h2 => by omega⟩)
  | n + 1, k => by
    simp only [alGo]
    by_cases c1 : ((atT a b (w (t0 + k)) accel climb).f != 0) = true
    · rw [if_pos c1]
      exact Or.inr (Or.inl ⟨rfl, k, by omega, by omega, by simpa using c1, fun j h1 h2 => by omega⟩)
    rw [if_neg c1]
    have c1' : (atT a b (w (t0 + k)) accel climb).f = 0 := by simpa using c1
    by_cases c2 : P (atT a b (w (t0 + k)) accel climb) = true
    · rw [if_pos c2]
      exact Or.inl ⟨k, by omega, by omega, rfl, fun j h1 h2 => by have : j = k := by omega
                                                                  subst this; exact c1', c2, fun j h1 h2 => by omega⟩
    rw [if_neg c2]
    have c2' : P (atT a b (w (t0 + k)) accel climb) = false := by simpa using c2
    rcases alGo_spec P a b t0 accel climb n (k + 1) with ⟨m, h1, h2, h3, h4, h5, h6⟩ | ⟨h3, m, h1, h2, h4, h5⟩ | ⟨h3, h4⟩
    · refine Or.inl ⟨m, by omega, by omega, h3, fun j hj1 hj2 => ?_, h5, fun j hj1 hj2 => ?_⟩
      · by_cases hjk : j = k
        · subst hjk; exact c1'
        · exact h4 j (by omega) hj2
      · by_cases hjk : j = k
        · subst hjk; exact c2'
        · exact h6 j (by omega) hj2
    · refine Or.inr (Or.inl ⟨h3, m, by omega, by omega, h4, fun j hj1 hj2 => ?_⟩)
      by_cases hjk : j = k
      · subst hjk; exact ⟨c1', c2'⟩
      · exact h5 j (by omega) hj2
    · refine Or.inr (Or.inr ⟨h3, fun j hj1 hj2 => ?_⟩)
      by_cases hjk : j = k
      · subst hjk; exact ⟨c1', c2'⟩
      · exact h4 j (by omega) (by omega)
/-- What follows for two questions, if the first implies the second. -/
theorem alGo_imp {P Q : Pr → Bool} {a b : T} {t0 accel climb : Int} {n : Nat} (h : ∀ j : Nat, (atT a b (w (t0 + j)) accel climb).f = 0 → P (atT a b (w (t0 + j)) accel climb) = true → Q (atT a b (w (t0 + j)) accel climb) = true) {m : Int}
    (hP : alGo P a b t0 accel climb n 0 = (m, 0)) : ∃ k, alGo Q a b t0 accel climb n 0 = (k, 0) ∧ k ≤ m := by
  rcases alGo_spec P a b t0 accel climb n 0 with ⟨m', h1, h2, h3, h4, h5, h6⟩ | ⟨h3, m', h1, h2, h4, h5⟩ | ⟨h3, h4⟩
  · rw [h3] at hP
    simp only [Prod.mk.injEq, and_true] at hP
    subst hP
    have hq := h m' (h4 m' (by omega) (by omega)) h5
    rcases alGo_spec Q a b t0 accel climb n 0 with ⟨k, g1, g2, g3, g4, g5, g6⟩ | ⟨g3, k, g1, g2, g4, g5⟩ | ⟨g3, g4⟩
    · refine ⟨k, g3, ?_⟩
      by_cases hle : k ≤ m'
      · omega
      · have := g6 m' (by omega) (by omega)
        rw [hq] at this; cases this
    · exfalso
      by_cases hle : k ≤ m'
      · exact g4 (h4 k (by omega) hle)
      · have := (g5 m' (by omega) (by omega)).2
        rw [hq] at this; cases this
    · exfalso
      have := (g4 m' (by omega) (by omega)).2
      rw [hq] at this; cases this
  · rw [h3] at hP; simp only [Prod.mk.injEq] at hP; omega
  · rw [h3] at hP; simp only [Prod.mk.injEq] at hP; omega
theorem alGo_congr {P Q : Pr → Bool} {a b c d : T} {t0 accel climb : Int} (h1 : ∀ j : Nat, (atT a b (w (t0 + j)) accel climb).f = (atT c d (w (t0 + j)) accel climb).f) (h2 : ∀ j : Nat, (atT a b (w (t0 + j)) accel climb).f = 0 → P (atT a b (w (t0 + j)) accel climb) = Q (atT c d (w (t0 + j)) accel climb)) : ∀ n k, alGo P a b t0 accel climb n k = alGo Q c d t0 accel climb n k
  | 0, k => rfl
  | n + 1, k => by
    simp only [alGo]
    rw [← h1 k]
    by_cases c1 : ((atT a b (w (t0 + k)) accel climb).f != 0) = true
    · rw [if_pos c1, if_pos c1]
    · rw [if_neg c1, if_neg c1, h2 k (by simpa using c1), alGo_congr h1 h2 n (k + 1)]

theorem apt_eq {a b : Int} (h1 : 0 ≤ a) (h2 : a ≤ 60000) (h3 : 0 ≤ b) (h4 : b ≤ 60000) : apt a b = max (a - b) (b - a) := by
  unfold apt
  rw [w_id (x := a - b) (by omega) (by omega), w_id (x := b - a) (by omega) (by omega)]
/-- The questions without wraps. -/
theorem poss_eq {A B : T} (ha : A.Ok) (hb : B.Ok) {lat ver p q f : Int} (l0 : 0 ≤ lat) (l1 : lat ≤ 2000000) (v0 : 0 ≤ ver) (v1 : ver ≤ 60000) (p0 : 100 ≤ p) (p1 : p ≤ 200000) (q0 : 100 ≤ q) (q1 : q ≤ 200000) :
    possT lat ver ⟨A, B, p, q, f⟩ = (decide ((A.x - B.x) * (A.x - B.x) + (A.y - B.y) * (A.y - B.y) < (lat + A.rad + B.rad) * (lat + A.rad + B.rad)) && decide (max (A.hgt - B.hgt) (B.hgt - A.hgt) < ver + p + q)) := by
  have := ha.x0; have := ha.x1; have := ha.y0; have := ha.y1; have := ha.h0; have := ha.h1; have := ha.rad0; have := ha.rad1
  have := hb.x0; have := hb.x1; have := hb.y0; have := hb.y1; have := hb.h0; have := hb.h1; have := hb.rad0; have := hb.rad1
  unfold possT
  simp only
  rw [dst_eq (by omega) (by omega) (by omega) (by omega) (by omega) (by omega) (by omega) (by omega), apt_eq (by omega) (by omega) (by omega) (by omega),
    w_id (x := lat + A.rad) (by omega) (by omega), w_id (x := lat + A.rad + B.rad) (by omega) (by omega), sq_eq (by omega) (by omega), w_id (x := ver + p) (by omega) (by omega), w_id (x := ver + p + q) (by omega) (by omega)]
theorem cert_eq {A B : T} (ha : A.Ok) (hb : B.Ok) {lat ver p q f : Int} (l0 : 0 ≤ lat) (l1 : lat ≤ 2000000) (v0 : 0 ≤ ver) (v1 : ver ≤ 60000) (p0 : 100 ≤ p) (p1 : p ≤ 200000) (q0 : 100 ≤ q) (q1 : q ≤ 200000) :
    certT lat ver ⟨A, B, p, q, f⟩ = (decide (0 < lat - A.rad - B.rad) && decide ((A.x - B.x) * (A.x - B.x) + (A.y - B.y) * (A.y - B.y) < (lat - A.rad - B.rad) * (lat - A.rad - B.rad)) && decide (max (A.hgt - B.hgt) (B.hgt - A.hgt) < ver - p - q)) := by
  have := ha.x0; have := ha.x1; have := ha.y0; have := ha.y1; have := ha.h0; have := ha.h1; have := ha.rad0; have := ha.rad1
  have := hb.x0; have := hb.x1; have := hb.y0; have := hb.y1; have := hb.h0; have := hb.h1; have := hb.rad0; have := hb.rad1
  unfold certT
  simp only
  rw [dst_eq (by omega) (by omega) (by omega) (by omega) (by omega) (by omega) (by omega) (by omega), apt_eq (by omega) (by omega) (by omega) (by omega),
    w_id (x := lat - A.rad) (by omega) (by omega), w_id (x := lat - A.rad - B.rad) (by omega) (by omega), sq_eq (by omega) (by omega), w_id (x := ver - p) (by omega) (by omega), w_id (x := ver - p - q) (by omega) (by omega)]
theorem sq_mono {a b : Int} (h0 : 0 ≤ a) (h1 : a ≤ b) : a * a ≤ b * b := Int.mul_le_mul h1 h1 h0 (by omega)

theorem sure {a b : T} {lat ver secs accel climb k : Int} (h : alT (certT lat ver) a b lat ver secs accel climb = (k, 0)) : ∃ n, alT (possT lat ver) a b lat ver secs accel climb = (n, 0) ∧ n ≤ k := by
  unfold alT at h ⊢
  by_cases c : (acheck a b lat ver secs accel climb != 0) = true
  · rw [if_pos c] at h; simp only [Prod.mk.injEq] at h; rw [h.2] at c; simp at c
  rw [if_neg c] at h ⊢
  obtain ⟨ao, bo, l0, l1, v0, v1, s0, s1, a0, a1, c0, c1⟩ := acheck_ok (by simpa using c)
  refine alGo_imp (fun j hf hc => ?_) h
  obtain ⟨A, B, hA, hB, Ao, Bo, e, p0, q0, p1, q1⟩ := at_ok c0 c1 hf
  rw [e] at hc ⊢
  rw [cert_eq Ao Bo l0 (by omega) v0 v1 p0 p1 q0 q1] at hc
  rw [poss_eq Ao Bo l0 (by omega) v0 v1 p0 p1 q0 q1]
  simp only [Bool.and_eq_true, decide_eq_true_eq] at hc ⊢
  have := Ao.rad0; have := Bo.rad0
  have := sq_mono (a := lat - A.rad - B.rad) (b := lat + A.rad + B.rad) (by omega) (by omega)
  omega
theorem more {a b : T} {lat lat' ver secs accel climb n : Int} (hl : lat ≤ lat') (hl' : lat' ≤ lat + 1000000) (h : alT (possT lat ver) a b lat ver secs accel climb = (n, 0)) (hc : acheck a b lat' ver secs accel climb = 0) : ∃ m, alT (possT lat' ver) a b lat' ver secs accel climb = (m, 0) ∧ m ≤ n := by
  unfold alT at h ⊢
  by_cases c : (acheck a b lat ver secs accel climb != 0) = true
  · rw [if_pos c] at h; simp only [Prod.mk.injEq] at h; rw [h.2] at c; simp at c
  rw [if_neg c] at h
  rw [hc, if_neg (by decide)]
  obtain ⟨ao, bo, l0, l1, v0, v1, s0, s1, a0, a1, c0, c1⟩ := acheck_ok (by simpa using c)
  refine alGo_imp (fun j hf hp => ?_) h
  obtain ⟨A, B, hA, hB, Ao, Bo, e, p0, q0, p1, q1⟩ := at_ok c0 c1 hf
  rw [e] at hp ⊢
  rw [poss_eq Ao Bo l0 (by omega) v0 v1 p0 p1 q0 q1] at hp
  rw [poss_eq Ao Bo (by omega) (by omega) v0 v1 p0 p1 q0 q1]
  simp only [Bool.and_eq_true, decide_eq_true_eq] at hp ⊢
  have := Ao.rad0; have := Bo.rad0
  have := sq_mono (a := lat + A.rad + B.rad) (b := lat' + A.rad + B.rad) (by omega) (by omega)
  omega
theorem turned {a b : T} {lat ver secs accel climb : Int} (hab : acheck a b lat ver secs accel climb = 0) (hba : acheck b a lat ver secs accel climb = 0) : alT (possT lat ver) a b lat ver secs accel climb = alT (possT lat ver) b a lat ver secs accel climb := by
  unfold alT
  rw [hab, hba, if_neg (by decide), if_neg (by decide)]
  obtain ⟨ao, bo, l0, l1, v0, v1, s0, s1, a0, a1, c0, c1⟩ := acheck_ok hab
  rw [Int.max_comm b.ti a.ti]
  refine alGo_congr (fun j => ?_) (fun j hf => ?_) _ _
  · unfold atT
    rw [Bool.or_comm]
    split <;> rfl
  · have hf' : (atT b a (w (max a.ti b.ti + j)) accel climb).f = 0 := by
      rw [← hf]; unfold atT; rw [Bool.or_comm]; split <;> rfl
    obtain ⟨A, B, hA, hB, Ao, Bo, e, p0, q0, p1, q1⟩ := at_ok c0 c1 hf
    obtain ⟨B', A', hB', hA', _, _, e', _, _, _, _⟩ := at_ok c0 c1 hf'
    rw [hA] at hA'; rw [hB] at hB'
    simp only [Prod.mk.injEq, and_true] at hA' hB'
    subst hA' hB'
    rw [e, e', poss_eq Ao Bo l0 (by omega) v0 v1 p0 p1 q0 q1, poss_eq Bo Ao l0 (by omega) v0 v1 q0 q1 p0 p1]
    have e1 : (B.x - A.x) * (B.x - A.x) = (A.x - B.x) * (A.x - B.x) := by
      have : B.x - A.x = -(A.x - B.x) := by omega
      rw [this, Int.neg_mul_neg]
    have e2 : (B.y - A.y) * (B.y - A.y) = (A.y - B.y) * (A.y - B.y) := by
      have : B.y - A.y = -(A.y - B.y) := by omega
      rw [this, Int.neg_mul_neg]
    have e3 : lat + B.rad + A.rad = lat + A.rad + B.rad := by omega
    rw [e1, e2, e3]
    congr 1
    rw [decide_eq_decide]; omega
theorem chk_vals (f : T) : f.chk = 0 ∨ f.chk = 1 ∨ f.chk = 4 ∨ f.chk = 12 := by
  unfold T.chk
  repeat' split
  all_goals omega
theorem acheck_turn (a b : T) (lat ver secs accel climb : Int) : acheck a b lat ver secs accel climb = acheck b a lat ver secs accel climb ∨ acheck a b lat ver secs accel climb = 4 ∨ acheck b a lat ver secs accel climb = 4 ∨ acheck a b lat ver secs accel climb = 1 ∨ acheck b a lat ver secs accel climb = 1 := by
  unfold acheck
  rcases chk_vals a with h | h | h | h <;> rcases chk_vals b with g | g | g | g <;> rw [h, g] <;> simp

theorem law (a b : T) (lat ver more' seconds : Int) (H : List Ob) : ∃ r, ecall E 4 [.agg a.c, .agg b.c, .agg [.int .i64 lat, .int .i64 ver], .int .i64 more', .int .i64 seconds] H = some (.bool true, r) := by
  refine call_true e4 rfl (Nat.le_of_ble_eq_true rfl) ?_
  have hw1 := fun H => within_pc seconds 0 40 H (by decide)
  obtain ⟨s0, s1⟩ := wi_bd (n := seconds) (lo := 0) (hi := 40) (by decide) (by decide) (by decide)
  generalize wi seconds 0 40 = s at hw1 s0 s1
  have hw2 := fun H => within_pc more' 0 500 H (by decide)
  obtain ⟨m0, m1⟩ := wi_bd (n := more') (lo := 0) (hi := 500) (by decide) (by decide) (by decide)
  generalize wi more' 0 500 = mo at hw2 m0 m1
  have z1 := certain_pc T.zero T.zero 10 1000 1 0 0
  have z2 := certain_pc T.zero { T.zero with x := 100000 } 10 1000 1 0 0
  have e1 : alT (certT 10 1000) T.zero T.zero 10 1000 1 0 0 = (0, 0) := by rfl
  have e2 : alT (certT 10 1000) T.zero { T.zero with x := 100000 } 10 1000 1 0 0 = (0, 8) := by rfl
  rw [e1] at z1; rw [e2] at z2
  have f1 := first_pc a b lat ver s 1 10
  have f2 := certain_pc a b lat ver s 1 10
  have f3 := first_pc a b (w (lat + mo)) ver s 1 10
  have f4 := first_pc b a lat ver s 1 10
  have k1 := fun k => sure (a := a) (b := b) (lat := lat) (ver := ver) (secs := s) (accel := 1) (climb := 10) (k := k)
  have k2 : ∀ n, alT (possT lat ver) a b lat ver s 1 10 = (n, 0) → (∃ m, alT (possT (w (lat + mo)) ver) a b (w (lat + mo)) ver s 1 10 = (m, 0) ∧ m ≤ n) ∨ (∃ m e, alT (possT (w (lat + mo)) ver) a b (w (lat + mo)) ver s 1 10 = (m, e) ∧ e ≠ 0 ∧ e ≠ 8) := by
    intro n hn
    by_cases hc : acheck a b (w (lat + mo)) ver s 1 10 = 0
    · have hc0 : acheck a b lat ver s 1 10 = 0 := by
        unfold alT at hn
        by_cases c : (acheck a b lat ver s 1 10 != 0) = true
        · rw [if_pos c] at hn; simp only [Prod.mk.injEq] at hn; exact hn.2
        · simpa using c
      obtain ⟨_, _, l0, l1, _⟩ := acheck_ok hc0
      have hwl : w (lat + mo) = lat + mo := w_id (by omega) (by omega)
      exact Or.inl (more (by omega) (by omega) hn hc)
    · refine Or.inr ⟨0, _, by unfold alT; rw [if_pos (by simpa using hc)], hc, ?_⟩
      unfold acheck
      rcases chk_vals a with h | h | h | h <;> rcases chk_vals b with g | g | g | g <;> rw [h, g] <;> simp <;> split <;> decide
  have k3 : ((alT (possT lat ver) a b lat ver s 1 10).2 = (alT (possT lat ver) b a lat ver s 1 10).2 ∨ (alT (possT lat ver) a b lat ver s 1 10).2 = 4 ∨ (alT (possT lat ver) b a lat ver s 1 10).2 = 4 ∨ (alT (possT lat ver) a b lat ver s 1 10).2 = 1 ∨ (alT (possT lat ver) b a lat ver s 1 10).2 = 1) ∧ ((alT (possT lat ver) a b lat ver s 1 10).2 = 0 → (alT (possT lat ver) a b lat ver s 1 10).1 = (alT (possT lat ver) b a lat ver s 1 10).1) := by
    by_cases hab : acheck a b lat ver s 1 10 = 0
    · by_cases hba : acheck b a lat ver s 1 10 = 0
      · rw [turned hab hba]; exact ⟨Or.inl rfl, fun _ => rfl⟩
      · exfalso
        obtain ⟨ao, bo, l0, l1, v0, v1, g0, g1, _⟩ := acheck_ok hab
        apply hba
        unfold acheck
        rw [ok_chk ao, ok_chk bo, if_neg (by decide), if_neg (by decide), if_neg (by simp only [Bool.or_eq_true, decide_eq_true_eq]; omega)]
    · have ea : alT (possT lat ver) a b lat ver s 1 10 = (0, acheck a b lat ver s 1 10) := by unfold alT; rw [if_pos (by simpa using hab)]
      rw [ea]
      refine ⟨?_, fun h => absurd h hab⟩
      by_cases hba : acheck b a lat ver s 1 10 = 0
      · exfalso
        obtain ⟨bo, ao, l0, l1, v0, v1, g0, g1, _⟩ := acheck_ok hba
        apply hab
        unfold acheck
        rw [ok_chk ao, ok_chk bo, if_neg (by decide), if_neg (by decide), if_neg (by simp only [Bool.or_eq_true, decide_eq_true_eq]; omega)]
      · have eb : alT (possT lat ver) b a lat ver s 1 10 = (0, acheck b a lat ver s 1 10) := by unfold alT; rw [if_pos (by simpa using hba)]
        rw [eb]
        exact acheck_turn a b lat ver s 1 10
  generalize alT (possT lat ver) a b lat ver s 1 10 = A1 at f1 k1 k2 k3
  generalize alT (certT lat ver) a b lat ver s 1 10 = A2 at f2 k1
  generalize alT (possT (w (lat + mo)) ver) a b (w (lat + mo)) ver s 1 10 = A3 at f3 k2
  generalize alT (possT lat ver) b a lat ver s 1 10 = A4 at f4 k3
  obtain ⟨n, e⟩ := A1
  obtain ⟨k, f⟩ := A2
  obtain ⟨m, g⟩ := A3
  obtain ⟨o, h⟩ := A4
  simp only [iout, T.c, T.zero] at f1 f2 f3 f4 z1 z2
  simp (config := {maxSteps := 8000000}) only [c4, T.c, z1, z2, f1, f2, f3, f4, hw1, hw2, bne_self_eq_false, wc_seq, wc_reg, wc_cond_t, wc_cond_k, wc_blk, wc_loop, wc_exit, wc_ret, wc_skip, thenQ_n, thenQ_e, thenQ_r, leaveQ_n, leaveQ_e, leaveQ_r, exOk_n, exOk_r, rvq_nil, rvq_t, rvq_c1, rvq_cn, mkRes1, mkRes2, mkRes3, rg_nil, rg_gcall, rg_callp, avoids_nil, avoids_st, ptrId_ptr, apart_ptr, bne_self_eq_false, Nat.add_eq_left, Nat.left_eq_add, Nat.add_left_cancel_iff, decide_true, decide_false, decide_not, Nat.succ_ne_self, pcallV_fn, im_pcf, gv_pcf, im_pc10, gv_pc10, im_pc20, gv_pc20, im_pc21, gv_pc21, im_pc30, gv_pc30, im_pc31, gv_pc31, im_pc32, gv_pc32, im_pc40, gv_pc40, im_pc41, gv_pc41, im_pc42, gv_pc42, im_pc43, gv_pc43, im_pc50, gv_pc50, im_pc51, gv_pc51, im_pc52, gv_pc52, im_pc53, gv_pc53, im_pc54, gv_pc54, rg_new, rg_box, rg_mks, rg_st, rg_iad, rg_iadg, rg_q, rg_qg, updO_some, updO_none, ev_t, ev_k, upd_at, ofL_zero, ofL_succ, ofL_nil, qt_mv, qt_pick, qt_mk, qt_ld1, qt_ldn, qt_nchk, qt_bin, qt_eqs, qt_eqn, qt_un, qt_cvi, qt_cvs, qt_mkf, qt_slc, qt_slz, qt_sla, qt_sls, qt_fad, qt_fld1, qt_fldn, qt_iaa, qt_ixa, qt_ixs, qt_ext, qt_lenv, qt_lenc, qt_capv, qt_mnx, kq_mv, vq_mv, kq_pick, vq_pick, kq_fad, vq_fad, kq_ld1, vq_ld1, kq_ldn, vq_ldn, kq_bin, vq_bin, kq_un, vq_un, kq_ext, vq_ext, kq_nchk, vq_nchk, kq_mk, vq_mk, kq_eqb, vq_eqb, kq_eqs, vq_eqs, kq_eqn, vq_eqn, kq_cvi, vq_cvi, kq_mkf, vq_mkf, kq_slc, vq_slc, kq_fld1, vq_fld1, kq_fldn, vq_fldn, kq_lenv, vq_lenv, kq_lenc, vq_lenc, kq_mnx, vq_mnx, isPtr_ptr, isBool_bool, bv_bool, fadA_ptr, ld1A_ptr, ldnA_ptr, getC_zero, getC_succ, cells_agg, cells_int, cells_bool, cells_str, cells_sl, cells_ptr, isTup_agg, isTup_int, isTup_bool, isTup_str, isTup_sl, isTup_ptr, sc_int, sc_bool, sc_str, pick_t, pick_f, nchkA_ptr, nchkA_fn, lay_nil, lay_cons, wr_def, eqbA_b, eqsA_agg, aeqs_nil, aeqs_i, aeqs_b, aeqs_s, eqnA_sl, eqnA_s0, cviA_i, obd_none, obd_some, toI_int, fld1A_agg, fldnA_agg, lenvA_sl, lenvA_s0, lenvA_str, amn_nil, amn_max, amn_min, idxOk_sl, idxV_sl, abin_add, abin_sub, abin_mul, abin_quo, abin_rem, abin_eql, abin_neq, abin_lss, abin_leq, abin_gtr, abin_geq, abin_seql, abin_sneq, aun_neg, aun_not, aext_tup, im_true, im_fad, im_ld1, im_ldn, im_binl, im_binr, im_un, im_bool, im_ext, gv_gv, gv_fad, gv_ld1, gv_ldn, gv_binl, gv_binr, gv_un, gv_ext, gv_pick, pick_or, pick_and, rd_new, rd_new0, rd_cons0, rd_consS, obOf, stOk_ptr, stH_ptr, put_new, put_new0, put_0, put_s, List.all_cons, List.all_nil, List.map_cons, List.map_nil, List.length_cons, List.length_nil, List.take_zero, List.take_succ_cons, List.take_nil, List.drop_zero, List.drop_succ_cons, List.drop_nil, Nat.reduceAdd, Nat.reduceMul, Nat.reduceSub, if_true, Nat.reduceLT, Nat.reduceLeDiff, ite_true, ite_false, Nat.reduceEqDiff, if_false, Bool.not_false, Bool.not_true, Bool.and_true, Bool.true_and, Bool.false_and, Bool.and_false, Bool.or_true, Bool.true_or, Bool.or_false, Bool.false_or, reduceCtorEq, ne_eq, not_false_eq_true, not_true_eq_false, List.getD, List.getElem?_cons_zero, List.getElem?_cons_succ, Option.getD_some, Option.bind_some, Option.map_some, Option.isSome_some, Nat.zero_add, Nat.add_zero, Bool.false_eq_true, reduceIte, List.length_append, List.append_assoc, List.cons_append, List.nil_append, true_and, and_true, and_self, Nat.le_refl, Nat.le_add_right, Option.some.injEq, true_implies, false_implies, forall_const, implies_true, Int.reduceNeg, avoids_none, eq_self, Prod.mk.injEq, AV.fn.injEq, List.self_eq_append_right, List.append_nil, exists_eq_left, exists_eq_left', exists_and_left, exists_eq_right, exists_and_right, and_assoc, List.cons_append, List.nil_append, List.map_cons, List.map_nil, gd_tt, gd_tf, gd_ft, gd_ff, im_t, im_f, gv_t, gv_f, im_eqbl, im_eqbr, gv_eqbl, gv_eqbr, im_eqsl, im_eqsr, gv_eqsl, gv_eqsr, im_eqn, gv_eqn, im_cvi, gv_cvi, im_fld1, gv_fld1, im_fldn, gv_fldn, im_lenv, gv_lenv, wnt_bool, wnt_gv, wnt_und, gv_pk1, gv_pk2, rg_appk, idx_gl, idx_gr, iok_gl, iok_gr, isPtr_fad, fad_fad, kq_ixa, vq_ixa, ixaA_0, ixaA_1, ixaA_t0, ixaA_t1, le_pl, rg_mkk, mkK_int]
  simp only [Prod.mk.injEq] at k1 k2 k3
  have k1' : f = 0 → e = 0 ∧ n ≤ k := by
    intro hf
    obtain ⟨n', ⟨rfl, h2⟩, h3⟩ := k1 k ⟨rfl, hf⟩
    exact ⟨h2, h3⟩
  have k2' : e = 0 → (g = 0 ∧ m ≤ n) ∨ (g ≠ 0 ∧ g ≠ 8) := by
    intro he
    rcases k2 n ⟨rfl, he⟩ with ⟨m', ⟨rfl, h2⟩, h3⟩ | ⟨m', e', ⟨_, rfl⟩, h2, h3⟩
    · exact Or.inl ⟨h2, h3⟩
    · exact Or.inr ⟨h2, h3⟩
  clear k1 k2
  refine ⟨fun hc => ?_, fun _ => ?_⟩
  · exfalso
    simp only [Bool.or_eq_true, Bool.and_eq_true, beq_iff_eq, bne_iff_ne, ne_eq, decide_eq_true_eq] at hc
    omega
  · congr 1
    simp only [Bool.or_eq_true, Bool.and_eq_true, beq_iff_eq, bne_iff_ne, ne_eq]
    omega


theorem proved : Pure := by
  intro xs hg
  obtain ⟨e0, s0, rfl, u0, v0⟩ := goodL_cons hg
  obtain ⟨l1, rfl, q1⟩ := good_st u0
  obtain ⟨d1_0, r1_0, rfl, h1_0, g1_0⟩ := goodL_cons q1
  obtain ⟨l2, rfl, q2⟩ := good_st h1_0
  obtain ⟨d2_0, r2_0, rfl, h2_0, g2_0⟩ := goodL_cons q2
  obtain ⟨n3, rfl, lo3, hi3⟩ := good_i64 h2_0
  obtain ⟨d2_1, r2_1, rfl, h2_1, g2_1⟩ := goodL_cons g2_0
  obtain ⟨n4, rfl, lo4, hi4⟩ := good_i64 h2_1
  obtain ⟨d2_2, r2_2, rfl, h2_2, g2_2⟩ := goodL_cons g2_1
  obtain ⟨n5, rfl, lo5, hi5⟩ := good_i64 h2_2
  obtain ⟨d2_3, r2_3, rfl, h2_3, g2_3⟩ := goodL_cons g2_2
  obtain ⟨l6, rfl, q6⟩ := good_st h2_3
  obtain ⟨d6_0, r6_0, rfl, h6_0, g6_0⟩ := goodL_cons q6
  obtain ⟨n7, rfl, lo7, hi7⟩ := good_i64 h6_0
  obtain ⟨d6_1, r6_1, rfl, h6_1, g6_1⟩ := goodL_cons g6_0
  obtain ⟨n8, rfl, lo8, hi8⟩ := good_i64 h6_1
  obtain rfl := goodL_nil g6_1
  obtain ⟨d2_4, r2_4, rfl, h2_4, g2_4⟩ := goodL_cons g2_3
  obtain ⟨l9, rfl, q9⟩ := good_st h2_4
  obtain ⟨d9_0, r9_0, rfl, h9_0, g9_0⟩ := goodL_cons q9
  obtain ⟨n10, rfl, lo10, hi10⟩ := good_i64 h9_0
  obtain ⟨d9_1, r9_1, rfl, h9_1, g9_1⟩ := goodL_cons g9_0
  obtain ⟨n11, rfl, lo11, hi11⟩ := good_i64 h9_1
  obtain rfl := goodL_nil g9_1
  obtain ⟨d2_5, r2_5, rfl, h2_5, g2_5⟩ := goodL_cons g2_4
  obtain ⟨n12, rfl, lo12, hi12⟩ := good_i64 h2_5
  obtain ⟨d2_6, r2_6, rfl, h2_6, g2_6⟩ := goodL_cons g2_5
  obtain ⟨n13, rfl, lo13, hi13⟩ := good_i64 h2_6
  obtain ⟨d2_7, r2_7, rfl, h2_7, g2_7⟩ := goodL_cons g2_6
  obtain ⟨n14, rfl, lo14, hi14⟩ := good_i64 h2_7
  obtain ⟨d2_8, r2_8, rfl, h2_8, g2_8⟩ := goodL_cons g2_7
  obtain ⟨n15, rfl, lo15, hi15⟩ := good_i64 h2_8
  obtain ⟨d2_9, r2_9, rfl, h2_9, g2_9⟩ := goodL_cons g2_8
  obtain ⟨n16, rfl, lo16, hi16⟩ := good_i64 h2_9
  obtain ⟨d2_10, r2_10, rfl, h2_10, g2_10⟩ := goodL_cons g2_9
  obtain ⟨n17, rfl, lo17, hi17⟩ := good_i64 h2_10
  obtain rfl := goodL_nil g2_10
  obtain ⟨d1_1, r1_1, rfl, h1_1, g1_1⟩ := goodL_cons g1_0
  obtain ⟨n18, rfl, lo18, hi18⟩ := good_i64 h1_1
  obtain ⟨d1_2, r1_2, rfl, h1_2, g1_2⟩ := goodL_cons g1_1
  obtain ⟨l19, rfl, q19⟩ := good_st h1_2
  obtain ⟨d19_0, r19_0, rfl, h19_0, g19_0⟩ := goodL_cons q19
  obtain ⟨n20, rfl, lo20, hi20⟩ := good_i64 h19_0
  obtain ⟨d19_1, r19_1, rfl, h19_1, g19_1⟩ := goodL_cons g19_0
  obtain ⟨l21, rfl, q21⟩ := good_st h19_1
  obtain ⟨d21_0, r21_0, rfl, h21_0, g21_0⟩ := goodL_cons q21
  obtain ⟨n22, rfl, lo22, hi22⟩ := good_i64 h21_0
  obtain ⟨d21_1, r21_1, rfl, h21_1, g21_1⟩ := goodL_cons g21_0
  obtain ⟨n23, rfl, lo23, hi23⟩ := good_i64 h21_1
  obtain rfl := goodL_nil g21_1
  obtain ⟨d19_2, r19_2, rfl, h19_2, g19_2⟩ := goodL_cons g19_1
  obtain ⟨n24, rfl, lo24, hi24⟩ := good_i64 h19_2
  obtain ⟨d19_3, r19_3, rfl, h19_3, g19_3⟩ := goodL_cons g19_2
  obtain ⟨n25, rfl, lo25, hi25⟩ := good_i64 h19_3
  obtain ⟨d19_4, r19_4, rfl, h19_4, g19_4⟩ := goodL_cons g19_3
  obtain ⟨n26, rfl, lo26, hi26⟩ := good_i64 h19_4
  obtain rfl := goodL_nil g19_4
  obtain rfl := goodL_nil g1_2
  obtain ⟨e1, s1, rfl, u1, v1⟩ := goodL_cons v0
  obtain ⟨l27, rfl, q27⟩ := good_st u1
  obtain ⟨d27_0, r27_0, rfl, h27_0, g27_0⟩ := goodL_cons q27
  obtain ⟨l28, rfl, q28⟩ := good_st h27_0
  obtain ⟨d28_0, r28_0, rfl, h28_0, g28_0⟩ := goodL_cons q28
  obtain ⟨n29, rfl, lo29, hi29⟩ := good_i64 h28_0
  obtain ⟨d28_1, r28_1, rfl, h28_1, g28_1⟩ := goodL_cons g28_0
  obtain ⟨n30, rfl, lo30, hi30⟩ := good_i64 h28_1
  obtain ⟨d28_2, r28_2, rfl, h28_2, g28_2⟩ := goodL_cons g28_1
  obtain ⟨n31, rfl, lo31, hi31⟩ := good_i64 h28_2
  obtain ⟨d28_3, r28_3, rfl, h28_3, g28_3⟩ := goodL_cons g28_2
  obtain ⟨l32, rfl, q32⟩ := good_st h28_3
  obtain ⟨d32_0, r32_0, rfl, h32_0, g32_0⟩ := goodL_cons q32
  obtain ⟨n33, rfl, lo33, hi33⟩ := good_i64 h32_0
  obtain ⟨d32_1, r32_1, rfl, h32_1, g32_1⟩ := goodL_cons g32_0
  obtain ⟨n34, rfl, lo34, hi34⟩ := good_i64 h32_1
  obtain rfl := goodL_nil g32_1
  obtain ⟨d28_4, r28_4, rfl, h28_4, g28_4⟩ := goodL_cons g28_3
  obtain ⟨l35, rfl, q35⟩ := good_st h28_4
  obtain ⟨d35_0, r35_0, rfl, h35_0, g35_0⟩ := goodL_cons q35
  obtain ⟨n36, rfl, lo36, hi36⟩ := good_i64 h35_0
  obtain ⟨d35_1, r35_1, rfl, h35_1, g35_1⟩ := goodL_cons g35_0
  obtain ⟨n37, rfl, lo37, hi37⟩ := good_i64 h35_1
  obtain rfl := goodL_nil g35_1
  obtain ⟨d28_5, r28_5, rfl, h28_5, g28_5⟩ := goodL_cons g28_4
  obtain ⟨n38, rfl, lo38, hi38⟩ := good_i64 h28_5
  obtain ⟨d28_6, r28_6, rfl, h28_6, g28_6⟩ := goodL_cons g28_5
  obtain ⟨n39, rfl, lo39, hi39⟩ := good_i64 h28_6
  obtain ⟨d28_7, r28_7, rfl, h28_7, g28_7⟩ := goodL_cons g28_6
  obtain ⟨n40, rfl, lo40, hi40⟩ := good_i64 h28_7
  obtain ⟨d28_8, r28_8, rfl, h28_8, g28_8⟩ := goodL_cons g28_7
  obtain ⟨n41, rfl, lo41, hi41⟩ := good_i64 h28_8
  obtain ⟨d28_9, r28_9, rfl, h28_9, g28_9⟩ := goodL_cons g28_8
  obtain ⟨n42, rfl, lo42, hi42⟩ := good_i64 h28_9
  obtain ⟨d28_10, r28_10, rfl, h28_10, g28_10⟩ := goodL_cons g28_9
  obtain ⟨n43, rfl, lo43, hi43⟩ := good_i64 h28_10
  obtain rfl := goodL_nil g28_10
  obtain ⟨d27_1, r27_1, rfl, h27_1, g27_1⟩ := goodL_cons g27_0
  obtain ⟨n44, rfl, lo44, hi44⟩ := good_i64 h27_1
  obtain ⟨d27_2, r27_2, rfl, h27_2, g27_2⟩ := goodL_cons g27_1
  obtain ⟨l45, rfl, q45⟩ := good_st h27_2
  obtain ⟨d45_0, r45_0, rfl, h45_0, g45_0⟩ := goodL_cons q45
  obtain ⟨n46, rfl, lo46, hi46⟩ := good_i64 h45_0
  obtain ⟨d45_1, r45_1, rfl, h45_1, g45_1⟩ := goodL_cons g45_0
  obtain ⟨l47, rfl, q47⟩ := good_st h45_1
  obtain ⟨d47_0, r47_0, rfl, h47_0, g47_0⟩ := goodL_cons q47
  obtain ⟨n48, rfl, lo48, hi48⟩ := good_i64 h47_0
  obtain ⟨d47_1, r47_1, rfl, h47_1, g47_1⟩ := goodL_cons g47_0
  obtain ⟨n49, rfl, lo49, hi49⟩ := good_i64 h47_1
  obtain rfl := goodL_nil g47_1
  obtain ⟨d45_2, r45_2, rfl, h45_2, g45_2⟩ := goodL_cons g45_1
  obtain ⟨n50, rfl, lo50, hi50⟩ := good_i64 h45_2
  obtain ⟨d45_3, r45_3, rfl, h45_3, g45_3⟩ := goodL_cons g45_2
  obtain ⟨n51, rfl, lo51, hi51⟩ := good_i64 h45_3
  obtain ⟨d45_4, r45_4, rfl, h45_4, g45_4⟩ := goodL_cons g45_3
  obtain ⟨n52, rfl, lo52, hi52⟩ := good_i64 h45_4
  obtain rfl := goodL_nil g45_4
  obtain rfl := goodL_nil g27_2
  obtain ⟨e2, s2, rfl, u2, v2⟩ := goodL_cons v1
  obtain ⟨l53, rfl, q53⟩ := good_st u2
  obtain ⟨d53_0, r53_0, rfl, h53_0, g53_0⟩ := goodL_cons q53
  obtain ⟨n54, rfl, lo54, hi54⟩ := good_i64 h53_0
  obtain ⟨d53_1, r53_1, rfl, h53_1, g53_1⟩ := goodL_cons g53_0
  obtain ⟨n55, rfl, lo55, hi55⟩ := good_i64 h53_1
  obtain rfl := goodL_nil g53_1
  obtain ⟨e3, s3, rfl, u3, v3⟩ := goodL_cons v2
  obtain ⟨n56, rfl, lo56, hi56⟩ := good_i64 u3
  obtain ⟨e4, s4, rfl, u4, v4⟩ := goodL_cons v3
  obtain ⟨n57, rfl, lo57, hi57⟩ := good_i64 u4
  obtain rfl := goodL_nil v4
  have := law ⟨n3, n4, n5, n7, n8, n10, n11, n12, n13, n14, n15, n16, n17, n18, n20, n22, n23, n24, n25, n26⟩ ⟨n29, n30, n31, n33, n34, n36, n37, n38, n39, n40, n41, n42, n43, n44, n46, n48, n49, n50, n51, n52⟩ n54 n55 n56 n57 [] 
  simpa only [T.c, layA, layD, layL, argA, shapes, List.nil_append, List.cons_append, List.append_nil, List.append_assoc, List.length_nil, List.length_append, Nat.add_zero, Nat.zero_add, List.headD_cons] using this

end Go.Proofs.Ytpehhlfbnkakpaa.MyAlertSure
