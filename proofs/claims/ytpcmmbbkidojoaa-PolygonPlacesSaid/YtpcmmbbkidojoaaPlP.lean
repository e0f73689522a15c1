/- Plain facts: the crossings of the two rays have the same parity. Conditions stand in each lemma. -/
import Derived.Test.YtpcmmbbkidojoaaPlC
namespace Go.Proofs.Ytpcmmbbkidojoaa.Pl
open Go Go.Proofs.Ytpcmmbbkidojoaa.Eva Go.Proofs.Ytpcmmbbkidojoaa.CodeAll Go.Proofs.Ytpcmmbbkidojoaa.Fl
set_option linter.unusedVariables false
set_option linter.unusedSimpArgs false
set_option maxRecDepth 10000
set_option maxHeartbeats 4000000

theorem mulsign (u v : Int) : (0 < u ∧ 0 < v ∧ 0 < u * v) ∨ (0 < u ∧ v < 0 ∧ u * v < 0) ∨ (u < 0 ∧ 0 < v ∧ u * v < 0) ∨ (u < 0 ∧ v < 0 ∧ 0 < u * v) ∨ (u = 0 ∧ u * v = 0) ∨ (v = 0 ∧ u * v = 0) := by
  rcases Int.lt_trichotomy u 0 with h | h | h
  · rcases Int.lt_trichotomy v 0 with k | k | k
    · exact Or.inr (Or.inr (Or.inr (Or.inl ⟨h, k, Int.mul_pos_of_neg_of_neg h k⟩)))
    · subst k; simp
    · exact Or.inr (Or.inr (Or.inl ⟨h, k, Int.mul_neg_of_neg_of_pos h k⟩))
  · subst h; simp
  · rcases Int.lt_trichotomy v 0 with k | k | k
    · exact Or.inr (Or.inl ⟨h, k, Int.mul_neg_of_pos_of_neg h k⟩)
    · subst k; simp
    · exact Or.inl ⟨h, k, Int.mul_pos h k⟩
theorem edge1 (a b c d : Int) (h : a * d - b * c = 0) : (a * c + b * d ≤ 0) ↔ (min a c ≤ 0 ∧ 0 ≤ max a c ∧ min b d ≤ 0 ∧ 0 ≤ max b d) := by
  have s1 := mulsign a c
  have s2 := mulsign b d
  have s3 := mulsign a d
  have s4 := mulsign b c
  generalize a * c = P1 at *
  generalize b * d = P2 at *
  generalize a * d = P3 at *
  generalize b * c = P4 at *
  rcases Int.lt_trichotomy a 0 with ha | ha | ha <;> rcases Int.lt_trichotomy b 0 with hb | hb | hb <;> rcases Int.lt_trichotomy c 0 with hc | hc | hc <;> rcases Int.lt_trichotomy d 0 with hd | hd | hd <;> omega
/-- a, b is the one end, c, d the other, both from the point. -/
theorem edge2 (a b c d : Int) (h : ¬ (a * d - b * c = 0 ∧ a * c + b * d ≤ 0)) :
    (((b ≤ 0 ∧ 0 < d ∧ 0 < a * d - b * c) ∨ (d ≤ 0 ∧ 0 < b ∧ a * d - b * c < 0)) ↔ ((c < a ∧ c ≤ 0 ∧ 0 < a ∧ 0 < a * d - b * c) ∨ (¬ c < a ∧ a ≤ 0 ∧ 0 < c ∧ a * d - b * c < 0))) ↔ ((0 < a ∧ 0 < b) ↔ (0 < c ∧ 0 < d)) := by
  have s1 := mulsign a c
  have s2 := mulsign b d
  have s3 := mulsign a d
  have s4 := mulsign b c
  generalize a * c = P1 at *
  generalize b * d = P2 at *
  generalize a * d = P3 at *
  generalize b * c = P4 at *
  rcases Int.lt_trichotomy a 0 with ha | ha | ha <;> rcases Int.lt_trichotomy b 0 with hb | hb | hb <;> rcases Int.lt_trichotomy c 0 with hc | hc | hc <;> rcases Int.lt_trichotomy d 0 with hd | hd | hd <;> omega
theorem w_id {x : Int} (h1 : -9223372036854775808 ≤ x) (h2 : x ≤ 9223372036854775807) : w x = x := wrap64 h1 h2
theorem mul_bd {a b m n : Int} (h1 : -m ≤ a) (h2 : a ≤ m) (h3 : -n ≤ b) (h4 : b ≤ n) : -(m * n) ≤ a * b ∧ a * b ≤ m * n := by
  have hm : 0 ≤ m := by omega
  have hn : 0 ≤ n := by omega
  have p1 := Int.mul_nonneg (show 0 ≤ m - a by omega) (show 0 ≤ n + b by omega)
  have p2 := Int.mul_nonneg (show 0 ≤ m + a by omega) (show 0 ≤ n - b by omega)
  have p3 := Int.mul_nonneg (show 0 ≤ m - a by omega) (show 0 ≤ n - b by omega)
  have p4 := Int.mul_nonneg (show 0 ≤ m + a by omega) (show 0 ≤ n + b by omega)
  have e1 : (m - a) * (n + b) = m * n + m * b - a * n - a * b := by grind
  have e2 : (m + a) * (n - b) = m * n - m * b + a * n - a * b := by grind
  have e3 : (m - a) * (n - b) = m * n - m * b - a * n + a * b := by grind
  have e4 : (m + a) * (n + b) = m * n + m * b + a * n + a * b := by grind
  omega
def In (p : P2) : Prop := -1000000 ≤ p.x ∧ p.x ≤ 1000000 ∧ -1000000 ≤ p.y ∧ p.y ≤ 1000000
theorem in_off {p : P2} (h : pOff p = false) : In p := by
  simp only [pOff, Bool.or_eq_false_iff, decide_eq_false_iff_not] at h
  unfold In; omega
/-- The cross product of an edge's ends, seen from a point. -/
def cr (a b q : P2) : Int := (a.x - q.x) * (b.y - q.y) - (a.y - q.y) * (b.x - q.x)
theorem mb {a b : Int} (h1 : -2000000 ≤ a) (h2 : a ≤ 2000000) (h3 : -2000000 ≤ b) (h4 : b ≤ 2000000) : -4000000000000 ≤ a * b ∧ a * b ≤ 4000000000000 := mul_bd (m := 2000000) (n := 2000000) h1 h2 h3 h4
theorem wmul {a b : Int} (h1 : -2000000 ≤ a) (h2 : a ≤ 2000000) (h3 : -2000000 ≤ b) (h4 : b ≤ 2000000) : w (a * b) = a * b := by
  have := mb h1 h2 h3 h4
  exact w_id (by omega) (by omega)
theorem turn_cr {a b q : P2} (ha : In a) (hb : In b) (hq : In q) : turn a b q = sgn (cr a b q) ∧ rcr a b q = cr a b q ∧ onS a b q = decide ((a.x - q.x) * (b.x - q.x) + (a.y - q.y) * (b.y - q.y) ≤ 0) := by
  obtain ⟨a1, a2, a3, a4⟩ := ha
  obtain ⟨b1, b2, b3, b4⟩ := hb
  obtain ⟨q1, q2, q3, q4⟩ := hq
  have e1 : w (b.x - a.x) = b.x - a.x := w_id (by omega) (by omega)
  have e2 : w (b.y - a.y) = b.y - a.y := w_id (by omega) (by omega)
  have e3 : w (q.x - a.x) = q.x - a.x := w_id (by omega) (by omega)
  have e4 : w (q.y - a.y) = q.y - a.y := w_id (by omega) (by omega)
  have e5 : w (a.x - q.x) = a.x - q.x := w_id (by omega) (by omega)
  have e6 : w (a.y - q.y) = a.y - q.y := w_id (by omega) (by omega)
  have e7 : w (b.x - q.x) = b.x - q.x := w_id (by omega) (by omega)
  have e8 : w (b.y - q.y) = b.y - q.y := w_id (by omega) (by omega)
  have m1 := mb (a := b.x - a.x) (b := q.y - a.y) (by omega) (by omega) (by omega) (by omega)
  have m2 := mb (a := b.y - a.y) (b := q.x - a.x) (by omega) (by omega) (by omega) (by omega)
  have m3 := mb (a := a.x - q.x) (b := b.x - q.x) (by omega) (by omega) (by omega) (by omega)
  have m4 := mb (a := a.y - q.y) (b := b.y - q.y) (by omega) (by omega) (by omega) (by omega)
  have hc : (b.x - a.x) * (q.y - a.y) - (b.y - a.y) * (q.x - a.x) = cr a b q := by unfold cr; grind
  have f1 : w ((b.x - a.x) * (q.y - a.y)) = (b.x - a.x) * (q.y - a.y) := w_id (by omega) (by omega)
  have f2 : w ((b.y - a.y) * (q.x - a.x)) = (b.y - a.y) * (q.x - a.x) := w_id (by omega) (by omega)
  have f3 : w ((a.x - q.x) * (b.x - q.x)) = (a.x - q.x) * (b.x - q.x) := w_id (by omega) (by omega)
  have f4 : w ((a.y - q.y) * (b.y - q.y)) = (a.y - q.y) * (b.y - q.y) := w_id (by omega) (by omega)
  have f5 : w ((b.x - a.x) * (q.y - a.y) - (b.y - a.y) * (q.x - a.x)) = cr a b q := by rw [← hc]; exact w_id (by omega) (by omega)
  have f6 : w ((a.x - q.x) * (b.x - q.x) + (a.y - q.y) * (b.y - q.y)) = (a.x - q.x) * (b.x - q.x) + (a.y - q.y) * (b.y - q.y) := w_id (by omega) (by omega)
  refine ⟨?_, ?_, ?_⟩
  · unfold turn crs; rw [e1, e2, e3, e4, f1, f2, f5]
  · unfold rcr; rw [e1, e2, e3, e4, f1, f2, f5]
  · unfold onS dot; rw [e5, e6, e7, e8, f3, f4, f6]
theorem cr_swap (a b q : P2) : cr b a q = -cr a b q := by unfold cr; grind
theorem sgn_0 (c : Int) : (sgn c == 0) = decide (c = 0) := by
  unfold sgn
  rcases Int.lt_trichotomy c 0 with h | h | h
  · simp [h, show ¬ 0 < c by omega, show c ≠ 0 by omega]
  · subst h; rfl
  · simp [h, show c ≠ 0 by omega]
theorem sgn_p (c : Int) : decide (0 < sgn c) = decide (0 < c) := by
  unfold sgn
  rcases Int.lt_trichotomy c 0 with h | h | h
  · simp [h, show ¬ 0 < c by omega]
  · subst h; rfl
  · simp [h]
theorem sgn_n (c : Int) : decide (sgn c < 0) = decide (c < 0) := by
  unfold sgn
  rcases Int.lt_trichotomy c 0 with h | h | h
  · simp [h, show ¬ 0 < c by omega]
  · subst h; rfl
  · simp [h, show ¬ c < 0 by omega]
/-- The quarter to the upper right. -/
def Qd (p q : P2) : Bool := decide (q.x < p.x) && decide (q.y < p.y)
theorem edge_same {a b q : P2} (ha : In a) (hb : In b) (hq : In q) : (turn a b q == 0 && onS a b q) = onE a b q := by
  obtain ⟨t1, t2, t3⟩ := turn_cr ha hb hq
  unfold onE
  rw [t1, t2, t3, sgn_0]
  have e := edge1 (a.x - q.x) (a.y - q.y) (b.x - q.x) (b.y - q.y)
  change cr a b q = 0 → _ at e
  by_cases h : cr a b q = 0
  · have e := e h
    rw [decide_eq_true h]
    have h' : (cr a b q == 0) = true := by simpa using h
    rw [h', Bool.eq_iff_iff]
    simp only [Bool.true_and, Bool.and_eq_true, decide_eq_true_eq]
    rw [e]; omega
  · have h' : (cr a b q == 0) = false := by simpa using h
    rw [decide_eq_false h, h']; rfl
theorem edge_par {a b q : P2} (ha : In a) (hb : In b) (hq : In q) (h : onE a b q = false) : (rt a b q (turn a b q) == upS a b q) = (Qd a q == Qd b q) := by
  have hs := edge_same ha hb hq
  rw [h] at hs
  obtain ⟨t1, t2, t3⟩ := turn_cr ha hb hq
  obtain ⟨_, u2, _⟩ := turn_cr hb ha hq
  rw [t1, t3, sgn_0] at hs
  have hx : ¬ (cr a b q = 0 ∧ (a.x - q.x) * (b.x - q.x) + (a.y - q.y) * (b.y - q.y) ≤ 0) := by
    rintro ⟨k1, k2⟩
    rw [decide_eq_true k1, decide_eq_true k2] at hs; cases hs
  have e := edge2 (a.x - q.x) (a.y - q.y) (b.x - q.x) (b.y - q.y) hx
  have hup : upS a b q = decide ((b.x - q.x < a.x - q.x ∧ b.x - q.x ≤ 0 ∧ 0 < a.x - q.x ∧ 0 < cr a b q) ∨ (¬ b.x - q.x < a.x - q.x ∧ a.x - q.x ≤ 0 ∧ 0 < b.x - q.x ∧ cr a b q < 0)) := by
    unfold upS up
    rw [t2, u2, cr_swap a b q]
    by_cases hsw : b.x < a.x
    · rw [if_pos (decide_eq_true hsw), Bool.eq_iff_iff]
      simp only [Bool.and_eq_true, decide_eq_true_eq]; omega
    · rw [if_neg (by simpa using hsw), Bool.eq_iff_iff]
      simp only [Bool.and_eq_true, decide_eq_true_eq]; omega
  have hrt : rt a b q (turn a b q) = decide ((a.y - q.y ≤ 0 ∧ 0 < b.y - q.y ∧ 0 < cr a b q) ∨ (b.y - q.y ≤ 0 ∧ 0 < a.y - q.y ∧ cr a b q < 0)) := by
    unfold rt
    rw [t1, sgn_p, sgn_n, Bool.eq_iff_iff]
    simp only [Bool.or_eq_true, Bool.and_eq_true, decide_eq_true_eq]; omega
  have hqa : Qd a q = decide (0 < a.x - q.x ∧ 0 < a.y - q.y) := by
    unfold Qd; rw [Bool.eq_iff_iff]; simp only [Bool.and_eq_true, decide_eq_true_eq]; omega
  have hqb : Qd b q = decide (0 < b.x - q.x ∧ 0 < b.y - q.y) := by
    unfold Qd; rw [Bool.eq_iff_iff]; simp only [Bool.and_eq_true, decide_eq_true_eq]; omega
  rw [hup, hrt, hqa, hqb]
  change ((_ ↔ _) ↔ (_ ↔ _)) at e
  rw [Bool.eq_iff_iff]
  simp only [beq_iff_eq, decide_eq_decide]
  exact e
theorem go_eq {l : List P2} {q : P2} (hl : ∀ i, i < l.length → In (pt l i)) (hq : In q) (hb : l.length ≤ 16) : ∀ (f i : Nat) (s t : Int), i + f = l.length → (s = 1 ∨ s = -1) → 0 ≤ t → t ≤ i →
    ((decide (s = 1) == decide (t % 2 = 1)) = (Qd (pt l ((i + l.length - 1) % l.length)) q == Qd (pt l ((0 + l.length - 1) % l.length)) q)) → locGo l q f i s = plGo l q f i t
  | 0, i, s, t, hi, hs, h0, h1, h => by
    have hil : i = l.length := by omega
    have ht : t.tmod 2 = t % 2 := Int.tmod_eq_emod_of_nonneg h0
    have hp : (i + l.length - 1) % l.length = (0 + l.length - 1) % l.length := by
      rw [hil]
      rcases Nat.eq_zero_or_pos l.length with h | h
      · rw [h]
      · rw [show l.length + l.length - 1 = (0 + l.length - 1) + l.length by omega, Nat.add_mod_right]
    rw [hp] at h
    simp only [BEq.rfl, beq_iff_eq, decide_eq_decide] at h
    simp only [locGo, plGo]
    rw [ht]
    by_cases k : t % 2 = 1
    · rw [if_pos (by simpa using k)]; exact h.2 k
    · rw [if_neg (by simpa using k)]
      rcases hs with hs | hs
      · exact absurd (h.1 hs) k
      · exact hs
  | f + 1, i, s, t, hi, hs, h0, h1, h => by
    have hn : 0 < l.length := by omega
    have ha := hl ((i + l.length - 1) % l.length) (Nat.mod_lt _ hn)
    have hbb := hl i (by omega)
    have e1 := edge_same ha hbb hq
    have e2 := edge_par ha hbb hq
    have hnx : (i + 1 + l.length - 1) % l.length = i := by
      rw [show i + 1 + l.length - 1 = i + l.length by omega, Nat.add_mod_right, Nat.mod_eq_of_lt (by omega)]
    have ih := fun s t => go_eq hl hq hb f (i + 1) s t (by omega)
    rw [hnx] at ih
    simp only [locGo, plGo]
    rw [e1]
    by_cases k : onE (pt l ((i + l.length - 1) % l.length)) (pt l i) q = true
    · rw [if_pos k, if_pos k]
    · rw [if_neg k, if_neg k]
      have e2 := e2 (by simpa using k)
      generalize rt (pt l ((i + l.length - 1) % l.length)) (pt l i) q (turn (pt l ((i + l.length - 1) % l.length)) (pt l i) q) = RT at *
      generalize upS (pt l ((i + l.length - 1) % l.length)) (pt l i) q = UP at *
      generalize Qd (pt l ((i + l.length - 1) % l.length)) q = QA at *
      generalize Qd (pt l i) q = QB at *
      generalize Qd (pt l ((0 + l.length - 1) % l.length)) q = Q0 at *
      have ws : w (0 - s) = -s := by rw [w_id (by omega) (by omega)]; omega
      have wt : w (t + 1) = t + 1 := w_id (by omega) (by omega)
      rw [ws, wt]
      have ds : decide (-s = 1) = !decide (s = 1) := by rcases hs with rfl | rfl <;> rfl
      have dt : decide ((t + 1) % 2 = 1) = !decide (t % 2 = 1) := by
        by_cases k : t % 2 = 1
        · rw [decide_eq_true k, decide_eq_false (by omega)]; rfl
        · rw [decide_eq_false k, decide_eq_true (by omega)]; rfl
      have hs' : -s = 1 ∨ -s = -1 := by omega
      cases RT <;> cases UP <;> simp only [Bool.false_eq_true, if_true, if_false]
      · refine ih s t hs h0 (by omega) ?_
        rw [h]; revert e2; cases QA <;> cases QB <;> cases Q0 <;> decide
      · refine ih s (t + 1) hs (by omega) (by omega) ?_
        rw [dt]; revert e2 h
        cases decide (s = 1) <;> cases decide (t % 2 = 1) <;> cases QA <;> cases QB <;> cases Q0 <;> decide
      · refine ih (-s) t hs' h0 (by omega) ?_
        rw [ds]; revert e2 h
        cases decide (s = 1) <;> cases decide (t % 2 = 1) <;> cases QA <;> cases QB <;> cases Q0 <;> decide
      · refine ih (-s) (t + 1) hs' (by omega) (by omega) ?_
        rw [ds, dt]; revert e2 h
        cases decide (s = 1) <;> cases decide (t % 2 = 1) <;> cases QA <;> cases QB <;> cases Q0 <;> decide
theorem ck1_in : ∀ (l : List P2), ck1 l = 0 → ∀ (i : Nat) (x : P2), l[i]? = some x → In x
  | [], h, i, x, hx => by simp at hx
  | v :: r, h, i, x, hx => by
    simp only [ck1] at h
    by_cases k : pOff v = true
    · rw [if_pos k] at h; cases h
    rw [if_neg k] at h
    cases i with
    | zero => simp at hx; subst hx; exact in_off (by simpa using k)
    | succ i => exact ck1_in r h i x (by simpa using hx)
theorem places {l : List P2} {q : P2} (h : pchk l = 0) (hq : pOff q = false) : l.length ≤ 16 ∧ locGo l q l.length 0 (-1) = plGo l q l.length 0 0 := by
  unfold pchk at h
  by_cases c1 : 16 < l.length
  · rw [if_pos c1] at h; cases h
  rw [if_neg c1] at h
  by_cases c2 : l.length < 3
  · rw [if_pos c2] at h; cases h
  rw [if_neg c2] at h
  have hk : ck1 l = 0 := by
    unfold sel at h
    by_cases k : ck1 l = 0
    · exact k
    · rw [if_neg k] at h; cases h
  refine ⟨by omega, go_eq (fun i hi => ck1_in l hk i _ (pt_get hi)) (in_off hq) (by omega) l.length 0 (-1) 0 (by omega) (Or.inr rfl) (by decide) (by decide) ?_⟩
  simp
end Go.Proofs.Ytpcmmbbkidojoaa.Pl
