/- Plain facts about tubes: what a valid tube is, its nodes between. Conditions stand in each lemma. -/
import Derived.Test.YtehgapcmngdcnaaTbA
import Derived.Test.YtehgapcmngdcnaaFlB
namespace Go.Proofs.Ytehgapcmngdcnaa.Fl
open Go Go.Proofs.Ytehgapcmngdcnaa.Eva Go.Proofs.Ytehgapcmngdcnaa.CodeAll
set_option linter.unusedVariables false
set_option linter.unusedSimpArgs false
set_option maxRecDepth 10000
set_option maxHeartbeats 4000000

/-- A valid node. -/
structure Nd.Ok (n : Nd) : Prop where
  t0 : 0 ≤ n.t
  t1 : n.t ≤ 200000
  x0 : -1000000 ≤ n.x
  x1 : n.x ≤ 1000000
  y0 : -1000000 ≤ n.y
  y1 : n.y ≤ 1000000
  h0 : 0 ≤ n.h
  h1 : n.h ≤ 60000
  r0 : 0 ≤ n.r
  r1 : n.r ≤ 1000000
  b0 : 0 ≤ n.b
  b1 : n.b ≤ 60000
theorem pchk_ok {x y : Int} (h : pchk x y = 0) : -1000000 ≤ x ∧ x ≤ 1000000 ∧ -1000000 ≤ y ∧ y ≤ 1000000 := by
  unfold pchk at h
  split at h
  · omega
  · rename_i hc
    simp only [Bool.or_eq_true, decide_eq_true_eq, not_or, Int.not_lt] at hc
    omega
def late1 (pv : Option Int) (t : Int) : Bool := match pv with | none => false | some p => decide (t ≤ p)
theorem tgo_cons (pv : Option Int) (n : Nd) (r : List Nd) : tgo pv (n :: r) =
    if (decide (n.t < 0) || decide (200000 < n.t) || late1 pv n.t) = true then 12
    else if (pchk n.x n.y != 0) = true then pchk n.x n.y
    else if (decide (n.h < 0) || decide (60000 < n.h) || decide (n.r < 0) || decide (1000000 < n.r) || decide (n.b < 0) || decide (60000 < n.b)) = true then 4
    else tgo (some n.t) r := by cases pv <;> rfl
theorem tgo_ok : ∀ (l : List Nd) (pv : Option Int), tgo pv l = 0 → (∀ n ∈ l, n.Ok) ∧ (∀ i : Nat, i + 1 < l.length → (nd l i).t < (nd l (i + 1)).t) ∧ (∀ p n r, pv = some p → l = n :: r → p < n.t)
  | [], pv, _ => ⟨by simp, fun i hi => by simp at hi, fun p n r _ h => by cases h⟩
  | n :: r, pv, h => by
    rw [tgo_cons] at h
    by_cases c1 : (decide (n.t < 0) || decide (200000 < n.t) || late1 pv n.t) = true
    · rw [if_pos c1] at h; omega
    rw [if_neg c1] at h
    by_cases c2 : (pchk n.x n.y != 0) = true
    · rw [if_pos c2] at h; rw [h] at c2; simp at c2
    rw [if_neg c2] at h
    by_cases c3 : (decide (n.h < 0) || decide (60000 < n.h) || decide (n.r < 0) || decide (1000000 < n.r) || decide (n.b < 0) || decide (60000 < n.b)) = true
    · rw [if_pos c3] at h; omega
    rw [if_neg c3] at h
    obtain ⟨i1, i2, i3⟩ := tgo_ok r (some n.t) h
    have hp := pchk_ok (x := n.x) (y := n.y) (by simpa using c2)
    simp only [Bool.or_eq_true, decide_eq_true_eq, not_or, Int.not_lt] at c1 c3
    refine ⟨fun m hm => ?_, fun i hi => ?_, fun p m s hp hl => ?_⟩
    · rcases List.mem_cons.1 hm with rfl | hm
      · constructor <;> omega
      · exact i1 m hm
    · cases i with
      | zero =>
        cases r with
        | nil => simp at hi
        | cons m s => exact i3 n.t m s rfl rfl
      | succ i =>
        have := i2 i (by simp at hi; omega)
        simpa [nd] using this
    · simp only [List.cons.injEq] at hl
      obtain ⟨rfl, rfl⟩ := hl
      subst hp
      have := c1.2
      simp only [late1, decide_eq_true_eq, Int.not_le] at this
      exact this
theorem tchk_ok {l : List Nd} (h : tchk l = 0) : l ≠ [] ∧ (∀ n ∈ l, n.Ok) ∧ (∀ i : Nat, i + 1 < l.length → (nd l i).t < (nd l (i + 1)).t) := by
  refine ⟨tchk_ne h, ?_⟩
  unfold tchk at h
  split at h
  · omega
  · split at h
    · omega
    · have := tgo_ok l none h
      exact ⟨this.1, this.2.1⟩
theorem nd_mem {l : List Nd} {i : Nat} (h : i < l.length) : nd l i ∈ l := by
  unfold nd
  rw [List.getD_eq_getElem?_getD, List.getElem?_eq_getElem h]
  exact List.getElem_mem h
theorem segGo_spec (t : Int) : ∀ (r : List Nd) (k : Nat), k ≤ segGo t r k ∧ segGo t r k ≤ k + r.length ∧ (∀ i : Nat, k ≤ i → i < segGo t r k → (nd r (i - k)).t ≤ t) ∧ (segGo t r k < k + r.length → t < (nd r (segGo t r k - k)).t)
  | [], k => by
    simp only [segGo]
    exact ⟨Nat.le_refl _, by simp, fun i h1 h2 => by omega, fun h => by simp at h⟩
  | n :: r, k => by
    simp only [segGo]
    split
    · rename_i hn
      obtain ⟨h1, h2, h3, h4⟩ := segGo_spec t r (k + 1)
      refine ⟨by omega, by simp; omega, fun i hi1 hi2 => ?_, fun h => ?_⟩
      · by_cases hik : i = k
        · subst hik; simpa [nd] using hn
        · have := h3 i (by omega) hi2
          have e : i - k = (i - (k + 1)) + 1 := by omega
          rw [e]; simpa [nd] using this
      · have := h4 (by simp at h; omega)
        have e : segGo t r (k + 1) - k = (segGo t r (k + 1) - (k + 1)) + 1 := by omega
        rw [e]; simpa [nd] using this
    · rename_i hn
      exact ⟨Nat.le_refl _, by omega, fun i h1 h2 => by omega, fun _ => by simp [nd]; omega⟩

/-- Between two numbers. -/
theorem mix_in {a b n d lo hi : Int} (hd : 0 < d) (n0 : 0 ≤ n) (n1 : n ≤ d) (a0 : lo ≤ a) (a1 : a ≤ hi) (b0 : lo ≤ b) (b1 : b ≤ hi) : lo ≤ a + (b - a) * n / d ∧ a + (b - a) * n / d ≤ hi := by
  have m1 : (lo - a) * d ≤ (b - a) * n := by
    have k1 := Int.mul_nonneg (show 0 ≤ a - lo by omega) (show 0 ≤ d - n by omega)
    have k2 := Int.mul_nonneg (show 0 ≤ b - lo by omega) n0
    simp only [Int.sub_mul, Int.mul_sub] at k1 k2 ⊢
    omega
  have m2 : (b - a) * n ≤ (hi - a) * d := by
    have k1 := Int.mul_nonneg (show 0 ≤ hi - a by omega) (show 0 ≤ d - n by omega)
    have k2 := Int.mul_nonneg (show 0 ≤ hi - b by omega) n0
    simp only [Int.sub_mul, Int.mul_sub] at k1 k2 ⊢
    omega
  have d1 := Int.le_ediv_of_mul_le hd m1
  have d2 := Int.ediv_le_of_le_mul hd m2
  omega
theorem mixup_in {a b n d lo hi : Int} (hd : 0 < d) (n0 : 0 ≤ n) (n1 : n ≤ d) (a0 : lo ≤ a) (a1 : a ≤ hi) (b0 : lo ≤ b) (b1 : b ≤ hi) : lo ≤ a + -(-((b - a) * n) / d) ∧ a + -(-((b - a) * n) / d) ≤ hi := by
  have := mix_in (a := -a) (b := -b) (lo := -hi) (hi := -lo) hd n0 n1 (by omega) (by omega) (by omega) (by omega)
  have e : (-b - -a) * n = -((b - a) * n) := by rw [← Int.neg_mul]; congr 1; omega
  rw [e] at this; omega

theorem tat_ok {l : List Nd} (h : tchk l = 0) {t : Int} {n : Nd} (hn : tat l t = (n, 0)) : (nd l 0).t ≤ t ∧ t ≤ (nd l (l.length - 1)).t ∧ n.Ok ∧ 0 ≤ t ∧ t ≤ 200000 := by
  obtain ⟨hne, hok, hinc⟩ := tchk_ok h
  have hlen := tchk_len h
  have hpos : 0 < l.length := List.length_pos_iff.2 hne
  unfold tat at hn
  split at hn
  · simp only [Prod.mk.injEq] at hn; omega
  rename_i c1
  have o0 := hok _ (nd_mem hpos)
  have o1 := hok _ (nd_mem (show l.length - 1 < l.length by omega))
  have t0 := o0.t0; have t1 := o1.t1
  obtain ⟨s1, s2, s3, s4⟩ := segGo_spec t (l.drop 1) 0
  have e1 : ∀ i, nd (l.drop 1) i = nd l (i + 1) := fun i => by unfold nd; rw [List.getD_eq_getElem?_getD, List.getD_eq_getElem?_getD, List.getElem?_drop, Nat.add_comm]
  generalize segGo t (l.drop 1) 0 = k at s1 s2 s3 s4 hn
  simp only [Nat.sub_zero, Nat.zero_add, List.length_drop, e1] at s2 s3 s4
  have hk : k < l.length := by omega
  have ok := hok _ (nd_mem hk)
  refine ⟨by omega, by omega, ?_, by omega, by omega⟩
  split at hn
  · simp only [Prod.mk.injEq, and_true] at hn
    subst hn; exact ok
  · rename_i c2
    simp only [Prod.mk.injEq, and_true] at hn
    subst hn
    have hkt : (nd l k).t ≤ t := by
      cases k with
      | zero => omega
      | succ j => exact s3 j (by omega) (by omega)
    have hk1 : k + 1 < l.length := by
      by_cases hc : k + 1 < l.length
      · exact hc
      · have : k = l.length - 1 := by omega
        subst this; omega
    have ob := hok _ (nd_mem hk1)
    have hlt := s4 (by omega)
    generalize nd l k = a at ok hkt c2
    generalize nd l (k + 1) = b at ob hlt
    have a1 := ok.t0; have a2 := ok.t1; have a3 := ok.x0; have a4 := ok.x1; have a5 := ok.y0; have a6 := ok.y1; have a7 := ok.h0; have a8 := ok.h1; have a9 := ok.r0; have a10 := ok.r1; have a11 := ok.b0; have a12 := ok.b1
    have b1 := ob.t0; have b2 := ob.t1; have b3 := ob.x0; have b4 := ob.x1; have b5 := ob.y0; have b6 := ob.y1; have b7 := ob.h0; have b8 := ob.h1; have b9 := ob.r0; have b10 := ob.r1; have b11 := ob.b0; have b12 := ob.b1
    have wn : w (t - a.t) = t - a.t := w_id (by omega) (by omega)
    have wd : w (b.t - a.t) = b.t - a.t := w_id (by omega) (by omega)
    have down : ∀ u v lo hi : Int, lo ≤ u → u ≤ hi → lo ≤ v → v ≤ hi → -10000000 ≤ lo → hi ≤ 10000000 → lo ≤ w (u + dvd (w (w (v - u) * (t - a.t))) (b.t - a.t)) ∧ w (u + dvd (w (w (v - u) * (t - a.t))) (b.t - a.t)) ≤ hi := by
      intro u v lo hi h1 h2 h3 h4 h5 h6
      have m := mix_in (a := u) (b := v) (n := t - a.t) (d := b.t - a.t) (by omega) (by omega) (by omega) h1 h2 h3 h4
      have k1 := Int.mul_nonneg (show 0 ≤ 20000000 - (v - u) by omega) (show 0 ≤ t - a.t by omega)
      have k2 := Int.mul_nonneg (show 0 ≤ 20000000 + (v - u) by omega) (show 0 ≤ t - a.t by omega)
      have k3 : (20000000 : Int) * (t - a.t) ≤ 20000000 * 200000 := Int.mul_le_mul_of_nonneg_left (by omega) (by omega)
      rw [Int.sub_mul] at k1; rw [Int.add_mul] at k2
      rw [w_id (x := v - u) (by omega) (by omega), w_id (x := (v - u) * (t - a.t)) (by omega) (by omega), dvd_eq (by omega) (by omega) (by omega), w_id (by omega) (by omega)]
      exact m
    have up : ∀ u v lo hi : Int, lo ≤ u → u ≤ hi → lo ≤ v → v ≤ hi → -10000000 ≤ lo → hi ≤ 10000000 → lo ≤ w (u + dvu (w (w (v - u) * (t - a.t))) (b.t - a.t)) ∧ w (u + dvu (w (w (v - u) * (t - a.t))) (b.t - a.t)) ≤ hi := by
      intro u v lo hi h1 h2 h3 h4 h5 h6
      have m := mixup_in (a := u) (b := v) (n := t - a.t) (d := b.t - a.t) (by omega) (by omega) (by omega) h1 h2 h3 h4
      have k1 := Int.mul_nonneg (show 0 ≤ 20000000 - (v - u) by omega) (show 0 ≤ t - a.t by omega)
      have k2 := Int.mul_nonneg (show 0 ≤ 20000000 + (v - u) by omega) (show 0 ≤ t - a.t by omega)
      have k3 : (20000000 : Int) * (t - a.t) ≤ 20000000 * 200000 := Int.mul_le_mul_of_nonneg_left (by omega) (by omega)
      rw [Int.sub_mul] at k1; rw [Int.add_mul] at k2
      rw [w_id (x := v - u) (by omega) (by omega), w_id (x := (v - u) * (t - a.t)) (by omega) (by omega), dvu_eq (by omega) (by omega) (by omega), w_id (by omega) (by omega)]
      exact m
    have hpa : pchk a.x a.y = 0 := by unfold pchk; rw [if_neg]; simp only [Bool.or_eq_true, decide_eq_true_eq]; omega
    have hpb : pchk b.x b.y = 0 := by unfold pchk; rw [if_neg]; simp only [Bool.or_eq_true, decide_eq_true_eq]; omega
    have htw : toward a.x a.y b.x b.y (t - a.t) (b.t - a.t) = ((w (a.x + dvd (w (w (b.x - a.x) * (t - a.t))) (b.t - a.t)), w (a.y + dvd (w (w (b.y - a.y) * (t - a.t))) (b.t - a.t))), 0) := by
      unfold toward
      rw [if_neg (by simp only [decide_eq_true_eq]; omega), if_neg]
      simp only [hpa, hpb, Bool.or_eq_true, decide_eq_true_eq, bne_self_eq_false, Bool.false_eq_true, or_false]; omega
    have q1 := down a.x b.x (-1000000) 1000000 (by omega) (by omega) (by omega) (by omega) (by omega) (by omega)
    have q2 := down a.y b.y (-1000000) 1000000 (by omega) (by omega) (by omega) (by omega) (by omega) (by omega)
    have q3 := down a.h b.h 0 60000 (by omega) (by omega) (by omega) (by omega) (by omega) (by omega)
    have q4 := up a.r b.r 0 1000000 (by omega) (by omega) (by omega) (by omega) (by omega) (by omega)
    have q5 := up a.b b.b 0 60000 (by omega) (by omega) (by omega) (by omega) (by omega) (by omega)
    unfold tnode
    rw [wn, wd, htw]
    exact ⟨by show 0 ≤ t; omega, by show t ≤ 200000; omega, q1.1, q1.2, q2.1, q2.2, q3.1, q3.2, q4.1, q4.2, q5.1, q5.2⟩

end Go.Proofs.Ytehgapcmngdcnaa.Fl
