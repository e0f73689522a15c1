/- What functions that ClimbThrough reaches compute, over numbers and lists. Their conditions stand in each lemma. -/
import Derived.Test.YtehgapcmngdcnaaMClimbThroughx0
import Derived.Test.YtehgapcmngdcnaaMClimbThroughx1
import Derived.Test.YtehgapcmngdcnaaMClimbThroughx2
import Derived.Test.YtehgapcmngdcnaaMClimbThroughx3
import Derived.Test.YtehgapcmngdcnaaBase
namespace Go.Proofs.Ytehgapcmngdcnaa.LClimbThrough
open Go.RowKit Go.Proofs.Ytehgapcmngdcnaa.Opens Go.Proofs.Ytehgapcmngdcnaa.MClimbThrough Go.Proofs.YtehgapcmngdcnaaW.PrintWords Go.Proofs.YtehgapcmngdcnaaW.PrintLast Go.Proofs.YtehgapcmngdcnaaW.PrintMore Go.Proofs.Ytehgapcmngdcnaa.Base
set_option linter.unusedVariables false
set_option linter.unusedSimpArgs false

theorem divDown {a b : Int} (ha0 : -9223372036854775808 ≤ a) (ha : a ≤ 9223372036854775807) (hb : 0 < b) (hq : -9223372036854775808 < a / b ∨ True) : Ev (fun k => num_DivDown.f k a b) (a / b, 0) := by
  have hf := floor_of (a := a) hb
  have hbd := tdiv_bd ha0 ha hb
  have hfd := fdiv_le (a := a) hb
  have hlow : -9223372036854775808 ≤ a / b := by
    by_cases h : 0 ≤ a
    · have := Int.ediv_nonneg h (by omega : 0 ≤ b); omega
    · have h1 : a ≤ a / b := by
        have h2 : a / b < 0 := Int.ediv_neg_of_neg_of_pos (by omega) hb
        have h3 : a / b * b ≤ a / b * 1 := Int.mul_le_mul_of_nonpos_left (by omega) (by omega)
        rw [Int.mul_comm] at h3
        have h4 := hfd.1
        have h5 := hfd.2
        by_cases h6 : b = 1
        · subst h6; simp
        · have h7 : a / b * b ≤ a / b * 2 := Int.mul_le_mul_of_nonpos_left (by omega) (by omega)
          rw [Int.mul_comm] at h7
          by_cases h8 : a ≤ a / b
          · exact h8
          · exfalso
            have : b * (a / b) + b ≤ a / b + 1 := by
              have : b * (a / b + 1) ≤ 1 * (a / b + 1) := Int.mul_le_mul_of_nonpos_right (by omega) (by omega)
              rw [Int.mul_add, Int.mul_one, Int.one_mul] at this
              exact this
            omega
      omega
  have hj : ∀ f, f = false → Ev (fun k => num_DivDown.j0 k a b f) (a / b, 0) := by
    rintro f rfl
    refine Ev.step (fun k => by rw [num_DivDown.j0]) ?_
    refine ev_neg (by decide) (ev_neg (by omega) ?_)
    rw [← hf]
    by_cases h0 : Int.tmod a b = 0
    · refine ev_pos h0 (ev_eq (Ev.now _) ?_)
      rw [if_pos h0, w64 hbd.1 hbd.2]
    · refine ev_neg h0 ?_
      rw [if_neg h0] at hf ⊢
      have hbn : decide (b < 0) = false := decide_eq_false (by omega)
      by_cases h1 : a < 0
      · refine ev_pos (by rw [hbn, decide_eq_true h1]; rfl) (ev_eq (Ev.now _) ?_)
        rw [if_pos h1] at hf ⊢
        rw [w64 hbd.1 hbd.2, w64 (by omega) (by omega)]
      · refine ev_neg (by rw [hbn, decide_eq_false h1]; decide) (ev_eq (Ev.now _) ?_)
        rw [if_neg h1, w64 hbd.1 hbd.2]
  show Ev (fun k => num_DivDown.f k a b) _
  refine Ev.congr (fun k => by rw [num_DivDown.f]) ?_
  refine ev_neg (by omega) ?_
  by_cases hm : a = -9223372036854775808
  · refine ev_pos hm (hj _ ?_)
    simp; omega
  · exact ev_neg hm (hj _ rfl)
theorem ddown {a b : Int} (ha0 : -9223372036854775808 ≤ a) (ha : a ≤ 9223372036854775807) (hb : 0 < b) : Ev (fun k => num_DivDown.f k a b) (a / b, 0) := divDown ha0 ha hb (Or.inr trivial)

theorem dup {a b : Int} (ha0 : -9223372036854775808 ≤ a) (ha : a < 9223372036854775807) (hb : 0 < b) : Ev (fun k => num_DivUp.f k a b) (cdiv a b, 0) := by
  refine Ev.congr (fun k => by rw [num_DivUp.f]) (Ev.bind (ddown ha0 (by omega) hb) ?_)
  refine ev_pos rfl (ev_neg (by omega) ?_)
  have hc := ceil_of (a := a) hb
  have hle := fdiv_le (a := a) hb
  have hup : a / b ≤ 9223372036854775806 := by
    have h1 : a / b ≤ 9223372036854775806 / b := Int.ediv_le_ediv hb (by omega)
    have h2 : (9223372036854775806 : Int) / b ≤ 9223372036854775806 := Int.ediv_le_self _ (by omega)
    omega
  have hlo : -9223372036854775808 ≤ a / b := by
    have h1 : (-9223372036854775808 : Int) / b ≤ a / b := Int.ediv_le_ediv hb ha0
    have h2 : -9223372036854775808 ≤ (-9223372036854775808 : Int) / b := by
      have := fdiv_le (a := (-9223372036854775808 : Int)) hb
      by_cases h3 : -9223372036854775808 ≤ (-9223372036854775808 : Int) / b
      · exact h3
      · exfalso
        have h4 : b * ((-9223372036854775808 : Int) / b + 1) ≤ 1 * ((-9223372036854775808 : Int) / b + 1) := Int.mul_le_mul_of_nonpos_right (by omega) (by omega)
        rw [Int.mul_add, Int.mul_one, Int.one_mul] at h4
        omega
    omega
  by_cases h0 : Int.tmod a b = 0
  · refine ev_pos h0 (ev_eq (Ev.now _) ?_)
    rw [if_pos h0] at hc; rw [hc]
  · refine ev_neg h0 (ev_eq (Ev.now _) ?_)
    rw [if_neg h0] at hc; rw [← hc, w64 (by omega) (by omega)]

theorem mulbd {v n V N : Int} (h0 : -V ≤ v) (h1 : v ≤ V) (n0 : 0 ≤ n) (n1 : n ≤ N) (hV : 0 ≤ V) : -(V * N) ≤ v * n ∧ v * n ≤ V * N := by
  have a1 : v * n ≤ V * n := Int.mul_le_mul_of_nonneg_right h1 n0
  have a2 : V * n ≤ V * N := Int.mul_le_mul_of_nonneg_left n1 hV
  have a3 : (-V) * n ≤ v * n := Int.mul_le_mul_of_nonneg_right h0 n0
  rw [Int.neg_mul] at a3
  omega
theorem qbd {a d M : Int} (h0 : -M ≤ a) (h1 : a ≤ M) (hd : 0 < d) (hM : 0 ≤ M) : -M ≤ a / d ∧ a / d ≤ M := by
  constructor
  · refine Int.le_ediv_of_mul_le hd ?_
    have : -M * d ≤ -M * 1 := Int.mul_le_mul_of_nonpos_left (by omega) (by omega)
    omega
  · have a1 : a / d ≤ M / d := Int.ediv_le_ediv hd h1
    have a2 : M / d ≤ M := Int.ediv_le_self _ hM
    omega
theorem cqbd {a d M : Int} (h0 : -M ≤ a) (h1 : a ≤ M) (hd : 0 < d) (hM : 0 ≤ M) : -M ≤ cdiv a d ∧ cdiv a d ≤ M := by
  have := qbd (a := -a) (d := d) (M := M) (by omega) (by omega) hd hM
  unfold cdiv; omega

/-- 'within' brings a number into a range. -/
theorem within_in (n low high : Int) (h : low ≤ high) (hl : -1000000000 ≤ low) (hh : high ≤ 1000000000) : ∃ r, skywaykeep2_within.f n low high = some r ∧ low ≤ r ∧ r ≤ high := by
  unfold skywaykeep2_within.f
  have e1 : wrap64 (high - low) = high - low := w64 (by omega) (by omega)
  have e2 : wrap64 (high - low + 1) = high - low + 1 := w64 (by omega) (by omega)
  rw [e1, e2, if_neg (by omega)]
  have hs : 0 < high - low + 1 := by omega
  generalize hsz : high - low + 1 = s at *
  have t1 : Int.tmod n s < s := Int.tmod_lt_of_pos _ hs
  have t0 : -s < Int.tmod n s := by
    have h1 := Int.tmod_lt_of_pos (-n) hs
    rw [Int.neg_tmod] at h1
    omega
  have e3 : wrap64 (Int.tmod n s + s) = Int.tmod n s + s := w64 (by omega) (by omega)
  rw [e3]
  have t2 : Int.tmod (Int.tmod n s + s) s < s := Int.tmod_lt_of_pos _ hs
  have t3 : 0 ≤ Int.tmod (Int.tmod n s + s) s := Int.tmod_nonneg _ (by omega)
  exact ⟨_, rfl, by rw [w64 (by omega) (by omega)]; omega, by rw [w64 (by omega) (by omega)]; omega⟩

abbrev Rep := S31
def at_ (l : List Rep) (i : Nat) : Rep := l.getD i z31
theorem rd_at (l : List Rep) (i : Nat) : rd_T31 l (i : Int) = at_ l i := by unfold rd_T31 at_; rw [Int.toNat_natCast]
theorem at_take (l : List Rep) {i m : Nat} (h : i < m) : at_ (l.take m) i = at_ l i := by
  unfold at_
  simp only [List.getD_eq_getElem?_getD, List.getElem?_take]
  rw [if_pos h]
/-- The report in place j is in range and later than the one before. -/
def OkRep (l : List Rep) (j : Nat) : Prop := 0 ≤ (at_ l j).f0 ∧ (at_ l j).f0 ≤ 200000 ∧ 0 ≤ (at_ l j).f1 ∧ (at_ l j).f1 ≤ 600 ∧ (0 < j → (at_ l (j - 1)).f0 < (at_ l j).f0)
def Valid (l : List Rep) : Prop := l.length ≤ 64 ∧ ∀ j, j < l.length → OkRep l j
theorem chk (l : List Rep) (hl : l.length ≤ 64) : ∀ (d i : Nat), i + d = l.length → ∃ r : Int, Ev (fun k => climb_Check.l0 k l l (l.length : Int) (i : Int)) r ∧ (r = 0 ↔ ∀ j, i ≤ j → j < l.length → OkRep l j)
  | 0, i, h => ⟨0, Ev.step (fun k => by rw [climb_Check.l0]) (ev_neg (by omega) (Ev.now _)), ⟨fun _ j h1 h2 => by omega, fun _ => rfl⟩⟩
  | d + 1, i, h => by
    obtain ⟨r, hr, hd⟩ := chk l hl d (i + 1) (by omega)
    have hw : wrap64 ((i : Int) + 1) = ((i + 1 : Nat) : Int) := by rw [w64 (by omega) (by omega)]; omega
    have hbad : ∀ f, f = true → Ev (fun k => climb_Check.j1 k l (i : Int) l (l.length : Int) (i : Int) f (at_ l i).f0 (at_ l i).f1) 4 := by
      rintro f rfl
      exact Ev.step (fun k => by rw [climb_Check.j1]) (ev_pos rfl (Ev.now _))
    have hgo : ∀ {r : Int}, Ev (fun k => if (at_ l i).f0 < 0 then climb_Check.j1 k l (i : Int) l (l.length : Int) (i : Int) true (at_ l i).f0 (at_ l i).f1 else if (at_ l i).f0 > 200000 then climb_Check.j1 k l (i : Int) l (l.length : Int) (i : Int) true (at_ l i).f0 (at_ l i).f1 else if (at_ l i).f1 < 0 then climb_Check.j1 k l (i : Int) l (l.length : Int) (i : Int) true (at_ l i).f0 (at_ l i).f1 else climb_Check.j1 k l (i : Int) l (l.length : Int) (i : Int) (decide ((at_ l i).f1 > 600)) (at_ l i).f0 (at_ l i).f1) r → Ev (fun k => climb_Check.l0 k l l (l.length : Int) (i : Int)) r := by
      intro r hq
      refine Ev.step (fun k => by rw [climb_Check.l0]) ?_
      simp only [rd_at]
      exact ev_pos (by omega) (ev_pos (by omega) (ev_pos (by omega) hq))
    by_cases hrange : 0 ≤ (at_ l i).f0 ∧ (at_ l i).f0 ≤ 200000 ∧ 0 ≤ (at_ l i).f1 ∧ (at_ l i).f1 ≤ 600
    · obtain ⟨q1, q2, q3, q4⟩ := hrange
      have hj : ∀ {r : Int}, Ev (fun k => climb_Check.j1 k l (i : Int) l (l.length : Int) (i : Int) false (at_ l i).f0 (at_ l i).f1) r → Ev (fun k => climb_Check.l0 k l l (l.length : Int) (i : Int)) r := by
        intro r hq
        refine hgo (ev_neg (by omega) (ev_neg (by omega) (ev_neg (by omega) ?_)))
        rw [decide_eq_false (by omega)]
        exact hq
      by_cases hi0 : i = 0
      · refine ⟨r, hj (Ev.step (fun k => by rw [climb_Check.j1]) (ev_neg (by decide) (ev_neg (by omega) (by rw [hw]; exact hr)))), ?_⟩
        rw [hd]
        constructor
        · intro hh j h1 h2
          by_cases hji : j = i
          · subst hji; exact ⟨q1, q2, q3, q4, fun h3 => by omega⟩
          · exact hh j (by omega) h2
        · exact fun hh j h1 h2 => hh j (by omega) h2
      · have hw1 : wrap64 ((i : Int) - 1) = ((i - 1 : Nat) : Int) := by rw [w64 (by omega) (by omega)]; omega
        by_cases hlt : (at_ l i).f0 ≤ (at_ l (i - 1)).f0
        · refine ⟨12, hj (Ev.step (fun k => by rw [climb_Check.j1]) (ev_neg (by decide) (ev_pos (by omega) ?_))), ?_⟩
          · rw [hw1, rd_at]
            exact ev_pos (by omega) (ev_pos (by omega) (ev_pos hlt (Ev.now _)))
          · constructor
            · intro h0; exact absurd h0 (by decide)
            · intro hh
              have := (hh i (by omega) (by omega)).2.2.2.2 (by omega)
              omega
        · refine ⟨r, hj (Ev.step (fun k => by rw [climb_Check.j1]) (ev_neg (by decide) (ev_pos (by omega) ?_))), ?_⟩
          · rw [hw1, rd_at]
            exact ev_pos (by omega) (ev_pos (by omega) (ev_neg hlt (by rw [hw]; exact hr)))
          · rw [hd]
            constructor
            · intro hh j h1 h2
              by_cases hji : j = i
              · subst hji; exact ⟨q1, q2, q3, q4, fun h3 => by omega⟩
              · exact hh j (by omega) h2
            · exact fun hh j h1 h2 => hh j (by omega) h2
    · refine ⟨4, hgo ?_, ⟨fun h0 => absurd h0 (by decide), fun hh => ?_⟩⟩
      · by_cases h1 : (at_ l i).f0 < 0
        · exact ev_pos h1 (hbad _ rfl)
        · refine ev_neg h1 ?_
          by_cases h2 : (at_ l i).f0 > 200000
          · exact ev_pos h2 (hbad _ rfl)
          · refine ev_neg h2 ?_
            by_cases h3 : (at_ l i).f1 < 0
            · exact ev_pos h3 (hbad _ rfl)
            · exact ev_neg h3 (hbad _ (decide_eq_true (by omega)))
      · have := hh i (by omega) (by omega)
        exact absurd ⟨this.1, this.2.1, this.2.2.1, this.2.2.2.1⟩ hrange
theorem check_any (l : List Rep) : ∃ r : Int, Ev (fun k => climb_Check.f k l) r ∧ (r = 0 ↔ Valid l) := by
  by_cases hl : l.length ≤ 64
  · obtain ⟨r, hr, hd⟩ := chk l hl l.length 0 (by omega)
    refine ⟨r, Ev.congr (fun k => by rw [climb_Check.f]) (ev_neg (by omega) (by exact hr)), ?_⟩
    rw [hd]
    exact ⟨fun h => ⟨hl, fun j hj => h j (by omega) hj⟩, fun h j _ hj => h.2 j hj⟩
  · exact ⟨2, Ev.congr (fun k => by rw [climb_Check.f]) (ev_pos (by omega) (Ev.now _)), ⟨fun h => absurd h (by decide), fun h => absurd h.1 hl⟩⟩
theorem check_ok {l : List Rep} (h : Valid l) : Ev (fun k => climb_Check.f k l) 0 := by
  obtain ⟨r, hr, hd⟩ := check_any l
  rw [hd.2 h] at hr
  exact hr
theorem times {l : List Rep} (h : Valid l) : ∀ (d i : Nat), i + d < l.length → 0 < d → (at_ l i).f0 < (at_ l (i + d)).f0
  | 0, _, _, h0 => absurd h0 (by omega)
  | 1, i, hi, _ => by
    have := (h.2 (i + 1) hi).2.2.2.2 (by omega)
    simpa using this
  | d + 2, i, hi, _ => by
    have h1 := times h (d + 1) i (by omega) (by omega)
    have h2 := (h.2 (i + (d + 2)) hi).2.2.2.2 (by omega)
    have e : i + (d + 2) - 1 = i + (d + 1) := by omega
    rw [e] at h2
    omega
theorem valid_take {l : List Rep} (h : Valid l) (m : Nat) (hm : m ≤ l.length) : Valid (l.take m) := by
  have hlen : (l.take m).length = m := by rw [List.length_take]; omega
  refine ⟨by rw [hlen]; have := h.1; omega, fun j hj => ?_⟩
  rw [hlen] at hj
  have := h.2 j (by omega)
  unfold OkRep at this ⊢
  rw [at_take l hj]
  refine ⟨this.1, this.2.1, this.2.2.1, this.2.2.2.1, fun h0 => ?_⟩
  rw [at_take l (by omega)]
  exact this.2.2.2.2 h0

/-! ### the rates -/
/-- What a pair of reports says of the rate. -/
def least (b a : Rep) : Int := (16 * (100 * (b.f1 - a.f1) - 100 + 1)) / (b.f0 - a.f0)
def most (b a : Rep) : Int := cdiv (16 * (100 * (b.f1 - a.f1) + 100 - 1)) (b.f0 - a.f0)
def st (b a : Rep) (p : Int × Int) : Int × Int := (mx p.1 (least b a), mn p.2 (most b a))
def inner (l : List Rep) (b : Rep) : Nat → Int × Int → Int × Int
  | 0, p => p
  | j + 1, p => st b (at_ l j) (inner l b j p)
def rate (l : List Rep) : Nat → Int × Int
  | 0 => (-3200, 3200)
  | i + 1 => inner l (at_ l i) i (rate l i)
def fin (p : Int × Int) : Int × Int × Int := if p.1 > p.2 then (0, 0, 8) else (p.1, p.2, 0)
theorem inner_ev {l : List Rep} (h : Valid l) (i : Nat) (hi : i < l.length) (p0 : Int × Int) (r : Int × Int × Int)
    (hk : Ev (fun k => climb_Rates.l0 k l (inner l (at_ l i) i p0).1 (inner l (at_ l i) i p0).2 l (l.length : Int) ((i + 1 : Nat) : Int)) r) :
    ∀ (d j : Nat), j + d = i → Ev (fun k => climb_Rates.l1 k l (inner l (at_ l i) j p0).1 (inner l (at_ l i) j p0).2 l (l.length : Int) (i : Int) (l.take i) ((l.take i).length : Int) (j : Int) (at_ l i).f0 (at_ l i).f1) r
  | 0, j, hj => by
    have : j = i := by omega
    subst this
    have hlen : (l.take j).length = j := by rw [List.length_take]; omega
    refine Ev.step (fun k => by rw [climb_Rates.l1]) (ev_neg (by rw [hlen]; omega) ?_)
    have hw : wrap64 ((j : Int) + 1) = ((j + 1 : Nat) : Int) := by have := h.1; rw [w64 (by omega) (by omega)]; omega
    rw [hw]
    exact hk
  | d + 1, j, hj => by
    have ih := inner_ev h i hi p0 r hk d (j + 1) (by omega)
    have hlen : (l.take i).length = i := by rw [List.length_take]; omega
    have hl := h.1
    have hw : wrap64 ((j : Int) + 1) = ((j + 1 : Nat) : Int) := by rw [w64 (by omega) (by omega)]; omega
    have hra : rd_T31 (l.take i) (j : Int) = at_ l j := by rw [rd_at, at_take l (by omega)]
    have ht := times h (i - j) j (by omega) (by omega)
    rw [show j + (i - j) = i by omega] at ht
    obtain ⟨a1, a2, a3, a4, _⟩ := h.2 j (by omega)
    obtain ⟨b1, b2, b3, b4, _⟩ := h.2 i hi
    refine Ev.step (fun k => by rw [climb_Rates.l1]) (ev_pos (by rw [hlen]; omega) (ev_pos (by omega) (ev_pos (by rw [hlen]; omega) ?_)))
    rw [hra, hw]
    generalize hA : at_ l j = A at *
    generalize hB : at_ l i = B at *
    have w1 : wrap64 (B.f1 - A.f1) = B.f1 - A.f1 := w64 (by omega) (by omega)
    have w2 : wrap64 (100 * (B.f1 - A.f1)) = 100 * (B.f1 - A.f1) := w64 (by omega) (by omega)
    have w3 : wrap64 (100 * (B.f1 - A.f1) - 100) = 100 * (B.f1 - A.f1) - 100 := w64 (by omega) (by omega)
    have w4 : wrap64 (100 * (B.f1 - A.f1) - 100 + 1) = 100 * (B.f1 - A.f1) - 100 + 1 := w64 (by omega) (by omega)
    have w5 : wrap64 (16 * (100 * (B.f1 - A.f1) - 100 + 1)) = 16 * (100 * (B.f1 - A.f1) - 100 + 1) := w64 (by omega) (by omega)
    have w6 : wrap64 (B.f0 - A.f0) = B.f0 - A.f0 := w64 (by omega) (by omega)
    have w7 : wrap64 (100 * (B.f1 - A.f1) + 100) = 100 * (B.f1 - A.f1) + 100 := w64 (by omega) (by omega)
    have w8 : wrap64 (100 * (B.f1 - A.f1) + 100 - 1) = 100 * (B.f1 - A.f1) + 100 - 1 := w64 (by omega) (by omega)
    have w9 : wrap64 (16 * (100 * (B.f1 - A.f1) + 100 - 1)) = 16 * (100 * (B.f1 - A.f1) + 100 - 1) := w64 (by omega) (by omega)
    simp only [w1, w2, w3, w4, w5, w6, w7, w8, w9]
    refine Ev.bind (ddown (by omega) (by omega) (by omega)) (Ev.bind (dup (by omega) (by omega) (by omega)) ?_)
    have e : inner l B (j + 1) p0 = st B A (inner l B j p0) := by rw [← hA]; rfl
    rw [e] at ih
    exact ih
theorem rates_loop {l : List Rep} (h : Valid l) : ∀ (d i : Nat), i + d = l.length → Ev (fun k => climb_Rates.l0 k l (rate l i).1 (rate l i).2 l (l.length : Int) (i : Int)) (fin (rate l l.length))
  | 0, i, hi => by
    have : i = l.length := by omega
    subst this
    refine Ev.step (fun k => by rw [climb_Rates.l0]) (ev_neg (by omega) ?_)
    unfold fin
    exact ev_ite (fun _ => Ev.now _) (fun _ => Ev.now _)
  | d + 1, i, hi => by
    have ih := rates_loop h d (i + 1) (by omega)
    refine Ev.step (fun k => by rw [climb_Rates.l0]) (ev_pos (by omega) (ev_pos (by omega) (ev_pos (by omega) (ev_pos (by omega) ?_))))
    simp only [Option.bind_some, rd_at, Int.toNat_natCast]
    exact inner_ev h i (by omega) (rate l i) _ ih i 0 (by omega)
theorem rates_ok {l : List Rep} (h : Valid l) : Ev (fun k => climb_Rates.f k l) (fin (rate l l.length)) := by
  refine Ev.congr (fun k => by rw [climb_Rates.f]) (Ev.bind (check_ok h) (ev_pos rfl ?_))
  exact rates_loop h l.length 0 (by omega)
theorem rates_bad {l : List Rep} (h : ¬ Valid l) : ∃ r : Int, r ≠ 0 ∧ Ev (fun k => climb_Rates.f k l) (0, 0, r) := by
  obtain ⟨r, hr, hd⟩ := check_any l
  have hr0 : r ≠ 0 := fun h0 => h (hd.1 h0)
  exact ⟨r, hr0, Ev.congr (fun k => by rw [climb_Rates.f]) (Ev.bind hr (ev_neg hr0 (Ev.now _)))⟩
theorem st_in (b a : Rep) (p : Int × Int) : p.1 ≤ (st b a p).1 ∧ (st b a p).2 ≤ p.2 := by
  unfold st mx mn
  constructor
  · show p.1 ≤ if _ then _ else _
    split <;> omega
  · show (if _ then _ else _) ≤ p.2
    split <;> omega
theorem inner_in (l : List Rep) (b : Rep) (p : Int × Int) : ∀ j, p.1 ≤ (inner l b j p).1 ∧ (inner l b j p).2 ≤ p.2
  | 0 => ⟨Int.le_refl _, Int.le_refl _⟩
  | j + 1 => by
    have h1 := inner_in l b p j
    have h2 := st_in b (at_ l j) (inner l b j p)
    exact ⟨Int.le_trans h1.1 h2.1, Int.le_trans h2.2 h1.2⟩
theorem inner_take (l : List Rep) (b : Rep) (m : Nat) (p : Int × Int) : ∀ j, j ≤ m → inner (l.take m) b j p = inner l b j p
  | 0, _ => rfl
  | j + 1, h => by
    unfold inner
    rw [inner_take l b m p j (by omega), at_take l (by omega)]
theorem rate_take (l : List Rep) (m : Nat) : ∀ i, i ≤ m → rate (l.take m) i = rate l i
  | 0, _ => rfl
  | i + 1, h => by
    unfold rate
    rw [rate_take l m i (by omega), at_take l (by omega), inner_take l _ m _ i (by omega)]

end Go.Proofs.Ytehgapcmngdcnaa.LClimbThrough
