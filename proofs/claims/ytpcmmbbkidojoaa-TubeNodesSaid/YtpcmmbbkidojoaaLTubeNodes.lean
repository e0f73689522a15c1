/- What functions that TubeNodes reaches compute, over numbers and lists. Their conditions stand in each lemma. -/
import Derived.Test.YtpcmmbbkidojoaaMTubeNodesx0
import Derived.Test.YtpcmmbbkidojoaaMTubeNodesx1
import Derived.Test.YtpcmmbbkidojoaaMTubeNodesx2
import Derived.Test.YtpcmmbbkidojoaaMTubeNodesx3
import Derived.Test.YtpcmmbbkidojoaaMTubeNodesx4
import Derived.Test.YtpcmmbbkidojoaaMTubeNodesx5
import Derived.Test.YtpcmmbbkidojoaaMTubeNodesx6
import Derived.Test.YtpcmmbbkidojoaaMTubeNodesx7
import Derived.Test.YtpcmmbbkidojoaaBase
namespace Go.Proofs.Ytpcmmbbkidojoaa.LTubeNodes
open Go.RowKit Go.Proofs.Ytpcmmbbkidojoaa.Opens Go.Proofs.Ytpcmmbbkidojoaa.MTubeNodes Go.Proofs.YtpcmmbbkidojoaaW.PrintWords Go.Proofs.YtpcmmbbkidojoaaW.PrintLast Go.Proofs.YtpcmmbbkidojoaaW.PrintMore Go.Proofs.Ytpcmmbbkidojoaa.Base
set_option linter.unusedVariables false
set_option linter.unusedSimpArgs false

theorem divDown {a b : Int} (ha0 : -9223372036854775808 ≤ a) (ha : a ≤ 9223372036854775807) (hb : 0 < b) (hq : -9223372036854775808 < a / b ∨ True) : Ev (fun k => num_DivDown.f k a b) (a / b, 0) := by
  have hf := floor_of (a := a) hb
  have hbd := tdiv_bd ha0 ha hb
  have hfd := fdiv_le (a := a) hb
  have hlow : -9223372036854775808 ≤ a / b := by
    by_cases h : 0 ≤ a
    · have := Int.ediv_nonneg h (by omega : 0 ≤ b); omega
    · have h1 : a ≤ a / b := by
        have h2 : a / b < 0 := Int.ediv_neg_of_neg_of_pos (by omega) hb
        have h3 : a / b * b ≤ a / b * 1 := Int.mul_le_mul_of_nonpos_left (by omega) (by omega)
        rw [Int.mul_comm] at h3
        have h4 := hfd.1
        have h5 := hfd.2
        by_cases h6 : b = 1
        · subst h6; simp
        · have h7 : a / b * b ≤ a / b * 2 := Int.mul_le_mul_of_nonpos_left (by omega) (by omega)
          rw [Int.mul_comm] at h7
          by_cases h8 : a ≤ a / b
          · exact h8
          · exfalso
            have : b * (a / b) + b ≤ a / b + 1 := by
              have : b * (a / b + 1) ≤ 1 * (a / b + 1) := Int.mul_le_mul_of_nonpos_right (by omega) (by omega)
              rw [Int.mul_add, Int.mul_one, Int.one_mul] at this
              exact this
            omega
      omega
  have hj : ∀ f, f = false → Ev (fun k => num_DivDown.j0 k a b f) (a / b, 0) := by
    rintro f rfl
    refine Ev.step (fun k => by rw [num_DivDown.j0]) ?_
    refine ev_neg (by decide) (ev_neg (by omega) ?_)
    rw [← hf]
    by_cases h0 : Int.tmod a b = 0
    · refine ev_pos h0 (ev_eq (Ev.now _) ?_)
      rw [if_pos h0, w64 hbd.1 hbd.2]
    · refine ev_neg h0 ?_
      rw [if_neg h0] at hf ⊢
      have hbn : decide (b < 0) = false := decide_eq_false (by omega)
      by_cases h1 : a < 0
      · refine ev_pos (by rw [hbn, decide_eq_true h1]; rfl) (ev_eq (Ev.now _) ?_)
        rw [if_pos h1] at hf ⊢
        rw [w64 hbd.1 hbd.2, w64 (by omega) (by omega)]
      · refine ev_neg (by rw [hbn, decide_eq_false h1]; decide) (ev_eq (Ev.now _) ?_)
        rw [if_neg h1, w64 hbd.1 hbd.2]
  show Ev (fun k => num_DivDown.f k a b) _
  refine Ev.congr (fun k => by rw [num_DivDown.f]) ?_
  refine ev_neg (by omega) ?_
  by_cases hm : a = -9223372036854775808
  · refine ev_pos hm (hj _ ?_)
    simp; omega
  · exact ev_neg hm (hj _ rfl)
theorem ddown {a b : Int} (ha0 : -9223372036854775808 ≤ a) (ha : a ≤ 9223372036854775807) (hb : 0 < b) : Ev (fun k => num_DivDown.f k a b) (a / b, 0) := divDown ha0 ha hb (Or.inr trivial)

theorem dup {a b : Int} (ha0 : -9223372036854775808 ≤ a) (ha : a < 9223372036854775807) (hb : 0 < b) : Ev (fun k => num_DivUp.f k a b) (cdiv a b, 0) := by
  refine Ev.congr (fun k => by rw [num_DivUp.f]) (Ev.bind (ddown ha0 (by omega) hb) ?_)
  refine ev_pos rfl (ev_neg (by omega) ?_)
  have hc := ceil_of (a := a) hb
  have hle := fdiv_le (a := a) hb
  have hup : a / b ≤ 9223372036854775806 := by
    have h1 : a / b ≤ 9223372036854775806 / b := Int.ediv_le_ediv hb (by omega)
    have h2 : (9223372036854775806 : Int) / b ≤ 9223372036854775806 := Int.ediv_le_self _ (by omega)
    omega
  have hlo : -9223372036854775808 ≤ a / b := by
    have h1 : (-9223372036854775808 : Int) / b ≤ a / b := Int.ediv_le_ediv hb ha0
    have h2 : -9223372036854775808 ≤ (-9223372036854775808 : Int) / b := by
      have := fdiv_le (a := (-9223372036854775808 : Int)) hb
      by_cases h3 : -9223372036854775808 ≤ (-9223372036854775808 : Int) / b
      · exact h3
      · exfalso
        have h4 : b * ((-9223372036854775808 : Int) / b + 1) ≤ 1 * ((-9223372036854775808 : Int) / b + 1) := Int.mul_le_mul_of_nonpos_right (by omega) (by omega)
        rw [Int.mul_add, Int.mul_one, Int.one_mul] at h4
        omega
    omega
  by_cases h0 : Int.tmod a b = 0
  · refine ev_pos h0 (ev_eq (Ev.now _) ?_)
    rw [if_pos h0] at hc; rw [hc]
  · refine ev_neg h0 (ev_eq (Ev.now _) ?_)
    rw [if_neg h0] at hc; rw [← hc, w64 (by omega) (by omega)]

theorem mulbd {v n V N : Int} (h0 : -V ≤ v) (h1 : v ≤ V) (n0 : 0 ≤ n) (n1 : n ≤ N) (hV : 0 ≤ V) : -(V * N) ≤ v * n ∧ v * n ≤ V * N := by
  have a1 : v * n ≤ V * n := Int.mul_le_mul_of_nonneg_right h1 n0
  have a2 : V * n ≤ V * N := Int.mul_le_mul_of_nonneg_left n1 hV
  have a3 : (-V) * n ≤ v * n := Int.mul_le_mul_of_nonneg_right h0 n0
  rw [Int.neg_mul] at a3
  omega
theorem qbd {a d M : Int} (h0 : -M ≤ a) (h1 : a ≤ M) (hd : 0 < d) (hM : 0 ≤ M) : -M ≤ a / d ∧ a / d ≤ M := by
  constructor
  · refine Int.le_ediv_of_mul_le hd ?_
    have : -M * d ≤ -M * 1 := Int.mul_le_mul_of_nonpos_left (by omega) (by omega)
    omega
  · have a1 : a / d ≤ M / d := Int.ediv_le_ediv hd h1
    have a2 : M / d ≤ M := Int.ediv_le_self _ hM
    omega
theorem cqbd {a d M : Int} (h0 : -M ≤ a) (h1 : a ≤ M) (hd : 0 < d) (hM : 0 ≤ M) : -M ≤ cdiv a d ∧ cdiv a d ≤ M := by
  have := qbd (a := -a) (d := d) (M := M) (by omega) (by omega) hd hM
  unfold cdiv; omega

theorem pow_shl (b : Int) (s : Nat) (hs : s ≤ 62) (h0 : 0 ≤ b * 2 ^ s) (h1 : b * 2 ^ s ≤ 9223372036854775807) : shl .i64 b (s : Int) = b * 2 ^ s := by
  unfold shl
  rw [show min ((s : Int).toNat) (IntKind.bits .i64) = s by simp [IntKind.bits]; omega]
  rw [i64_w]
  exact w64 (by omega) h1
theorem pow_shr (b : Int) (s : Nat) (hs : s ≤ 62) : shr .i64 b (s : Int) = b / 2 ^ s := by
  unfold shr
  rw [show min ((s : Int).toNat) (IntKind.bits .i64) = s by simp [IntKind.bits]; omega]
theorem pow_bd : ∀ (s : Nat), s ≤ 62 → 1 ≤ (2 : Int) ^ s ∧ (2 : Int) ^ s ≤ 4611686018427387904 := by
  intro s hs
  have h1 : (2 : Int) ^ s = ((2 ^ s : Nat) : Int) := by simp
  have h2 : 2 ^ s ≤ 2 ^ 62 := Nat.pow_le_pow_right (by omega) hs
  have h3 : 1 ≤ 2 ^ s := Nat.one_le_two_pow
  rw [h1]; omega
theorem floor_loop {a b : Int} (hb : 0 < b) (ha0 : 0 ≤ a) (ha : a ≤ 9223372036854775807) : ∀ (s : Nat), s ≤ 63 → ∀ (n q : Int), 0 ≤ n → 0 ≤ q → a = q * b + n → n < b * 2 ^ s → Ev (fun k => skywayref1_Floor.l0 k n b q ((s : Int) - 1)) (a / b)
  | 0, _, n, q, n0, q0, e, h => by
    refine Ev.step (fun k => by rw [skywayref1_Floor.l0]) (ev_neg (by omega) (ev_eq (Ev.now _) ?_))
    rw [e, Int.add_comm, Int.add_mul_ediv_right _ _ (by omega), Int.ediv_eq_zero_of_lt n0 (by omega)]
    omega
  | s + 1, hs, n, q, n0, q0, e, h => by
    have hp := pow_bd s (by omega)
    have hpp : (2 : Int) ^ (s + 1) = 2 ^ s * 2 := Int.pow_succ ..
    have hx : (((s + 1 : Nat) : Int) - 1) = (s : Int) := by omega
    have hw : wrap64 ((s : Int) - 1) = (s : Int) - 1 := w64 (by omega) (by omega)
    refine Ev.step (fun k => by rw [skywayref1_Floor.l0]) ?_
    rw [hx]
    refine ev_pos (by omega) (ev_pos (by omega) ?_)
    rw [pow_shr n s (by omega), hw]
    have hq0 : 0 ≤ q * b := Int.mul_nonneg q0 (by omega)
    by_cases hc : b ≤ n / 2 ^ s
    · have hle : b * 2 ^ s ≤ n := by
        have := Int.mul_le_of_le_ediv (by omega : (0 : Int) < 2 ^ s) hc
        exact this
      have hbp : 0 ≤ b * 2 ^ s := Int.mul_nonneg (by omega) (by omega)
      have hge : 2 ^ s ≤ b * 2 ^ s := by
        have := Int.mul_le_mul_of_nonneg_right (show (1 : Int) ≤ b by omega) (show (0 : Int) ≤ 2 ^ s by omega)
        omega
      have hqb : q ≤ q * b := by
        have := Int.mul_le_mul_of_nonneg_left (show (1 : Int) ≤ b by omega) q0
        omega
      refine ev_pos hc ?_
      rw [pow_shl b s (by omega) hbp (by omega), pow_shl 1 s (by omega) (by omega) (by omega), w64 (by omega) (by omega), w64 (by omega) (by omega)]
      refine floor_loop hb ha0 ha s (by omega) _ _ (by omega) (by omega) ?_ ?_
      · rw [Int.add_mul, Int.one_mul, Int.mul_comm (2 ^ s) b, e]; omega
      · rw [hpp] at h
        have : b * (2 ^ s * 2) = b * 2 ^ s * 2 := by rw [Int.mul_assoc]
        omega
    · refine ev_neg hc ?_
      refine floor_loop hb ha0 ha s (by omega) _ _ n0 q0 e ?_
      have hlt : n / 2 ^ s < b := by omega
      have := Int.lt_mul_of_ediv_lt (by omega : (0 : Int) < 2 ^ s) hlt
      exact this
theorem rfloor {a b : Int} (ha0 : -4000000000000000000 ≤ a) (ha : a ≤ 4000000000000000000) (hb : 0 < b) (hb1 : b ≤ 4000000000000000000) : Ev (fun k => skywayref1_Floor.f k a b) (a / b) := by
  have hpos : ∀ c : Int, 0 ≤ c → c ≤ 9000000000000000000 → Ev (fun k => skywayref1_Floor.f k c b) (c / b) := by
    intro c c0 c1
    refine Ev.step (fun k => by rw [skywayref1_Floor.f]) (ev_neg (by omega) ?_)
    have h := floor_loop (a := c) (b := b) hb c0 (by omega) 63 (by omega) c 0 c0 (by omega) (by omega) ?_
    · exact h
    · have : (1 : Int) * 2 ^ 63 ≤ b * 2 ^ 63 := Int.mul_le_mul_of_nonneg_right (by omega) (by decide)
      have h2 : (2 : Int) ^ 63 = 9223372036854775808 := by decide
      omega
  by_cases h : a < 0
  · refine Ev.step (fun k => by rw [skywayref1_Floor.f]) (ev_pos h ?_)
    rw [w64 (n := -a) (by omega) (by omega), w64 (n := -a + b) (by omega) (by omega), w64 (n := -a + b - 1) (by omega) (by omega)]
    refine Ev.bind (hpos (-a + b - 1) (by omega) (by omega)) (ev_eq (Ev.now _) ?_)
    have h1 := fdiv_le (a := -a + b - 1) hb
    have h2 := fdiv_le (a := a) hb
    have h3 : 0 ≤ (-a + b - 1) / b := Int.ediv_nonneg (by omega) (by omega)
    have h4 : (-a + b - 1) / b ≤ -a + b - 1 := Int.ediv_le_self _ (by omega)
    rw [w64 (by omega) (by omega)]
    have h5 : b * (a / b + (-a + b - 1) / b) = b * (a / b) + b * ((-a + b - 1) / b) := Int.mul_add ..
    have h6 : a / b + (-a + b - 1) / b = 0 := by
      by_cases h7 : a / b + (-a + b - 1) / b ≤ -1
      · have := Int.mul_le_mul_of_nonneg_left h7 (show 0 ≤ b by omega)
        omega
      · by_cases h8 : 1 ≤ a / b + (-a + b - 1) / b
        · have := Int.mul_le_mul_of_nonneg_left h8 (show 0 ≤ b by omega)
          omega
        · omega
    omega
  · exact hpos a (by omega) (by omega)
theorem rceil {a b : Int} (ha0 : -4000000000000000000 ≤ a) (ha : a ≤ 4000000000000000000) (hb : 0 < b) (hb1 : b ≤ 4000000000000000000) : Ev (fun k => skywayref1_Ceil.f k a b) (cdiv a b) := by
  refine Ev.congr (fun k => by rw [skywayref1_Ceil.f]) ?_
  rw [w64 (n := -a) (by omega) (by omega)]
  refine Ev.bind (rfloor (by omega) (by omega) hb hb1) (ev_eq (Ev.now _) ?_)
  have := qbd (a := -a) (d := b) (M := 4000000000000000000) (by omega) (by omega) hb (by omega)
  rw [w64 (by omega) (by omega)]; rfl
theorem rmix {a b n d : Int} (h : -4000000 ≤ b - a ∧ b - a ≤ 4000000) (ha : -4000000 ≤ a ∧ a ≤ 4000000) (n0 : 0 ≤ n) (n1 : n ≤ 200000) (d0 : 0 < d) (d1 : d ≤ 200000) : Ev (fun k => skywayref1_Mix.f k a b n d) (a + ((b - a) * n) / d) := by
  have hm := mulbd h.1 h.2 n0 n1 (by omega)
  have hq := qbd (d := d) hm.1 hm.2 d0 (by omega)
  refine Ev.congr (fun k => by rw [skywayref1_Mix.f]) ?_
  rw [w64 (n := b - a) (by omega) (by omega), w64 (n := (b - a) * n) (by omega) (by omega)]
  refine Ev.bind (rfloor (by omega) (by omega) d0 (by omega)) (ev_eq (Ev.now _) ?_)
  rw [w64 (by omega) (by omega)]
theorem rmixup {a b n d : Int} (h : -4000000 ≤ b - a ∧ b - a ≤ 4000000) (ha : -4000000 ≤ a ∧ a ≤ 4000000) (n0 : 0 ≤ n) (n1 : n ≤ 200000) (d0 : 0 < d) (d1 : d ≤ 200000) : Ev (fun k => skywayref1_MixUp.f k a b n d) (a + cdiv ((b - a) * n) d) := by
  have hm := mulbd h.1 h.2 n0 n1 (by omega)
  have hq := cqbd (d := d) hm.1 hm.2 d0 (by omega)
  refine Ev.congr (fun k => by rw [skywayref1_MixUp.f]) ?_
  rw [w64 (n := b - a) (by omega) (by omega), w64 (n := (b - a) * n) (by omega) (by omega)]
  refine Ev.bind (rceil (by omega) (by omega) d0 (by omega)) (ev_eq (Ev.now _) ?_)
  rw [w64 (by omega) (by omega)]

theorem pcheck (x y : Int) : ∃ c, plane_Check.f x y = some c ∧ (c = 0 ↔ -1000000 ≤ x ∧ x ≤ 1000000 ∧ -1000000 ≤ y ∧ y ≤ 1000000) := by
  unfold plane_Check.f
  repeat' split
  all_goals exact ⟨_, rfl, by omega⟩
def nd (l : List S91) (i : Nat) : S91 := l.getD i z91
theorem rd_nd (l : List S91) (i : Nat) : rd_T91 l (i : Int) = nd l i := rfl
structure OkNode (x : S91) : Prop where
  t0 : 0 ≤ x.f0.f0
  t1 : x.f0.f0 ≤ 200000
  x0 : -1000000 ≤ x.f0.f1.f0
  x1 : x.f0.f1.f0 ≤ 1000000
  y0 : -1000000 ≤ x.f0.f1.f1
  y1 : x.f0.f1.f1 ≤ 1000000
  h0 : 0 ≤ x.f0.f2
  h1 : x.f0.f2 ≤ 60000
  r0 : 0 ≤ x.f1
  r1 : x.f1 ≤ 1000000
  b0 : 0 ≤ x.f2
  b1 : x.f2 ≤ 60000
structure OkTube (l : List S91) : Prop where
  len0 : 0 < l.length
  len1 : l.length ≤ 64
  node : ∀ i, i < l.length → OkNode (nd l i)
  inc : ∀ i, 0 < i → i < l.length → (nd l (i - 1)).f0.f0 < (nd l i).f0.f0
theorem tube_loop (l : List S91) (hl : l.length ≤ 64) : ∀ (d i : Nat), i + d = l.length → ∃ r : Int, Ev (fun k => tube_Check.l0 k l l (l.length : Int) (i : Int)) r ∧ (r = 0 ↔ ∀ j, i ≤ j → j < l.length → OkNode (nd l j) ∧ (0 < j → (nd l (j - 1)).f0.f0 < (nd l j).f0.f0))
  | 0, i, h => ⟨0, Ev.step (fun k => by rw [tube_Check.l0]) (ev_neg (by omega) (Ev.now _)), ⟨fun _ j h1 h2 => by omega, fun _ => rfl⟩⟩
  | d + 1, i, h => by
    obtain ⟨r, hr, hd⟩ := tube_loop l hl d (i + 1) (by omega)
    have hw : wrap64 ((i : Int) + 1) = ((i + 1 : Nat) : Int) := by rw [w64 (by omega) (by omega)]; omega
    let x := nd l i
    have hgo : ∀ {f : Bool} {r : Int}, (f = true ↔ x.f0.f0 < 0 ∨ x.f0.f0 > 200000 ∨ (0 < i ∧ x.f0.f0 ≤ (nd l (i - 1)).f0.f0)) → Ev (fun k => tube_Check.j1 k l l (l.length : Int) (i : Int) f x.f0.f0 x.f0.f1.f0 x.f0.f1.f1 x.f0.f2 x.f1 x.f2) r → Ev (fun k => tube_Check.l0 k l l (l.length : Int) (i : Int)) r := by
      intro f r hf hq
      refine Ev.step (fun k => by rw [tube_Check.l0]) ?_
      simp only [rd_nd]
      refine ev_pos (by omega) (ev_pos (by omega) (ev_pos (by omega) ?_))
      by_cases c1 : (nd l i).f0.f0 < 0
      · refine ev_pos c1 ?_; have : f = true := hf.mpr (Or.inl c1); subst this; exact hq
      refine ev_neg c1 ?_
      by_cases c2 : (nd l i).f0.f0 > 200000
      · refine ev_pos c2 ?_; have : f = true := hf.mpr (Or.inr (Or.inl c2)); subst this; exact hq
      refine ev_neg c2 ?_
      by_cases c3 : 0 < i
      · have hm : wrap64 ((i : Int) - 1) = ((i - 1 : Nat) : Int) := by rw [w64 (by omega) (by omega)]; omega
        rw [hm]
        simp only [rd_nd]
        refine ev_pos (by omega) (ev_pos (by omega) (ev_pos (by omega) ?_))
        by_cases c4 : (nd l i).f0.f0 ≤ (nd l (i - 1)).f0.f0
        · have : f = true := hf.mpr (Or.inr (Or.inr ⟨c3, c4⟩)); subst this; exact ev_dt (fun k b => tube_Check.j1 k l l (l.length : Int) (i : Int) b (nd l i).f0.f0 (nd l i).f0.f1.f0 (nd l i).f0.f1.f1 (nd l i).f0.f2 (nd l i).f1 (nd l i).f2) c4 hq
        · have : f = false := by
            cases hff : f
            · rfl
            · rcases hf.mp hff with h | h | h
              · exact absurd h c1
              · exact absurd h c2
              · exact absurd h.2 c4
          subst this; exact ev_df (fun k b => tube_Check.j1 k l l (l.length : Int) (i : Int) b (nd l i).f0.f0 (nd l i).f0.f1.f0 (nd l i).f0.f1.f1 (nd l i).f0.f2 (nd l i).f1 (nd l i).f2) c4 hq
      · refine ev_neg (by omega) ?_
        have : f = false := by
          cases hff : f
          · rfl
          · rcases hf.mp hff with h | h | h
            · exact absurd h c1
            · exact absurd h c2
            · exact absurd h.1 c3
        subst this; exact hq
    by_cases hbad : x.f0.f0 < 0 ∨ x.f0.f0 > 200000 ∨ (0 < i ∧ x.f0.f0 ≤ (nd l (i - 1)).f0.f0)
    · refine ⟨12, hgo (f := true) (by simp only [true_iff]; exact hbad) (Ev.step (fun k => by rw [tube_Check.j1]) (ev_pos rfl (Ev.now _))), ⟨fun h0 => absurd h0 (by decide), fun hh => ?_⟩⟩
      obtain ⟨hn, hi⟩ := hh i (by omega) (by omega)
      have := hn.t0; have := hn.t1
      rcases hbad with h | h | h
      · have h : (nd l i).f0.f0 < 0 := h
        omega
      · have h : (nd l i).f0.f0 > 200000 := h
        omega
      · have h2 := hi h.1
        have h3 : (nd l i).f0.f0 ≤ (nd l (i - 1)).f0.f0 := h.2
        omega
    · have hgo2 : ∀ {r : Int}, Ev (fun k => (plane_Check.f x.f0.f1.f0 x.f0.f1.f1).bind fun t105 => (if t105 = 0 then (if x.f0.f2 < 0 then (some 4) else (if x.f0.f2 > 60000 then (some 4) else (if x.f1 < 0 then (some 4) else (if x.f1 > 1000000 then (some 4) else (if x.f2 < 0 then (some 4) else (if x.f2 > 60000 then (some 4) else (tube_Check.l0 k l l (l.length : Int) ((i + 1 : Nat) : Int)))))))) else (some t105))) r → Ev (fun k => tube_Check.l0 k l l (l.length : Int) (i : Int)) r := by
        intro r hq
        refine hgo (f := false) (by simp only [Bool.false_eq_true, false_iff]; exact hbad) (Ev.step (fun k => by rw [tube_Check.j1]) (ev_neg (by decide) ?_))
        rw [hw]
        exact hq
      obtain ⟨c, hc, hci⟩ := pcheck x.f0.f1.f0 x.f0.f1.f1
      have hfin : ∀ {r : Int}, r ≠ 0 → Ev (fun k => tube_Check.l0 k l l (l.length : Int) (i : Int)) r → ¬ OkNode (nd l i) → ∃ r : Int, Ev (fun k => tube_Check.l0 k l l (l.length : Int) (i : Int)) r ∧ (r = 0 ↔ ∀ j, i ≤ j → j < l.length → OkNode (nd l j) ∧ (0 < j → (nd l (j - 1)).f0.f0 < (nd l j).f0.f0)) :=
        fun h0 h1 h2 => ⟨_, h1, ⟨fun h => absurd h h0, fun hh => absurd (hh i (by omega) (by omega)).1 h2⟩⟩
      by_cases c0 : c = 0
      · by_cases c1 : x.f0.f2 < 0
        · exact hfin (by decide) (hgo2 (ev_some hc (ev_pos c0 (ev_pos c1 (Ev.now 4))))) (fun h => by have h0 := h.h0; have c1 : (nd l i).f0.f2 < 0 := c1; omega)
        by_cases c2 : x.f0.f2 > 60000
        · exact hfin (by decide) (hgo2 (ev_some hc (ev_pos c0 (ev_neg c1 (ev_pos c2 (Ev.now 4)))))) (fun h => by have h0 := h.h1; have c1 : (nd l i).f0.f2 > 60000 := c2; omega)
        by_cases c3 : x.f1 < 0
        · exact hfin (by decide) (hgo2 (ev_some hc (ev_pos c0 (ev_neg c1 (ev_neg c2 (ev_pos c3 (Ev.now 4))))))) (fun h => by have h0 := h.r0; have c1 : (nd l i).f1 < 0 := c3; omega)
        by_cases c4 : x.f1 > 1000000
        · exact hfin (by decide) (hgo2 (ev_some hc (ev_pos c0 (ev_neg c1 (ev_neg c2 (ev_neg c3 (ev_pos c4 (Ev.now 4)))))))) (fun h => by have h0 := h.r1; have c1 : (nd l i).f1 > 1000000 := c4; omega)
        by_cases c5 : x.f2 < 0
        · exact hfin (by decide) (hgo2 (ev_some hc (ev_pos c0 (ev_neg c1 (ev_neg c2 (ev_neg c3 (ev_neg c4 (ev_pos c5 (Ev.now 4))))))))) (fun h => by have h0 := h.b0; have c1 : (nd l i).f2 < 0 := c5; omega)
        by_cases c6 : x.f2 > 60000
        · exact hfin (by decide) (hgo2 (ev_some hc (ev_pos c0 (ev_neg c1 (ev_neg c2 (ev_neg c3 (ev_neg c4 (ev_neg c5 (ev_pos c6 (Ev.now 4)))))))))) (fun h => by have h0 := h.b1; have c1 : (nd l i).f2 > 60000 := c6; omega)
        refine ⟨r, hgo2 (ev_some hc (ev_pos c0 (ev_neg c1 (ev_neg c2 (ev_neg c3 (ev_neg c4 (ev_neg c5 (ev_neg c6 hr)))))))), ?_⟩
        rw [hd]
        constructor
        · intro hh j a b
          by_cases hji : j = i
          · subst hji
            have hp := hci.mp c0
            refine ⟨⟨?_, ?_, hp.1, hp.2.1, hp.2.2.1, hp.2.2.2, ?_, ?_, ?_, ?_, ?_, ?_⟩, fun h0 => ?_⟩
            · show 0 ≤ x.f0.f0
              omega
            · show x.f0.f0 ≤ _
              omega
            · show 0 ≤ x.f0.f2
              omega
            · show x.f0.f2 ≤ _
              omega
            · show 0 ≤ x.f1
              omega
            · show x.f1 ≤ _
              omega
            · show 0 ≤ x.f2
              omega
            · show x.f2 ≤ _
              omega
            · show _ < x.f0.f0
              omega
          · exact hh j (by omega) b
        · exact fun hh j a b => hh j (by omega) b
      · exact hfin c0 (hgo2 (ev_some hc (ev_neg c0 (Ev.now c)))) (fun h => c0 (hci.mpr ⟨h.x0, h.x1, h.y0, h.y1⟩))
theorem tube_any (l : List S91) : ∃ r : Int, Ev (fun k => tube_Check.f k l) r ∧ (r = 0 ↔ OkTube l) := by
  by_cases h1 : (l.length : Int) > 64
  · exact ⟨2, Ev.congr (fun k => by rw [tube_Check.f]) (ev_pos h1 (Ev.now _)), ⟨fun h => absurd h (by decide), fun h => by have := h.len1; omega⟩⟩
  by_cases h2 : (l.length : Int) = 0
  · exact ⟨3, Ev.congr (fun k => by rw [tube_Check.f]) (ev_neg h1 (ev_pos h2 (Ev.now _))), ⟨fun h => absurd h (by decide), fun h => by have := h.len0; omega⟩⟩
  obtain ⟨r, hr, hd⟩ := tube_loop l (by omega) l.length 0 (by omega)
  have hf : Ev (fun k => tube_Check.f k l) r := by
    refine Ev.congr (fun k => by rw [tube_Check.f]) ?_
    refine ev_neg h1 (ev_neg h2 ?_)
    exact hr
  refine ⟨r, hf, hd.trans ⟨fun h => ⟨by omega, by omega, fun i hi => (h i (by omega) hi).1, fun i i0 hi => (h i (by omega) hi).2 i0⟩, fun h j _ hj => ⟨h.node j hj, fun j0 => h.inc j j0 hj⟩⟩⟩
theorem tube_inc {l : List S91} (h : OkTube l) : ∀ (d i : Nat), i + d + 1 < l.length → (nd l i).f0.f0 < (nd l (i + d + 1)).f0.f0
  | 0, i, hi => h.inc (i + 1) (by omega) hi
  | d + 1, i, hi => by
    have h1 := tube_inc h d i (by omega)
    have h2 := h.inc (i + (d + 1) + 1) (by omega) hi
    have e : i + (d + 1) + 1 - 1 = i + d + 1 := by omega
    rw [e] at h2
    omega
theorem tube_lt {l : List S91} (h : OkTube l) {i j : Nat} (hij : i < j) (hj : j < l.length) : (nd l i).f0.f0 < (nd l j).f0.f0 := by
  have := tube_inc h (j - i - 1) i (by omega)
  have e : i + (j - i - 1) + 1 = j := by omega
  rwa [e] at this
theorem tube_le {l : List S91} (h : OkTube l) {i j : Nat} (hij : i ≤ j) (hj : j < l.length) : (nd l i).f0.f0 ≤ (nd l j).f0.f0 := by
  by_cases e : i = j
  · subst e; omega
  · have := tube_lt h (show i < j by omega) hj; omega
/-- the node at a time between two nodes -/
def mix (a b : S91) (t : Int) : Int × Int × Int × Int × Int × Int :=
  (t, a.f0.f1.f0 + ((b.f0.f1.f0 - a.f0.f1.f0) * (t - a.f0.f0)) / (b.f0.f0 - a.f0.f0), a.f0.f1.f1 + ((b.f0.f1.f1 - a.f0.f1.f1) * (t - a.f0.f0)) / (b.f0.f0 - a.f0.f0), a.f0.f2 + ((b.f0.f2 - a.f0.f2) * (t - a.f0.f0)) / (b.f0.f0 - a.f0.f0), a.f1 + cdiv ((b.f1 - a.f1) * (t - a.f0.f0)) (b.f0.f0 - a.f0.f0), a.f2 + cdiv ((b.f2 - a.f2) * (t - a.f0.f0)) (b.f0.f0 - a.f0.f0))
def flat (a : S91) : Int × Int × Int × Int × Int × Int := (a.f0.f0, a.f0.f1.f0, a.f0.f1.f1, a.f0.f2, a.f1, a.f2)
theorem cdiv_zero (d : Int) : cdiv 0 d = 0 := by unfold cdiv; simp
theorem cdiv_mul {a d : Int} (hd : 0 < d) : cdiv (a * d) d = a := by unfold cdiv; rw [← Int.neg_mul, Int.mul_ediv_cancel _ (by omega)]; omega
theorem mix_left (a b : S91) : mix a b a.f0.f0 = flat a := by unfold mix flat; simp [cdiv_zero]
theorem mix_right (a b : S91) (h : a.f0.f0 < b.f0.f0) : mix a b b.f0.f0 = flat b := by
  have hd : 0 < b.f0.f0 - a.f0.f0 := by omega
  unfold mix flat
  rw [Int.mul_ediv_cancel _ (by omega), Int.mul_ediv_cancel _ (by omega), Int.mul_ediv_cancel _ (by omega), cdiv_mul hd, cdiv_mul hd]
  have e1 : ∀ x y : Int, x + (y - x) = y := fun x y => by omega
  simp only [e1]
theorem between_ev {a b n d : Int} (h : -4000000 ≤ b - a ∧ b - a ≤ 4000000) (ha : -4000000 ≤ a ∧ a ≤ 4000000) (n0 : 0 ≤ n) (n1 : n ≤ 200000) (d0 : 0 < d) (d1 : d ≤ 200000) : Ev (fun k => tube_between.f k a b n d) (a + ((b - a) * n) / d) := by
  have hm := mulbd h.1 h.2 n0 n1 (by omega)
  have hq := qbd (d := d) hm.1 hm.2 d0 (by omega)
  refine Ev.congr (fun k => by rw [tube_between.f]) ?_
  rw [w64 (n := b - a) (by omega) (by omega), w64 (n := (b - a) * n) (by omega) (by omega)]
  refine Ev.bind (ddown (by omega) (by omega) d0) (ev_eq (Ev.now _) ?_)
  show wrap64 (a + (b - a) * n / d) = _
  rw [w64 (by omega) (by omega)]
theorem above_ev {a b n d : Int} (h : -4000000 ≤ b - a ∧ b - a ≤ 4000000) (ha : -4000000 ≤ a ∧ a ≤ 4000000) (n0 : 0 ≤ n) (n1 : n ≤ 200000) (d0 : 0 < d) (d1 : d ≤ 200000) : Ev (fun k => tube_above.f k a b n d) (a + cdiv ((b - a) * n) d) := by
  have hm := mulbd h.1 h.2 n0 n1 (by omega)
  have hq := cqbd (d := d) hm.1 hm.2 d0 (by omega)
  refine Ev.congr (fun k => by rw [tube_above.f]) ?_
  rw [w64 (n := b - a) (by omega) (by omega), w64 (n := (b - a) * n) (by omega) (by omega)]
  refine Ev.bind (dup (by omega) (by omega) d0) (ev_eq (Ev.now _) ?_)
  show wrap64 (a + cdiv ((b - a) * n) d) = _
  rw [w64 (by omega) (by omega)]
theorem toward_ev {ax ay bx by_ n d : Int} (ha : -1000000 ≤ ax ∧ ax ≤ 1000000 ∧ -1000000 ≤ ay ∧ ay ≤ 1000000) (hb : -1000000 ≤ bx ∧ bx ≤ 1000000 ∧ -1000000 ≤ by_ ∧ by_ ≤ 1000000) (n0 : 0 ≤ n) (n1 : n ≤ d) (d0 : 0 < d) (d1 : d ≤ 200000) :
    Ev (fun k => plane_Toward.f k ax ay bx by_ n d) (ax + ((bx - ax) * n) / d, ay + ((by_ - ay) * n) / d, 0) := by
  obtain ⟨c1, hc1, h1⟩ := pcheck ax ay
  obtain ⟨c2, hc2, h2⟩ := pcheck bx by_
  have e1 : c1 = 0 := h1.mpr ha
  have e2 : c2 = 0 := h2.mpr hb
  subst e1; subst e2
  have hm := mulbd (v := bx - ax) (n := n) (V := 2000000) (N := 200000) (by omega) (by omega) n0 (by omega) (by omega)
  have hq := qbd (d := d) hm.1 hm.2 d0 (by omega)
  have hm2 := mulbd (v := by_ - ay) (n := n) (V := 2000000) (N := 200000) (by omega) (by omega) n0 (by omega) (by omega)
  have hq2 := qbd (d := d) hm2.1 hm2.2 d0 (by omega)
  refine Ev.congr (fun k => by rw [plane_Toward.f]) ?_
  refine ev_neg (by omega) (ev_neg (by omega) (ev_neg (by omega) (ev_neg (by omega) (ev_some hc1 (ev_pos rfl (ev_some hc2 ?_))))))
  refine Ev.step (fun k => by rw [plane_Toward.j0]) (ev_neg (by decide) ?_)
  rw [w64 (n := bx - ax) (by omega) (by omega), w64 (n := (bx - ax) * n) (by omega) (by omega), w64 (n := by_ - ay) (by omega) (by omega), w64 (n := (by_ - ay) * n) (by omega) (by omega)]
  refine Ev.bind (ddown (by omega) (by omega) d0) ?_
  refine Ev.bind (ddown (by omega) (by omega) d0) (ev_eq (Ev.now _) ?_)
  show (wrap64 (ax + (bx - ax) * n / d), wrap64 (ay + (by_ - ay) * n / d), (0 : Int)) = _
  rw [w64 (by omega) (by omega), w64 (by omega) (by omega)]
/-- where a time lies in a tube -/
def At (l : List S91) (t : Int) (p : Nat) : Prop := p < l.length ∧ (nd l p).f0.f0 ≤ t ∧ (∀ j, p < j → j < l.length → t < (nd l j).f0.f0)
def out (x : Int × Int × Int × Int × Int × Int) : Int × Int × Int × Int × Int × Int × Int := (x.1, x.2.1, x.2.2.1, x.2.2.2.1, x.2.2.2.2.1, x.2.2.2.2.2, 0)
theorem at_j2 {l : List S91} (h : OkTube l) {t : Int} {p : Nat} (hp : At l t p) (ht : t ≤ (nd l (l.length - 1)).f0.f0) :
    Ev (fun k => tube_at.j2 k l t (p : Int)) (out (if (nd l p).f0.f0 = t then flat (nd l p) else mix (nd l p) (nd l (p + 1)) t)) := by
  obtain ⟨h1, h2, h3⟩ := hp
  have hlen := h.len1
  have hw : wrap64 ((p : Int) + 1) = ((p + 1 : Nat) : Int) := by rw [w64 (by omega) (by omega)]; omega
  refine Ev.step (fun k => by rw [tube_at.j2]) ?_
  rw [hw]
  simp only [rd_nd]
  refine ev_pos (by omega) (ev_pos (by omega) ?_)
  by_cases e : (nd l p).f0.f0 = t
  · rw [if_pos e]
    exact ev_pos e (Ev.now _)
  · rw [if_neg e]
    have hp1 : p + 1 < l.length := by
      by_cases q : p + 1 < l.length
      · exact q
      · have : p = l.length - 1 := by omega
        rw [← this] at ht
        omega
    have hlt := h3 (p + 1) (by omega) hp1
    have na := h.node p h1
    have nb := h.node (p + 1) hp1
    have a1 := na.t0; have a2 := na.x0; have a3 := na.x1; have a4 := na.y0; have a5 := na.y1; have a6 := na.h0; have a7 := na.h1; have a8 := na.r0; have a9 := na.r1; have a10 := na.b0; have a11 := na.b1
    have b1 := nb.t1; have b2 := nb.x0; have b3 := nb.x1; have b4 := nb.y0; have b5 := nb.y1; have b6 := nb.h0; have b7 := nb.h1; have b8 := nb.r0; have b9 := nb.r1; have b10 := nb.b0; have b11 := nb.b1
    refine ev_neg e (ev_pos (by omega) (ev_pos (by omega) ?_))
    rw [w64 (n := t - (nd l p).f0.f0) (by omega) (by omega), w64 (n := (nd l (p + 1)).f0.f0 - (nd l p).f0.f0) (by omega) (by omega)]
    refine Ev.bind (toward_ev ⟨a2, a3, a4, a5⟩ ⟨b2, b3, b4, b5⟩ (by omega) (by omega) (by omega) (by omega)) ?_
    refine Ev.bind (between_ev (by omega) (by omega) (by omega) (by omega) (by omega) (by omega)) ?_
    refine Ev.bind (above_ev (by omega) (by omega) (by omega) (by omega) (by omega) (by omega)) ?_
    refine Ev.bind (above_ev (by omega) (by omega) (by omega) (by omega) (by omega) (by omega)) ?_
    exact Ev.now _
theorem at_loop {l : List S91} (h : OkTube l) {t : Int} {p : Nat} (hp : At l t p) (ht : t ≤ (nd l (l.length - 1)).f0.f0) : ∀ (d i : Nat), i + d = p →
    Ev (fun k => tube_at.l0 k l t (i : Int)) (out (if (nd l p).f0.f0 = t then flat (nd l p) else mix (nd l p) (nd l (p + 1)) t)) := by
  have hlen := h.len1
  have hw : ∀ i : Nat, i < l.length → wrap64 ((i : Int) + 1) = ((i + 1 : Nat) : Int) := fun i hi => by rw [w64 (by omega) (by omega)]; omega
  intro d
  induction d with
  | zero =>
    intro i e
    have e : i = p := by omega
    subst e
    refine Ev.step (fun k => by rw [tube_at.l0]) ?_
    rw [hw i hp.1]
    simp only [rd_nd]
    by_cases q : i + 1 < l.length
    · have := hp.2.2 (i + 1) (by omega) q
      exact ev_pos (by omega) (ev_pos (by omega) (ev_neg (by omega) (at_j2 h hp ht)))
    · exact ev_neg (by omega) (at_j2 h hp ht)
  | succ d ih =>
    intro i e
    have hp1 := hp.1
    refine Ev.step (fun k => by rw [tube_at.l0]) ?_
    rw [hw i (by omega)]
    simp only [rd_nd]
    have h2 := tube_le h (show i + 1 ≤ p by omega) hp.1
    have h3 := hp.2.1
    exact ev_pos (by omega) (ev_pos (by omega) (ev_pos (by omega) (ih (i + 1) (by omega))))
theorem at_exists {l : List S91} (h : OkTube l) {t : Int} (h0 : (nd l 0).f0.f0 ≤ t) : ∃ p, At l t p := by
  have hfind : ∀ d : Nat, d < l.length → (∃ p, p ≤ d ∧ (nd l p).f0.f0 ≤ t ∧ ∀ j, p < j → j ≤ d → t < (nd l j).f0.f0) := by
    intro d
    induction d with
    | zero => intro _; exact ⟨0, by omega, h0, fun j a b => by omega⟩
    | succ d ih =>
      intro hd
      obtain ⟨p, a, b, c⟩ := ih (by omega)
      by_cases q : (nd l (d + 1)).f0.f0 ≤ t
      · exact ⟨d + 1, by omega, q, fun j a b => by omega⟩
      · refine ⟨p, by omega, b, fun j j1 j2 => ?_⟩
        by_cases e : j = d + 1
        · subst e; omega
        · exact c j j1 (by omega)
  have := h.len0
  obtain ⟨p, a, b, c⟩ := hfind (l.length - 1) (by omega)
  exact ⟨p, by omega, b, fun j j1 j2 => c j j1 (by omega)⟩
theorem at_ok {l : List S91} (h : OkTube l) {t : Int} {p : Nat} (hp : At l t p) (ht : t ≤ (nd l (l.length - 1)).f0.f0) :
    Ev (fun k => tube_at.f k l t) (out (if (nd l p).f0.f0 = t then flat (nd l p) else mix (nd l p) (nd l (p + 1)) t)) := by
  have hlen := h.len1; have hlen0 := h.len0
  have hw : wrap64 ((l.length : Int) - 1) = ((l.length - 1 : Nat) : Int) := by rw [w64 (by omega) (by omega)]; omega
  have hfirst := tube_le h (show 0 ≤ p by omega) hp.1
  have h2 := hp.2.1
  refine Ev.congr (fun k => by rw [tube_at.f]) ?_
  rw [hw]
  simp only [rd_nd]
  refine ev_pos (by omega) ?_
  refine ev_neg (show ¬ t < (nd l 0).f0.f0 by omega) ?_
  refine ev_pos (by omega) (ev_pos (by omega) ?_)
  refine ev_df (fun k b => tube_at.j0 k l t b) (show ¬ t > (nd l (l.length - 1)).f0.f0 by omega) ?_
  refine Ev.step (fun k => by rw [tube_at.j0]) (ev_neg (by decide) ?_)
  exact at_loop h hp ht p 0 (by omega)
theorem at_out {l : List S91} (h : OkTube l) {t : Int} (ht : t < (nd l 0).f0.f0 ∨ (nd l (l.length - 1)).f0.f0 < t) : Ev (fun k => tube_at.f k l t) (0, 0, 0, 0, 0, 0, 12) := by
  have hlen := h.len1; have hlen0 := h.len0
  have hw : wrap64 ((l.length : Int) - 1) = ((l.length - 1 : Nat) : Int) := by rw [w64 (by omega) (by omega)]; omega
  have hj : Ev (fun k => tube_at.j0 k l t true) (0, 0, 0, 0, 0, 0, 12) := Ev.step (fun k => by rw [tube_at.j0]) (ev_pos rfl (Ev.now _))
  refine Ev.congr (fun k => by rw [tube_at.f]) ?_
  rw [hw]
  simp only [rd_nd]
  refine ev_pos (by omega) ?_
  by_cases c : t < (nd l 0).f0.f0
  · exact ev_pos c hj
  · refine ev_neg c (ev_pos (by omega) (ev_pos (by omega) ?_))
    exact ev_dt (fun k b => tube_at.j0 k l t b) (show t > (nd l (l.length - 1)).f0.f0 by omega) hj
theorem At_ev {l : List S91} {t c : Int} {x : Int × Int × Int × Int × Int × Int × Int} (hc : Ev (fun k => tube_Check.f k l) c) (hx : c = 0 → Ev (fun k => tube_at.f k l t) x) : Ev (fun k => tube_At.f k l t) (if c = 0 then x else (0, 0, 0, 0, 0, 0, c)) := by
  refine Ev.congr (fun k => by rw [tube_At.f]) (Ev.bind hc ?_)
  by_cases e : c = 0
  · rw [if_pos e]
    exact ev_pos e (Ev.bind (hx e) (Ev.now _))
  · rw [if_neg e]
    exact ev_neg e (Ev.now _)

theorem rnode_stop {l : List S91} (h : OkTube l) {t : Int} {m : Nat} (hm : m + 1 < l.length) (h0 : (nd l m).f0.f0 ≤ t) (h1 : t ≤ (nd l (m + 1)).f0.f0) (n : Nat) (e : n = m + 1) : Ev (fun k => skywayref1_Node.l0 k l t (n : Int)) (mix (nd l m) (nd l (m + 1)) t) := by
  subst e
  have hlen := h.len1
  have hw : wrap64 (((m + 1 : Nat) : Int) - 1) = (m : Int) := by rw [w64 (by omega) (by omega)]; omega
  have hlt := tube_lt h (show m < m + 1 by omega) hm
  have na := h.node m (by omega)
  have nb := h.node (m + 1) hm
  have a1 := na.t0; have a2 := na.x0; have a3 := na.x1; have a4 := na.y0; have a5 := na.y1; have a6 := na.h0; have a7 := na.h1; have a8 := na.r0; have a9 := na.r1; have a10 := na.b0; have a11 := na.b1
  have b1 := nb.t1; have b2 := nb.x0; have b3 := nb.x1; have b4 := nb.y0; have b5 := nb.y1; have b6 := nb.h0; have b7 := nb.h1; have b8 := nb.r0; have b9 := nb.r1; have b10 := nb.b0; have b11 := nb.b1
  refine Ev.step (fun k => by rw [skywayref1_Node.l0]) ?_
  rw [hw]
  simp only [rd_nd]
  refine ev_pos (by omega) (ev_pos (by omega) (ev_pos (by omega) (ev_pos (by omega) (ev_pos (by omega) (ev_neg (by omega) ?_)))))
  refine ev_df (fun k q => skywayref1_Node.j1 k l t (((m + 1 : Nat) : Int) : Int) q (nd l m).f0.f0 (nd l m).f0.f1.f0 (nd l m).f0.f1.f1 (nd l m).f0.f2 (nd l m).f1 (nd l m).f2 (nd l (m + 1)).f0.f0 (nd l (m + 1)).f0.f1.f0 (nd l (m + 1)).f0.f1.f1 (nd l (m + 1)).f0.f2 (nd l (m + 1)).f1 (nd l (m + 1)).f2) (show ¬ t < (nd l m).f0.f0 by omega) ?_
  refine Ev.step (fun k => by rw [skywayref1_Node.j1]) (ev_neg (by decide) ?_)
  rw [w64 (n := t - (nd l m).f0.f0) (by omega) (by omega), w64 (n := (nd l (m + 1)).f0.f0 - (nd l m).f0.f0) (by omega) (by omega)]
  refine Ev.bind (rmix (by omega) (by omega) (by omega) (by omega) (by omega) (by omega)) ?_
  refine Ev.bind (rmix (by omega) (by omega) (by omega) (by omega) (by omega) (by omega)) ?_
  refine Ev.bind (rmix (by omega) (by omega) (by omega) (by omega) (by omega) (by omega)) ?_
  refine Ev.bind (rmixup (by omega) (by omega) (by omega) (by omega) (by omega) (by omega)) ?_
  refine Ev.bind (rmixup (by omega) (by omega) (by omega) (by omega) (by omega) (by omega)) ?_
  exact Ev.now _
theorem rnode_loop {l : List S91} (h : OkTube l) {t : Int} {m : Nat} (hm : m + 1 < l.length) (h0 : (nd l m).f0.f0 ≤ t) (h1 : t ≤ (nd l (m + 1)).f0.f0) (h2 : ∀ j, m + 1 ≤ j → j < l.length - 1 → t < (nd l j).f0.f0) :
    ∀ (d n : Nat), n = m + 1 + d → n < l.length → Ev (fun k => skywayref1_Node.l0 k l t (n : Int)) (mix (nd l m) (nd l (m + 1)) t) := by
  have hlen := h.len1
  intro d
  induction d with
  | zero => intro n e _; exact rnode_stop h hm h0 h1 n e
  | succ d ih =>
    intro n e hn
    have hw : wrap64 ((n : Int) - 1) = ((n - 1 : Nat) : Int) := by rw [w64 (by omega) (by omega)]; omega
    have hlt := h2 (n - 1) (by omega) (by omega)
    have hlt2 := tube_lt h (show n - 1 < n by omega) hn
    have hrec := ih (n - 1) (by omega) (by omega)
    refine Ev.step (fun k => by rw [skywayref1_Node.l0]) ?_
    rw [hw]
    simp only [rd_nd]
    refine ev_pos (by omega) (ev_pos (by omega) (ev_pos (by omega) (ev_pos (by omega) (ev_pos (by omega) (ev_neg (by omega) ?_)))))
    refine ev_dt (fun k q => skywayref1_Node.j1 k l t (n : Int) q (nd l (n - 1)).f0.f0 (nd l (n - 1)).f0.f1.f0 (nd l (n - 1)).f0.f1.f1 (nd l (n - 1)).f0.f2 (nd l (n - 1)).f1 (nd l (n - 1)).f2 (nd l n).f0.f0 (nd l n).f0.f1.f0 (nd l n).f0.f1.f1 (nd l n).f0.f2 (nd l n).f1 (nd l n).f2) (show t < (nd l (n - 1)).f0.f0 by omega) ?_
    refine Ev.step (fun k => by rw [skywayref1_Node.j1]) (ev_pos rfl ?_)
    rw [hw]
    exact hrec
theorem rnode_ok {l : List S91} (h : OkTube l) {t : Int} {p : Nat} (hp : At l t p) (ht : t ≤ (nd l (l.length - 1)).f0.f0) :
    Ev (fun k => skywayref1_Node.f k l t) (if (nd l p).f0.f0 = t then flat (nd l p) else mix (nd l p) (nd l (p + 1)) t) := by
  have hlen := h.len1; have hlen0 := h.len0
  obtain ⟨h1, h2, h3⟩ := hp
  have hw : wrap64 ((l.length : Int) - 1) = ((l.length - 1 : Nat) : Int) := by rw [w64 (by omega) (by omega)]; omega
  refine Ev.congr (fun k => by rw [skywayref1_Node.f]) ?_
  rw [hw]
  by_cases q : p + 1 < l.length
  · have hlt := h3 (p + 1) (by omega) q
    have := rnode_loop h q h2 (by omega) (fun j a b => h3 j (by omega) (by omega)) (l.length - 1 - (p + 1)) (l.length - 1) (by omega) (by omega)
    by_cases e : (nd l p).f0.f0 = t
    · rw [if_pos e, ← mix_left (nd l p) (nd l (p + 1)), e]; exact this
    · rw [if_neg e]; exact this
  · have e : p = l.length - 1 := by omega
    rw [← e] at ht ⊢
    have et : (nd l p).f0.f0 = t := by omega
    rw [if_pos et]
    by_cases z : p = 0
    · subst z
      refine Ev.step (fun k => by rw [skywayref1_Node.l0]) ?_
      refine ev_neg (by omega) (ev_pos (by omega) ?_)
      exact Ev.now _
    · have hm : p - 1 + 1 = p := by omega
      have hlt := tube_lt h (show p - 1 < p by omega) h1
      have := rnode_loop h (t := t) (m := p - 1) (by omega) (by omega) (by rw [hm]; omega) (fun j a b => by omega) 0 p (by omega) (by omega)
      rw [hm, ← et, mix_right _ _ hlt] at this
      rw [← et]
      exact this

end Go.Proofs.Ytpcmmbbkidojoaa.LTubeNodes
