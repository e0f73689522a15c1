/- What functions that TerrainGrows reaches compute, over numbers and lists. Their conditions stand in each lemma. -/
import Derived.Test.YtpcmmbbkidojoaaPTerrainGrowsx0
import Derived.Test.YtpcmmbbkidojoaaPTerrainGrowsx1
import Derived.Test.YtpcmmbbkidojoaaPTerrainGrowsx2
import Derived.Test.YtpcmmbbkidojoaaPTerrainGrowsx3
import Derived.Test.YtpcmmbbkidojoaaPTerrainGrowsx4
import Derived.Test.YtpcmmbbkidojoaaPTerrainGrowsx5
import Derived.Test.YtpcmmbbkidojoaaPTerrainGrowsx6
import Derived.Test.YtpcmmbbkidojoaaPTerrainGrowsx7
import Derived.Test.YtpcmmbbkidojoaaBase
namespace Go.Proofs.Ytpcmmbbkidojoaa.LTerrainGrows
open Go.RowKit Go.Proofs.Ytpcmmbbkidojoaa.Opens Go.Proofs.Ytpcmmbbkidojoaa.PTerrainGrows Go.Proofs.YtpcmmbbkidojoaaW.PrintWords Go.Proofs.YtpcmmbbkidojoaaW.PrintLast Go.Proofs.YtpcmmbbkidojoaaW.PrintMore Go.Proofs.Ytpcmmbbkidojoaa.Base
set_option linter.unusedVariables false
set_option linter.unusedSimpArgs false

theorem divDown {a b : Int} (ha0 : -9223372036854775808 ≤ a) (ha : a ≤ 9223372036854775807) (hb : 0 < b) (hq : -9223372036854775808 < a / b ∨ True) : Ev (fun k => num_DivDown.f k a b) (a / b, 0) := by
  have hf := floor_of (a := a) hb
  have hbd := tdiv_bd ha0 ha hb
  have hfd := fdiv_le (a := a) hb
  have hlow : -9223372036854775808 ≤ a / b := by
    by_cases h : 0 ≤ a
    · have := Int.ediv_nonneg h (by omega : 0 ≤ b); omega
    · have h1 : a ≤ a / b := by
        have h2 : a / b < 0 := Int.ediv_neg_of_neg_of_pos (by omega) hb
        have h3 : a / b * b ≤ a / b * 1 := Int.mul_le_mul_of_nonpos_left (by omega) (by omega)
        rw [Int.mul_comm] at h3
        have h4 := hfd.1
        have h5 := hfd.2
        by_cases h6 : b = 1
        · subst h6; simp
        · have h7 : a / b * b ≤ a / b * 2 := Int.mul_le_mul_of_nonpos_left (by omega) (by omega)
          rw [Int.mul_comm] at h7
          by_cases h8 : a ≤ a / b
          · exact h8
          · exfalso
            have : b * (a / b) + b ≤ a / b + 1 := by
              have : b * (a / b + 1) ≤ 1 * (a / b + 1) := Int.mul_le_mul_of_nonpos_right (by omega) (by omega)
              rw [Int.mul_add, Int.mul_one, Int.one_mul] at this
              exact this
            omega
      omega
  have hj : ∀ f, f = false → Ev (fun k => num_DivDown.j0 k a b f) (a / b, 0) := by
    rintro f rfl
    refine Ev.step (fun k => by rw [num_DivDown.j0]) ?_
    refine ev_neg (by decide) (ev_neg (by omega) ?_)
    rw [← hf]
    by_cases h0 : Int.tmod a b = 0
    · refine ev_pos h0 (ev_eq (Ev.now _) ?_)
      rw [if_pos h0, w64 hbd.1 hbd.2]
    · refine ev_neg h0 ?_
      rw [if_neg h0] at hf ⊢
      have hbn : decide (b < 0) = false := decide_eq_false (by omega)
      by_cases h1 : a < 0
      · refine ev_pos (by rw [hbn, decide_eq_true h1]; rfl) (ev_eq (Ev.now _) ?_)
        rw [if_pos h1] at hf ⊢
        rw [w64 hbd.1 hbd.2, w64 (by omega) (by omega)]
      · refine ev_neg (by rw [hbn, decide_eq_false h1]; decide) (ev_eq (Ev.now _) ?_)
        rw [if_neg h1, w64 hbd.1 hbd.2]
  show Ev (fun k => num_DivDown.f k a b) _
  refine Ev.congr (fun k => by rw [num_DivDown.f]) ?_
  refine ev_neg (by omega) ?_
  by_cases hm : a = -9223372036854775808
  · refine ev_pos hm (hj _ ?_)
    simp; omega
  · exact ev_neg hm (hj _ rfl)
theorem ddown {a b : Int} (ha0 : -9223372036854775808 ≤ a) (ha : a ≤ 9223372036854775807) (hb : 0 < b) : Ev (fun k => num_DivDown.f k a b) (a / b, 0) := divDown ha0 ha hb (Or.inr trivial)

/-- 'within' brings a number into a range. -/
theorem within_in (n low high : Int) (h : low ≤ high) (hl : -1000000000 ≤ low) (hh : high ≤ 1000000000) : ∃ r, skywaykeep2_within.f n low high = some r ∧ low ≤ r ∧ r ≤ high := by
  unfold skywaykeep2_within.f
  have e1 : wrap64 (high - low) = high - low := w64 (by omega) (by omega)
  have e2 : wrap64 (high - low + 1) = high - low + 1 := w64 (by omega) (by omega)
  rw [e1, e2, if_neg (by omega)]
  have hs : 0 < high - low + 1 := by omega
  generalize hsz : high - low + 1 = s at *
  have t1 : Int.tmod n s < s := Int.tmod_lt_of_pos _ hs
  have t0 : -s < Int.tmod n s := by
    have h1 := Int.tmod_lt_of_pos (-n) hs
    rw [Int.neg_tmod] at h1
    omega
  have e3 : wrap64 (Int.tmod n s + s) = Int.tmod n s + s := w64 (by omega) (by omega)
  rw [e3]
  have t2 : Int.tmod (Int.tmod n s + s) s < s := Int.tmod_lt_of_pos _ hs
  have t3 : 0 ≤ Int.tmod (Int.tmod n s + s) s := Int.tmod_nonneg _ (by omega)
  exact ⟨_, rfl, by rw [w64 (by omega) (by omega)]; omega, by rw [w64 (by omega) (by omega)]; omega⟩

def hat (hs : List Int) (i : Nat) : Int := hs.getD i 0
theorem rd_hat (hs : List Int) (i : Nat) : rd hs (i : Int) = hat hs i := by unfold rd hat; simp [List.getD_eq_getElem?_getD]
structure OkGrid (x y size nx ny : Int) (hs : List Int) : Prop where
  nx0 : 1 ≤ nx
  nx1 : nx ≤ 32
  ny0 : 1 ≤ ny
  ny1 : ny ≤ 32
  s0 : 1 ≤ size
  s1 : size ≤ 1000000
  x0 : -1000000 ≤ x
  x1 : x ≤ 1000000
  y0 : -1000000 ≤ y
  y1 : y ≤ 1000000
  len : (hs.length : Int) = nx * ny
  all : ∀ i, i < hs.length → 0 ≤ hat hs i ∧ hat hs i ≤ 60000
theorem grid_loop (hs : List Int) (hl : hs.length ≤ 1024) : ∀ (d i : Nat), i + d = hs.length → ∃ r : Int, Ev (fun k => terrain_Check.l0 k hs (hs.length : Int) (i : Int)) r ∧ (r = 0 ↔ ∀ j, i ≤ j → j < hs.length → 0 ≤ hat hs j ∧ hat hs j ≤ 60000)
  | 0, i, h => ⟨0, Ev.step (fun k => by rw [terrain_Check.l0]) (ev_neg (by omega) (Ev.now _)), ⟨fun _ j h1 h2 => by omega, fun _ => rfl⟩⟩
  | d + 1, i, h => by
    obtain ⟨r, hr, hd⟩ := grid_loop hs hl d (i + 1) (by omega)
    have hw : wrap64 ((i : Int) + 1) = ((i + 1 : Nat) : Int) := by rw [w64 (by omega) (by omega)]; omega
    have hgo : ∀ {r : Int}, Ev (fun k => if hat hs i < 0 then some 4 else if hat hs i > 60000 then some 4 else terrain_Check.l0 k hs (hs.length : Int) ((i + 1 : Nat) : Int)) r → Ev (fun k => terrain_Check.l0 k hs (hs.length : Int) (i : Int)) r := by
      intro r hq
      refine Ev.step (fun k => by rw [terrain_Check.l0]) ?_
      rw [hw]
      simp only [rd_hat]
      exact ev_pos (by omega) (ev_pos (by omega) (ev_pos (by omega) hq))
    by_cases h1 : hat hs i < 0
    · exact ⟨4, hgo (ev_pos h1 (Ev.now _)), ⟨fun h0 => absurd h0 (by decide), fun hh => by have := hh i (by omega) (by omega); omega⟩⟩
    · by_cases h2 : hat hs i > 60000
      · exact ⟨4, hgo (ev_neg h1 (ev_pos h2 (Ev.now _))), ⟨fun h0 => absurd h0 (by decide), fun hh => by have := hh i (by omega) (by omega); omega⟩⟩
      · refine ⟨r, hgo (ev_neg h1 (ev_neg h2 hr)), ?_⟩
        rw [hd]
        constructor
        · intro hh j a b
          by_cases hji : j = i
          · subst hji; omega
          · exact hh j (by omega) b
        · exact fun hh j a b => hh j (by omega) b
theorem grid_any (x y size nx ny : Int) (hs : List Int) (hl : hs.length * 8 ≤ 140737488351232) : ∃ r : Int, Ev (fun k => terrain_Check.f k x y size nx ny hs) r ∧ (r = 0 ↔ OkGrid x y size nx ny hs) := by
  have hj1 : ∀ f, f = true → Ev (fun k => terrain_Check.j1 k f x y size nx ny hs) 4 := by
    rintro f rfl
    exact Ev.step (fun k => by rw [terrain_Check.j1]) (ev_pos rfl (Ev.now _))
  have hj0 : ∀ f, f = true → Ev (fun k => terrain_Check.j0 k f x y size nx ny hs) 4 := by
    rintro f rfl
    exact Ev.step (fun k => by rw [terrain_Check.j0]) (ev_pos rfl (hj1 _ rfl))
  by_cases h1 : 1 ≤ nx ∧ nx ≤ 32 ∧ 1 ≤ ny ∧ ny ≤ 32 ∧ 1 ≤ size ∧ size ≤ 1000000
  · have hgo : ∀ {r : Int}, Ev (fun k => terrain_Check.j0 k false x y size nx ny hs) r → Ev (fun k => terrain_Check.f k x y size nx ny hs) r := by
      intro r hq
      refine Ev.congr (fun k => by rw [terrain_Check.f]) ?_
      refine ev_neg (by omega) (ev_neg (by omega) (ev_neg (by omega) (ev_neg (by omega) (ev_neg (by omega) ?_))))
      rw [decide_eq_false (by omega)]
      exact hq
    by_cases h2 : -1000000 ≤ x ∧ x ≤ 1000000 ∧ -1000000 ≤ y ∧ y ≤ 1000000
    · have hgo2 : ∀ {r : Int}, Ev (fun k => if (hs.length : Int) = nx * ny then terrain_Check.l0 k hs (hs.length : Int) 0 else some 3) r → Ev (fun k => terrain_Check.f k x y size nx ny hs) r := by
        intro r hq
        refine hgo (Ev.step (fun k => by rw [terrain_Check.j0]) ?_)
        refine ev_neg (by decide) (ev_neg (by omega) (ev_neg (by omega) (ev_neg (by omega) ?_)))
        rw [decide_eq_false (by omega)]
        refine Ev.step (fun k => by rw [terrain_Check.j1]) (ev_neg (by decide) ?_)
        have hm0 : 0 ≤ nx * ny := Int.mul_nonneg (by omega) (by omega)
        have hm1 : nx * ny ≤ 32 * 32 := Int.mul_le_mul (by omega) (by omega) (by omega) (by omega)
        rw [w64 (n := nx * ny) (by omega) (by omega)]
        exact hq
      by_cases h3 : (hs.length : Int) = nx * ny
      · have hm1 : nx * ny ≤ 32 * 32 := Int.mul_le_mul (by omega) (by omega) (by omega) (by omega)
        obtain ⟨r, hr, hd⟩ := grid_loop hs (by omega) hs.length 0 (by omega)
        refine ⟨r, hgo2 (ev_pos h3 (by exact hr)), ?_⟩
        rw [hd]
        constructor
        · exact fun hh => ⟨by omega, by omega, by omega, by omega, by omega, by omega, by omega, by omega, by omega, by omega, h3, fun i hi => hh i (by omega) hi⟩
        · exact fun hh j _ hj => hh.all j hj
      · exact ⟨3, hgo2 (ev_neg h3 (Ev.now _)), ⟨fun h0 => absurd h0 (by decide), fun hh => absurd hh.len h3⟩⟩
    · refine ⟨4, hgo (Ev.step (fun k => by rw [terrain_Check.j0]) (ev_neg (by decide) ?_)), ⟨fun h0 => absurd h0 (by decide), fun hh => absurd ⟨hh.x0, hh.x1, hh.y0, hh.y1⟩ h2⟩⟩
      repeat (refine ev_bad (hj1 _ rfl) (fun _ => ?_))
      exact hj1 _ (decide_eq_true (by omega))
  · refine ⟨4, Ev.congr (fun k => by rw [terrain_Check.f]) ?_, ⟨fun h0 => absurd h0 (by decide), fun hh => absurd ⟨hh.nx0, hh.nx1, hh.ny0, hh.ny1, hh.s0, hh.s1⟩ h1⟩⟩
    repeat (refine ev_bad (hj0 _ rfl) (fun _ => ?_))
    exact hj0 _ (decide_eq_true (by omega))

/-! ### which cells a disk touches -/
def outs (n low high : Int) : Int := mx (mx (low - n) (n - high)) 0
def tch (x y size px py rad i j : Int) : Bool :=
  decide (outs px (x + i * size) (x + i * size + size - 1) ≤ rad) && (decide (outs py (y + j * size) (y + j * size + size - 1) ≤ rad) &&
    decide (outs px (x + i * size) (x + i * size + size - 1) * outs px (x + i * size) (x + i * size + size - 1) + outs py (y + j * size) (y + j * size + size - 1) * outs py (y + j * size) (y + j * size + size - 1) ≤ rad * rad))
theorem outs_bd {n low high : Int} (h0 : -100000000 ≤ n) (h1 : n ≤ 100000000) (h2 : -100000000 ≤ low) (h3 : low ≤ 100000000) (h4 : -100000000 ≤ high) (h5 : high ≤ 100000000) : terrain_outside.f n low high = some (outs n low high) ∧ 0 ≤ outs n low high ∧ outs n low high ≤ 200000000 := by
  unfold terrain_outside.f outs
  rw [w64 (n := low - n) (by omega) (by omega), w64 (n := n - high) (by omega) (by omega)]
  refine ⟨rfl, ?_, ?_⟩
  · unfold mx; split <;> split <;> omega
  · unfold mx; split <;> split <;> omega
theorem touches_eq {x y size nx ny : Int} {hs : List Int} (g : OkGrid x y size nx ny hs) {i j px py rad : Int} (hi0 : 0 ≤ i) (hi1 : i < 1024) (hj0 : 0 ≤ j) (hj1 : j < 1024) (hm : i ≤ 32 ∧ j ≤ 32)
    (p0 : -1000000 ≤ px) (p1 : px ≤ 1000000) (q0 : -1000000 ≤ py) (q1 : py ≤ 1000000) (r0 : 0 ≤ rad) (r1 : rad ≤ 4000000) : terrain_touches.f x y size nx ny hs i j px py rad = some (tch x y size px py rad i j) := by
  have a0 : 0 ≤ i * size := Int.mul_nonneg hi0 (by have := g.s0; omega)
  have a1 : i * size ≤ 32 * 1000000 := Int.mul_le_mul hm.1 g.s1 (by have := g.s0; omega) (by omega)
  have b0 : 0 ≤ j * size := Int.mul_nonneg hj0 (by have := g.s0; omega)
  have b1 : j * size ≤ 32 * 1000000 := Int.mul_le_mul hm.2 g.s1 (by have := g.s0; omega) (by omega)
  obtain ⟨_, _, _, _, s0, s1, x0, x1, y0, y1, _, _⟩ := g
  unfold terrain_touches.f
  rw [w64 (n := i * size) (by omega) (by omega), w64 (n := j * size) (by omega) (by omega), w64 (n := x + i * size) (by omega) (by omega), w64 (n := y + j * size) (by omega) (by omega),
    w64 (n := x + i * size + size) (by omega) (by omega), w64 (n := y + j * size + size) (by omega) (by omega), w64 (n := x + i * size + size - 1) (by omega) (by omega), w64 (n := y + j * size + size - 1) (by omega) (by omega)]
  obtain ⟨e1, u0, u1⟩ := outs_bd (n := px) (low := x + i * size) (high := x + i * size + size - 1) (by omega) (by omega) (by omega) (by omega) (by omega) (by omega)
  obtain ⟨e2, v0, v1⟩ := outs_bd (n := py) (low := y + j * size) (high := y + j * size + size - 1) (by omega) (by omega) (by omega) (by omega) (by omega) (by omega)
  rw [e1, e2]
  unfold tch
  generalize outs px (x + i * size) (x + i * size + size - 1) = u at *
  generalize outs py (y + j * size) (y + j * size + size - 1) = v at *
  simp only [Option.bind_some]
  by_cases h1 : u ≤ rad
  · by_cases h2 : v ≤ rad
    · have m1 : u * u ≤ 4000000 * 4000000 := Int.mul_le_mul (by omega) (by omega) u0 (by omega)
      have m2 : v * v ≤ 4000000 * 4000000 := Int.mul_le_mul (by omega) (by omega) v0 (by omega)
      have m3 : rad * rad ≤ 4000000 * 4000000 := Int.mul_le_mul r1 r1 r0 (by omega)
      have n1 : 0 ≤ u * u := Int.mul_nonneg u0 u0
      have n2 : 0 ≤ v * v := Int.mul_nonneg v0 v0
      have n3 : 0 ≤ rad * rad := Int.mul_nonneg r0 r0
      rw [if_pos h1, if_pos h2, w64 (n := u * u) (by omega) (by omega), w64 (n := v * v) (by omega) (by omega), w64 (n := rad * rad) (by omega) (by omega), w64 (n := u * u + v * v) (by omega) (by omega)]
      simp [h1, h2]
    · rw [if_pos h1, if_neg h2]; simp [h2]
  · rw [if_neg h1]; simp [h1]
theorem tch_mono {x y size px py rad rad' i j : Int} (h : rad ≤ rad') (h0 : 0 ≤ rad) (ht : tch x y size px py rad i j = true) : tch x y size px py rad' i j = true := by
  unfold tch at ht ⊢
  simp only [Bool.and_eq_true, decide_eq_true_eq] at ht ⊢
  have : rad * rad ≤ rad' * rad' := Int.mul_le_mul h h h0 (by omega)
  omega
/-- R is the height of the highest cell that the disk touches. -/
structure IsHi (x y size nx : Int) (hs : List Int) (px py rad : Int) (n : Nat) (R : Int) : Prop where
  lo : 0 ≤ R
  hi : R ≤ 60000
  le : ∀ k : Nat, k < n → tch x y size px py rad ((k : Int) % nx) ((k : Int) / nx) = true → hat hs k ≤ R
  eq : R = 0 ∨ ∃ k : Nat, k < n ∧ tch x y size px py rad ((k : Int) % nx) ((k : Int) / nx) = true ∧ hat hs k = R
theorem high_loop {x y size nx ny : Int} {hs : List Int} (g : OkGrid x y size nx ny hs) {px py rad : Int} (p0 : -1000000 ≤ px) (p1 : px ≤ 1000000) (q0 : -1000000 ≤ py) (q1 : py ≤ 1000000) (r0 : 0 ≤ rad) (r1 : rad ≤ 4000000) (hl : hs.length ≤ 1024) :
    ∀ (d i : Nat) (out : Int), i + d = hs.length → IsHi x y size nx hs px py rad i out → ∃ R, Ev (fun k => terrain_Highest.l0 k rad out hs (hs.length : Int) (i : Int) x y size nx ny hs px py) (R, 0) ∧ IsHi x y size nx hs px py rad hs.length R
  | 0, i, out, h, hI => by
    have : i = hs.length := by omega
    subst this
    exact ⟨out, Ev.step (fun k => by rw [terrain_Highest.l0]) (ev_neg (by omega) (Ev.now _)), hI⟩
  | d + 1, i, out, h, hI => by
    have hw : wrap64 ((i : Int) + 1) = ((i + 1 : Nat) : Int) := by rw [w64 (by omega) (by omega)]; omega
    have hnx : 0 < nx := by have := g.nx0; omega
    have hdv := fdiv_le (a := (i : Int)) hnx
    have hmod : (i : Int) % nx < nx := Int.emod_lt_of_pos _ hnx
    have hmod0 : 0 ≤ (i : Int) % nx := Int.emod_nonneg _ (by omega)
    have hd0 : 0 ≤ (i : Int) / nx := Int.ediv_nonneg (by omega) (by omega)
    have hd1 : (i : Int) / nx < ny := by
      apply Int.ediv_lt_of_lt_mul hnx
      have := g.len
      rw [Int.mul_comm] at this
      omega
    have e1 : Int.tmod (i : Int) nx = (i : Int) % nx := Int.tmod_eq_emod_of_nonneg (by omega)
    have e2 : Int.tdiv (i : Int) nx = (i : Int) / nx := Int.tdiv_eq_ediv_of_nonneg (by omega)
    have e3 : wrap64 ((i : Int) / nx) = (i : Int) / nx := by have := g.ny1; exact w64 (by omega) (by omega)
    have ht := touches_eq g (i := (i : Int) % nx) (j := (i : Int) / nx) (px := px) (py := py) (rad := rad) hmod0 (by have := g.nx1; omega) hd0 (by have := g.ny1; omega) ⟨by have := g.nx1; omega, by have := g.ny1; omega⟩ p0 p1 q0 q1 r0 r1
    have hgo : ∀ {r : Int × Int}, Ev (fun k => if hat hs i > out then (if tch x y size px py rad ((i : Int) % nx) ((i : Int) / nx) = true then terrain_Highest.l0 k rad (hat hs i) hs (hs.length : Int) ((i + 1 : Nat) : Int) x y size nx ny hs px py else terrain_Highest.l0 k rad out hs (hs.length : Int) ((i + 1 : Nat) : Int) x y size nx ny hs px py) else terrain_Highest.l0 k rad out hs (hs.length : Int) ((i + 1 : Nat) : Int) x y size nx ny hs px py) r →
        Ev (fun k => terrain_Highest.l0 k rad out hs (hs.length : Int) (i : Int) x y size nx ny hs px py) r := by
      intro r hq
      refine Ev.step (fun k => by rw [terrain_Highest.l0]) ?_
      rw [hw, e1, e2, e3]
      simp only [rd_hat]
      refine ev_pos (by omega) (ev_pos (by omega) (ev_pos (by omega) ?_))
      by_cases hc : hat hs i > out
      · simp only [if_pos hc] at hq ⊢
        refine ev_neg (by omega) ?_
        rw [ht]
        exact hq
      · simp only [if_neg hc] at hq ⊢
        exact hq
    have hstep : ∀ out', IsHi x y size nx hs px py rad (i + 1) out' → ∃ R, Ev (fun k => terrain_Highest.l0 k rad out' hs (hs.length : Int) ((i + 1 : Nat) : Int) x y size nx ny hs px py) (R, 0) ∧ IsHi x y size nx hs px py rad hs.length R := fun out' h' => high_loop g p0 p1 q0 q1 r0 r1 hl d (i + 1) out' (by omega) h'
    have hall := g.all i (by omega)
    by_cases hc : hat hs i > out
    · cases htc : tch x y size px py rad ((i : Int) % nx) ((i : Int) / nx) with
      | true =>
        obtain ⟨R, hR, hRI⟩ := hstep (hat hs i) ⟨by omega, by omega, fun k hk hkt => by
          by_cases hki : k = i
          · subst hki; omega
          · have := hI.le k (by omega) hkt; omega, Or.inr ⟨i, by omega, htc, rfl⟩⟩
        exact ⟨R, hgo (ev_pos hc (ev_pos htc hR)), hRI⟩
      | false =>
        obtain ⟨R, hR, hRI⟩ := hstep out ⟨hI.lo, hI.hi, fun k hk hkt => by
          by_cases hki : k = i
          · subst hki; rw [htc] at hkt; cases hkt
          · exact hI.le k (by omega) hkt, hI.eq.imp id (fun ⟨k, a, b⟩ => ⟨k, by omega, b⟩)⟩
        exact ⟨R, hgo (ev_pos hc (ev_neg (by rw [htc]; decide) hR)), hRI⟩
    · obtain ⟨R, hR, hRI⟩ := hstep out ⟨hI.lo, hI.hi, fun k hk hkt => by
          by_cases hki : k = i
          · subst hki; omega
          · exact hI.le k (by omega) hkt, hI.eq.imp id (fun ⟨k, a, b⟩ => ⟨k, by omega, b⟩)⟩
      exact ⟨R, hgo (ev_neg hc hR), hRI⟩
def OkP (px py : Int) : Prop := -1000000 ≤ px ∧ px ≤ 1000000 ∧ -1000000 ≤ py ∧ py ≤ 1000000
theorem highest_ok {x y size nx ny : Int} {hs : List Int} (hl : hs.length * 8 ≤ 140737488351232) (g : OkGrid x y size nx ny hs) {px py rad : Int} (hp : OkP px py) (r0 : 0 ≤ rad) (r1 : rad ≤ 4000000) :
    ∃ R, Ev (fun k => terrain_Highest.f k x y size nx ny hs px py rad) (R, 0) ∧ IsHi x y size nx hs px py rad hs.length R := by
  obtain ⟨r, hr, hd⟩ := grid_any x y size nx ny hs hl
  rw [hd.2 g] at hr
  obtain ⟨p0, p1, q0, q1⟩ := hp
  have hm1 : nx * ny ≤ 32 * 32 := Int.mul_le_mul g.nx1 g.ny1 (by have := g.ny0; omega) (by omega)
  have hlen := g.len
  obtain ⟨R, hR, hRI⟩ := high_loop g p0 p1 q0 q1 r0 r1 (by omega) hs.length 0 0 (by omega) ⟨by omega, by omega, fun k hk => by omega, Or.inl rfl⟩
  refine ⟨R, Ev.congr (fun k => by rw [terrain_Highest.f]) ?_, hRI⟩
  refine Ev.bind hr ?_
  refine ev_pos rfl (ev_neg (by omega) (ev_neg (by omega) (ev_neg (by omega) (ev_neg (by omega) (ev_neg (by omega) ?_)))))
  rw [decide_eq_false (by omega)]
  refine Ev.step (fun k => by rw [terrain_Highest.j0]) (ev_neg (by decide) ?_)
  exact hR
theorem highest_bad {x y size nx ny : Int} {hs : List Int} (hl : hs.length * 8 ≤ 140737488351232) {px py rad : Int} (h : ¬ (OkGrid x y size nx ny hs ∧ OkP px py ∧ 0 ≤ rad ∧ rad ≤ 4000000)) :
    ∃ r, r ≠ 0 ∧ Ev (fun k => terrain_Highest.f k x y size nx ny hs px py rad) (0, r) := by
  obtain ⟨r, hr, hd⟩ := grid_any x y size nx ny hs hl
  by_cases hg : OkGrid x y size nx ny hs
  · rw [hd.2 hg] at hr
    have hj : ∀ f, f = true → Ev (fun k => terrain_Highest.j0 k rad f x y size nx ny hs px py) (0, 4) := by
      rintro f rfl
      exact Ev.step (fun k => by rw [terrain_Highest.j0]) (ev_pos rfl (Ev.now _))
    refine ⟨4, by decide, Ev.congr (fun k => by rw [terrain_Highest.f]) (Ev.bind hr (ev_pos rfl ?_))⟩
    have h' : ¬ (OkP px py ∧ 0 ≤ rad ∧ rad ≤ 4000000) := fun hh => h ⟨hg, hh⟩
    unfold OkP at h'
    repeat (refine ev_bad (hj _ rfl) (fun _ => ?_))
    exact hj _ (decide_eq_true (by omega))
  · have hr0 : r ≠ 0 := fun h0 => hg (hd.1 h0)
    exact ⟨r, hr0, Ev.congr (fun k => by rw [terrain_Highest.f]) (Ev.bind hr (ev_neg hr0 (Ev.now _)))⟩
theorem highest_any {x y size nx ny : Int} {hs : List Int} (hl : hs.length * 8 ≤ 140737488351232) (px py rad : Int) : ∃ p, Ev (fun k => terrain_Highest.f k x y size nx ny hs px py rad) p := by
  by_cases h : OkGrid x y size nx ny hs ∧ OkP px py ∧ 0 ≤ rad ∧ rad ≤ 4000000
  · obtain ⟨R, hR, _⟩ := highest_ok hl h.1 h.2.1 h.2.2.1 h.2.2.2
    exact ⟨_, hR⟩
  · obtain ⟨r, _, hR⟩ := highest_bad hl h
    exact ⟨_, hR⟩
theorem hi_mono {x y size nx : Int} {hs : List Int} {px py rad rad' R R' : Int} {n : Nat} (h : rad ≤ rad') (h0 : 0 ≤ rad) (a : IsHi x y size nx hs px py rad n R) (b : IsHi x y size nx hs px py rad' n R') : R ≤ R' := by
  rcases a.eq with h1 | ⟨k, hk, ht, he⟩
  · have := b.lo; omega
  · have := b.le k hk (tch_mono h h0 ht); omega

theorem cell_ev {n from_ size : Int} (h0 : -2000000 ≤ n) (h1 : n ≤ 2000000) (h2 : -2000000 ≤ from_) (h3 : from_ ≤ 2000000) (hs : 1 ≤ size) : Ev (fun k => terrain_cell.f k n from_ size) ((n - from_) / size) := by
  refine Ev.congr (fun k => by rw [terrain_cell.f]) ?_
  rw [w64 (n := n - from_) (by omega) (by omega)]
  exact Ev.bind (ddown (by omega) (by omega) (by omega)) (Ev.now _)
/-- The height at a place: that of its cell, or 0. -/
theorem height_ok {x y size nx ny : Int} {hs : List Int} (hl : hs.length * 8 ≤ 140737488351232) (g : OkGrid x y size nx ny hs) {px py : Int} (hp : OkP px py) :
    ∃ H : Int, Ev (fun k => terrain_Height.f k x y size nx ny hs px py) (H, 0) ∧ 0 ≤ H ∧ (∀ rad R, 0 ≤ rad → IsHi x y size nx hs px py rad hs.length R → H ≤ R) := by
  obtain ⟨r, hr, hd⟩ := grid_any x y size nx ny hs hl
  rw [hd.2 g] at hr
  obtain ⟨p0, p1, q0, q1⟩ := hp
  obtain ⟨nx0, nx1, ny0, ny1, s0, s1, x0, x1, y0, y1, len, all⟩ := g
  have c1 := cell_ev (n := px) (from_ := x) (size := size) (by omega) (by omega) (by omega) (by omega) s0
  have c2 := cell_ev (n := py) (from_ := y) (size := size) (by omega) (by omega) (by omega) (by omega) s0
  have d1 := fdiv_le (a := px - x) (b := size) (by omega)
  have d2 := fdiv_le (a := py - y) (b := size) (by omega)
  have hgo : ∀ {q : Int × Int}, Ev (fun k : Nat => if (px - x) / size < 0 then some (0, 0) else if (px - x) / size ≥ nx then some (0, 0) else if (py - y) / size < 0 then some (0, 0) else if (py - y) / size ≥ ny then some (0, 0) else if 0 ≤ wrap64 (wrap64 ((py - y) / size * nx) + (px - x) / size) then (if wrap64 (wrap64 ((py - y) / size * nx) + (px - x) / size) < (hs.length : Int) then some (rd hs (wrap64 (wrap64 ((py - y) / size * nx) + (px - x) / size)), 0) else none) else none) q →
      Ev (fun k => terrain_Height.f k x y size nx ny hs px py) q := by
    intro q hq
    refine Ev.congr (fun k => by rw [terrain_Height.f]) (Ev.bind hr ?_)
    refine ev_pos rfl (ev_neg (by omega) (ev_neg (by omega) (ev_neg (by omega) ?_)))
    rw [decide_eq_false (by omega)]
    exact Ev.step (fun k => by rw [terrain_Height.j0]) (ev_neg (by decide) (Ev.bind c1 (Ev.bind c2 hq)))
  generalize hi : (px - x) / size = i at *
  generalize hj : (py - y) / size = j at *
  by_cases hin : 0 ≤ i ∧ i < nx ∧ 0 ≤ j ∧ j < ny
  · obtain ⟨i0, i1, j0, j1⟩ := hin
    have m0 : 0 ≤ j * nx := Int.mul_nonneg j0 (by omega)
    have m1 : j * nx ≤ 32 * 32 := Int.mul_le_mul (by omega) nx1 (by omega) (by omega)
    have m2 : j * nx + nx ≤ nx * ny := by
      have : (j + 1) * nx ≤ ny * nx := Int.mul_le_mul_of_nonneg_right (by omega) (by omega)
      rw [Int.add_mul, Int.one_mul, Int.mul_comm ny] at this
      exact this
    have hw : wrap64 (wrap64 (j * nx) + i) = j * nx + i := by rw [w64 (n := j * nx) (by omega) (by omega), w64 (by omega) (by omega)]
    rw [hw] at hgo
    obtain ⟨k, hk⟩ : ∃ k : Nat, (k : Int) = j * nx + i := ⟨(j * nx + i).toNat, by omega⟩
    have hkl : k < hs.length := by omega
    refine ⟨hat hs k, hgo (ev_neg (by omega) (ev_neg (by omega) (ev_neg (by omega) (ev_neg (by omega) (ev_pos (by omega) (ev_pos (by omega) ?_)))))), (all k hkl).1, fun rad R hr0 hI => ?_⟩
    · rw [← hk, rd_hat]; exact Ev.now _
    · refine hI.le k hkl ?_
      have hm : (k : Int) % nx = i := by
        rw [hk, Int.add_comm, Int.mul_comm, Int.add_mul_emod_self_left]
        exact Int.emod_eq_of_lt i0 i1
      have hq : (k : Int) / nx = j := by
        rw [hk, Int.add_comm, Int.add_mul_ediv_right _ _ (by omega), Int.ediv_eq_zero_of_lt i0 i1]; omega
      rw [hm, hq]
      have u : outs px (x + i * size) (x + i * size + size - 1) = 0 := by
        rw [Int.mul_comm] ; unfold outs mx; split <;> split <;> omega
      have v : outs py (y + j * size) (y + j * size + size - 1) = 0 := by
        rw [Int.mul_comm] ; unfold outs mx; split <;> split <;> omega
      unfold tch
      rw [u, v]
      have : 0 ≤ rad * rad := Int.mul_nonneg hr0 hr0
      simp; omega
  · refine ⟨0, hgo ?_, by omega, fun rad R _ hI => hI.lo⟩
    by_cases h1 : i < 0
    · exact ev_pos h1 (Ev.now _)
    · refine ev_neg h1 ?_
      by_cases h2 : i ≥ nx
      · exact ev_pos h2 (Ev.now _)
      · refine ev_neg h2 ?_
        by_cases h3 : j < 0
        · exact ev_pos h3 (Ev.now _)
        · exact ev_neg h3 (ev_pos (by omega) (Ev.now _))
theorem height_any {x y size nx ny : Int} {hs : List Int} (hl : hs.length * 8 ≤ 140737488351232) (px py : Int) : ∃ p, Ev (fun k => terrain_Height.f k x y size nx ny hs px py) p := by
  obtain ⟨r, hr, hd⟩ := grid_any x y size nx ny hs hl
  by_cases hg : OkGrid x y size nx ny hs
  · by_cases hp : OkP px py
    · obtain ⟨H, hH, _⟩ := height_ok hl hg hp
      exact ⟨_, hH⟩
    · rw [hd.2 hg] at hr
      have hj : ∀ f, f = true → Ev (fun k => terrain_Height.j0 k f x y size nx ny hs px py) (0, 4) := by
        rintro f rfl
        exact Ev.step (fun k => by rw [terrain_Height.j0]) (ev_pos rfl (Ev.now _))
      refine ⟨(0, 4), Ev.congr (fun k => by rw [terrain_Height.f]) (Ev.bind hr (ev_pos rfl ?_))⟩
      unfold OkP at hp
      repeat (refine ev_bad (hj _ rfl) (fun _ => ?_))
      exact hj _ (decide_eq_true (by omega))
  · have hr0 : r ≠ 0 := fun h0 => hg (hd.1 h0)
    exact ⟨_, Ev.congr (fun k => by rw [terrain_Height.f]) (Ev.bind hr (ev_neg hr0 (Ev.now _)))⟩
theorem safe_of {x y size nx ny : Int} {hs : List Int} {px py rad c H e : Int} (h : Ev (fun k => terrain_Highest.f k x y size nx ny hs px py rad) (H, e)) (h0 : 0 ≤ H) (h1 : H ≤ 60000) :
    Ev (fun k => terrain_Safe.f k x y size nx ny hs px py rad c) (if e = 0 then (if 0 ≤ c ∧ c ≤ 60000 then (H + c, 0) else (0, 4)) else (0, e)) := by
  refine Ev.congr (fun k => by rw [terrain_Safe.f]) (Ev.bind h ?_)
  refine ev_ite (fun _ => ?_) (fun _ => Ev.now _)
  by_cases hc : 0 ≤ c ∧ c ≤ 60000
  · rw [if_pos hc]
    refine ev_neg (by omega) (ev_neg (by omega) (ev_eq (Ev.now _) ?_))
    rw [w64 (by omega) (by omega)]
  · rw [if_neg hc]
    by_cases h2 : c < 0
    · exact ev_pos h2 (Ev.now _)
    · exact ev_neg h2 (ev_pos (by omega) (Ev.now _))

end Go.Proofs.Ytpcmmbbkidojoaa.LTerrainGrows
