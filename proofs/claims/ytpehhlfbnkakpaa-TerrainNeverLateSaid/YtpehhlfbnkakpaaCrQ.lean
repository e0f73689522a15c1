/- Plain facts: a track that is updated by a near spot holds the aircraft still. Conditions stand in each lemma. -/
import Derived.Test.YtpehhlfbnkakpaaCrP
namespace Go.Proofs.Ytpehhlfbnkakpaa.Fl
open Go Go.Proofs.Ytpehhlfbnkakpaa.Eva Go.Proofs.Ytpehhlfbnkakpaa.CodeAll
set_option linter.unusedVariables false
set_option linter.unusedSimpArgs false
set_option maxRecDepth 10000
set_option maxHeartbeats 4000000

theorem mixb {a b n d lo hi : Int} (hd : 0 < d) (n0 : 0 ≤ n) (n1 : n ≤ d) (a0 : lo ≤ a) (a1 : a ≤ hi) (b0 : lo ≤ b) (b1 : b ≤ hi) : lo ≤ a + (b - a) * n / d ∧ a + (b - a) * n / d ≤ hi := by
  have m1 : (lo - a) * d ≤ (b - a) * n := by
    have k1 := Int.mul_nonneg (show 0 ≤ a - lo by omega) (show 0 ≤ d - n by omega)
    have k2 := Int.mul_nonneg (show 0 ≤ b - lo by omega) n0
    simp only [Int.sub_mul, Int.mul_sub] at k1 k2 ⊢
    omega
  have m2 : (b - a) * n ≤ (hi - a) * d := by
    have k1 := Int.mul_nonneg (show 0 ≤ hi - a by omega) (show 0 ≤ d - n by omega)
    have k2 := Int.mul_nonneg (show 0 ≤ hi - b by omega) n0
    simp only [Int.sub_mul, Int.mul_sub] at k1 k2 ⊢
    omega
  have d1 := Int.le_ediv_of_mul_le hd m1
  have d2 := Int.ediv_le_of_le_mul hd m2
  omega
theorem mx_eq {a b g : Int} (h1 : -100000000 ≤ a) (h2 : a ≤ 100000000) (h3 : -100000000 ≤ b) (h4 : b ≤ 100000000) (g0 : 0 ≤ g) (g1 : g ≤ 256) : mx a b g = a + (b - a) * g / 256 := by
  unfold mx
  have m := mul_le (a := b - a) (b := g) (A := 200000000) (B := 256) (by omega) (by omega) (by omega) (by omega)
  have := mixb (a := a) (b := b) (n := g) (d := 256) (lo := -100000000) (hi := 100000000) (by decide) g0 g1 h1 h2 h3 h4
  rw [w_id (x := b - a) (by omega) (by omega), w_id (x := (b - a) * g) (by omega) (by omega), dvd_eq (by omega) (by omega) (by omega)]
  rw [w_id (by omega) (by omega)]
/-- A weighted mean, rounded up. -/
theorem mean_up {r e p B : Int} (p0 : 0 ≤ p) (p1 : p ≤ 256) (r0 : 0 ≤ r) (r1 : r ≤ B) (e0 : 0 ≤ e) (e1 : e ≤ B) (hB : B ≤ 100000000) :
    w (dvu (w (w (w (256 - p) * r) + w (p * e))) 256 + 2) = -(-((256 - p) * r + p * e) / 256) + 2 ∧ (256 - p) * r + p * e ≤ 256 * -(-((256 - p) * r + p * e) / 256) ∧ -(-((256 - p) * r + p * e) / 256) ≤ B ∧ 0 ≤ -(-((256 - p) * r + p * e) / 256) := by
  have k1 := Int.mul_le_mul_of_nonneg_left r1 (show 0 ≤ 256 - p by omega)
  have k2 := Int.mul_le_mul_of_nonneg_left e1 p0
  have k3 := Int.mul_nonneg (show 0 ≤ 256 - p by omega) r0
  have k4 := Int.mul_nonneg p0 e0
  have k5 : (256 - p) * B + p * B = 256 * B := by grind
  have k6 := Int.mul_nonneg (show 0 ≤ 256 - p by omega) (show 0 ≤ B by omega)
  have k7 := Int.mul_nonneg p0 (show 0 ≤ B by omega)
  have c := ceil_bd (p := (256 - p) * r + p * e) (k := 256) (by decide)
  rw [w_id (x := 256 - p) (by omega) (by omega), w_id (x := (256 - p) * r) (by omega) (by omega), w_id (x := p * e) (by omega) (by omega), w_id (x := (256 - p) * r + p * e) (by omega) (by omega), dvu_eq (by decide) (by omega) (by omega)]
  refine ⟨w_id (by omega) (by omega), c.1, by omega, by omega⟩

section
variable {X Y : Nat → Int} {N : Nat} {a : Int}
theorem Crs.mv (h : Crs X Y N a) (t : Nat) : ∀ d : Nat, t + d ≤ N → -(200 * (d : Int)) ≤ X (t + d) - X t ∧ X (t + d) - X t ≤ 200 * d ∧ -(200 * (d : Int)) ≤ Y (t + d) - Y t ∧ Y (t + d) - Y t ≤ 200 * d
  | 0, _ => by simp
  | d + 1, hd => by
    have h1 := h.mv t d (by omega)
    have h2 := h.vx (t + d) (by omega)
    have h3 := h.vy (t + d) (by omega)
    have e : t + (d + 1) = t + d + 1 := by omega
    rw [e]; omega

theorem Inv.upd (hc : Crs X Y N a) {E : Int} {f : T} {t : Nat} (h : Inv X Y E f t) {d : Nat} (hd : 0 < d) (hN : t + d < N) (h60 : t + d ≤ 60) {s : S} {p q : Int} (p0 : 0 ≤ p) (p1 : p ≤ 256) (q0 : 0 ≤ q) (q1 : q ≤ 256)
    (st : s.t = ((t + d : Nat) : Int)) (sd : InD (X (t + d) - s.x) (Y (t + d) - s.y) E) (sx : -150 ≤ X (t + d) - s.x ∧ X (t + d) - s.x ≤ 150) (sy : -150 ≤ Y (t + d) - s.y ∧ Y (t + d) - s.y ≤ 150) (sh : s.h = 5000) (sc : s.cd = 1234) (se : s.e = E) :
    ∃ g, f.upd s a p q = (g, 0) ∧ Inv X Y E g (t + d) := by
  have hf := h.ok hc (by omega) (by omega)
  obtain ⟨g, hg, hm, gid, gmis, gra, glt, glx, gly, glh, glc, gle, ghits, hb⟩ := h.pred hc hN h60
  have fhits := h.hits
  obtain ⟨hb1, hb2⟩ := hb hd
  have a0 := hc.a0; have a5 := hc.a5; have e0 := h.e0; have e1 := h.e1
  have far := hc.far (t + d) (by omega)
  have hlt := h.lt
  have d0 : (0 : Int) < d := by omega
  have d60 : (d : Int) ≤ 60 := by omega
  have hso : s.off = false := off_ok.2 (by constructor <;> simp only <;> omega)
  have wd : w (s.t - f.lt) = d := by rw [w_id (by omega) (by omega)]; omega
  have gx1 := hm.pos.lex; have gx2 := hm.pos.swap.lex; have g3 := hm.rad; have g4 := hm.slack; have g5 := hm.pos.1; have g6 := hm.vel.1
  have gs1 := hm.sx; have gs2 := hm.sy; have gh := hm.hits; have gc := hm.code; have gst := hm.st
  -- the distance
  have hdis : ¬ w (w (g.rad + s.e) * w (g.rad + s.e)) < dst g.x g.y s.x s.y := by
    have hD := sd.add hm.pos.neg
    have hD2 : InD (g.x - s.x) (g.y - s.y) (g.rad + E) := hD.cast (by omega) (by omega) (by omega)
    rw [w_id (x := g.rad + s.e) (by omega) (by omega), sq_eq (by omega) (by omega), dst_eq (by omega) (by omega) (by omega) (by omega) (by omega) (by omega) (by omega) (by omega), se]
    have := hD2.2; omega
  -- what is seen of the speed
  have mv := hc.mv t d (by omega)
  have lx := h.lnx; have ly := h.lny
  have bx : -(300 + 200 * (d : Int)) ≤ s.x - f.lx ∧ s.x - f.lx ≤ 300 + 200 * d := by omega
  have by' : -(300 + 200 * (d : Int)) ≤ s.y - f.ly ∧ s.y - f.ly ≤ 300 + 200 * d := by omega
  have seen : ∀ u v : Int, -(300 + 200 * (d : Int)) ≤ u - v → u - v ≤ 300 + 200 * d → dvd (w (16 * w (u - v))) d = 16 * (u - v) / d ∧ -8000 ≤ 16 * (u - v) / d ∧ 16 * (u - v) / d ≤ 8000 := by
    intro u v h1 h2
    rw [w_id (x := u - v) (by omega) (by omega), w_id (x := 16 * (u - v)) (by omega) (by omega), dvd_eq d0 (by omega) (by omega)]
    exact ⟨rfl, Int.le_ediv_of_mul_le d0 (by omega), Int.ediv_le_of_le_mul d0 (by omega)⟩
  obtain ⟨nx, nx0, nx1⟩ := seen s.x f.lx bx.1 bx.2
  obtain ⟨ny, ny0, ny1⟩ := seen s.y f.ly by'.1 by'.2
  have le' := h.le
  have mad := mul_le (a := a) (b := d) (A := 5) (B := 60) (by omega) (by omega) (by omega) (by omega)
  have mad0 := Int.mul_nonneg a0 (show (0 : Int) ≤ d by omega)
  have lin1 : a * (d : Int) ≤ 5 * d := Int.mul_le_mul_of_nonneg_right a5 (by omega)
  have e16 : 16 * a * (d : Int) = 16 * (a * d) := by rw [Int.mul_assoc]
  have cm := ceil_bd (p := 16 * (E + E)) (k := d) d0
  have cm0 : 0 ≤ -(-(16 * (E + E)) / (d : Int)) ∧ -(-(16 * (E + E)) / (d : Int)) ≤ 9600 := by
    have k1 := Int.ediv_le_of_le_mul d0 (a := -(16 * (E + E))) (b := 0) (by omega)
    have k2 := Int.le_ediv_of_mul_le d0 (a := -9600) (b := -(16 * (E + E))) (by omega)
    omega
  have hmm : w (w (dvu (w (16 * w (s.e + f.le))) d + w (w (16 * a) * d)) + 2) = -(-(16 * (E + E)) / (d : Int)) + 16 * (a * d) + 2 := by
    rw [se, le', w_id (x := E + E) (by omega) (by omega), w_id (x := 16 * (E + E)) (by omega) (by omega), dvu_eq d0 (by omega) (by omega), w_id (x := 16 * a) (by omega) (by omega), e16, w_id (x := 16 * (a * d)) (by omega) (by omega), w_id (x := -(-(16 * (E + E)) / (d : Int)) + 16 * (a * d)) (by omega) (by omega), w_id (by omega) (by omega)]
  generalize hM : -(-(16 * (E + E)) / (d : Int)) + 16 * (a * d) + 2 = M at hmm
  obtain ⟨r1, r2, r3, r4⟩ := mean_up (r := g.rad) (e := s.e) (p := p) (B := 297 + 1100 * ((t : Int) + d)) p0 p1 g5 (by omega) (by omega) (by omega) (by omega)
  obtain ⟨s1, s2, s3, s4⟩ := mean_up (r := g.slack) (e := M) (p := q) (B := 9697 + 83 * ((t : Int) + d)) q0 q1 g6 (by omega) (by omega) (by omega) (by omega)
  have ux := mx_eq (a := g.x) (b := s.x) (g := p) (by omega) (by omega) (by omega) (by omega) p0 p1
  have uy := mx_eq (a := g.y) (b := s.y) (g := p) (by omega) (by omega) (by omega) (by omega) p0 p1
  have vx := mx_eq (a := g.sx) (b := 16 * (s.x - f.lx) / d) (g := q) (by omega) (by omega) (by omega) (by omega) q0 q1
  have vy := mx_eq (a := g.sy) (b := 16 * (s.y - f.ly) / d) (g := q) (by omega) (by omega) (by omega) (by omega) q0 q1
  have wx := mixb (a := g.sx) (b := 16 * (s.x - f.lx) / d) (n := q) (d := 256) (lo := -8000) (hi := 8000) (by decide) q0 q1 gs1.1 gs1.2 nx0 nx1
  have wy := mixb (a := g.sy) (b := 16 * (s.y - f.ly) / d) (n := q) (d := 256) (lo := -8000) (hi := 8000) (by decide) q0 q1 gs2.1 gs2.2 ny0 ny1
  have hra : max (-3200) (min (dvd (w (16 * w (s.h - f.lh))) d) 3200) = 0 := by
    rw [sh, h.lh]
    have e : w (16 * w (5000 - 5000)) = 0 := by decide
    rw [e, dvd_eq d0 (by omega) (by omega), Int.zero_ediv]; decide
  have hhit : w (g.hits + 1) = g.hits + 1 := w_id (by omega) (by omega)
  have hG : T.upd1 g f s a p q d s.cd = (⟨g.id, g.st, g.ti, g.x + (s.x - g.x) * p / 256, g.y + (s.y - g.y) * p / 256, g.sx + (16 * (s.x - f.lx) / d - g.sx) * q / 256, g.sy + (16 * (s.y - f.ly) / d - g.sy) * q / 256, s.h, 0, -(-((256 - p) * g.rad + p * s.e) / 256) + 2, s.cd, g.hits + 1, 0, -(-((256 - q) * g.slack + q * M) / 256) + 2, s.t, s.x, s.y, s.h, s.cd, s.e⟩ : T) := by
    unfold T.upd1
    rw [nx, ny, hmm, ux, uy, vx, vy, r1, s1, hra, hhit]
  -- the new place
  have hpos : InD (X (t + d) - (g.x + (s.x - g.x) * p / 256)) (Y (t + d) - (g.y + (s.y - g.y) * p / 256)) (-(-((256 - p) * g.rad + p * s.e) / 256) + 2) := by
    refine InD.div (k := 256) (by decide) ?_
    have b1 := floor_bd (p := (s.x - g.x) * p) (k := 256) (by decide)
    have b2 := floor_bd (p := (s.y - g.y) * p) (k := 256) (by decide)
    have i1 := hm.pos.smul (k := 256 - p) (by omega)
    have i2 := sd.smul (k := p) p0
    have i3 : InD ((s.x - g.x) * p - 256 * ((s.x - g.x) * p / 256)) ((s.y - g.y) * p - 256 * ((s.y - g.y) * p / 256)) 361 := InD.box (a := 255) (by omega) (by omega) (by omega) (by omega) (by decide) (by decide)
    refine (((i1.add i2).add i3).cast ?_ ?_ rfl).mono ?_
    · generalize (s.x - g.x) * p / 256 = z; grind
    · generalize (s.y - g.y) * p / 256 = z; grind
    · rw [se] at r2 ⊢; omega
  have hvel0 : InD (16 * (X (t + d + 1) - X (t + d)) - 16 * (s.x - f.lx) / d) (16 * (Y (t + d + 1) - Y (t + d)) - 16 * (s.y - f.ly) / d) M := by
    refine InD.div (k := (d : Int)) d0 ?_
    have b1 := floor_bd (p := 16 * (s.x - f.lx)) (k := d) d0
    have b2 := floor_bd (p := 16 * (s.y - f.ly)) (k := d) d0
    have i1 := ((hc.dq d t hN).smul (k := 8) (by decide)).neg
    have i2 := sd.smul (k := 16) (by decide)
    have i3 := (h.las.smul (k := 16) (by decide)).neg
    have i4 : InD (16 * (s.x - f.lx) - d * (16 * (s.x - f.lx) / d)) (16 * (s.y - f.ly) - d * (16 * (s.y - f.ly) / d)) (2 * d) := InD.box (a := d) (by omega) (by omega) (by omega) (by omega) (by omega) (by
      have := sq_nn (d : Int)
      have e : 2 * (d : Int) * (2 * d) = 4 * (d * d) := by grind
      rw [e]; omega)
    refine ((((i1.add i2).add i3).add i4).cast ?_ ?_ rfl).mono ?_
    · generalize 16 * (s.x - f.lx) / (d : Int) = z; grind
    · generalize 16 * (s.y - f.ly) / (d : Int) = z; grind
    · have k1 : a * (d : Int) * 1 ≤ a * d * d := Int.mul_le_mul_of_nonneg_left (by omega) mad0
      have e1 : 8 * (a * d * ((d : Int) + 1)) = 8 * (a * d * d) + 8 * (a * d) := by grind
      have e2 : (d : Int) * M = d * -(-(16 * (E + E)) / (d : Int)) + 16 * (a * d * d) + 2 * d := by rw [← hM]; grind
      rw [e1, e2]; omega
  have hvel : InD (16 * (X (t + d + 1) - X (t + d)) - (g.sx + (16 * (s.x - f.lx) / d - g.sx) * q / 256)) (16 * (Y (t + d + 1) - Y (t + d)) - (g.sy + (16 * (s.y - f.ly) / d - g.sy) * q / 256)) (-(-((256 - q) * g.slack + q * M) / 256) + 2) := by
    refine InD.div (k := 256) (by decide) ?_
    have b1 := floor_bd (p := (16 * (s.x - f.lx) / d - g.sx) * q) (k := 256) (by decide)
    have b2 := floor_bd (p := (16 * (s.y - f.ly) / d - g.sy) * q) (k := 256) (by decide)
    have i1 := hm.vel.smul (k := 256 - q) (by omega)
    have i2 := hvel0.smul (k := q) q0
    have i3 : InD ((16 * (s.x - f.lx) / d - g.sx) * q - 256 * ((16 * (s.x - f.lx) / d - g.sx) * q / 256)) ((16 * (s.y - f.ly) / d - g.sy) * q - 256 * ((16 * (s.y - f.ly) / d - g.sy) * q / 256)) 361 := InD.box (a := 255) (by omega) (by omega) (by omega) (by omega) (by decide) (by decide)
    refine (((i1.add i2).add i3).cast ?_ ?_ rfl).mono (by omega)
    · generalize 16 * (s.x - f.lx) / (d : Int) = y
      generalize (y - g.sx) * q / 256 = z; grind
    · generalize 16 * (s.y - f.ly) / (d : Int) = y
      generalize (y - g.sy) * q / 256 = z; grind
  have hinv : Inv X Y E (T.upd1 g f s a p q d s.cd) (t + d) := by
    rw [hG]
    have hmt := hm.ti
    exact ⟨hmt, st, hpos, hvel, sd, sx, sy, se, e0, e1, by simp only; omega, by simp only; omega, wx, wy, sh, rfl, gid, gst, sc, by simp only; omega, rfl, sh, sc⟩
  refine ⟨_, ?_, hinv⟩
  unfold T.upd
  rw [ok_chk hf, hso, wd, st, hg, if_neg (by decide), if_neg (by decide), if_neg (by simp only [Bool.or_eq_true, decide_eq_true_eq]; omega), if_neg (by simp only [decide_eq_true_eq]; omega), if_neg (by simp)]
  simp only
  rw [if_neg (by simpa using hdis), if_pos (by rw [sc]; decide), ok_chk (hinv.ok hc h60 (by omega)), if_neg (by decide)]
end
end Go.Proofs.Ytpehhlfbnkakpaa.Fl
