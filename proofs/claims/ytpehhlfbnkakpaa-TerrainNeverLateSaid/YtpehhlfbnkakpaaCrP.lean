/- Plain facts: a track that follows an aircraft contains it. Conditions stand in each lemma. -/
import Derived.Test.YtpehhlfbnkakpaaFlQ
namespace Go.Proofs.Ytpehhlfbnkakpaa.Fl
open Go Go.Proofs.Ytpehhlfbnkakpaa.Eva Go.Proofs.Ytpehhlfbnkakpaa.CodeAll
set_option linter.unusedVariables false
set_option linter.unusedSimpArgs false
set_option maxRecDepth 10000
set_option maxHeartbeats 4000000

/-- A vector of at most a length. -/
def InD (x y r : Int) : Prop := 0 ≤ r ∧ x * x + y * y ≤ r * r
theorem InD.add {ax ay bx «by» r s : Int} (h1 : InD ax ay r) (h2 : InD bx «by» s) : InD (ax + bx) (ay + «by») (r + s) := by
  obtain ⟨r0, h1⟩ := h1
  obtain ⟨s0, h2⟩ := h2
  refine ⟨by omega, ?_⟩
  have hc : ax * bx + ay * «by» ≤ r * s := by
    by_cases hc : ax * bx + ay * «by» ≤ r * s
    · exact hc
    · exfalso
      have k1 := Int.mul_self_lt_mul_self (Int.mul_nonneg r0 s0) (show r * s < ax * bx + ay * «by» by omega)
      have k2 := Int.mul_le_mul h1 h2 (by have := sq_nn bx; have := sq_nn «by»; omega) (by have := sq_nn r; omega)
      have k3 := sq_nn (ax * «by» - ay * bx)
      have e1 : (ax*ax+ay*ay)*(bx*bx+«by»*«by») - (ax*bx+ay*«by»)*(ax*bx+ay*«by») = (ax*«by» - ay*bx)*(ax*«by» - ay*bx) := by grind
      have e2 : (r * r) * (s * s) = (r * s) * (r * s) := by grind
      omega
  have e3 : (ax + bx) * (ax + bx) + (ay + «by») * (ay + «by») = (ax * ax + ay * ay) + (bx * bx + «by» * «by») + 2 * (ax * bx + ay * «by») := by grind
  have e4 : (r + s) * (r + s) = r * r + s * s + 2 * (r * s) := by grind
  omega
theorem InD.mono {x y r s : Int} (h : InD x y r) (hrs : r ≤ s) : InD x y s := ⟨by have := h.1; omega, Int.le_trans h.2 (Int.mul_self_le_mul_self h.1 hrs)⟩
theorem InD.smul {x y r k : Int} (hk : 0 ≤ k) (h : InD x y r) : InD (k * x) (k * y) (k * r) := by
  refine ⟨Int.mul_nonneg hk h.1, ?_⟩
  have e1 : k * x * (k * x) + k * y * (k * y) = k * k * (x * x + y * y) := by grind
  have e2 : k * r * (k * r) = k * k * (r * r) := by grind
  rw [e1, e2]
  exact Int.mul_le_mul_of_nonneg_left h.2 (sq_nn k)
theorem InD.div {x y r k : Int} (hk : 0 < k) (h : InD (k * x) (k * y) (k * r)) : InD x y r := by
  obtain ⟨h0, h1⟩ := h
  have e1 : k * x * (k * x) + k * y * (k * y) = k * k * (x * x + y * y) := by grind
  have e2 : k * r * (k * r) = k * k * (r * r) := by grind
  rw [e1, e2] at h1
  exact ⟨Int.nonneg_of_mul_nonneg_right h0 hk, Int.le_of_mul_le_mul_left h1 (Int.mul_pos hk hk)⟩
theorem InD.neg {x y r : Int} (h : InD x y r) : InD (-x) (-y) r := ⟨h.1, by rw [Int.neg_mul_neg, Int.neg_mul_neg]; exact h.2⟩
theorem InD.box {x y a r : Int} (hx0 : -a ≤ x) (hx1 : x ≤ a) (hy0 : -a ≤ y) (hy1 : y ≤ a) (hr : 0 ≤ r) (h : 2 * (a * a) ≤ r * r) : InD x y r := by
  have k1 := (mul_le hx0 hx1 hx0 hx1).2
  have k2 := (mul_le hy0 hy1 hy0 hy1).2
  exact ⟨hr, by omega⟩
theorem InD.cast {x y r x' y' r' : Int} (h : InD x y r) (e1 : x = x') (e2 : y = y') (e3 : r = r') : InD x' y' r' := by subst e1; subst e2; subst e3; exact h
theorem InD.zero : InD 0 0 0 := ⟨by decide, by decide⟩
theorem InD.lex {x y r : Int} (h : InD x y r) : -r ≤ x ∧ x ≤ r := by
  have h0 := h.1
  have h1 := h.2
  have := sq_nn y
  constructor
  · by_cases hc : -r ≤ x
    · exact hc
    · have := Int.mul_self_lt_mul_self h0 (show r < -x by omega)
      rw [Int.neg_mul_neg] at this; omega
  · by_cases hc : x ≤ r
    · exact hc
    · have := Int.mul_self_lt_mul_self h0 (show r < x by omega)
      omega
theorem InD.swap {x y r : Int} (h : InD x y r) : InD y x r := ⟨h.1, by have := h.2; omega⟩

/-- A steady course. -/
structure Crs (X Y : Nat → Int) (N : Nat) (a : Int) : Prop where
  a0 : 0 ≤ a
  a5 : a ≤ 5
  x0 : -100000 ≤ X 0 ∧ X 0 ≤ 100000
  y0 : -100000 ≤ Y 0 ∧ Y 0 ≤ 100000
  vx : ∀ t, t < N → -200 ≤ X (t + 1) - X t ∧ X (t + 1) - X t ≤ 200
  vy : ∀ t, t < N → -200 ≤ Y (t + 1) - Y t ∧ Y (t + 1) - Y t ≤ 200
  acc : ∀ t, t + 1 < N → InD ((X (t + 2) - X (t + 1)) - (X (t + 1) - X t)) ((Y (t + 2) - Y (t + 1)) - (Y (t + 1) - Y t)) a
section
variable {X Y : Nat → Int} {N : Nat} {a : Int}
theorem Crs.far (h : Crs X Y N a) : ∀ t, t ≤ N → -(100000 + 200 * (t : Int)) ≤ X t ∧ X t ≤ 100000 + 200 * t ∧ -(100000 + 200 * (t : Int)) ≤ Y t ∧ Y t ≤ 100000 + 200 * t
  | 0, _ => by have := h.x0; have := h.y0; simp; omega
  | t + 1, ht => by
    have := h.far t (by omega)
    have := h.vx t (by omega)
    have := h.vy t (by omega)
    omega
theorem Crs.dv (h : Crs X Y N a) (t : Nat) : ∀ d : Nat, t + d < N → InD ((X (t + d + 1) - X (t + d)) - (X (t + 1) - X t)) ((Y (t + d + 1) - Y (t + d)) - (Y (t + 1) - Y t)) (a * d)
  | 0, _ => by simpa using InD.zero
  | d + 1, hd => by
    have h1 := h.dv t d (by omega)
    have h2 := h.acc (t + d) (by omega)
    have e : t + (d + 1) = t + d + 1 := by omega
    rw [e]
    refine (h1.add h2).cast (by show _ + ((X (t + d + 2) - X (t + d + 1)) - _) = (X (t + d + 1 + 1) - X (t + d + 1)) - _; have : t + d + 2 = t + d + 1 + 1 := rfl
                                rw [this]; omega) (by show _ + ((Y (t + d + 2) - Y (t + d + 1)) - _) = (Y (t + d + 1 + 1) - Y (t + d + 1)) - _; have : t + d + 2 = t + d + 1 + 1 := rfl
                                                      rw [this]; omega) (by rw [Int.natCast_add, Int.mul_add]; simp)
theorem Crs.dp (h : Crs X Y N a) (t : Nat) : ∀ d : Nat, t + d ≤ N → t < N → InD (2 * (X (t + d) - X t - d * (X (t + 1) - X t))) (2 * (Y (t + d) - Y t - d * (Y (t + 1) - Y t))) (a * d * (d - 1))
  | 0, _, _ => by simpa using InD.zero
  | d + 1, hd, ht => by
    have h1 := h.dp t d (by omega) ht
    have h2 := (h.dv t d (by omega)).smul (k := 2) (by decide)
    have e : t + (d + 1) = t + d + 1 := by omega
    rw [e]
    refine (h1.add h2).cast ?_ ?_ ?_
    · have : ((d + 1 : Nat) : Int) * (X (t + 1) - X t) = d * (X (t + 1) - X t) + (X (t + 1) - X t) := by rw [Int.natCast_add, Int.add_mul]; simp
      rw [this]; omega
    · have : ((d + 1 : Nat) : Int) * (Y (t + 1) - Y t) = d * (Y (t + 1) - Y t) + (Y (t + 1) - Y t) := by rw [Int.natCast_add, Int.add_mul]; simp
      rw [this]; omega
    · rw [Int.natCast_add]; grind
theorem Crs.dq (h : Crs X Y N a) : ∀ (d t : Nat), t + d < N → InD (2 * (X (t + d) - X t - d * (X (t + d + 1) - X (t + d)))) (2 * (Y (t + d) - Y t - d * (Y (t + d + 1) - Y (t + d)))) (a * d * (d + 1))
  | 0, t, _ => by simpa using InD.zero
  | d + 1, t, hd => by
    have h1 := h.dq d (t + 1) (by omega)
    have h2 := ((h.dv t (d + 1) (by omega)).smul (k := 2) (by decide)).neg
    have e : t + (d + 1) = t + 1 + d := by omega
    rw [e] at h2 ⊢
    refine (h1.add h2).cast ?_ ?_ ?_
    · have : ((d + 1 : Nat) : Int) * (X (t + 1 + d + 1) - X (t + 1 + d)) = d * (X (t + 1 + d + 1) - X (t + 1 + d)) + (X (t + 1 + d + 1) - X (t + 1 + d)) := by rw [Int.natCast_add, Int.add_mul]; simp
      rw [this]; omega
    · have : ((d + 1 : Nat) : Int) * (Y (t + 1 + d + 1) - Y (t + 1 + d)) = d * (Y (t + 1 + d + 1) - Y (t + 1 + d)) + (Y (t + 1 + d + 1) - Y (t + 1 + d)) := by rw [Int.natCast_add, Int.add_mul]; simp
      rw [this]; omega
    · rw [Int.natCast_add]; grind

/-- A track that holds an aircraft at a time. -/
structure Inv (X Y : Nat → Int) (E : Int) (f : T) (t : Nat) : Prop where
  ti : f.ti = t
  lt : f.lt = t
  pos : InD (X t - f.x) (Y t - f.y) f.rad
  vel : InD (16 * (X (t + 1) - X t) - f.sx) (16 * (Y (t + 1) - Y t) - f.sy) f.slack
  las : InD (X t - f.lx) (Y t - f.ly) E
  lnx : -150 ≤ X t - f.lx ∧ X t - f.lx ≤ 150
  lny : -150 ≤ Y t - f.ly ∧ Y t - f.ly ≤ 150
  le : f.le = E
  e0 : 0 ≤ E
  e1 : E ≤ 300
  rad : f.rad ≤ 300 + 1100 * t
  slack : f.slack ≤ 9700 + 83 * t
  sx : -8000 ≤ f.sx ∧ f.sx ≤ 8000
  sy : -8000 ≤ f.sy ∧ f.sy ≤ 8000
  hgt : f.hgt = 5000
  ra : f.ra = 0
  id : f.id = 0
  st : f.st = 0
  code : f.code = 1234
  hits : 0 ≤ f.hits ∧ f.hits ≤ 1 + t
  mis : f.mis = 0
  lh : f.lh = 5000
  lc : f.lc = 1234
/-- What is asked of a track between. -/
structure Mid (X Y : Nat → Int) (f : T) (t : Nat) : Prop where
  ti : f.ti = t
  pos : InD (X t - f.x) (Y t - f.y) f.rad
  vel : InD (16 * (X (t + 1) - X t) - f.sx) (16 * (Y (t + 1) - Y t) - f.sy) f.slack
  rad : f.rad ≤ 290 + 1100 * t + 10
  slack : f.slack ≤ 9700 + 83 * t
  sx : -8000 ≤ f.sx ∧ f.sx ≤ 8000
  sy : -8000 ≤ f.sy ∧ f.sy ≤ 8000
  hgt : f.hgt = 5000
  hits : 0 ≤ f.hits ∧ f.hits ≤ 1 + t
  code : f.code = 1234
  st : f.st = 0
theorem Inv.ok (hc : Crs X Y N a) {E : Int} {f : T} {t : Nat} (h : Inv X Y E f t) (ht : t ≤ 60) (htN : t ≤ N) : f.Ok := by
  have := h.ti; have := h.lt; have := h.rad; have := h.slack; have := h.sx; have := h.sy; have := h.hgt; have := h.ra; have := h.id; have := h.st; have := h.code; have := h.hits; have := h.mis; have := h.lh; have := h.lc; have := h.le; have := h.e0; have := h.e1
  have p1 := h.pos.lex; have p2 := h.pos.swap.lex; have p3 := h.pos.1; have p4 := h.vel.1
  have q1 := h.lnx; have q2 := h.lny
  have fr := hc.far t htN
  constructor <;> first | omega | skip
  exact off_ok.2 (by constructor <;> simp only <;> omega)

theorem pred_do {f : T} {u a' d : Int} (hf : f.Ok) (h0 : 0 ≤ u) (h1 : u ≤ 200000) (a0 : 0 ≤ a') (a1 : a' ≤ 20) (hd : u = f.ti + d) (d0 : 0 < d) (d1 : d ≤ 600) (hg : (f.pred1 u a' d).Ok) : f.pred u a' = (f.pred1 u a' d, 0) := by
  have t0 := hf.ti0; have t1 := hf.ti1
  have e : w (u - f.ti) = d := by rw [w_id (by omega) (by omega)]; omega
  unfold T.pred
  rw [ok_chk hf, e, ok_chk hg, if_neg (by decide), if_neg (by simp only [Bool.or_eq_true, decide_eq_true_eq]; omega), if_neg (by simp only [Bool.or_eq_true, decide_eq_true_eq]; omega), if_neg (by simp; omega), if_neg (by decide)]
theorem pred_here {f : T} {a' : Int} (hf : f.Ok) (a0 : 0 ≤ a') (a1 : a' ≤ 20) : f.pred f.ti a' = (f, 0) := by
  have t0 := hf.ti0; have t1 := hf.ti1
  have e : w (f.ti - f.ti) = 0 := by rw [Int.sub_self]; decide
  unfold T.pred
  rw [ok_chk hf, e, if_neg (by decide), if_neg (by simp only [Bool.or_eq_true, decide_eq_true_eq]; omega), if_neg (by decide), if_pos (by decide)]

theorem ceil_bd {p k : Int} (hk : 0 < k) : p ≤ k * -(-p / k) ∧ k * -(-p / k) < p + k := by
  have h1 := Int.mul_ediv_add_emod (-p) k
  have h2 := Int.emod_nonneg (-p) (b := k) (by omega)
  have h3 := Int.emod_lt_of_pos (-p) hk
  rw [Int.mul_neg]; omega
theorem floor_bd {p k : Int} (hk : 0 < k) : k * (p / k) ≤ p ∧ p < k * (p / k) + k := by
  have h1 := Int.mul_ediv_add_emod p k
  have h2 := Int.emod_nonneg p (b := k) (by omega)
  have h3 := Int.emod_lt_of_pos p hk
  omega

/-- A prediction holds the aircraft too. -/
theorem Inv.pred (hc : Crs X Y N a) {E : Int} {f : T} {t : Nat} (h : Inv X Y E f t) {d : Nat} (hN : t + d < N) (h60 : t + d ≤ 60) :
    ∃ g, f.pred ((t + d : Nat) : Int) a = (g, 0) ∧ Mid X Y g (t + d) ∧ g.id = 0 ∧ g.mis = 0 ∧ g.ra = 0 ∧ g.lt = f.lt ∧ g.lx = f.lx ∧ g.ly = f.ly ∧ g.lh = f.lh ∧ g.lc = f.lc ∧ g.le = f.le ∧ g.hits = f.hits ∧ (0 < d → g.rad + 3 ≤ 300 + 1100 * (t + d) ∧ g.slack + 3 ≤ 9700 + 83 * (t + d)) := by
  have hf := h.ok hc (by omega) (by omega)
  have a0 := hc.a0; have a5 := hc.a5
  have hti := h.ti
  by_cases hd : d = 0
  · subst hd
    refine ⟨f, by simp only [Nat.add_zero]; rw [← hti]; exact pred_here hf a0 (by omega), ?_, h.id, h.mis, h.ra, rfl, rfl, rfl, rfl, rfl, rfl, rfl, by omega⟩
    exact ⟨h.ti, h.pos, h.vel, by have := h.rad; omega, h.slack, h.sx, h.sy, h.hgt, h.hits, h.code, h.st⟩
  have hd0 : (0 : Int) < d := by omega
  have hd60 : (d : Int) ≤ 60 := by omega
  have s0 := hf.slack0; have r0 := hf.rad0
  have hrad := h.rad; have hsl := h.slack; have hsx := h.sx; have hsy := h.sy; have hh := h.hgt; have hra := h.ra
  have msx := mul_le (a := f.sx) (b := d) (A := 8000) (B := 60) (by omega) (by omega) (by omega) (by omega)
  have msy := mul_le (a := f.sy) (b := d) (A := 8000) (B := 60) (by omega) (by omega) (by omega) (by omega)
  have mad := mul_le (a := a) (b := d) (A := 5) (B := 60) (by omega) (by omega) (by omega) (by omega)
  have mad0 := Int.mul_nonneg a0 (show (0 : Int) ≤ d by omega)
  have msl := mul_le (a := f.slack) (b := d) (A := 15000) (B := 60) (by omega) (by omega) (by omega) (by omega)
  have msl0 := Int.mul_nonneg s0 (show (0 : Int) ≤ d by omega)
  have madd := mul_le (a := a * d) (b := d) (A := 300) (B := 60) (by omega) (by omega) (by omega) (by omega)
  have madd0 := Int.mul_nonneg mad0 (show (0 : Int) ≤ d by omega)
  have lin1 : a * (d : Int) ≤ 5 * d := Int.mul_le_mul_of_nonneg_right a5 (by omega)
  have lin2 : f.slack * (d : Int) ≤ 15000 * d := Int.mul_le_mul_of_nonneg_right (by omega) (by omega)
  have lin3 : a * d * (d : Int) ≤ 300 * d := Int.mul_le_mul_of_nonneg_right (by omega) (by omega)
  have far0 := hc.far t (by omega)
  have p1 := h.pos.lex; have p2 := h.pos.swap.lex
  have gx : (f.pred1 ((t + d : Nat) : Int) a d).x = f.x + f.sx * d / 16 := by
    show w (f.x + dvd (w (f.sx * d)) 16) = _
    rw [w_id (x := f.sx * d) (by omega) (by omega), dvd_eq (by omega) (by omega) (by omega), w_id (by omega) (by omega)]
  have gy : (f.pred1 ((t + d : Nat) : Int) a d).y = f.y + f.sy * d / 16 := by
    show w (f.y + dvd (w (f.sy * d)) 16) = _
    rw [w_id (x := f.sy * d) (by omega) (by omega), dvd_eq (by omega) (by omega) (by omega), w_id (by omega) (by omega)]
  have gr := pred1_rad hf (t := ((t + d : Nat) : Int)) (a := a) (d := d) a0 (by omega) (by omega) (by omega)
  have gs : (f.pred1 ((t + d : Nat) : Int) a d).slack = f.slack + 16 * a * d := by
    show w (f.slack + w (w (16 * a) * d)) = _
    have e : 16 * a * (d : Int) = 16 * (a * d) := by rw [Int.mul_assoc]
    rw [w_id (x := 16 * a) (by omega) (by omega), w_id (x := 16 * a * d) (by omega) (by omega), w_id (by omega) (by omega)]
  have gh : (f.pred1 ((t + d : Nat) : Int) a d).hgt = 5000 := by
    show max 0 (min (w (f.hgt + dvd (w (f.ra * d)) 16)) 60000) = _
    rw [hra, hh, Int.zero_mul]; decide
  have c1 := ceil_bd (p := f.slack * d) (k := 16) (by decide)
  have c2 := ceil_bd (p := a * d * d) (k := 2) (by decide)
  have b1 := floor_bd (p := f.sx * d) (k := 16) (by decide)
  have b2 := floor_bd (p := f.sy * d) (k := 16) (by decide)
  have e16 : 16 * a * (d : Int) = 16 * (a * d) := by rw [Int.mul_assoc]
  -- the place
  have hpos : InD (X (t + d) - (f.x + f.sx * d / 16)) (Y (t + d) - (f.y + f.sy * d / 16)) (f.rad + (-(-(f.slack * d) / 16) + -(-(a * d * d) / 2) + 2)) := by
    refine InD.div (k := 16) (by decide) ?_
    have q1 := h.pos.smul (k := 16) (by decide)
    have q2 := h.vel.smul (k := (d : Int)) (by omega)
    have q3 := (hc.dp t d (by omega) (by omega)).smul (k := 8) (by decide)
    have q4 : InD (f.sx * d - 16 * (f.sx * d / 16)) (f.sy * d - 16 * (f.sy * d / 16)) 22 := InD.box (a := 15) (by omega) (by omega) (by omega) (by omega) (by decide) (by decide)
    refine ((((q1.add q2).add q3).add q4).cast ?_ ?_ rfl).mono ?_
    · generalize f.sx * d / 16 = z; grind
    · generalize f.sy * d / 16 = z; grind
    · have e1 : 8 * (a * d * ((d : Int) - 1)) = 8 * (a * d * d) - 8 * (a * d) := by grind
      have e2 : (d : Int) * f.slack = f.slack * d := Int.mul_comm _ _
      rw [e1, e2]; omega
  have hvel : InD (16 * (X (t + d + 1) - X (t + d)) - f.sx) (16 * (Y (t + d + 1) - Y (t + d)) - f.sy) (f.slack + 16 * a * d) := by
    have q1 := (hc.dv t d hN).smul (k := 16) (by decide)
    exact (h.vel.add q1).cast (by omega) (by omega) (by rw [Int.mul_assoc])
  have hmid : Mid X Y (f.pred1 ((t + d : Nat) : Int) a d) (t + d) := by
    have hk := h.hits
    have hkk : 0 ≤ (f.pred1 ((t + d : Nat) : Int) a d).hits ∧ (f.pred1 ((t + d : Nat) : Int) a d).hits ≤ 1 + ((t + d : Nat) : Int) := by
      have e : (f.pred1 ((t + d : Nat) : Int) a d).hits = f.hits := rfl
      rw [e]; omega
    exact ⟨rfl, by rw [gx, gy, gr]; exact hpos, by rw [gs]; exact hvel, by rw [gr]; omega, by rw [gs]; omega, hsx, hsy, gh, hkk, h.code, h.st⟩
  have farg := hc.far (t + d) (by omega)
  have pg1 := hmid.pos.lex; have pg2 := hmid.pos.swap.lex; have pg3 := hmid.rad; have pg4 := hmid.slack; have pg5 := hmid.vel.1; have pg6 := hmid.pos.1
  have hok : (f.pred1 ((t + d : Nat) : Int) a d).Ok := by
    constructor
    · show 0 ≤ ((t + d : Nat) : Int); omega
    · show ((t + d : Nat) : Int) ≤ 200000; omega
    · omega
    · omega
    · omega
    · omega
    · exact hf.sx0
    · exact hf.sx1
    · exact hf.sy0
    · exact hf.sy1
    · omega
    · omega
    · exact hf.ra0
    · exact hf.ra1
    · omega
    · omega
    · exact hf.code0
    · exact hf.code1
    · omega
    · omega
    · exact hf.id0
    · exact hf.hits0
    · exact hf.mis0
    · exact hf.st0
    · exact hf.st1
    · exact hf.last
    · have := h.lt
      show f.lt ≤ ((t + d : Nat) : Int); omega
  exact ⟨_, pred_do hf (by omega) (by omega) a0 (by omega) (by rw [hti]; omega) hd0 (by omega) hok, hmid, h.id, h.mis, h.ra, rfl, rfl, rfl, rfl, rfl, rfl, rfl, fun _ => ⟨by rw [gr]; omega, by rw [gs]; omega⟩⟩
end
end Go.Proofs.Ytpehhlfbnkakpaa.Fl
