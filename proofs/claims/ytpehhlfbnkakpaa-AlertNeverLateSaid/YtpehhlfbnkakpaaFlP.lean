/- Plain facts about the filter: what a valid track is, what Predict and Update leave. Conditions stand in each lemma. -/
import Derived.Test.YtpehhlfbnkakpaaFlB
import Derived.Test.YtpehhlfbnkakpaaFlD
namespace Go.Proofs.Ytpehhlfbnkakpaa.Fl
open Go Go.Proofs.Ytpehhlfbnkakpaa.Eva Go.Proofs.Ytpehhlfbnkakpaa.CodeAll
set_option linter.unusedVariables false
set_option linter.unusedSimpArgs false
set_option maxRecDepth 10000
set_option maxHeartbeats 4000000

structure T.Ok (f : T) : Prop where
  ti0 : 0 ≤ f.ti
  ti1 : f.ti ≤ 200000
  x0 : -1000000 ≤ f.x
  x1 : f.x ≤ 1000000
  y0 : -1000000 ≤ f.y
  y1 : f.y ≤ 1000000
  sx0 : -12800 ≤ f.sx
  sx1 : f.sx ≤ 12800
  sy0 : -12800 ≤ f.sy
  sy1 : f.sy ≤ 12800
  h0 : 0 ≤ f.hgt
  h1 : f.hgt ≤ 60000
  ra0 : -3200 ≤ f.ra
  ra1 : f.ra ≤ 3200
  rad0 : 0 ≤ f.rad
  rad1 : f.rad ≤ 4000000
  code0 : -1 ≤ f.code
  code1 : f.code ≤ 4095
  slack0 : 0 ≤ f.slack
  slack1 : f.slack ≤ 409600
  id0 : 0 ≤ f.id
  hits0 : 0 ≤ f.hits
  mis0 : 0 ≤ f.mis
  st0 : 0 ≤ f.st
  st1 : f.st ≤ 2
  last : spotOff f.lt f.lx f.ly f.lh f.lc f.le = false
  lt1 : f.lt ≤ f.ti
theorem chk_ok {f : T} (h : f.chk = 0) : f.Ok := by
  unfold T.chk at h
  repeat' split at h <;> (try omega)
  simp only [Bool.or_eq_true, decide_eq_true_eq, not_or, Int.not_lt] at *
  have : ∀ b : Bool, ¬ b = true → b = false := fun b hb => by cases b <;> simp_all
  constructor <;> first | omega | exact this _ (by assumption)
theorem ok_chk {f : T} (h : f.Ok) : f.chk = 0 := by
  unfold T.chk
  obtain ⟨_, _, _, _, _, _, _, _, _, _, _, _, _, _, _, _, _, _, _, _, _, _, _, _, _, hl, _⟩ := h
  rw [if_neg (by simp only [Bool.or_eq_true, decide_eq_true_eq]; omega), if_neg (by simp only [Bool.or_eq_true, decide_eq_true_eq]; omega), if_neg (by simp only [Bool.or_eq_true, decide_eq_true_eq]; omega), if_neg (by simp only [Bool.or_eq_true, decide_eq_true_eq]; omega), if_neg (by simp only [Bool.or_eq_true, decide_eq_true_eq]; omega), if_neg (by simp only [Bool.or_eq_true, decide_eq_true_eq]; omega), if_neg (by simp only [Bool.or_eq_true, decide_eq_true_eq]; omega), if_neg (by simp only [Bool.or_eq_true, decide_eq_true_eq]; omega), if_neg (by simp only [Bool.or_eq_true, decide_eq_true_eq]; omega), if_neg (by simp [hl]), if_neg (by omega)]

structure S.Ok (s : S) : Prop where
  t0 : 0 ≤ s.t
  t1 : s.t ≤ 200000
  x0 : -1000000 ≤ s.x
  x1 : s.x ≤ 1000000
  y0 : -1000000 ≤ s.y
  y1 : s.y ≤ 1000000
  h0 : 0 ≤ s.h
  h1 : s.h ≤ 60000
  c0 : -1 ≤ s.cd
  c1 : s.cd ≤ 4095
  e0 : 0 ≤ s.e
  e1 : s.e ≤ 1000000
theorem off_ok {t x y h c e : Int} : spotOff t x y h c e = false ↔ S.Ok ⟨t, x, y, h, c, e⟩ := by
  unfold spotOff
  constructor
  · intro hh
    simp only [Bool.or_eq_false_iff, decide_eq_false_iff_not, Bool.not_eq_false', Bool.and_eq_true, decide_eq_true_eq, Int.not_lt] at hh
    constructor <;> simp only <;> omega
  · rintro ⟨_, _, _, _, _, _, _, _, _, _, _, _⟩
    simp only [Bool.or_eq_false_iff, decide_eq_false_iff_not, Bool.not_eq_false', Bool.and_eq_true, decide_eq_true_eq, Int.not_lt] at *
    omega

theorem mul_le {a b A B : Int} (h1 : -A ≤ a) (h2 : a ≤ A) (h3 : -B ≤ b) (h4 : b ≤ B) : -(A * B) ≤ a * b ∧ a * b ≤ A * B := by
  have hA : 0 ≤ A := by omega
  have hB : 0 ≤ B := by omega
  have k1 := Int.mul_nonneg (show 0 ≤ A - a by omega) (show 0 ≤ B - b by omega)
  have k2 := Int.mul_nonneg (show 0 ≤ A + a by omega) (show 0 ≤ B + b by omega)
  have k3 := Int.mul_nonneg (show 0 ≤ A - a by omega) (show 0 ≤ B + b by omega)
  have k4 := Int.mul_nonneg (show 0 ≤ A + a by omega) (show 0 ≤ B - b by omega)
  simp only [Int.sub_mul, Int.mul_sub, Int.add_mul, Int.mul_add] at k1 k2 k3 k4
  constructor <;> omega
theorem sq_nn (a : Int) : 0 ≤ a * a := by
  rcases Int.le_total 0 a with h | h
  · exact Int.mul_nonneg h h
  · have := Int.mul_nonneg (show 0 ≤ -a by omega) (show 0 ≤ -a by omega)
    rwa [Int.neg_mul_neg] at this
/-- The squared distance without wraps. -/
theorem dst_eq {ax ay bx «by» : Int} (h1 : -2000000 ≤ ax) (h2 : ax ≤ 2000000) (h3 : -2000000 ≤ ay) (h4 : ay ≤ 2000000) (h5 : -2000000 ≤ bx) (h6 : bx ≤ 2000000) (h7 : -2000000 ≤ «by») (h8 : «by» ≤ 2000000) :
    dst ax ay bx «by» = (ax - bx) * (ax - bx) + (ay - «by») * (ay - «by») := by
  unfold dst
  have e1 := w_id (x := ax - bx) (by omega) (by omega)
  have e2 := w_id (x := ay - «by») (by omega) (by omega)
  rw [e1, e2]
  have m1 := mul_le (a := ax - bx) (b := ax - bx) (A := 4000000) (B := 4000000) (by omega) (by omega) (by omega) (by omega)
  have m2 := mul_le (a := ay - «by») (b := ay - «by») (A := 4000000) (B := 4000000) (by omega) (by omega) (by omega) (by omega)
  generalize (ax - bx) * (ax - bx) = p at m1
  generalize (ay - «by») * (ay - «by») = q at m2
  rw [w_id (x := p) (by omega) (by omega), w_id (x := q) (by omega) (by omega), w_id (by omega) (by omega)]
theorem sq_eq {r : Int} (h0 : -100000000 ≤ r) (h1 : r ≤ 100000000) : w (r * r) = r * r := by
  have m1 := mul_le (a := r) (b := r) (A := 100000000) (B := 100000000) (by omega) (by omega) (by omega) (by omega)
  exact w_id (by omega) (by omega)

theorem pred_chk {f g : T} {t a : Int} (h : f.pred t a = (g, 0)) : g.chk = 0 ∧ f.chk = 0 := by
  unfold T.pred at h
  repeat' split at h
  all_goals (simp only [Prod.mk.injEq] at h; obtain ⟨rfl, h2⟩ := h)
  all_goals (first | (exfalso; simp_all; done) | skip)
  all_goals simp_all
theorem pred_err {f g : T} {t a e : Int} (h : f.pred t a = (g, e)) (he : e ≠ 0) : g = T.zero := by
  unfold T.pred at h
  repeat' split at h
  all_goals (simp only [Prod.mk.injEq] at h; obtain ⟨rfl, rfl⟩ := h)
  all_goals (first | rfl | (exfalso; exact he rfl))
theorem upd_err {f g : T} {s : S} {a p q e : Int} (h : f.upd s a p q = (g, e)) (he : e ≠ 0) : g = T.zero := by
  unfold T.upd at h
  repeat' split at h
  all_goals (try simp only [Prod.mk.injEq] at h)
  all_goals (obtain ⟨rfl, rfl⟩ := h)
  all_goals (first | rfl | (exfalso; exact he rfl))
/-- What an update that succeeds has done. -/
theorem upd_ok {f g : T} {s : S} {a p q : Int} (h : f.upd s a p q = (g, 0)) :
    f.Ok ∧ s.Ok ∧ 0 ≤ p ∧ p ≤ 256 ∧ 0 ≤ q ∧ q ≤ 256 ∧ 0 < w (s.t - f.lt) ∧ g.Ok ∧ ∃ m code, f.pred s.t a = (m, 0) ∧ m.Ok ∧ dst m.x m.y s.x s.y ≤ w (w (m.rad + s.e) * w (m.rad + s.e)) ∧ (code = if 0 ≤ s.cd then s.cd else m.code) ∧
      g = T.upd1 m f s a p q (w (s.t - f.lt)) code := by
  unfold T.upd at h
  by_cases c1 : (f.chk != 0) = true
  · rw [if_pos c1] at h; simp only [Prod.mk.injEq] at h; rw [h.2] at c1; simp at c1
  rw [if_neg c1] at h
  by_cases c2 : ((if s.off = true then 4 else (0 : Int)) != 0) = true
  · rw [if_pos c2] at h; simp only [Prod.mk.injEq] at h; rw [h.2] at c2; simp at c2
  rw [if_neg c2] at h
  by_cases c3 : (decide (p < 0) || decide (256 < p) || decide (q < 0) || decide (256 < q)) = true
  · rw [if_pos c3] at h; simp only [Prod.mk.injEq] at h; omega
  rw [if_neg c3] at h
  by_cases c4 : decide (w (s.t - f.lt) ≤ 0) = true
  · rw [if_pos c4] at h; simp only [Prod.mk.injEq] at h; omega
  rw [if_neg c4] at h
  by_cases c5 : ((f.pred s.t a).2 != 0) = true
  · rw [if_pos c5] at h; simp only [Prod.mk.injEq] at h; rw [h.2] at c5; simp at c5
  rw [if_neg c5] at h
  by_cases c6 : decide (w (w ((f.pred s.t a).1.rad + s.e) * w ((f.pred s.t a).1.rad + s.e)) < dst (f.pred s.t a).1.x (f.pred s.t a).1.y s.x s.y) = true
  · rw [if_pos c6] at h; simp only [Prod.mk.injEq] at h; omega
  rw [if_neg c6] at h
  have k1 : f.chk = 0 := by simpa using c1
  have k2 : s.off = false := by
    cases hs : s.off
    · rfl
    · rw [hs] at c2; simp at c2
  simp only [Bool.or_eq_true, decide_eq_true_eq, not_or, Int.not_lt, Int.not_le] at c3 c4 c6
  have k5 : (f.pred s.t a).2 = 0 := by simpa using c5
  have hm : f.pred s.t a = ((f.pred s.t a).1, 0) := by rw [← k5]
  have hmo := chk_ok (pred_chk hm).1
  refine ⟨chk_ok k1, off_ok.1 k2, c3.1.1.1, c3.1.1.2, c3.1.2, c3.2, c4, ?_⟩
  split at h
  · rename_i hc
    split at h
    · simp only [Prod.mk.injEq] at h; omega
    · rename_i hg
      simp only [Prod.mk.injEq, and_true] at h
      subst h
      exact ⟨chk_ok (by simpa using hg), _, _, hm, hmo, c6, by rw [if_pos (by simpa using hc)], rfl⟩
  · rename_i hc
    split at h
    · simp only [Prod.mk.injEq] at h; omega
    · rename_i hg
      simp only [Prod.mk.injEq, and_true] at h
      subst h
      exact ⟨chk_ok (by simpa using hg), _, _, hm, hmo, c6, by rw [if_neg (by simpa using hc)], rfl⟩

theorem mx_256 {a b : Int} (h1 : -1000000000 ≤ a) (h2 : a ≤ 1000000000) (h3 : -1000000000 ≤ b) (h4 : b ≤ 1000000000) : mx a b 256 = b := by
  unfold mx
  rw [w_id (x := b - a) (by omega) (by omega), w_id (x := (b - a) * 256) (by omega) (by omega), dvd_eq (by omega) (by omega) (by omega)]
  rw [w_id (by omega) (by omega)]; omega
theorem mx_0 {a b : Int} (h1 : -1000000000 ≤ a) (h2 : a ≤ 1000000000) (h3 : -1000000000 ≤ b) (h4 : b ≤ 1000000000) : mx a b 0 = a := by
  unfold mx
  rw [w_id (x := b - a) (by omega) (by omega), w_id (x := (b - a) * 0) (by omega) (by omega), dvd_eq (by omega) (by omega) (by omega)]
  rw [w_id (by omega) (by omega)]; omega

end Go.Proofs.Ytpehhlfbnkakpaa.Fl
