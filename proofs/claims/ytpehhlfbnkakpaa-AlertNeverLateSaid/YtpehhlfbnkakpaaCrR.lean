/- Plain facts: what course gives is a steady course; a track that follows it holds it. Conditions stand in each lemma. -/
import Derived.Test.YtpehhlfbnkakpaaCrA
import Derived.Test.YtpehhlfbnkakpaaCrQ
namespace Go.Proofs.Ytpehhlfbnkakpaa.Fl
open Go Go.Proofs.Ytpehhlfbnkakpaa.Eva Go.Proofs.Ytpehhlfbnkakpaa.CodeAll
set_option linter.unusedVariables false
set_option linter.unusedSimpArgs false
set_option maxRecDepth 10000
set_option maxHeartbeats 4000000

/-- A coordinate of a place of a list. -/
def gX (l : List P2) (t : Nat) : Int := (l.getD t ⟨0, 0⟩).x
def gY (l : List P2) (t : Nat) : Int := (l.getD t ⟨0, 0⟩).y

/-- What is so of the places so far, and the next velocity. -/
structure Run (o : List P2) (t : Nat) (p v : P2) (acc : Int) : Prop where
  len : o.length = t + 1
  last : o.getD t ⟨0, 0⟩ = p
  x0 : -100000 ≤ gX o 0 ∧ gX o 0 ≤ 100000
  y0 : -100000 ≤ gY o 0 ∧ gY o 0 ≤ 100000
  vx : ∀ i, i < t → -200 ≤ gX o (i + 1) - gX o i ∧ gX o (i + 1) - gX o i ≤ 200
  vy : ∀ i, i < t → -200 ≤ gY o (i + 1) - gY o i ∧ gY o (i + 1) - gY o i ≤ 200
  ac : ∀ i, i + 1 < t → InD ((gX o (i + 2) - gX o (i + 1)) - (gX o (i + 1) - gX o i)) ((gY o (i + 2) - gY o (i + 1)) - (gY o (i + 1) - gY o i)) acc
  v0 : -200 ≤ v.x ∧ v.x ≤ 200
  v1 : -200 ≤ v.y ∧ v.y ≤ 200
  nxt : ∀ i, i + 1 = t → InD (v.x - (gX o t - gX o i)) (v.y - (gY o t - gY o i)) acc
theorem getD_app {o : List P2} {q : P2} {i : Nat} (h : i < o.length) : (o ++ [q]).getD i ⟨0, 0⟩ = o.getD i ⟨0, 0⟩ := by
  rw [List.getD_eq_getElem?_getD, List.getD_eq_getElem?_getD, List.getElem?_append_left h]
theorem getD_last {o : List P2} {q : P2} : (o ++ [q]).getD o.length ⟨0, 0⟩ = q := by
  rw [List.getD_eq_getElem?_getD]; simp
theorem Run.next {o : List P2} {t : Nat} {p v u : P2} {acc : Int} (h : Run o t p v acc) (u0 : -200 ≤ u.x ∧ u.x ≤ 200) (u1 : -200 ≤ u.y ∧ u.y ≤ 200) (hu : InD (u.x - v.x) (u.y - v.y) acc) : Run (o ++ [⟨p.x + v.x, p.y + v.y⟩]) (t + 1) ⟨p.x + v.x, p.y + v.y⟩ u acc := by
  have hl := h.len
  have gx : ∀ i, i ≤ t → gX (o ++ [⟨p.x + v.x, p.y + v.y⟩]) i = gX o i := fun i hi => by unfold gX; rw [getD_app (by omega)]
  have gy : ∀ i, i ≤ t → gY (o ++ [⟨p.x + v.x, p.y + v.y⟩]) i = gY o i := fun i hi => by unfold gY; rw [getD_app (by omega)]
  have lx : gX (o ++ [⟨p.x + v.x, p.y + v.y⟩]) (t + 1) = p.x + v.x := by unfold gX; rw [← hl, getD_last]
  have ly : gY (o ++ [⟨p.x + v.x, p.y + v.y⟩]) (t + 1) = p.y + v.y := by unfold gY; rw [← hl, getD_last]
  have px : gX o t = p.x := by unfold gX; rw [h.last]
  have py : gY o t = p.y := by unfold gY; rw [h.last]
  have hv0 := h.v0; have hv1 := h.v1
  refine ⟨by simp; omega, by rw [← hl, getD_last], by rw [gx 0 (by omega)]; exact h.x0, by rw [gy 0 (by omega)]; exact h.y0, fun i hi => ?_, fun i hi => ?_, fun i hi => ?_, u0, u1, fun i hi => ?_⟩
  · by_cases hit : i = t
    · subst hit; rw [lx, gx i (by omega), px]; omega
    · rw [gx (i + 1) (by omega), gx i (by omega)]; exact h.vx i (by omega)
  · by_cases hit : i = t
    · subst hit; rw [ly, gy i (by omega), py]; omega
    · rw [gy (i + 1) (by omega), gy i (by omega)]; exact h.vy i (by omega)
  · by_cases hit : i + 1 = t
    · have hn := h.nxt i hit
      have e : i + 2 = t + 1 := by omega
      rw [e, hit, lx, ly, gx t (by omega), gy t (by omega), gx i (by omega), gy i (by omega)]
      exact hn.cast (by rw [px]; omega) (by rw [py]; omega) rfl
    · rw [gx (i + 2) (by omega), gx (i + 1) (by omega), gx i (by omega), gy (i + 2) (by omega), gy (i + 1) (by omega), gy i (by omega)]; exact h.ac i (by omega)
  · have e : i = t := by omega
    subst e
    rw [lx, ly, gx i (by omega), gy i (by omega), px, py]
    exact hu.cast (by omega) (by omega) rfl
theorem push_ok {n : Int} {t : Nat} {v : P2} {acc : Int} (a0 : 0 ≤ acc) (n0 : -acc ≤ n) (n1 : n ≤ acc) (ha : acc ≤ 5) (v0 : -200 ≤ v.x ∧ v.x ≤ 200) (v1 : -200 ≤ v.y ∧ v.y ≤ 200) :
    (-200 ≤ (pushV n t v).x ∧ (pushV n t v).x ≤ 200) ∧ (-200 ≤ (pushV n t v).y ∧ (pushV n t v).y ≤ 200) ∧ InD ((pushV n t v).x - v.x) ((pushV n t v).y - v.y) acc := by
  have e1 : w (v.x + n) = v.x + n := w_id (by omega) (by omega)
  have e2 : w (v.y + n) = v.y + n := w_id (by omega) (by omega)
  have z : InD 0 0 acc := ⟨a0, by have := sq_nn acc; omega⟩
  have k := (mul_le n0 n1 n0 n1).2
  unfold pushV
  rw [e1, e2]
  by_cases c1 : ((t : Int).tmod 2 == 0 && decide (-200 ≤ v.x + n) && decide (v.x + n ≤ 200)) = true
  · rw [if_pos c1]
    simp only [Bool.and_eq_true, beq_iff_eq, decide_eq_true_eq] at c1
    rw [if_neg (by simp only [Bool.and_eq_true, beq_iff_eq]; omega)]
    have e : v.x + n - v.x = n := by omega
    have zz : InD (v.x + n - v.x) (v.y - v.y) acc := ⟨a0, by rw [e, Int.sub_self]; omega⟩
    exact ⟨by simp only; omega, by simp only; omega, zz⟩
  · rw [if_neg c1]
    by_cases c2 : ((t : Int).tmod 2 == 1 && decide (-200 ≤ v.y + n) && decide (v.y + n ≤ 200)) = true
    · rw [if_pos c2]
      simp only [Bool.and_eq_true, beq_iff_eq, decide_eq_true_eq] at c2
      have e : v.y + n - v.y = n := by omega
      have zz : InD (v.x - v.x) (v.y + n - v.y) acc := ⟨a0, by rw [e, Int.sub_self]; omega⟩
      exact ⟨by simp only; omega, by simp only; omega, zz⟩
    · rw [if_neg c2]
      exact ⟨by simp only; omega, by simp only; omega, by simp only [Int.sub_self]; exact z⟩
theorem crs_run {ps : List Int} {acc : Int} (a0 : 0 ≤ acc) (a5 : acc ≤ 5) : ∀ (n t : Nat) (p v : P2) (o : List P2), t + n ≤ 1000 → Run o t p v acc → -(100000 + 200 * (t : Int)) ≤ p.x ∧ p.x ≤ 100000 + 200 * t → -(100000 + 200 * (t : Int)) ≤ p.y ∧ p.y ≤ 100000 + 200 * t →
    ∃ q u, Run (crsGo ps acc n t p v o) (t + n) q u acc
  | 0, t, p, v, o, _, h, _, _ => ⟨p, v, h⟩
  | n + 1, t, p, v, o, ht, h, bx, by' => by
    have hv0 := h.v0; have hv1 := h.v1
    have e1 : w (p.x + v.x) = p.x + v.x := w_id (by omega) (by omega)
    have e2 : w (p.y + v.y) = p.y + v.y := w_id (by omega) (by omega)
    have e3 : w (0 - acc) = 0 - acc := w_id (by omega) (by omega)
    have en : t + (n + 1) = (t + 1) + n := by omega
    simp only [crsGo, e1, e2]
    rw [en]
    split
    · obtain ⟨b0, b1⟩ := wi_bd (n := ps.getD t 0) (lo := w (0 - acc)) (hi := acc) (by omega) (by omega) (by omega)
      obtain ⟨k1, k2, k3⟩ := push_ok (t := t) (v := v) a0 (n := wi (ps.getD t 0) (w (0 - acc)) acc) (by omega) b1 a5 hv0 hv1
      exact crs_run a0 a5 n (t + 1) _ _ _ (by omega) (h.next k1 k2 k3) (by simp only; omega) (by simp only; omega)
    · exact crs_run a0 a5 n (t + 1) _ _ _ (by omega) (h.next hv0 hv1 (by simp only [Int.sub_self]; exact ⟨a0, by have := sq_nn acc; omega⟩)) (by simp only; omega) (by simp only; omega)
/-- What course gives. -/
theorem course_crs (p v : P2) (ps : List Int) {acc : Int} (a0 : 0 ≤ acc) (a5 : acc ≤ 5) {n : Nat} (hn : n ≤ 1000) : (courseT p v ps acc n).length = n + 1 ∧ Crs (gX (courseT p v ps acc n)) (gY (courseT p v ps acc n)) n acc := by
  have b1 := wi_bd (n := p.x) (lo := -100000) (hi := 100000) (by decide) (by decide) (by decide)
  have b2 := wi_bd (n := p.y) (lo := -100000) (hi := 100000) (by decide) (by decide) (by decide)
  have b3 := wi_bd (n := v.x) (lo := -200) (hi := 200) (by decide) (by decide) (by decide)
  have b4 := wi_bd (n := v.y) (lo := -200) (hi := 200) (by decide) (by decide) (by decide)
  have h0 : Run [⟨wi p.x (-100000) 100000, wi p.y (-100000) 100000⟩] 0 ⟨wi p.x (-100000) 100000, wi p.y (-100000) 100000⟩ ⟨wi v.x (-200) 200, wi v.y (-200) 200⟩ acc :=
    ⟨rfl, rfl, b1, b2, fun i hi => by omega, fun i hi => by omega, fun i hi => by omega, b3, b4, fun i hi => by omega⟩
  obtain ⟨q, u, h⟩ := crs_run (ps := ps) a0 a5 n 0 _ _ _ (by omega) h0 (by simp only; omega) (by simp only; omega)
  rw [Nat.zero_add] at h
  unfold courseT
  exact ⟨h.len, a0, a5, h.x0, h.y0, h.vx, h.vy, h.ac⟩

/-- A near spot. -/
theorem spot_near {far : Int} (f0 : 0 ≤ far) (f1 : far ≤ 300) (t : Int) (p : P2) (a b : Int) (hx : -1000000 ≤ p.x ∧ p.x ≤ 1000000) (hy : -1000000 ≤ p.y ∧ p.y ≤ 1000000) :
    InD (p.x - (spotS t p far a b).x) (p.y - (spotS t p far a b).y) far ∧ (-150 ≤ p.x - (spotS t p far a b).x ∧ p.x - (spotS t p far a b).x ≤ 150) ∧ (-150 ≤ p.y - (spotS t p far a b).y ∧ p.y - (spotS t p far a b).y ≤ 150) := by
  have e1 : w (0 - far) = 0 - far := w_id (by omega) (by omega)
  have e2 : far.tdiv 2 = far / 2 := Int.tdiv_eq_ediv_of_nonneg f0
  have e3 : (0 - far).tdiv 2 = -(far / 2) := by rw [Int.zero_sub, Int.neg_tdiv, e2]
  have e4 : w (-(far / 2)) = -(far / 2) := w_id (by omega) (by omega)
  have e5 : w (far / 2) = far / 2 := w_id (by omega) (by omega)
  have b1 := wi_bd (n := a) (lo := -(far / 2)) (hi := far / 2) (by omega) (by omega) (by omega)
  have b2 := wi_bd (n := b) (lo := -(far / 2)) (hi := far / 2) (by omega) (by omega) (by omega)
  have sx : (spotS t p far a b).x = p.x + wi a (-(far / 2)) (far / 2) := by
    show w (p.x + wi a (w ((w (0 - far)).tdiv 2)) (w (far.tdiv 2))) = _
    rw [e1, e2, e3, e4, e5]; exact w_id (by omega) (by omega)
  have sy : (spotS t p far a b).y = p.y + wi b (-(far / 2)) (far / 2) := by
    show w (p.y + wi b (w ((w (0 - far)).tdiv 2)) (w (far.tdiv 2))) = _
    rw [e1, e2, e3, e4, e5]; exact w_id (by omega) (by omega)
  rw [sx, sy]
  refine ⟨InD.box (a := far / 2) (by omega) (by omega) (by omega) (by omega) f0 ?_, by omega, by omega⟩
  have k1 := Int.mul_le_mul (show 2 * (far / 2) ≤ far by omega) (show 2 * (far / 2) ≤ far by omega) (by omega) f0
  have e : 2 * (far / 2) * (2 * (far / 2)) = 4 * (far / 2 * (far / 2)) := by grind
  have := sq_nn (far / 2)
  omega

section
variable {ls : List P2} {X Y : Nat → Int} {N : Nat} {acc : Int}
/-- What follow gives. -/
theorem follow_inv (hc : Crs X Y N acc) (hX : ∀ i, i < ls.length → gX ls i = X i) (hY : ∀ i, i < ls.length → gY ls i = Y i) (hl0 : 0 < ls.length) (hlN : ls.length ≤ N) (hl : ls.length ≤ 61) (ns : List Int) {ev : Nat} (v0 : 0 < ev) {far : Int} (f0 : 0 ≤ far) (f1 : far ≤ 300) {place speed : Int} (p0 : 0 ≤ place) (p1 : place ≤ 256) (q0 : 0 ≤ speed) (q1 : speed ≤ 256) :
    ∃ f last, followT ls ns ev far acc place speed = (f, last, true) ∧ Inv X Y far f last ∧ last < ls.length ∧ ls.length ≤ last + ev ∧ last % ev = 0 := by
  have fr0 := hc.far 0 (by omega)
  have hpx : (ls.getD 0 ⟨0, 0⟩).x = X 0 := hX 0 hl0
  have hpy : (ls.getD 0 ⟨0, 0⟩).y = Y 0 := hY 0 hl0
  obtain ⟨n1, n2, n3⟩ := spot_near f0 f1 0 (ls.getD 0 ⟨0, 0⟩) 0 0 (by omega) (by omega)
  rw [hpx, hpy] at n1
  rw [hpx] at n2
  rw [hpy] at n3
  have hoff : (spotS 0 (ls.getD 0 ⟨0, 0⟩) far 0 0).off = false := off_ok.2 (by
    constructor <;> first | (show (0 : Int) ≤ 0; decide) | (show (0 : Int) ≤ 200000; decide) | (show (0 : Int) ≤ 5000; decide) | (show (5000 : Int) ≤ 60000; decide) | (show (-1 : Int) ≤ 1234; decide) | (show (1234 : Int) ≤ 4095; decide) | (show 0 ≤ far; omega) | (show far ≤ 1000000; omega) | (simp only; omega))
  have hb : (spotS 0 (ls.getD 0 ⟨0, 0⟩) far 0 0).begin = (⟨0, 0, 0, (spotS 0 (ls.getD 0 ⟨0, 0⟩) far 0 0).x, (spotS 0 (ls.getD 0 ⟨0, 0⟩) far 0 0).y, 0, 0, 5000, 0, far, 1234, 1, 0, 6400, 0, (spotS 0 (ls.getD 0 ⟨0, 0⟩) far 0 0).x, (spotS 0 (ls.getD 0 ⟨0, 0⟩) far 0 0).y, 5000, 1234, far⟩, 0) := by
    unfold S.begin
    rw [hoff]; rfl
  have hv0x := hc.vx 0 (by omega)
  have hv0y := hc.vy 0 (by omega)
  have hinv0 : Inv X Y far (spotS 0 (ls.getD 0 ⟨0, 0⟩) far 0 0).begin.1 0 := by
    rw [hb]
    exact ⟨rfl, rfl, n1, InD.box (a := 3200) (by simp only; omega) (by simp only; omega) (by simp only; omega) (by simp only; omega) (by show (0 : Int) ≤ 6400; decide) (by show (2 * (3200 * 3200) : Int) ≤ 6400 * 6400; decide), n1, n2, n3, rfl, f0, f1, by simp only; omega, by simp only; omega, by simp only; omega, by simp only; omega, rfl, rfl, rfl, rfl, rfl, by simp only; omega, rfl, rfl, rfl⟩
  unfold followT
  rw [if_neg (by rw [hb]; simp)]
  generalize (spotS 0 (ls.getD 0 ⟨0, 0⟩) far 0 0).begin.1 = b at hinv0
  have key : ∀ (n : Nat) (f : T) (last t : Nat), t = last + ev → ls.length ≤ n + last → Inv X Y far f last → last < ls.length → last % ev = 0 → ∃ g m, flwGo ls ns ev far acc place speed n f last t = (g, m, true) ∧ Inv X Y far g m ∧ m < ls.length ∧ ls.length ≤ m + ev ∧ m % ev = 0 := by
    intro n
    induction n with
    | zero => intro f last t ht h1 _ h2 _; omega
    | succ n ih =>
      intro f last t ht h1 hi h2 h3
      simp only [flwGo]
      by_cases htl : t < ls.length
      · rw [if_pos htl]
        have fr := hc.far t (by omega)
        have hpx : (ls.getD t ⟨0, 0⟩).x = X t := hX t htl
        have hpy : (ls.getD t ⟨0, 0⟩).y = Y t := hY t htl
        obtain ⟨m1, m2, m3⟩ := spot_near f0 f1 t (ls.getD t ⟨0, 0⟩) (noiseAt ns (t / ev * 2)).1 (noiseAt ns (t / ev * 2)).2 (by omega) (by omega)
        rw [hpx, hpy] at m1
        rw [hpx] at m2
        rw [hpy] at m3
        subst ht
        obtain ⟨g, hg, hgi⟩ := hi.upd hc v0 (by omega) (by omega) p0 p1 q0 q1 (s := spotS ((last + ev : Nat) : Int) (ls.getD (last + ev) ⟨0, 0⟩) far (noiseAt ns ((last + ev) / ev * 2)).1 (noiseAt ns ((last + ev) / ev * 2)).2) rfl m1 m2 m3 rfl rfl rfl
        rw [hg, if_neg (by simp)]
        exact ih g (last + ev) _ rfl (by omega) hgi htl (by rw [Nat.add_mod_right]; exact h3)
      · rw [if_neg htl]
        exact ⟨f, last, rfl, hi, h2, by omega, h3⟩
  exact key (ls.length + 1) b 0 ev (by omega) (by omega) hinv0 hl0 (Nat.zero_mod _)
end
end Go.Proofs.Ytpehhlfbnkakpaa.Fl
