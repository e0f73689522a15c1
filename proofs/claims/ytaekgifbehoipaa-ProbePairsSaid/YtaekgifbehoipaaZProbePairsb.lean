/- The node of a tube at a time, by the reference, is that of the program. Conditions stand in each lemma. -/
import Derived.Test.YtaekgifbehoipaaZProbePairsa
namespace Go.Proofs.Ytaekgifbehoipaa.Pb
open Go Go.Proofs.Ytaekgifbehoipaa.Eva Go.Proofs.Ytaekgifbehoipaa.CodeAll Go.Proofs.Ytaekgifbehoipaa.Fl
set_option linter.unusedVariables false
set_option linter.unusedSimpArgs false
set_option maxRecDepth 10000
set_option maxHeartbeats 4000000

/-- A node between two, as the reference counts. -/
def mixN (a b : Nd) (t : Int) : Nd := ⟨t, w (a.x + dvd (w (w (b.x - a.x) * (t - a.t))) (b.t - a.t)), w (a.y + dvd (w (w (b.y - a.y) * (t - a.t))) (b.t - a.t)), w (a.h + dvd (w (w (b.h - a.h) * (t - a.t))) (b.t - a.t)), w (a.r + dvu (w (w (b.r - a.r) * (t - a.t))) (b.t - a.t)), w (a.b + dvu (w (w (b.b - a.b) * (t - a.t))) (b.t - a.t))⟩
theorem mix_at {u v n d : Int} (u0 : -1000000 ≤ u) (u1 : u ≤ 1000000) (v0 : -1000000 ≤ v) (v1 : v ≤ 1000000) (n0 : 0 ≤ n) (n1 : n ≤ d) (d0 : 0 < d) (d1 : d ≤ 200000) :
    w (u + dvd (w (w (v - u) * n)) d) = u + (v - u) * n / d ∧ w (u + dvu (w (w (v - u) * n)) d) = u + -(-((v - u) * n) / d) := by
  obtain ⟨m0, m1⟩ := mul_bd' (u := v - u) (by omega) (by omega) n0 n1 d1
  obtain ⟨q0, q1⟩ := div_bd (m := (v - u) * n) (d := d) (by omega) (by omega) d0
  obtain ⟨q2, q3⟩ := div_bd (m := -((v - u) * n)) (d := d) (by omega) (by omega) d0
  rw [w_id (x := v - u) (by omega) (by omega), w_id (x := (v - u) * n) (by omega) (by omega), dvd_eq d0 (by omega) (by omega), dvu_eq d0 (by omega) (by omega), w_id (by omega) (by omega), w_id (by omega) (by omega)]
  exact ⟨rfl, rfl⟩
theorem mixN_l {a b : Nd} (oa : a.Ok) (ob : b.Ok) (h : a.t < b.t) : mixN a b a.t = a := by
  have := oa.x0; have := oa.x1; have := oa.y0; have := oa.y1; have := oa.h0; have := oa.h1; have := oa.r0; have := oa.r1; have := oa.b0; have := oa.b1; have := oa.t0; have := oa.t1
  have := ob.x0; have := ob.x1; have := ob.y0; have := ob.y1; have := ob.h0; have := ob.h1; have := ob.r0; have := ob.r1; have := ob.b0; have := ob.b1; have := ob.t0; have := ob.t1
  have e : a.t - a.t = 0 := by omega
  unfold mixN
  rw [e]
  have z1 : ∀ u v : Int, -1000000 ≤ u → u ≤ 1000000 → -1000000 ≤ v → v ≤ 1000000 → w (u + dvd (w (w (v - u) * 0)) (b.t - a.t)) = u ∧ w (u + dvu (w (w (v - u) * 0)) (b.t - a.t)) = u := fun u v a1 a2 a3 a4 => by
    obtain ⟨k1, k2⟩ := mix_at a1 a2 a3 a4 (n := 0) (d := b.t - a.t) (by omega) (by omega) (by omega) (by omega)
    rw [k1, k2]
    simp
  rw [(z1 a.x b.x (by omega) (by omega) (by omega) (by omega)).1, (z1 a.y b.y (by omega) (by omega) (by omega) (by omega)).1, (z1 a.h b.h (by omega) (by omega) (by omega) (by omega)).1, (z1 a.r b.r (by omega) (by omega) (by omega) (by omega)).2, (z1 a.b b.b (by omega) (by omega) (by omega) (by omega)).2]
theorem mixN_r {a b : Nd} (oa : a.Ok) (ob : b.Ok) (h : a.t < b.t) : mixN a b b.t = b := by
  have := oa.x0; have := oa.x1; have := oa.y0; have := oa.y1; have := oa.h0; have := oa.h1; have := oa.r0; have := oa.r1; have := oa.b0; have := oa.b1; have := oa.t0; have := oa.t1
  have := ob.x0; have := ob.x1; have := ob.y0; have := ob.y1; have := ob.h0; have := ob.h1; have := ob.r0; have := ob.r1; have := ob.b0; have := ob.b1; have := ob.t0; have := ob.t1
  unfold mixN
  have z1 : ∀ u v : Int, -1000000 ≤ u → u ≤ 1000000 → -1000000 ≤ v → v ≤ 1000000 → w (u + dvd (w (w (v - u) * (b.t - a.t))) (b.t - a.t)) = v ∧ w (u + dvu (w (w (v - u) * (b.t - a.t))) (b.t - a.t)) = v := fun u v a1 a2 a3 a4 => by
    obtain ⟨k1, k2⟩ := mix_at a1 a2 a3 a4 (n := b.t - a.t) (d := b.t - a.t) (by omega) (by omega) (by omega) (by omega)
    have hd : b.t - a.t ≠ 0 := by omega
    rw [k1, k2, Int.mul_ediv_cancel _ hd, ← Int.neg_mul, Int.mul_ediv_cancel _ hd]
    constructor <;> omega
  rw [(z1 a.x b.x (by omega) (by omega) (by omega) (by omega)).1, (z1 a.y b.y (by omega) (by omega) (by omega) (by omega)).1, (z1 a.h b.h (by omega) (by omega) (by omega) (by omega)).1, (z1 a.r b.r (by omega) (by omega) (by omega) (by omega)).2, (z1 a.b b.b (by omega) (by omega) (by omega) (by omega)).2]
theorem tnode_mix {a b : Nd} (oa : a.Ok) (ob : b.Ok) {t : Int} (h1 : a.t ≤ t) (h2 : t ≤ b.t) (h : a.t < b.t) : tnode a b t = mixN a b t := by
  have := oa.x0; have := oa.x1; have := oa.y0; have := oa.y1; have := oa.t0; have := oa.t1
  have := ob.x0; have := ob.x1; have := ob.y0; have := ob.y1; have := ob.t0; have := ob.t1
  have wn : w (t - a.t) = t - a.t := w_id (by omega) (by omega)
  have wd : w (b.t - a.t) = b.t - a.t := w_id (by omega) (by omega)
  have hpa : pchk a.x a.y = 0 := by unfold pchk; rw [if_neg]; simp only [Bool.or_eq_true, decide_eq_true_eq]; omega
  have hpb : pchk b.x b.y = 0 := by unfold pchk; rw [if_neg]; simp only [Bool.or_eq_true, decide_eq_true_eq]; omega
  have htw : toward a.x a.y b.x b.y (t - a.t) (b.t - a.t) = ((w (a.x + dvd (w (w (b.x - a.x) * (t - a.t))) (b.t - a.t)), w (a.y + dvd (w (w (b.y - a.y) * (t - a.t))) (b.t - a.t))), 0) := by
    unfold toward
    rw [if_neg (by simp only [decide_eq_true_eq]; omega), if_neg]
    simp only [hpa, hpb, Bool.or_eq_true, decide_eq_true_eq, bne_self_eq_false, Bool.false_eq_true, or_false]; omega
  unfold tnode mixN
  rw [wn, wd, htw]
  rfl
/-- Times grow along a tube. -/
theorem nd_lt {l : List Nd} (hm : ∀ i : Nat, i + 1 < l.length → (nd l i).t < (nd l (i + 1)).t) : ∀ i j : Nat, i < j → j < l.length → (nd l i).t < (nd l j).t := by
  intro i j hij hj
  induction j with
  | zero => omega
  | succ j ih =>
    by_cases h : i = j
    · subst h; exact hm i hj
    · have := ih (by omega) (by omega)
      have := hm j hj
      omega
theorem nd_get {l : List Nd} {i : Nat} (hi : i < l.length) : l[i]? = some (nd l i) := by rw [nd, List.getD_eq_getElem?_getD, List.getElem?_eq_getElem hi]; rfl
theorem apart_sl {α : Type} {h : List Ob} {v : AV} {c : α → List AV} {sz : Nat} {xs : List α} (hs : SlL h v c sz xs) {kk : IntKind} {i : Int} {m : Nat} (hm : h.length ≤ m) (h0 : xs.length ≠ 0) : apart (some m) (idxV sz v (.int kk i)) = true := by
  have hlt := fun j => hs.idlt (j := j)
  obtain ⟨_, _, _, ⟨hz, _⟩ | ⟨id, ep, off, o, rfl, k2, _⟩⟩ := hs
  · exact absurd hz h0
  · rw [idxV_sl, apart_ptr]
    have := hlt id ⟨rfl, rfl⟩
    exact decide_eq_true (by omega)
theorem rnode_pc {H : List Ob} {V : AV} {l : List Nd} (hs : SlL H V Nd.c 6 l) (hc : tchk l = 0) {t : Int} (t0 : (nd l 0).t ≤ t) (t1 : t ≤ (nd l (l.length - 1)).t) :
    (tat l t).2 = 0 ∧ pcall E 55 [V, .int .i64 t] H = some (.agg (tat l t).1.c) := by
  obtain ⟨hne, hok, hmono⟩ := tchk_ok hc
  have hlt := nd_lt hmono
  have hpos : 0 < l.length := List.length_pos_iff.2 hne
  have hbig := tchk_len hc
  have nok : ∀ i, i < l.length → (nd l i).Ok := fun i hi => hok _ (nd_mem hi)
  have hlen := hs.len
  have wl : IntKind.i64.wrap ((l.length : Int) - 1) = ((l.length - 1 : Nat) : Int) := by rw [wrap64 (by omega) (by omega)]; omega
  -- where the time lies
  obtain ⟨s1, s2, s3, s4⟩ := segGo_spec t (l.drop 1) 0
  obtain ⟨K, hK⟩ : ∃ K, segGo t (l.drop 1) 0 = K := ⟨_, rfl⟩
  rw [hK] at s1 s2 s3 s4
  rw [List.length_drop] at s2 s4
  have hnd : ∀ i, nd (l.drop 1) i = nd l (i + 1) := fun i => by
    unfold nd
    rw [List.getD_eq_getElem?_getD, List.getD_eq_getElem?_getD, List.getElem?_drop, Nat.add_comm]
  have hKl : K < l.length := by omega
  have hKt : (nd l K).t ≤ t := by
    by_cases h : K = 0
    · rw [h]; exact t0
    · have := s3 (K - 1) (by omega) (by omega)
      rw [hnd] at this
      have e : K - 1 - 0 + 1 = K := by omega
      rw [e] at this; exact this
  have hKn : K + 1 < l.length → t < (nd l (K + 1)).t := fun h => by
    have := s4 (by omega)
    rw [hnd] at this
    exact this
  have htat : tat l t = (if (nd l K).t = t then nd l K else tnode (nd l K) (nd l (K + 1)) t, 0) := by
    unfold tat
    rw [if_neg (by omega), hK]
    split <;> rfl
  refine ⟨by rw [htat], ?_⟩
  have hres : (l.length = 1 ∧ (tat l t).1 = nd l 0) ∨ (2 ≤ l.length ∧ ∃ k, 1 ≤ k ∧ k < l.length ∧ (nd l (k - 1)).t ≤ t ∧ t ≤ (nd l k).t ∧ (∀ j, k < j → j < l.length → t < (nd l (j - 1)).t) ∧ (tat l t).1 = mixN (nd l (k - 1)) (nd l k) t) := by
    rw [htat]
    by_cases h1 : l.length = 1
    · left
      have : K = 0 := by omega
      subst this
      rw [h1] at t1
      exact ⟨h1, by simp only; rw [if_pos (by simpa using (show (nd l 0).t = t by have := t1; simp at this; omega))]⟩
    · right
      refine ⟨by omega, ?_⟩
      by_cases h2 : K + 1 < l.length
      · have hm := hlt K (K + 1) (by omega) h2
        have hn := hKn h2
        refine ⟨K + 1, by omega, h2, by rw [Nat.add_sub_cancel]; exact hKt, by omega, fun j h3 h4 => ?_, ?_⟩
        · by_cases h5 : j - 1 = K + 1
          · rw [h5]; exact hn
          · have := hlt (K + 1) (j - 1) (by omega) (by omega); omega
        · rw [Nat.add_sub_cancel]
          simp only
          by_cases h6 : (nd l K).t = t
          · rw [if_pos h6, ← h6, mixN_l (nok K hKl) (nok (K + 1) h2) hm]
          · rw [if_neg h6, tnode_mix (nok K hKl) (nok (K + 1) h2) hKt (by omega) hm]
      · have hKe : K = l.length - 1 := by omega
        have hm := hlt (K - 1) K (by omega) hKl
        have h6 : (nd l K).t = t := by rw [← hKe] at t1; omega
        refine ⟨K, by omega, hKl, by omega, by omega, fun j h3 h4 => by omega, ?_⟩
        simp only
        rw [if_pos h6, ← h6, mixN_r (nok (K - 1) (by omega)) (nok K hKl) hm]
  generalize (tat l t).1 = R at hres
  refine pcall_some.2 (call_plain e55 rfl (Nat.le_of_ble_eq_true rfl) (by rfl) ?_)
  simp (config := {maxSteps := 4000000}) only [c55, hlen, wl, SS, bne_self_eq_false, wr_def, obOf, List.all_cons, List.all_nil, List.map_cons, List.map_nil, List.length_cons, List.length_nil, List.take_zero, List.take_succ_cons, List.take_nil, List.drop_zero, List.drop_succ_cons, List.drop_nil, Nat.reduceAdd, Nat.reduceMul, Nat.reduceSub, if_true, Nat.reduceLT, Nat.reduceLeDiff, ite_true, ite_false, Nat.reduceEqDiff, if_false, reduceCtorEq, ne_eq, List.getD, List.getElem?_cons_zero, List.getElem?_cons_succ, Option.getD_some, Option.bind_some, Option.map_some, Option.isSome_some, reduceIte, List.length_append, List.append_assoc, List.cons_append, List.nil_append, Option.some.injEq, forall_const, implies_true, Int.reduceNeg, eq_self, Prod.mk.injEq, List.self_eq_append_right, List.append_nil, exists_eq_left, exists_eq_left', exists_and_left, exists_eq_right, exists_and_right]
  refine W_loop (fun q f1 h1 => ∃ k : Nat, q = k ∧ k ≤ l.length - 1 ∧ f1 0 = V ∧ f1 1 = .int .i64 t ∧ f1 4 = .ptr H.length 0 0 ∧ f1 5 = .int .i64 (k : Int) ∧ SlL h1 V Nd.c 6 l ∧ rdObj h1 H.length 0 = some ⟨Nd.zero.c, 0, 0, true, true⟩ ∧ ((l.length = 1 ∧ R = nd l 0) ∨ (2 ≤ l.length ∧ ∃ k0, 1 ≤ k0 ∧ k0 ≤ k ∧ (nd l (k0 - 1)).t ≤ t ∧ t ≤ (nd l k0).t ∧ (∀ j, k0 < j → j < l.length → t < (nd l (j - 1)).t) ∧ R = mixN (nd l (k0 - 1)) (nd l k0) t))) (by simp) _ ⟨l.length - 1, rfl, Nat.le_refl _, rfl, rfl, rfl, rfl, hs.keep _, rd_last (o := ⟨Nd.zero.c, 0, 0, true, true⟩), ?_⟩ ?_
  · rcases hres with h | ⟨h, k, h1, h2, h3⟩
    · exact Or.inl h
    · exact Or.inr ⟨h, k, h1, Nat.le_sub_one_of_lt h2, h3⟩
  clear hres
  rintro q f1 h1 hn1 ht1 ⟨k, hq, hk, e0, e1, e4, e5, S, RR, hres⟩
  have RR' := fun o => rd_keep (l := o) RR
  have hHl := rd_lt RR
  simp only [Nd.c, Nd.zero] at RR RR'
  by_cases hk0 : k = 0
  · subst hk0
    have b1 : decide ((0 : Int) < ((0 : Nat) : Int)) = false := rfl
    rcases hres with ⟨_, rfl⟩ | ⟨_, k0, h2, h3, _⟩
    rotate_left
    · omega
    have ok0 : idxOk 6 V (.int .i64 0) := S.ok (by omega) (by omega)
    have ld0 : ldnA 6 h1 (idxV 6 V (.int .i64 0)) = some (.agg (nd l 0).c) := S.ldn (x := nd l 0) (by omega) (nd_get hpos)
    simp only [Nd.c] at ld0
    simp (config := {maxSteps := 4000000}) only [e0, e1, e4, e5, b1, ok0, isPtr_idx ok0, ld0, RR, rd_put_same RR, Nat.le_refl, SS, bne_self_eq_false, wr_def, obOf, List.all_cons, List.all_nil, List.map_cons, List.map_nil, List.length_cons, List.length_nil, List.take_zero, List.take_succ_cons, List.take_nil, List.drop_zero, List.drop_succ_cons, List.drop_nil, Nat.reduceAdd, Nat.reduceMul, Nat.reduceSub, if_true, Nat.reduceLT, Nat.reduceLeDiff, ite_true, ite_false, Nat.reduceEqDiff, if_false, reduceCtorEq, ne_eq, List.getD, List.getElem?_cons_zero, List.getElem?_cons_succ, Option.getD_some, Option.bind_some, Option.map_some, Option.isSome_some, reduceIte, List.length_append, List.append_assoc, List.cons_append, List.nil_append, Option.some.injEq, forall_const, implies_true, Int.reduceNeg, eq_self, Prod.mk.injEq, List.self_eq_append_right, List.append_nil, exists_eq_left, exists_eq_left', exists_and_left, exists_eq_right, exists_and_right]
    rfl
  have b1 : decide ((0 : Int) < (k : Int)) = true := decide_eq_true (by omega)
  have wk : IntKind.i64.wrap ((k : Int) - 1) = ((k - 1 : Nat) : Int) := by rw [wrap64 (by omega) (by omega)]; omega
  rcases hres with ⟨h, _⟩ | ⟨_, k0, g1, g2, g3, g4, g5, g6⟩
  · omega
  have oka : idxOk 6 V (.int .i64 ((k - 1 : Nat) : Int)) := S.ok (by omega) (by omega)
  have okb : idxOk 6 V (.int .i64 (k : Int)) := S.ok (by omega) (by omega)
  have lda : ldnA 6 h1 (idxV 6 V (.int .i64 ((k - 1 : Nat) : Int))) = some (.agg (nd l (k - 1)).c) := S.ldn (x := nd l (k - 1)) (by omega) (by rw [Int.toNat_natCast]; exact nd_get (by omega))
  have ldb : ldnA 6 h1 (idxV 6 V (.int .i64 (k : Int))) = some (.agg (nd l k).c) := S.ldn (x := nd l k) (by omega) (by rw [Int.toNat_natCast]; exact nd_get (by omega))
  have ap := apart_sl S (kk := .i64) (i := (k : Int)) (m := h1.length) (Nat.le_refl _) (by omega)
  by_cases hkk : k = k0
  rotate_left
  · have ht2 := g5 k (by omega) (by omega)
    have b2 : decide ((nd l k).t < t) = false := decide_eq_false (by have := hlt (k - 1) k (by omega) (by omega); omega)
    have b3 : decide (t < (nd l (k - 1)).t) = true := decide_eq_true ht2
    simp only [Nd.c] at lda ldb
    simp (config := {maxSteps := 8000000}) only [e0, e1, e4, e5, b1, wk, oka, okb, isPtr_idx oka, isPtr_idx okb, lda, ldb, ap, b2, b3, hn1, fad_fad, isPtr_fad, SS, bne_self_eq_false, wr_def, obOf, List.all_cons, List.all_nil, List.map_cons, List.map_nil, List.length_cons, List.length_nil, List.take_zero, List.take_succ_cons, List.take_nil, List.drop_zero, List.drop_succ_cons, List.drop_nil, Nat.reduceAdd, Nat.reduceMul, Nat.reduceSub, if_true, Nat.reduceLT, Nat.reduceLeDiff, ite_true, ite_false, Nat.reduceEqDiff, if_false, reduceCtorEq, ne_eq, List.getD, List.getElem?_cons_zero, List.getElem?_cons_succ, Option.getD_some, Option.bind_some, Option.map_some, Option.isSome_some, reduceIte, List.length_append, List.append_assoc, List.cons_append, List.nil_append, Option.some.injEq, forall_const, implies_true, Int.reduceNeg, eq_self, Prod.mk.injEq, List.self_eq_append_right, List.append_nil, exists_eq_left, exists_eq_left', exists_and_left, exists_eq_right, exists_and_right]
    exact ⟨k - 1, by omega, by omega, rfl, S.keep _, RR' _, Or.inr ⟨by omega, k0, g1, by omega, g3, g4, g5, g6⟩⟩
  subst hkk
  have b2 : decide ((nd l k).t < t) = false := decide_eq_false (by omega)
  have b3 : decide (t < (nd l (k - 1)).t) = false := decide_eq_false (by omega)
  have hm := hlt (k - 1) k (by omega) (by omega)
  have na := nok (k - 1) (by omega)
  have nb := nok k (by omega)
  have := na.x0; have := na.x1; have := na.y0; have := na.y1; have := na.h0; have := na.h1; have := na.r0; have := na.r1; have := na.b0; have := na.b1; have := na.t0; have := na.t1
  have := nb.x0; have := nb.x1; have := nb.y0; have := nb.y1; have := nb.h0; have := nb.h1; have := nb.r0; have := nb.r1; have := nb.b0; have := nb.b1; have := nb.t0; have := nb.t1
  have wn : IntKind.i64.wrap (t - (nd l (k - 1)).t) = t - (nd l (k - 1)).t := wrap64 (by omega) (by omega)
  have wd : IntKind.i64.wrap ((nd l k).t - (nd l (k - 1)).t) = (nd l k).t - (nd l (k - 1)).t := wrap64 (by omega) (by omega)
  have m1 := fun H => mix_pc (a := (nd l (k - 1)).x) (b := (nd l k).x) (n := t - (nd l (k - 1)).t) (d := (nd l k).t - (nd l (k - 1)).t) (by omega) (by omega) (by omega) (by omega) (by omega) (by omega) (by omega) (by omega) H
  have m2 := fun H => mix_pc (a := (nd l (k - 1)).y) (b := (nd l k).y) (n := t - (nd l (k - 1)).t) (d := (nd l k).t - (nd l (k - 1)).t) (by omega) (by omega) (by omega) (by omega) (by omega) (by omega) (by omega) (by omega) H
  have m3 := fun H => mix_pc (a := (nd l (k - 1)).h) (b := (nd l k).h) (n := t - (nd l (k - 1)).t) (d := (nd l k).t - (nd l (k - 1)).t) (by omega) (by omega) (by omega) (by omega) (by omega) (by omega) (by omega) (by omega) H
  have m4 := fun H => mixup_pc (a := (nd l (k - 1)).r) (b := (nd l k).r) (n := t - (nd l (k - 1)).t) (d := (nd l k).t - (nd l (k - 1)).t) (by omega) (by omega) (by omega) (by omega) (by omega) (by omega) (by omega) (by omega) H
  have m5 := fun H => mixup_pc (a := (nd l (k - 1)).b) (b := (nd l k).b) (n := t - (nd l (k - 1)).t) (d := (nd l k).t - (nd l (k - 1)).t) (by omega) (by omega) (by omega) (by omega) (by omega) (by omega) (by omega) (by omega) H
  rw [g6]
  simp only [Nd.c] at lda ldb
  simp (config := {maxSteps := 8000000}) only [e0, e1, e4, e5, b1, wk, oka, okb, isPtr_idx oka, isPtr_idx okb, lda, ldb, ap, b2, b3, wn, wd, m1, m2, m3, m4, m5, RR', rd_put_same (RR' _), hn1, Nat.le_refl, fad_fad, isPtr_fad, SS, bne_self_eq_false, wr_def, obOf, List.all_cons, List.all_nil, List.map_cons, List.map_nil, List.length_cons, List.length_nil, List.take_zero, List.take_succ_cons, List.take_nil, List.drop_zero, List.drop_succ_cons, List.drop_nil, Nat.reduceAdd, Nat.reduceMul, Nat.reduceSub, if_true, Nat.reduceLT, Nat.reduceLeDiff, ite_true, ite_false, Nat.reduceEqDiff, if_false, reduceCtorEq, ne_eq, List.getD, List.getElem?_cons_zero, List.getElem?_cons_succ, Option.getD_some, Option.bind_some, Option.map_some, Option.isSome_some, reduceIte, List.length_append, List.append_assoc, List.cons_append, List.nil_append, Option.some.injEq, forall_const, implies_true, Int.reduceNeg, eq_self, Prod.mk.injEq, List.self_eq_append_right, List.append_nil, exists_eq_left, exists_eq_left', exists_and_left, exists_eq_right, exists_and_right]
  rfl
end Go.Proofs.Ytaekgifbehoipaa.Pb
/- Separated nodes: the program's answer is the reference's. Conditions stand in each lemma. -/
namespace Go.Proofs.Ytaekgifbehoipaa.Pb
open Go Go.Proofs.Ytaekgifbehoipaa.Eva Go.Proofs.Ytaekgifbehoipaa.CodeAll Go.Proofs.Ytaekgifbehoipaa.Fl
set_option linter.unusedVariables false
set_option linter.unusedSimpArgs false
set_option maxRecDepth 10000
set_option maxHeartbeats 4000000

/-- A separation. -/
structure Se where
  (la ve : Int)
def Se.c (s : Se) : List AV := [.int .i64 s.la, .int .i64 s.ve]
def Se.chk (s : Se) : Int := if (decide (s.la < 0) || decide (1000000 < s.la) || decide (s.ve < 0) || decide (60000 < s.ve)) then 4 else 0
theorem sep_pc (la ve : Int) (H : List Ob) : pcall E 17 [.agg [.int .i64 la, .int .i64 ve]] H = some (.int .i64 (Se.chk ⟨la, ve⟩)) := by
  refine pcall_some.2 (call_plain e17 rfl (Nat.le_of_ble_eq_true rfl) rfl ?_)
  generalize hv : AV.int .i64 (Se.chk ⟨la, ve⟩) = v
  simp (config := {maxSteps := 4000000}) only [c17, SS, bne_self_eq_false, wr_def, obOf, List.all_cons, List.all_nil, List.map_cons, List.map_nil, List.length_cons, List.length_nil, List.take_zero, List.take_succ_cons, List.take_nil, List.drop_zero, List.drop_succ_cons, List.drop_nil, Nat.reduceAdd, Nat.reduceMul, Nat.reduceSub, if_true, Nat.reduceLT, Nat.reduceLeDiff, ite_true, ite_false, Nat.reduceEqDiff, if_false, reduceCtorEq, ne_eq, List.getD, List.getElem?_cons_zero, List.getElem?_cons_succ, Option.getD_some, Option.bind_some, Option.map_some, Option.isSome_some, reduceIte, List.length_append, List.append_assoc, List.cons_append, List.nil_append, Option.some.injEq, forall_const, implies_true, Int.reduceNeg, eq_self, Prod.mk.injEq, List.self_eq_append_right, List.append_nil, exists_eq_left, exists_eq_left', exists_and_left, exists_eq_right, exists_and_right]
  simp only [join_ite]
  subst hv
  unfold Se.chk
  simp only [apply_ite (AV.int .i64)]
theorem se_ok {s : Se} (h : s.chk = 0) : 0 ≤ s.la ∧ s.la ≤ 1000000 ∧ 0 ≤ s.ve ∧ s.ve ≤ 60000 := by
  unfold Se.chk at h
  split at h
  · omega
  · rename_i hc
    simp only [Bool.or_eq_true, decide_eq_true_eq] at hc
    omega
/-- The squared distance. -/
def dsq (a b : Nd) : Int := (a.x - b.x) * (a.x - b.x) + (a.y - b.y) * (a.y - b.y)
/-- Are two nodes apart? -/
def apt (s : Se) (a b : Nd) : Bool := decide ((s.la + a.r + b.r) * (s.la + a.r + b.r) ≤ dsq a b) || decide (s.ve + a.b + b.b ≤ ((a.h - b.h).natAbs : Int))
theorem mul_self_nn (u : Int) : 0 ≤ u * u := by
  rcases Int.le_total 0 u with h | h
  · exact Int.mul_nonneg h h
  · rw [← Int.neg_mul_neg]; exact Int.mul_nonneg (by omega) (by omega)
theorem sq_bd {u m : Int} (h1 : -m ≤ u) (h2 : u ≤ m) (h0 : 0 ≤ m) : 0 ≤ u * u ∧ u * u ≤ m * m := by
  refine ⟨mul_self_nn u, ?_⟩
  rcases Int.le_total 0 u with h | h
  · exact Int.mul_le_mul h2 h2 h h0
  · rw [← Int.neg_mul_neg]
    exact Int.mul_le_mul (by omega) (by omega) (by omega) h0
theorem dsq_bd {a b : Nd} (oa : a.Ok) (ob : b.Ok) : 0 ≤ dsq a b ∧ dsq a b ≤ 8000000000000 ∧ sqr a.x a.y b.x b.y = dsq a b ∧ rsq a.x a.y b.x b.y = dsq a b := by
  have := oa.x0; have := oa.x1; have := oa.y0; have := oa.y1
  have := ob.x0; have := ob.x1; have := ob.y0; have := ob.y1
  obtain ⟨p0, p1⟩ := sq_bd (u := a.x - b.x) (m := 2000000) (by omega) (by omega) (by omega)
  obtain ⟨q0, q1⟩ := sq_bd (u := a.y - b.y) (m := 2000000) (by omega) (by omega) (by omega)
  have e1 : w (a.x - b.x) = a.x - b.x := w_id (by omega) (by omega)
  have e2 : w (a.y - b.y) = a.y - b.y := w_id (by omega) (by omega)
  have e3 : w ((a.x - b.x) * (a.x - b.x)) = (a.x - b.x) * (a.x - b.x) := w_id (by omega) (by omega)
  have e4 : w ((a.y - b.y) * (a.y - b.y)) = (a.y - b.y) * (a.y - b.y) := w_id (by omega) (by omega)
  have e5 : w ((a.x - b.x) * (a.x - b.x) + (a.y - b.y) * (a.y - b.y)) = (a.x - b.x) * (a.x - b.x) + (a.y - b.y) * (a.y - b.y) := w_id (by omega) (by omega)
  refine ⟨by unfold dsq; omega, by unfold dsq; omega, ?_, ?_⟩
  · unfold sqr dot dsq
    rw [e1, e2, e3, e4, e5]
  · unfold rsq dsq
    rw [e1, e2, e3, e4, e5]
theorem apt_pc {s : Se} {a b : Nd} (hs : s.chk = 0) (oa : a.Ok) (ob : b.Ok) (H : List Ob) : pcall E 54 [.agg a.c, .agg b.c, .agg s.c] H = some (.bool (apt s a b)) := by
  refine pcall_some.2 (call_plain e54 rfl (Nat.le_of_ble_eq_true rfl) rfl ?_)
  have := oa.h0; have := oa.h1; have := oa.r0; have := oa.r1; have := oa.b0; have := oa.b1
  have := ob.h0; have := ob.h1; have := ob.r0; have := ob.r1; have := ob.b0; have := ob.b1
  have := se_ok hs
  obtain ⟨d0, d1, -, d3⟩ := dsq_bd oa ob
  have r1 := fun H => rsq_pc a.x a.y b.x b.y H
  rw [d3] at r1
  have x1 : IntKind.i64.wrap (s.la + a.r) = s.la + a.r := wrap64 (by omega) (by omega)
  have x2 : IntKind.i64.wrap (s.la + a.r + b.r) = s.la + a.r + b.r := wrap64 (by omega) (by omega)
  obtain ⟨q0, q1⟩ := sq_bd (u := s.la + a.r + b.r) (m := 3000000) (by omega) (by omega) (by omega)
  have x3 : IntKind.i64.wrap ((s.la + a.r + b.r) * (s.la + a.r + b.r)) = (s.la + a.r + b.r) * (s.la + a.r + b.r) := wrap64 (by omega) (by omega)
  have x4 : IntKind.i64.wrap (a.h - b.h) = a.h - b.h := wrap64 (by omega) (by omega)
  have x5 : IntKind.i64.wrap (s.ve + a.b) = s.ve + a.b := wrap64 (by omega) (by omega)
  have x6 : IntKind.i64.wrap (s.ve + a.b + b.b) = s.ve + a.b + b.b := wrap64 (by omega) (by omega)
  have ha := fun H => abs_pc (a := a.h - b.h) (by omega) (by omega) H
  unfold apt
  cases c1 : decide ((s.la + a.r + b.r) * (s.la + a.r + b.r) ≤ dsq a b)
  · simp (config := {maxSteps := 8000000}) only [c54, Nd.c, Se.c, r1, x1, x2, x3, x4, x5, x6, ha, c1, SS, bne_self_eq_false, wr_def, obOf, List.all_cons, List.all_nil, List.map_cons, List.map_nil, List.length_cons, List.length_nil, List.take_zero, List.take_succ_cons, List.take_nil, List.drop_zero, List.drop_succ_cons, List.drop_nil, Nat.reduceAdd, Nat.reduceMul, Nat.reduceSub, if_true, Nat.reduceLT, Nat.reduceLeDiff, ite_true, ite_false, Nat.reduceEqDiff, if_false, reduceCtorEq, ne_eq, List.getD, List.getElem?_cons_zero, List.getElem?_cons_succ, Option.getD_some, Option.bind_some, Option.map_some, Option.isSome_some, reduceIte, List.length_append, List.append_assoc, List.cons_append, List.nil_append, Option.some.injEq, forall_const, implies_true, Int.reduceNeg, eq_self, Prod.mk.injEq, List.self_eq_append_right, List.append_nil, exists_eq_left, exists_eq_left', exists_and_left, exists_eq_right, exists_and_right]
  · simp (config := {maxSteps := 8000000}) only [c54, Nd.c, Se.c, r1, x1, x2, x3, x4, x5, x6, ha, c1, SS, bne_self_eq_false, wr_def, obOf, List.all_cons, List.all_nil, List.map_cons, List.map_nil, List.length_cons, List.length_nil, List.take_zero, List.take_succ_cons, List.take_nil, List.drop_zero, List.drop_succ_cons, List.drop_nil, Nat.reduceAdd, Nat.reduceMul, Nat.reduceSub, if_true, Nat.reduceLT, Nat.reduceLeDiff, ite_true, ite_false, Nat.reduceEqDiff, if_false, reduceCtorEq, ne_eq, List.getD, List.getElem?_cons_zero, List.getElem?_cons_succ, Option.getD_some, Option.bind_some, Option.map_some, Option.isSome_some, reduceIte, List.length_append, List.append_assoc, List.cons_append, List.nil_append, Option.some.injEq, forall_const, implies_true, Int.reduceNeg, eq_self, Prod.mk.injEq, List.self_eq_append_right, List.append_nil, exists_eq_left, exists_eq_left', exists_and_left, exists_eq_right, exists_and_right]
theorem rt_ge {n r m : Int} (h : IsRt n r) (hn : 0 ≤ n) (hm : 0 ≤ m) : m ≤ r ↔ m * m ≤ n := by
  rcases h with ⟨h1, rfl⟩ | ⟨h1, h2, h3, h4⟩
  · have : n = 0 := by omega
    subst this
    constructor
    · intro h
      have : m = 0 := by omega
      subst this; decide
    · intro h
      by_cases h0 : m = 0
      · omega
      · have := Int.mul_pos (show 0 < m by omega) (show 0 < m by omega)
        omega
  · constructor
    · intro h
      have := sq_mono hm h
      omega
    · intro h
      by_cases hc : m ≤ r
      · exact hc
      · exfalso
        have := sq_mono (show 0 ≤ r + 1 by omega) (show r + 1 ≤ m by omega)
        omega
theorem rt_bd {n r : Int} (h : IsRt n r) (hn : n ≤ 8000000000000) : 0 ≤ r ∧ r ≤ 3000000 := by
  rcases h with ⟨h1, rfl⟩ | ⟨h1, h2, h3, h4⟩
  · omega
  · refine ⟨h2, ?_⟩
    by_cases hc : r ≤ 3000000
    · exact hc
    · exfalso
      have := sq_mono (show (0 : Int) ≤ 3000000 by omega) (show 3000000 ≤ r by omega)
      omega
theorem sepd_pc {s : Se} {a b : Nd} (hs : s.chk = 0) (oa : a.Ok) (ob : b.Ok) (H : List Ob) : pcall E 92 [.agg a.c, .agg b.c, .agg s.c] H = some (.bool (apt s a b)) := by
  have := oa.h0; have := oa.h1; have := oa.r0; have := oa.r1; have := oa.b0; have := oa.b1
  have := ob.h0; have := ob.h1; have := ob.r0; have := ob.r1; have := ob.b0; have := ob.b1
  have := se_ok hs
  obtain ⟨d0, d1, d2, -⟩ := dsq_bd oa ob
  have hrt := rt_spec (dsq a b)
  obtain ⟨r0, r1⟩ := rt_bd hrt d1
  have hge := rt_ge (m := s.la + a.r + b.r) hrt d0 (by omega)
  have hdist := fun H => distance_pc d2 (by omega) H
  have hd1 : (dist (dsq a b)).1 = rt (dsq a b) := by unfold dist; split <;> rfl
  have surp : ∀ H, pcall E 113 [.agg a.c, .agg b.c] H = some (.int .i64 (rt (dsq a b) - a.r - b.r)) := fun H => by
    refine pcall_some.2 (call_plain e113 rfl (Nat.le_of_ble_eq_true rfl) rfl ?_)
    rw [hd1] at hdist
    generalize rt (dsq a b) = R at *
    have y1 : IntKind.i64.wrap (R - a.r) = R - a.r := wrap64 (by omega) (by omega)
    have y2 : IntKind.i64.wrap (R - a.r - b.r) = R - a.r - b.r := wrap64 (by omega) (by omega)
    simp (config := {maxSteps := 8000000}) only [c113, Nd.c, hdist, y1, y2, SS, bne_self_eq_false, wr_def, obOf, List.all_cons, List.all_nil, List.map_cons, List.map_nil, List.length_cons, List.length_nil, List.take_zero, List.take_succ_cons, List.take_nil, List.drop_zero, List.drop_succ_cons, List.drop_nil, Nat.reduceAdd, Nat.reduceMul, Nat.reduceSub, if_true, Nat.reduceLT, Nat.reduceLeDiff, ite_true, ite_false, Nat.reduceEqDiff, if_false, reduceCtorEq, ne_eq, List.getD, List.getElem?_cons_zero, List.getElem?_cons_succ, Option.getD_some, Option.bind_some, Option.map_some, Option.isSome_some, reduceIte, List.length_append, List.append_assoc, List.cons_append, List.nil_append, Option.some.injEq, forall_const, implies_true, Int.reduceNeg, eq_self, Prod.mk.injEq, List.self_eq_append_right, List.append_nil, exists_eq_left, exists_eq_left', exists_and_left, exists_eq_right, exists_and_right]
  refine pcall_some.2 (call_plain e92 rfl (Nat.le_of_ble_eq_true rfl) rfl ?_)
  generalize rt (dsq a b) = R at *
  have x1 : IntKind.i64.wrap (a.h - b.h) = a.h - b.h := wrap64 (by omega) (by omega)
  have x2 : IntKind.i64.wrap (b.h - a.h) = b.h - a.h := wrap64 (by omega) (by omega)
  obtain ⟨M, hM⟩ : ∃ M, max (a.h - b.h) (b.h - a.h) = M := ⟨_, rfl⟩
  have hM2 : M = ((a.h - b.h).natAbs : Int) := by omega
  have x3 : IntKind.i64.wrap (M - a.b) = M - a.b := wrap64 (by omega) (by omega)
  have x4 : IntKind.i64.wrap (M - a.b - b.b) = M - a.b - b.b := wrap64 (by omega) (by omega)
  have e1 : decide (s.ve + a.b + b.b ≤ ((a.h - b.h).natAbs : Int)) = decide (s.ve ≤ M - a.b - b.b) := by rw [← hM2]; exact decide_eq_decide.2 (by omega)
  have e2 : decide ((s.la + a.r + b.r) * (s.la + a.r + b.r) ≤ dsq a b) = decide (s.la ≤ R - a.r - b.r) := decide_eq_decide.2 (by rw [← hge]; omega)
  unfold apt
  rw [e1, e2, Bool.or_comm]
  simp only [Nd.c] at surp
  cases c1 : decide (s.ve ≤ M - a.b - b.b)
  · simp (config := {maxSteps := 8000000}) only [c92, Nd.c, Se.c, x1, x2, hM, x3, x4, c1, surp, SS, bne_self_eq_false, wr_def, obOf, List.all_cons, List.all_nil, List.map_cons, List.map_nil, List.length_cons, List.length_nil, List.take_zero, List.take_succ_cons, List.take_nil, List.drop_zero, List.drop_succ_cons, List.drop_nil, Nat.reduceAdd, Nat.reduceMul, Nat.reduceSub, if_true, Nat.reduceLT, Nat.reduceLeDiff, ite_true, ite_false, Nat.reduceEqDiff, if_false, reduceCtorEq, ne_eq, List.getD, List.getElem?_cons_zero, List.getElem?_cons_succ, Option.getD_some, Option.bind_some, Option.map_some, Option.isSome_some, reduceIte, List.length_append, List.append_assoc, List.cons_append, List.nil_append, Option.some.injEq, forall_const, implies_true, Int.reduceNeg, eq_self, Prod.mk.injEq, List.self_eq_append_right, List.append_nil, exists_eq_left, exists_eq_left', exists_and_left, exists_eq_right, exists_and_right]
  · simp (config := {maxSteps := 8000000}) only [c92, Nd.c, Se.c, x1, x2, hM, x3, x4, c1, surp, SS, bne_self_eq_false, wr_def, obOf, List.all_cons, List.all_nil, List.map_cons, List.map_nil, List.length_cons, List.length_nil, List.take_zero, List.take_succ_cons, List.take_nil, List.drop_zero, List.drop_succ_cons, List.drop_nil, Nat.reduceAdd, Nat.reduceMul, Nat.reduceSub, if_true, Nat.reduceLT, Nat.reduceLeDiff, ite_true, ite_false, Nat.reduceEqDiff, if_false, reduceCtorEq, ne_eq, List.getD, List.getElem?_cons_zero, List.getElem?_cons_succ, Option.getD_some, Option.bind_some, Option.map_some, Option.isSome_some, reduceIte, List.length_append, List.append_assoc, List.cons_append, List.nil_append, Option.some.injEq, forall_const, implies_true, Int.reduceNeg, eq_self, Prod.mk.injEq, List.self_eq_append_right, List.append_nil, exists_eq_left, exists_eq_left', exists_and_left, exists_eq_right, exists_and_right]
theorem point_pc {H : List Ob} {V : AV} {l : List Nd} (hs : SlL H V Nd.c 6 l) (hc : tchk l = 0) (t : Int) : pcall E 91 [V, .int .i64 t] H = some (.agg (tat l t).1.c) := by
  refine pcall_some.2 (call_plain e91 rfl (Nat.le_of_ble_eq_true rfl) rfl ?_)
  have h2 := fun x => pcall_some.2 (at_run (hs.keep x) hc t)
  generalize tat l t = R at h2 ⊢
  simp only [nout, Nd.c] at h2
  simp (config := {maxSteps := 4000000}) only [c91, h2, Nd.c, SS, bne_self_eq_false, wr_def, obOf, List.all_cons, List.all_nil, List.map_cons, List.map_nil, List.length_cons, List.length_nil, List.take_zero, List.take_succ_cons, List.take_nil, List.drop_zero, List.drop_succ_cons, List.drop_nil, Nat.reduceAdd, Nat.reduceMul, Nat.reduceSub, if_true, Nat.reduceLT, Nat.reduceLeDiff, ite_true, ite_false, Nat.reduceEqDiff, if_false, reduceCtorEq, ne_eq, List.getD, List.getElem?_cons_zero, List.getElem?_cons_succ, Option.getD_some, Option.bind_some, Option.map_some, Option.isSome_some, reduceIte, List.length_append, List.append_assoc, List.cons_append, List.nil_append, Option.some.injEq, forall_const, implies_true, Int.reduceNeg, eq_self, Prod.mk.injEq, List.self_eq_append_right, List.append_nil, exists_eq_left, exists_eq_left', exists_and_left, exists_eq_right, exists_and_right]
end Go.Proofs.Ytaekgifbehoipaa.Pb
/- Seconds and spans, plain; storing into a slice that is built. Conditions stand in each lemma. -/
namespace Go.Proofs.Ytaekgifbehoipaa.Pb
open Go Go.Proofs.Ytaekgifbehoipaa.Eva Go.Proofs.Ytaekgifbehoipaa.CodeAll Go.Proofs.Ytaekgifbehoipaa.Fl
set_option linter.unusedVariables false
set_option linter.unusedSimpArgs false
set_option maxRecDepth 10000
set_option maxHeartbeats 4000000

def secs (a b : Int) : List Int := (List.range (b - a).toNat).map (fun i : Nat => a + (i : Int))
theorem secs_nil {a b : Int} (h : b ≤ a) : secs a b = [] := by
  unfold secs
  rw [show (b - a).toNat = 0 by omega]; rfl
theorem secs_succ {a b : Int} (h : a ≤ b) : secs a (b + 1) = secs a b ++ [b] := by
  unfold secs
  rw [show (b + 1 - a).toNat = (b - a).toNat + 1 by omega, List.range_succ, List.map_append]
  congr 1
  simp only [List.map_cons, List.map_nil, List.cons.injEq, and_true]
  omega
theorem secs_len {a b : Int} : (secs a b).length = (b - a).toNat := by simp [secs]
/-- The seconds at which something holds. -/
def cl (B : Int → Bool) (a b : Int) : List Int := (secs a b).filter B
theorem cl_nil {B : Int → Bool} {a b : Int} (h : b ≤ a) : cl B a b = [] := by rw [cl, secs_nil h]; rfl
theorem cl_succ {B : Int → Bool} {a b : Int} (h : a ≤ b) : cl B a (b + 1) = cl B a b ++ (if B b = true then [b] else []) := by
  rw [cl, secs_succ h, List.filter_append, ← cl]
  by_cases hb : B b = true <;> simp [hb]
theorem cl_len {B : Int → Bool} {a b : Int} : (cl B a b).length ≤ (b - a).toNat := by
  rw [← secs_len]; exact List.length_filter_le _ _
def sc2 (p : Int × Int) : List AV := [.int .i64 p.1, .int .i64 p.2]
/-- The seconds of spans. -/
def sec : List (Int × Int) → List Int
  | [] => []
  | p :: r => secs p.1 p.2 ++ sec r
theorem sec_app (xs ys : List (Int × Int)) : sec (xs ++ ys) = sec xs ++ sec ys := by
  induction xs with
  | nil => rfl
  | cons x xs ih => simp only [List.cons_append, sec, ih, List.append_assoc]
/-- Spans that are in order, with gaps, up to a second. -/
def Spn (xs : List (Int × Int)) (t : Int) : Prop := (∀ p ∈ xs, p.1 < p.2 ∧ p.2 ≤ t) ∧ ∀ (i : Nat) p q, xs[i]? = some p → xs[i + 1]? = some q → p.2 < q.1
theorem Spn.mono {xs : List (Int × Int)} {t u : Int} (h : Spn xs t) (hu : t ≤ u) : Spn xs u := ⟨fun p hp => ⟨(h.1 p hp).1, by have := (h.1 p hp).2; omega⟩, h.2⟩
theorem Spn.add {xs : List (Int × Int)} {t : Int} (h : Spn xs t) (hl : ∀ p, xs[xs.length - 1]? = some p → p.2 ≠ t) : Spn (xs ++ [(t, t + 1)]) (t + 1) := by
  constructor
  · intro p hp
    rw [List.mem_append, List.mem_singleton] at hp
    rcases hp with hp | rfl
    · have := h.1 p hp; omega
    · simp only; omega
  · intro i p q hp hq
    have hi1 := (List.getElem?_eq_some_iff.1 hq).1
    rw [List.length_append] at hi1
    simp only [List.length_singleton] at hi1
    rw [List.getElem?_append_left (by omega)] at hp
    by_cases hi : i + 1 < xs.length
    · rw [List.getElem?_append_left hi] at hq
      exact h.2 i p q hp hq
    · have e : i + 1 = xs.length := by omega
      rw [List.getElem?_append_right (by omega), e, Nat.sub_self] at hq
      simp only [List.getElem?_cons_zero, Option.some.injEq] at hq
      subst hq
      have e2 : xs.length - 1 = i := by omega
      have h1 := hl p (by rw [e2]; exact hp)
      have := (h.1 p (List.mem_of_getElem? hp)).2
      simp only; omega
theorem Spn.ext {xs : List (Int × Int)} {a t : Int} (h : Spn (xs ++ [(a, t)]) t) : Spn (xs ++ [(a, t + 1)]) (t + 1) := by
  constructor
  · intro p hp
    rw [List.mem_append, List.mem_singleton] at hp
    rcases hp with hp | rfl
    · have := h.1 p (by simp [hp]); omega
    · have := h.1 (a, t) (by simp)
      simp only at this ⊢; omega
  · intro i p q hp hq
    have hi1 := (List.getElem?_eq_some_iff.1 hq).1
    rw [List.length_append] at hi1
    simp only [List.length_singleton] at hi1
    rw [List.getElem?_append_left (by omega)] at hp
    have hp2 : (xs ++ [(a, t)])[i]? = some p := by rw [List.getElem?_append_left (by omega)]; exact hp
    by_cases hi : i + 1 < xs.length
    · rw [List.getElem?_append_left hi] at hq
      exact h.2 i p q hp2 (by rw [List.getElem?_append_left hi]; exact hq)
    · have e : i + 1 = xs.length := by omega
      rw [List.getElem?_append_right (by omega), e, Nat.sub_self] at hq
      simp only [List.getElem?_cons_zero, Option.some.injEq] at hq
      subst hq
      exact h.2 i p (a, t) hp2 (by rw [List.getElem?_append_right (by omega), e, Nat.sub_self]; rfl)
/-- A cell of a slice that is built gets another whole number. -/
theorem isl_st {n0 : Nat} {h : List Ob} {v : AV} {sz k i f : Nat} {cs : List AV} {x : Int} (A : IsL n0 h v sz true cs k) (hi : i * sz + f < cs.length) :
    stOk n0 1 h (fadA f (idxV sz v (.int .i64 (i : Int)))) (.int .i64 x) ∧ IsL n0 (stH h (fadA f (idxV sz v (.int .i64 (i : Int)))) (.int .i64 x)) v sz true (cs.set (i * sz + f) (.int .i64 x)) k ∧
    (∀ id ep o, ¬ idOf v id → rdObj h id ep = some o → rdObj (stH h (fadA f (idxV sz v (.int .i64 (i : Int)))) (.int .i64 x)) id ep = some o) ∧ (stH h (fadA f (idxV sz v (.int .i64 (i : Int)))) (.int .i64 x)).length = h.length := by
  rcases A with ⟨rfl, rfl, _⟩ | ⟨id, ep, rfl, h2, h3, h4⟩
  · simp at hi
  have hlt := rd_lt h2
  have ep' : fadA f (idxV sz (.sl false id ep sz 0 k) (.int .i64 (i : Int))) = .ptr id ep (i * sz + f) := by
    rw [idxV_sl, fadA_ptr, Int.toNat_natCast, Nat.zero_add]
  rw [ep']
  have hw : wr cs (i * sz + f) [.int .i64 x] = cs.set (i * sz + f) (.int .i64 x) := by
    unfold wr
    split
    · rename_i hl
      have h9 : cs.length = 1 := by simpa using hl.symm
      match cs, h9 with
      | [a], _ =>
        have : i * sz + f = 0 := by simp at hi; omega
        rw [this]; rfl
    · rw [List.set_eq_take_append_cons_drop, if_pos hi]; simp
  have he : stH h (.ptr id ep (i * sz + f)) (.int .i64 x) = h.set id ⟨cs.set (i * sz + f) (.int .i64 x), ep, sz, true, true⟩ := by
    rw [stH_ptr, h2]
    simp only [putObj, cells_int, hw, List.all_cons, List.all_nil, sc_int, Bool.and_true]
  rw [he]
  refine ⟨?_, Or.inr ⟨id, ep, rfl, rd_set_same (o := ⟨cs.set (i * sz + f) (.int .i64 x), ep, sz, true, true⟩) hlt, h3, h4⟩, fun id' ep' o hne ho => ?_, by simp⟩
  · rw [stOk_ptr, h2]
    exact ⟨rfl, by simp only; omega, rfl, rfl, h3⟩
  · rw [rd_set_ne (fun e => hne ⟨rfl, e⟩)]; exact ho
theorem flat_last (xs : List (Int × Int)) (a b c : Int) : (flat sc2 (xs ++ [(a, b)])).set (xs.length * 2 + 1) (.int .i64 c) = flat sc2 (xs ++ [(a, c)]) := by
  have e : ∀ z : Int, flat sc2 (xs ++ [(a, z)]) = flat sc2 xs ++ [.int .i64 a, .int .i64 z] := fun z => by simp [flat, sc2]
  rw [e, e, List.set_append_right _ _ (by rw [flat_len (k := 2) (fun _ => rfl)]; omega), flat_len (k := 2) (fun _ => rfl)]
  rw [show xs.length * 2 + 1 - xs.length * 2 = 1 by omega]
  rfl
end Go.Proofs.Ytaekgifbehoipaa.Pb
/- What check, common, pair and Pair of the package probe answer. Conditions stand in each lemma. -/
namespace Go.Proofs.Ytaekgifbehoipaa.Pb
open Go Go.Proofs.Ytaekgifbehoipaa.Eva Go.Proofs.Ytaekgifbehoipaa.CodeAll Go.Proofs.Ytaekgifbehoipaa.Fl
set_option linter.unusedVariables false
set_option linter.unusedSimpArgs false
set_option maxRecDepth 10000
set_option maxHeartbeats 4000000

theorem call1_ex {g : Nat} {cf : CF} (hE : E g = some cf) {args : List AV} (hn : args.length = cf.np) (hnt : args.length ≤ cf.nt) {h : List Ob} {α : Type} {c : α → List AV} {sz : Nat} {P : List α → Prop}
    (hw : wc E h.length cf.nt cf.code (fun e f h' => exOk e = true ∧ ∃ v, rvq cf.nt f h' cf.res = some [v] ∧ ∃ xs : List α, IsL h.length h' v sz true (flat c xs) xs.length ∧ P xs) (ofL args) h) :
    ∃ xs, P xs ∧ ecall E g args h = some (outV h.length sz xs.length, h ++ outO sz xs.length (flat c xs), h.length, h.length) := by
  obtain ⟨e, f', h', k1, k2, ⟨k3, v, k4, xs, k5, hP⟩, k6⟩ := call_wc hE hn hnt hw
  refine ⟨xs, hP, ?_⟩
  rw [k6 _ k3 k4]
  have : fin h.length v (stt cf.nt f' h' h.length h.length) = (outV h.length sz xs.length, h'.take h.length ++ outO sz xs.length (flat c xs), h.length, h.length) := by
    rcases k5 with ⟨rfl, h1, h2⟩ | ⟨id, ep, rfl, h2, h3, h4⟩
    · rw [h1, h2]
      simp only [fin, Nat.lt_irrefl, if_false, refs, refsL, true_or, if_true, List.append_nil, dd, pickObjs, ren, renL, outV, outO]
    · have h5 : ¬ id < h.length := by omega
      have h6 : ¬ (False ∨ id < h.length) := by simp [h5]
      simp only [fin, Nat.lt_irrefl, if_false, refs, refsL, Bool.false_eq_true, if_neg h6, List.append_nil, dd, List.contains_nil, pickObjs, h2, if_true, ren, renL, outV, outO, if_neg h4]
      simp [List.idxOf, h5]
  simp only [mkRes, this, k2]
theorem sep_pc' (s : Se) (H : List Ob) : pcall E 17 [.agg s.c] H = some (.int .i64 s.chk) := sep_pc s.la s.ve H
def ckE (s : Se) (l m : List Nd) : Int := if s.chk ≠ 0 then s.chk else if tchk l ≠ 0 then tchk l else tchk m
theorem ckE_ok {s : Se} {l m : List Nd} : ckE s l m = 0 ↔ s.chk = 0 ∧ tchk l = 0 ∧ tchk m = 0 := by
  unfold ckE
  split
  · rename_i h; constructor
    · intro h2; exact absurd h2 h
    · intro h2; exact absurd h2.1 h
  · rename_i h; split
    · rename_i h3; constructor
      · intro h2; exact absurd h2 h3
      · intro h2; exact absurd h2.2.1 h3
    · rename_i h3
      exact ⟨fun h2 => ⟨by simpa using h, by simpa using h3, h2⟩, fun h2 => h2.2.2⟩
theorem check_pc {H : List Ob} {U V W : AV} {l m : List Nd} (s : Se) (hu : SlL H U avc 1 [V, W]) (hs : SlL H V Nd.c 6 l) (ht : SlL H W Nd.c 6 m) : pcall E 51 [.agg s.c, U] H = some (.int .i64 (ckE s l m)) := by
  refine pcall_some.2 (call_plain e51 rfl (Nat.le_of_ble_eq_true rfl) rfl ?_)
  have n0 : ((0 : Int) != 0) = false := rfl
  have hsep := fun H => sep_pc' s H
  have hlen := hu.len
  unfold ckE
  by_cases c0 : s.chk = 0
  rotate_left
  · have b0 : (s.chk != 0) = true := bne_iff_ne.2 c0
    rw [if_pos c0]
    generalize s.chk = q at *
    simp only [Se.c] at hsep
    simp (config := {maxSteps := 4000000}) only [c51, Se.c, hsep, b0, SS, bne_self_eq_false, wr_def, obOf, List.all_cons, List.all_nil, List.map_cons, List.map_nil, List.length_cons, List.length_nil, List.take_zero, List.take_succ_cons, List.take_nil, List.drop_zero, List.drop_succ_cons, List.drop_nil, Nat.reduceAdd, Nat.reduceMul, Nat.reduceSub, if_true, Nat.reduceLT, Nat.reduceLeDiff, ite_true, ite_false, Nat.reduceEqDiff, if_false, reduceCtorEq, ne_eq, List.getD, List.getElem?_cons_zero, List.getElem?_cons_succ, Option.getD_some, Option.bind_some, Option.map_some, Option.isSome_some, reduceIte, List.length_append, List.append_assoc, List.cons_append, List.nil_append, Option.some.injEq, forall_const, implies_true, Int.reduceNeg, eq_self, Prod.mk.injEq, List.self_eq_append_right, List.append_nil, exists_eq_left, exists_eq_left', exists_and_left, exists_eq_right, exists_and_right]
  rw [c0] at hsep
  rw [if_neg (fun h => h c0)]
  simp only [Se.c] at hsep
  simp (config := {maxSteps := 4000000}) only [c51, Se.c, hsep, n0, hlen, SS, bne_self_eq_false, wr_def, obOf, List.all_cons, List.all_nil, List.map_cons, List.map_nil, List.length_cons, List.length_nil, List.take_zero, List.take_succ_cons, List.take_nil, List.drop_zero, List.drop_succ_cons, List.drop_nil, Nat.reduceAdd, Nat.reduceMul, Nat.reduceSub, if_true, Nat.reduceLT, Nat.reduceLeDiff, ite_true, ite_false, Nat.reduceEqDiff, if_false, reduceCtorEq, ne_eq, List.getD, List.getElem?_cons_zero, List.getElem?_cons_succ, Option.getD_some, Option.bind_some, Option.map_some, Option.isSome_some, reduceIte, List.length_append, List.append_assoc, List.cons_append, List.nil_append, Option.some.injEq, forall_const, implies_true, Int.reduceNeg, eq_self, Prod.mk.injEq, List.self_eq_append_right, List.append_nil, exists_eq_left, exists_eq_left', exists_and_left, exists_eq_right, exists_and_right]
  refine W_loop (fun k f1 h1 => ∃ j : Nat, k = 2 - j ∧ j ≤ 2 ∧ f1 14 = U ∧ f1 15 = .int .i64 2 ∧ f1 16 = .int .i64 (j : Int) ∧ (0 < j → tchk l = 0) ∧ (1 < j → tchk m = 0)) (by simp) 2 ⟨0, rfl, by omega, rfl, rfl, rfl, by simp, by simp⟩ ?_
  rintro k f1 h1 hn1 htk ⟨j, rfl, hj, e14, e15, e16, q1, q2⟩
  rw [List.take_left] at htk
  have hH := take_eq htk
  generalize h1.drop H.length = z at hH
  subst hH
  by_cases hj2 : j < 2
  rotate_left
  · have b3 : decide ((j : Int) < 2) = false := decide_eq_false (by omega)
    have hm := q2 (by omega)
    have hl := q1 (by omega)
    rw [hl, hm, if_neg (fun h => h rfl)]
    simp (config := {maxSteps := 4000000}) only [e14, e15, e16, b3, SS, bne_self_eq_false, wr_def, obOf, List.all_cons, List.all_nil, List.map_cons, List.map_nil, List.length_cons, List.length_nil, List.take_zero, List.take_succ_cons, List.take_nil, List.drop_zero, List.drop_succ_cons, List.drop_nil, Nat.reduceAdd, Nat.reduceMul, Nat.reduceSub, if_true, Nat.reduceLT, Nat.reduceLeDiff, ite_true, ite_false, Nat.reduceEqDiff, if_false, reduceCtorEq, ne_eq, List.getD, List.getElem?_cons_zero, List.getElem?_cons_succ, Option.getD_some, Option.bind_some, Option.map_some, Option.isSome_some, reduceIte, List.length_append, List.append_assoc, List.cons_append, List.nil_append, Option.some.injEq, forall_const, implies_true, Int.reduceNeg, eq_self, Prod.mk.injEq, List.self_eq_append_right, List.append_nil, exists_eq_left, exists_eq_left', exists_and_left, exists_eq_right, exists_and_right]
  have b3 : decide ((j : Int) < 2) = true := decide_eq_true (by omega)
  have wj : IntKind.i64.wrap ((j : Int) + 1) = ((j + 1 : Nat) : Int) := by rw [wrap64 (by omega) (by omega)]; omega
  have ok : idxOk 1 U (.int .i64 (j : Int)) := hu.ok (by omega) (by simp; omega)
  by_cases h0 : j = 0
  · subst h0
    have ld : ld1A (H ++ z) (idxV 1 U (.int .i64 ((0 : Nat) : Int))) = some V := by rw [(hu.keep z).ld0 (x := V) (by omega) (by rfl)]; rfl
    have htc := tchk_pc (hs.keep z)
    by_cases hl : tchk l = 0
    · rw [hl] at htc
      simp (config := {maxSteps := 4000000}) only [e14, e15, e16, b3, wj, ok, isPtr_idx ok, ld, htc, n0, SS, bne_self_eq_false, wr_def, obOf, List.all_cons, List.all_nil, List.map_cons, List.map_nil, List.length_cons, List.length_nil, List.take_zero, List.take_succ_cons, List.take_nil, List.drop_zero, List.drop_succ_cons, List.drop_nil, Nat.reduceAdd, Nat.reduceMul, Nat.reduceSub, if_true, Nat.reduceLT, Nat.reduceLeDiff, ite_true, ite_false, Nat.reduceEqDiff, if_false, reduceCtorEq, ne_eq, List.getD, List.getElem?_cons_zero, List.getElem?_cons_succ, Option.getD_some, Option.bind_some, Option.map_some, Option.isSome_some, reduceIte, List.length_append, List.append_assoc, List.cons_append, List.nil_append, Option.some.injEq, forall_const, implies_true, Int.reduceNeg, eq_self, Prod.mk.injEq, List.self_eq_append_right, List.append_nil, exists_eq_left, exists_eq_left', exists_and_left, exists_eq_right, exists_and_right]
      exact ⟨_, by omega, 1, rfl, by omega, rfl, fun _ => hl, fun h => by omega⟩
    · have b1 : (tchk l != 0) = true := bne_iff_ne.2 hl
      rw [if_pos hl]
      simp (config := {maxSteps := 4000000}) only [e14, e15, e16, b3, wj, ok, isPtr_idx ok, ld, htc, b1, SS, bne_self_eq_false, wr_def, obOf, List.all_cons, List.all_nil, List.map_cons, List.map_nil, List.length_cons, List.length_nil, List.take_zero, List.take_succ_cons, List.take_nil, List.drop_zero, List.drop_succ_cons, List.drop_nil, Nat.reduceAdd, Nat.reduceMul, Nat.reduceSub, if_true, Nat.reduceLT, Nat.reduceLeDiff, ite_true, ite_false, Nat.reduceEqDiff, if_false, reduceCtorEq, ne_eq, List.getD, List.getElem?_cons_zero, List.getElem?_cons_succ, Option.getD_some, Option.bind_some, Option.map_some, Option.isSome_some, reduceIte, List.length_append, List.append_assoc, List.cons_append, List.nil_append, Option.some.injEq, forall_const, implies_true, Int.reduceNeg, eq_self, Prod.mk.injEq, List.self_eq_append_right, List.append_nil, exists_eq_left, exists_eq_left', exists_and_left, exists_eq_right, exists_and_right]
  · have : j = 1 := by omega
    subst this
    have hl := q1 (by omega)
    rw [hl, if_neg (fun h => h rfl)]
    have ld : ld1A (H ++ z) (idxV 1 U (.int .i64 ((1 : Nat) : Int))) = some W := by rw [(hu.keep z).ld0 (x := W) (by omega) (by rfl)]; rfl
    have htc := tchk_pc (ht.keep z)
    by_cases hm : tchk m = 0
    · rw [hm] at htc ⊢
      simp (config := {maxSteps := 4000000}) only [e14, e15, e16, b3, wj, ok, isPtr_idx ok, ld, htc, n0, SS, bne_self_eq_false, wr_def, obOf, List.all_cons, List.all_nil, List.map_cons, List.map_nil, List.length_cons, List.length_nil, List.take_zero, List.take_succ_cons, List.take_nil, List.drop_zero, List.drop_succ_cons, List.drop_nil, Nat.reduceAdd, Nat.reduceMul, Nat.reduceSub, if_true, Nat.reduceLT, Nat.reduceLeDiff, ite_true, ite_false, Nat.reduceEqDiff, if_false, reduceCtorEq, ne_eq, List.getD, List.getElem?_cons_zero, List.getElem?_cons_succ, Option.getD_some, Option.bind_some, Option.map_some, Option.isSome_some, reduceIte, List.length_append, List.append_assoc, List.cons_append, List.nil_append, Option.some.injEq, forall_const, implies_true, Int.reduceNeg, eq_self, Prod.mk.injEq, List.self_eq_append_right, List.append_nil, exists_eq_left, exists_eq_left', exists_and_left, exists_eq_right, exists_and_right]
      exact ⟨_, by omega, 2, rfl, by omega, rfl⟩
    · have b1 : (tchk m != 0) = true := bne_iff_ne.2 hm
      simp (config := {maxSteps := 4000000}) only [e14, e15, e16, b3, wj, ok, isPtr_idx ok, ld, htc, b1, SS, bne_self_eq_false, wr_def, obOf, List.all_cons, List.all_nil, List.map_cons, List.map_nil, List.length_cons, List.length_nil, List.take_zero, List.take_succ_cons, List.take_nil, List.drop_zero, List.drop_succ_cons, List.drop_nil, Nat.reduceAdd, Nat.reduceMul, Nat.reduceSub, if_true, Nat.reduceLT, Nat.reduceLeDiff, ite_true, ite_false, Nat.reduceEqDiff, if_false, reduceCtorEq, ne_eq, List.getD, List.getElem?_cons_zero, List.getElem?_cons_succ, Option.getD_some, Option.bind_some, Option.map_some, Option.isSome_some, reduceIte, List.length_append, List.append_assoc, List.cons_append, List.nil_append, Option.some.injEq, forall_const, implies_true, Int.reduceNeg, eq_self, Prod.mk.injEq, List.self_eq_append_right, List.append_nil, exists_eq_left, exists_eq_left', exists_and_left, exists_eq_right, exists_and_right]
/-- The first and the last second of both. -/
def cFrom (l m : List Nd) : Int := max (nd l 0).t (nd m 0).t
def cTo (l m : List Nd) : Int := min (nd l (l.length - 1)).t (nd m (m.length - 1)).t
theorem common_pc {H : List Ob} {V W : AV} {l m : List Nd} (hs : SlL H V Nd.c 6 l) (ht : SlL H W Nd.c 6 m) (h1 : tchk l = 0) (h2 : tchk m = 0) : pcall E 90 [V, W] H = some (.tup [.int .i64 (cFrom l m), .int .i64 (cTo l m)]) := by
  refine pcall_some.2 (call_plain e90 rfl (Nat.le_of_ble_eq_true rfl) rfl ?_)
  have p1 : 0 < l.length := List.length_pos_iff.2 (tchk_ne h1)
  have p2 : 0 < m.length := List.length_pos_iff.2 (tchk_ne h2)
  have g1 := tchk_len h1
  have g2 := tchk_len h2
  have l1 := hs.len
  have l2 := ht.len
  have w1 : IntKind.i64.wrap ((l.length : Int) - 1) = ((l.length - 1 : Nat) : Int) := by rw [wrap64 (by omega) (by omega)]; omega
  have w2 : IntKind.i64.wrap ((m.length : Int) - 1) = ((m.length - 1 : Nat) : Int) := by rw [wrap64 (by omega) (by omega)]; omega
  have o1 : idxOk 6 V (.int .i64 0) := hs.ok (by omega) (by omega)
  have o2 : idxOk 6 W (.int .i64 0) := ht.ok (by omega) (by omega)
  have o3 : idxOk 6 V (.int .i64 ((l.length - 1 : Nat) : Int)) := hs.ok (by omega) (by omega)
  have o4 : idxOk 6 W (.int .i64 ((m.length - 1 : Nat) : Int)) := ht.ok (by omega) (by omega)
  have d1 : ld1A H (fadA (0 + 0) (idxV 6 V (.int .i64 0))) = _ := hs.ldc (i := 0) (x := nd l 0) (by omega) (nd_get p1) (by decide)
  have d2 : ld1A H (fadA (0 + 0) (idxV 6 W (.int .i64 0))) = _ := ht.ldc (i := 0) (x := nd m 0) (by omega) (nd_get p2) (by decide)
  have d3 : ld1A H (fadA (0 + 0) (idxV 6 V (.int .i64 ((l.length - 1 : Nat) : Int)))) = _ := hs.ldc (x := nd l (l.length - 1)) (by omega) (by rw [Int.toNat_natCast]; exact nd_get (by omega)) (by decide)
  have d4 : ld1A H (fadA (0 + 0) (idxV 6 W (.int .i64 ((m.length - 1 : Nat) : Int)))) = _ := ht.ldc (x := nd m (m.length - 1)) (by omega) (by rw [Int.toNat_natCast]; exact nd_get (by omega)) (by decide)
  simp only [Nd.c, Nat.add_zero] at d1 d2 d3 d4
  simp (config := {maxSteps := 4000000}) only [c90, cFrom, cTo, l1, l2, w1, w2, o1, o2, o3, o4, isPtr_idx o1, isPtr_idx o2, isPtr_idx o3, isPtr_idx o4, d1, d2, d3, d4, fad_fad, isPtr_fad, SS, bne_self_eq_false, wr_def, obOf, List.all_cons, List.all_nil, List.map_cons, List.map_nil, List.length_cons, List.length_nil, List.take_zero, List.take_succ_cons, List.take_nil, List.drop_zero, List.drop_succ_cons, List.drop_nil, Nat.reduceAdd, Nat.reduceMul, Nat.reduceSub, if_true, Nat.reduceLT, Nat.reduceLeDiff, ite_true, ite_false, Nat.reduceEqDiff, if_false, reduceCtorEq, ne_eq, List.getD, List.getElem?_cons_zero, List.getElem?_cons_succ, Option.getD_some, Option.bind_some, Option.map_some, Option.isSome_some, reduceIte, List.length_append, List.append_assoc, List.cons_append, List.nil_append, Option.some.injEq, forall_const, implies_true, Int.reduceNeg, eq_self, Prod.mk.injEq, List.self_eq_append_right, List.append_nil, exists_eq_left, exists_eq_left', exists_and_left, exists_eq_right, exists_and_right]
end Go.Proofs.Ytaekgifbehoipaa.Pb
/- What pair and Pair of the package probe answer. Conditions stand in each lemma. -/
namespace Go.Proofs.Ytaekgifbehoipaa.Pb
open Go Go.Proofs.Ytaekgifbehoipaa.Eva Go.Proofs.Ytaekgifbehoipaa.CodeAll Go.Proofs.Ytaekgifbehoipaa.Fl
set_option linter.unusedVariables false
set_option linter.unusedSimpArgs false
set_option maxRecDepth 10000
set_option maxHeartbeats 4000000

/-- Do they clash at a second? -/
def clB (s : Se) (l m : List Nd) (t : Int) : Bool := !apt s (tat l t).1 (tat m t).1
theorem com_ok {l m : List Nd} (h1 : tchk l = 0) (h2 : tchk m = 0) : 0 ≤ cFrom l m ∧ cFrom l m ≤ 200000 ∧ 0 ≤ cTo l m ∧ cTo l m ≤ 200000 := by
  obtain ⟨a1, a2, -⟩ := tchk_ok h1
  obtain ⟨b1, b2, -⟩ := tchk_ok h2
  have p1 : 0 < l.length := List.length_pos_iff.2 a1
  have p2 : 0 < m.length := List.length_pos_iff.2 b1
  have c1 := a2 _ (nd_mem p1)
  have c2 := b2 _ (nd_mem p2)
  have c3 := a2 _ (nd_mem (show l.length - 1 < l.length by omega))
  have c4 := b2 _ (nd_mem (show m.length - 1 < m.length by omega))
  have := c1.t0; have := c1.t1; have := c2.t0; have := c2.t1; have := c3.t0; have := c3.t1; have := c4.t0; have := c4.t1
  unfold cFrom cTo
  omega
theorem at_ok {H : List Ob} {V : AV} {l : List Nd} (hs : SlL H V Nd.c 6 l) (h1 : tchk l = 0) {t : Int} (t0 : (nd l 0).t ≤ t) (t1 : t ≤ (nd l (l.length - 1)).t) : (tat l t).1.Ok := by
  obtain ⟨h, -⟩ := rnode_pc hs h1 t0 t1
  obtain ⟨n, e⟩ : ∃ n, tat l t = (n, 0) := ⟨(tat l t).1, by rw [← h]⟩
  rw [e]
  exact (tat_ok h1 e).2.2.1
theorem pair_ex {H : List Ob} {V W : AV} {l m : List Nd} {s : Se} (hs0 : SlL H V Nd.c 6 l) (ht0 : SlL H W Nd.c 6 m) (h1 : tchk l = 0) (h2 : tchk m = 0) (h3 : s.chk = 0) :
    ∃ xs : List (Int × Int), (Spn xs (cTo l m + 1) ∧ sec xs = cl (clB s l m) (cFrom l m) (cTo l m + 1) ∧ xs.length ≤ 200001) ∧ ecall E 52 [V, W, .agg s.c] H = some (outV H.length 2 xs.length, H ++ outO 2 xs.length (flat sc2 xs), H.length, H.length) := by
  refine call1_ex (c := sc2) (sz := 2) (P := fun xs => Spn xs (cTo l m + 1) ∧ sec xs = cl (clB s l m) (cFrom l m) (cTo l m + 1) ∧ xs.length ≤ 200001) e52 rfl (Nat.le_of_ble_eq_true rfl) ?_
  obtain ⟨c0, c1, c2, c3⟩ := com_ok h1 h2
  have hco := fun z => common_pc (hs0.keep z) (ht0.keep z) h1 h2
  have hf1 : (nd l 0).t ≤ cFrom l m ∧ (nd m 0).t ≤ cFrom l m := by unfold cFrom; omega
  have hf2 : cTo l m ≤ (nd l (l.length - 1)).t ∧ cTo l m ≤ (nd m (m.length - 1)).t := by unfold cTo; omega
  generalize cFrom l m = fr at *
  generalize cTo l m = to at *
  simp (config := {maxSteps := 4000000}) only [c52, Se.c, hco, SS, bne_self_eq_false, wr_def, obOf, List.all_cons, List.all_nil, List.map_cons, List.map_nil, List.length_cons, List.length_nil, List.take_zero, List.take_succ_cons, List.take_nil, List.drop_zero, List.drop_succ_cons, List.drop_nil, Nat.reduceAdd, Nat.reduceMul, Nat.reduceSub, if_true, Nat.reduceLT, Nat.reduceLeDiff, ite_true, ite_false, Nat.reduceEqDiff, if_false, reduceCtorEq, ne_eq, List.getD, List.getElem?_cons_zero, List.getElem?_cons_succ, Option.getD_some, Option.bind_some, Option.map_some, Option.isSome_some, reduceIte, List.length_append, List.append_assoc, List.cons_append, List.nil_append, Option.some.injEq, forall_const, implies_true, Int.reduceNeg, eq_self, Prod.mk.injEq, List.self_eq_append_right, List.append_nil, exists_eq_left, exists_eq_left', exists_and_left, exists_eq_right, exists_and_right]
  refine W_loop (fun k f1 h1 => ∃ t : Int, k = (to + 1 - t).toNat ∧ fr ≤ t ∧ (t = fr ∨ t ≤ to + 1) ∧ f1 0 = V ∧ f1 1 = W ∧ f1 5 = .ptr H.length 0 0 ∧ f1 9 = .int .i64 to ∧ f1 10 = .int .i64 t ∧ SlL h1 V Nd.c 6 l ∧ SlL h1 W Nd.c 6 m ∧ rdObj h1 H.length 0 = some ⟨s.c, 0, 0, true, true⟩ ∧ (∀ id, idOf (f1 7) id → id ≠ H.length ∧ ¬ idOf V id ∧ ¬ idOf W id) ∧ ∃ xs : List (Int × Int), IsL H.length h1 (f1 7) 2 true (flat sc2 xs) xs.length ∧ Spn xs t ∧ sec xs = cl (clB s l m) fr t ∧ xs.length ≤ (t - fr).toNat) (by simp) _ ⟨fr, rfl, Int.le_refl _, Or.inl rfl, rfl, rfl, rfl, rfl, rfl, hs0.keep _, ht0.keep _, by simp [rdObj, Se.c], fun id h => absurd h idOf_nil, [], IsL.nil, ⟨by simp, by simp⟩, (cl_nil (Int.le_refl _)).symm, by simp⟩ ?_
  rintro k f1 g1 hn1 ht ⟨t, rfl, hft, htt, e0, e1, e5, e9, e10, S, T, R, D, xs, LL, SP, SE, XL⟩
  have hHl := rd_lt R
  generalize e7 : f1 7 = vo at *
  by_cases hto : t ≤ to
  rotate_left
  · have b1 : decide (t ≤ to) = false := decide_eq_false hto
    simp (config := {maxSteps := 4000000}) only [e0, e1, e5, e7, e9, e10, b1, SS, bne_self_eq_false, wr_def, obOf, List.all_cons, List.all_nil, List.map_cons, List.map_nil, List.length_cons, List.length_nil, List.take_zero, List.take_succ_cons, List.take_nil, List.drop_zero, List.drop_succ_cons, List.drop_nil, Nat.reduceAdd, Nat.reduceMul, Nat.reduceSub, if_true, Nat.reduceLT, Nat.reduceLeDiff, ite_true, ite_false, Nat.reduceEqDiff, if_false, reduceCtorEq, ne_eq, List.getD, List.getElem?_cons_zero, List.getElem?_cons_succ, Option.getD_some, Option.bind_some, Option.map_some, Option.isSome_some, reduceIte, List.length_append, List.append_assoc, List.cons_append, List.nil_append, Option.some.injEq, forall_const, implies_true, Int.reduceNeg, eq_self, Prod.mk.injEq, List.self_eq_append_right, List.append_nil, exists_eq_left, exists_eq_left', exists_and_left, exists_eq_right, exists_and_right]
    refine ⟨_, rfl, xs, LL, ?_⟩
    rcases htt with rfl | h
    · have hx : xs = [] := by simp at XL; exact XL
      subst hx
      exact ⟨⟨by simp, by simp⟩, by rw [cl_nil (by omega)]; rfl, by simp⟩
    · have : t = to + 1 := by omega
      subst this
      exact ⟨SP, SE, by omega⟩
  have b1 : decide (t ≤ to) = true := decide_eq_true hto
  have wt : IntKind.i64.wrap (t + 1) = t + 1 := wrap64 (by omega) (by omega)
  have o1 := at_ok S h1 (t := t) (by omega) (by omega)
  have o2 := at_ok T h2 (t := t) (by omega) (by omega)
  have p1 := point_pc S h1 t
  have p2 := point_pc T h2 t
  have p3 := fun H => sepd_pc h3 o1 o2 H
  have hB : clB s l m t = !apt s (tat l t).1 (tat m t).1 := rfl
  have hcs := cl_succ (B := clB s l m) hft
  obtain ⟨A, hA⟩ : ∃ A, (tat l t).1 = A := ⟨_, rfl⟩
  obtain ⟨B, hB2⟩ : ∃ B, (tat m t).1 = B := ⟨_, rfl⟩
  rw [hA] at p1 p3 hB
  rw [hB2] at p2 p3 hB
  have R' := fun o => rd_keep (l := o) R
  simp only [Nd.c, Se.c] at p1 p2 p3 R'
  have ln : lenvA false vo = some (.int .i64 (xs.length : Int)) := by
    rcases LL with ⟨rfl, _, h⟩ | ⟨id, ep, rfl, _⟩
    · rw [h]; rfl
    · rfl
  have lt9 : ∀ id, idOf vo id → id < g1.length := fun id h => LL.idlt h
  have SS' := fun o => S.keep o
  cases ha : apt s A B
  rotate_left
  · rw [ha] at hB p3
    rw [hB] at hcs
    simp only [Bool.not_true, Bool.false_eq_true, if_false, List.append_nil] at hcs
    simp (config := {maxSteps := 8000000}) only [e0, e1, e5, e7, e9, e10, b1, wt, p1, p2, p3, R', hn1, SS, bne_self_eq_false, wr_def, obOf, List.all_cons, List.all_nil, List.map_cons, List.map_nil, List.length_cons, List.length_nil, List.take_zero, List.take_succ_cons, List.take_nil, List.drop_zero, List.drop_succ_cons, List.drop_nil, Nat.reduceAdd, Nat.reduceMul, Nat.reduceSub, if_true, Nat.reduceLT, Nat.reduceLeDiff, ite_true, ite_false, Nat.reduceEqDiff, if_false, reduceCtorEq, ne_eq, List.getD, List.getElem?_cons_zero, List.getElem?_cons_succ, Option.getD_some, Option.bind_some, Option.map_some, Option.isSome_some, reduceIte, List.length_append, List.append_assoc, List.cons_append, List.nil_append, Option.some.injEq, forall_const, implies_true, Int.reduceNeg, eq_self, Prod.mk.injEq, List.self_eq_append_right, List.append_nil, exists_eq_left, exists_eq_left', exists_and_left, exists_eq_right, exists_and_right]
    exact ⟨_, by omega, t + 1, rfl, by omega, Or.inr (by omega), rfl, S.keep _, T.keep _, rfl, D, xs, LL.keep _, SP.mono (by omega), by rw [hcs]; exact SE, by omega⟩
  rw [ha] at hB p3
  rw [hB] at hcs
  simp only [Bool.not_false, if_true] at hcs
  by_cases hext : ∃ ys a, xs = ys ++ [(a, t)]
  · obtain ⟨ys, a, rfl⟩ := hext
    have hxl : (ys ++ [(a, t)]).length = ys.length + 1 := by simp
    have L2 := LL.keep [⟨A.c, 0, 0, true, true⟩, ⟨B.c, 0, 0, true, true⟩]
    rw [hxl] at ln XL
    have q1 : decide ((0 : Int) < ((ys.length + 1 : Nat) : Int)) = true := decide_eq_true (by omega)
    have q2 : IntKind.i64.wrap (((ys.length + 1 : Nat) : Int) - 1) = (ys.length : Int) := by rw [wrap64 (by omega) (by omega)]; omega
    have Sv : SlL (g1 ++ [⟨A.c, 0, 0, true, true⟩, ⟨B.c, 0, 0, true, true⟩]) vo sc2 2 (ys ++ [(a, t)]) := ⟨fun _ => rfl, by decide, L2.rd (flat_len (k := 2) (fun _ => rfl) _)⟩
    have ok : idxOk 2 vo (.int .i64 (ys.length : Int)) := Sv.ok (by omega) (by omega)
    have ld : ld1A (g1 ++ [⟨A.c, 0, 0, true, true⟩, ⟨B.c, 0, 0, true, true⟩]) (fadA 1 (idxV 2 vo (.int .i64 (ys.length : Int)))) = _ := Sv.ldc (x := (a, t)) (by omega) (by rw [Int.toNat_natCast, List.getElem?_append_right (Nat.le_refl _), Nat.sub_self]; rfl) (by decide)
    have q3 : (t == t) = true := by simp
    obtain ⟨s1, s2, s3, s4⟩ := isl_st (x := t + 1) (i := ys.length) (f := 1) L2 (by rw [flat_len (k := 2) (fun _ => rfl), hxl]; omega)
    rw [flat_last] at s2
    simp only [sc2, Nd.c] at ld s1 s2 s3 s4
    simp (config := {maxSteps := 8000000}) only [e0, e1, e5, e7, e9, e10, b1, wt, p1, p2, p3, R', hn1, ln, q1, q2, ok, isPtr_idx ok, isPtr_fad, ld, q3, s1, getC, SS, bne_self_eq_false, wr_def, obOf, List.all_cons, List.all_nil, List.map_cons, List.map_nil, List.length_cons, List.length_nil, List.take_zero, List.take_succ_cons, List.take_nil, List.drop_zero, List.drop_succ_cons, List.drop_nil, Nat.reduceAdd, Nat.reduceMul, Nat.reduceSub, if_true, Nat.reduceLT, Nat.reduceLeDiff, ite_true, ite_false, Nat.reduceEqDiff, if_false, reduceCtorEq, ne_eq, List.getD, List.getElem?_cons_zero, List.getElem?_cons_succ, Option.getD_some, Option.bind_some, Option.map_some, Option.isSome_some, reduceIte, List.length_append, List.append_assoc, List.cons_append, List.nil_append, Option.some.injEq, forall_const, implies_true, Int.reduceNeg, eq_self, Prod.mk.injEq, List.self_eq_append_right, List.append_nil, exists_eq_left, exists_eq_left', exists_and_left, exists_eq_right, exists_and_right]
    refine ⟨_, by omega, t + 1, rfl, by omega, Or.inr (by omega), rfl, (S.keep _).mono fun id ep o hid ho => s3 id ep o (fun h => (D id h).2.1 hid) ho, (T.keep _).mono fun id ep o hid ho => s3 id ep o (fun h => (D id h).2.2 hid) ho, s3 _ _ _ (fun h => (D _ h).1 rfl) (rd_keep R), D, ys ++ [(a, t + 1)], ?_, SP.ext, ?_, by simp; omega⟩
    · rw [hxl] at s2
      have e : (ys ++ [(a, t + 1)]).length = ys.length + 1 := by simp
      rw [e]; exact s2
    · have h9 := (SP.1 (a, t) (by simp)).1
      rw [hcs, ← SE, sec_app, sec_app]
      simp only [sec, List.append_nil, List.append_assoc]
      rw [secs_succ (by simp only at h9; omega)]
  · have hl : ∀ p, xs[xs.length - 1]? = some p → p.2 ≠ t := fun p hp he => by
      refine hext ⟨xs.take (xs.length - 1), p.1, ?_⟩
      have h0 : xs.length ≠ 0 := by
        intro h
        rw [List.length_eq_zero_iff.1 h] at hp
        simp at hp
      have e1 : xs = xs.take (xs.length - 1) ++ xs.drop (xs.length - 1) := (List.take_append_drop _ _).symm
      have e2 : xs.drop (xs.length - 1) = [p] := by
        obtain ⟨i1, i2⟩ := List.getElem?_eq_some_iff.1 hp
        rw [List.drop_eq_getElem_cons i1, i2, List.drop_eq_nil_of_le (by omega)]
      conv => lhs; rw [e1, e2]
      rw [← he]
    have L2 := LL.keep [⟨A.c, 0, 0, true, true⟩, ⟨B.c, 0, 0, true, true⟩]
    have app : ∀ P : AV → List Ob → Prop, (∀ v' h', H.length ≤ h'.length → SlL h' V Nd.c 6 l → SlL h' W Nd.c 6 m → rdObj h' H.length 0 = some ⟨s.c, 0, 0, true, true⟩ → (∀ id, idOf v' id → id ≠ H.length ∧ ¬ idOf V id ∧ ¬ idOf W id) → IsL H.length h' v' 2 true (flat sc2 (xs ++ [(t, t + 1)])) (xs ++ [(t, t + 1)]).length → P v' h') →
        ∀ q, q = g1.length + 2 → appK H.length 2 16 (g1 ++ [⟨A.c, 0, 0, true, true⟩, ⟨B.c, 0, 0, true, true⟩, ⟨[.int .i64 t, .int .i64 (t + 1)], 0, 2, true, true⟩]) vo (.sl false q 0 2 0 1) P := by
      rintro P hP q rfl
      refine appK_at (c := [.int .i64 t, .int .i64 (t + 1)]) (rw' := true) (fl' := true) (LL.keep _) (by simp [rdObj]) (by rw [flat_len (k := 2) (fun _ => rfl)]) rfl (by unfold appLim; omega) (by simp; omega) (fun v' h' hv' hfr hlen' hidv => ?_)
      have kp : ∀ id ep o, rdObj g1 id ep = some o → ¬ idOf vo id → rdObj h' id ep = some o := fun id ep o ho hne => hfr id ep o (rd_keep ho) hne
      simp only [List.length_append, List.length_cons, List.length_nil] at hlen' hidv
      have nid : ∀ id, idOf v' id → id ≠ H.length ∧ ¬ idOf V id ∧ ¬ idOf W id := fun id h => by
        rcases hidv with h1 | h1
        · have := idOf_inj h h1
          exact ⟨by omega, fun h => by have := S.idlt h; omega, fun h => by have := T.idlt h; omega⟩
        · exact D id (h1 id h)
      refine hP v' h' (by omega) (S.mono fun id ep o hid ho => kp id ep o ho fun h => (D id h).2.1 hid) (T.mono fun id ep o hid ho => kp id ep o ho fun h => (D id h).2.2 hid) (kp _ _ _ R fun h => (D _ h).1 rfl) nid ?_
      have e : flat sc2 (xs ++ [(t, t + 1)]) = flat sc2 xs ++ [.int .i64 t, .int .i64 (t + 1)] := by simp [flat, sc2]
      rw [e, List.length_append]
      simp only [Bool.and_self, ite_self] at hv'
      exact hv'
    have fin : Spn (xs ++ [(t, t + 1)]) (t + 1) ∧ sec (xs ++ [(t, t + 1)]) = cl (clB s l m) fr (t + 1) ∧ (xs ++ [(t, t + 1)]).length ≤ (t + 1 - fr).toNat := by
      refine ⟨SP.add hl, ?_, by simp; omega⟩
      rw [hcs, sec_app, SE]
      simp only [sec, List.append_nil]
      rw [secs_succ (Int.le_refl _), secs_nil (Int.le_refl _)]; rfl
    simp only [Nd.c] at app
    by_cases hx0 : xs.length = 0
    · have q1 : decide ((0 : Int) < (xs.length : Int)) = false := decide_eq_false (by omega)
      simp (config := {maxSteps := 8000000}) only [e0, e1, e5, e7, e9, e10, b1, wt, p1, p2, p3, R', hn1, ln, q1, SS, bne_self_eq_false, wr_def, obOf, List.all_cons, List.all_nil, List.map_cons, List.map_nil, List.length_cons, List.length_nil, List.take_zero, List.take_succ_cons, List.take_nil, List.drop_zero, List.drop_succ_cons, List.drop_nil, Nat.reduceAdd, Nat.reduceMul, Nat.reduceSub, if_true, Nat.reduceLT, Nat.reduceLeDiff, ite_true, ite_false, Nat.reduceEqDiff, if_false, reduceCtorEq, ne_eq, List.getD, List.getElem?_cons_zero, List.getElem?_cons_succ, Option.getD_some, Option.bind_some, Option.map_some, Option.isSome_some, reduceIte, List.length_append, List.append_assoc, List.cons_append, List.nil_append, Option.some.injEq, forall_const, implies_true, Int.reduceNeg, eq_self, Prod.mk.injEq, List.self_eq_append_right, List.append_nil, exists_eq_left, exists_eq_left', exists_and_left, exists_eq_right, exists_and_right]
      exact app _ (fun v' h' r0 r1 r2 r3 r4 r5 => ⟨_, by omega, t + 1, rfl, by omega, Or.inr (by omega), rfl, r1, r2, r3, r4, _, r5, fin⟩) _ rfl
    · have q1 : decide ((0 : Int) < (xs.length : Int)) = true := decide_eq_true (by omega)
      have q2 : IntKind.i64.wrap ((xs.length : Int) - 1) = ((xs.length - 1 : Nat) : Int) := by rw [wrap64 (by omega) (by omega)]; omega
      obtain ⟨p, hp⟩ : ∃ p, xs[xs.length - 1]? = some p := ⟨_, List.getElem?_eq_getElem (by omega)⟩
      have Sv : SlL (g1 ++ [⟨A.c, 0, 0, true, true⟩, ⟨B.c, 0, 0, true, true⟩]) vo sc2 2 xs := ⟨fun _ => rfl, by decide, L2.rd (flat_len (k := 2) (fun _ => rfl) _)⟩
      have ok : idxOk 2 vo (.int .i64 ((xs.length - 1 : Nat) : Int)) := Sv.ok (by omega) (by omega)
      have ld : ld1A (g1 ++ [⟨A.c, 0, 0, true, true⟩, ⟨B.c, 0, 0, true, true⟩]) (fadA 1 (idxV 2 vo (.int .i64 ((xs.length - 1 : Nat) : Int)))) = _ := Sv.ldc (x := p) (by omega) (by rw [Int.toNat_natCast]; exact hp) (by decide)
      have q3 : (p.2 == t) = false := by rw [beq_eq_false_iff_ne]; exact hl p hp
      simp only [sc2, Nd.c] at ld
      simp (config := {maxSteps := 8000000}) only [e0, e1, e5, e7, e9, e10, b1, wt, p1, p2, p3, R', hn1, ln, q1, q2, ok, isPtr_idx ok, isPtr_fad, ld, q3, getC, SS, bne_self_eq_false, wr_def, obOf, List.all_cons, List.all_nil, List.map_cons, List.map_nil, List.length_cons, List.length_nil, List.take_zero, List.take_succ_cons, List.take_nil, List.drop_zero, List.drop_succ_cons, List.drop_nil, Nat.reduceAdd, Nat.reduceMul, Nat.reduceSub, if_true, Nat.reduceLT, Nat.reduceLeDiff, ite_true, ite_false, Nat.reduceEqDiff, if_false, reduceCtorEq, ne_eq, List.getD, List.getElem?_cons_zero, List.getElem?_cons_succ, Option.getD_some, Option.bind_some, Option.map_some, Option.isSome_some, reduceIte, List.length_append, List.append_assoc, List.cons_append, List.nil_append, Option.some.injEq, forall_const, implies_true, Int.reduceNeg, eq_self, Prod.mk.injEq, List.self_eq_append_right, List.append_nil, exists_eq_left, exists_eq_left', exists_and_left, exists_eq_right, exists_and_right]
      exact app _ (fun v' h' r0 r1 r2 r3 r4 r5 => ⟨_, by omega, t + 1, rfl, by omega, Or.inr (by omega), rfl, r1, r2, r3, r4, _, r5, fin⟩) _ rfl
/-- Pair. -/
theorem Pair_ex {H : List Ob} {V W : AV} {l m : List Nd} {s : Se} (hs0 : SlL H V Nd.c 6 l) (ht0 : SlL H W Nd.c 6 m) :
    ∃ (xs : List (Int × Int)) (e : Int), (e = ckE s l m ∧ (e ≠ 0 → xs = []) ∧ (e = 0 → Spn xs (cTo l m + 1) ∧ sec xs = cl (clB s l m) (cFrom l m) (cTo l m + 1) ∧ xs.length ≤ 200001)) ∧ ecall E 16 [V, W, .agg s.c] H = some (.tup [outV H.length 2 xs.length, .int .i64 e], H ++ outO 2 xs.length (flat sc2 xs), H.length, H.length) := by
  have hu : SlL (H ++ [⟨s.c, 0, 0, true, true⟩, ⟨[V, W], 0, 1, true, V.scalar && W.scalar⟩]) (.sl false (H.length + 1) 0 1 0 2) avc 1 [V, W] :=
    ⟨fun _ => rfl, by decide, rfl, Or.inr ⟨_, 0, 0, ⟨[V, W], 0, 1, true, V.scalar && W.scalar⟩, rfl, by simp [rdObj], Nat.le_refl _, rfl⟩⟩
  have hck := check_pc s hu (hs0.keep _) (ht0.keep _)
  by_cases hz : ckE s l m = 0
  · obtain ⟨h3, h1, h2⟩ := ckE_ok.1 hz
    rw [hz] at hck ⊢
    have n0 : ((0 : Int) != 0) = false := rfl
    obtain ⟨xs, hP, hc⟩ := pair_ex (s := s) (hs0.keep [(⟨s.c, 0, 0, true, true⟩ : Ob), (⟨[V, W], 0, 1, true, V.scalar && W.scalar⟩ : Ob)]) (ht0.keep [(⟨s.c, 0, 0, true, true⟩ : Ob), (⟨[V, W], 0, 1, true, V.scalar && W.scalar⟩ : Ob)]) h1 h2 h3
    have hn := ncall_some.2 hc
    have e2 : (H ++ [(⟨s.c, 0, 0, true, true⟩ : Ob), (⟨[V, W], 0, 1, true, V.scalar && W.scalar⟩ : Ob)]).length = H.length + 2 := by simp
    rw [e2] at hn
    have hio : IsL H.length ((H ++ [⟨s.c, 0, 0, true, true⟩, ⟨[V, W], 0, 1, true, V.scalar && W.scalar⟩]) ++ outO 2 xs.length (flat sc2 xs)) (outV (H.length + 2) 2 xs.length) 2 true (flat sc2 xs) xs.length := by
      by_cases h0 : xs.length = 0
      · have : xs = [] := List.length_eq_zero_iff.1 h0
        subst this; exact IsL.nil
      · refine Or.inr ⟨H.length + 2, 0, by rw [outV, if_neg h0], ?_, by omega, h0⟩
        unfold rdObj
        rw [List.getElem?_append_right (by rw [e2]; omega), e2, Nat.sub_self, outO, if_neg h0]
        rfl
    generalize outV (H.length + 2) 2 xs.length = v1 at hn hio
    generalize outO 2 xs.length (flat sc2 xs) = o1 at hn hio
    refine ⟨xs, 0, ⟨rfl, fun h => absurd rfl h, fun _ => hP⟩, ?_⟩
    refine call_list e16 rfl (Nat.le_of_ble_eq_true rfl) ?_
    simp only [Se.c, List.append_assoc, List.cons_append, List.nil_append] at hck hn hio
    simp (config := {maxSteps := 4000000}) only [c16, Se.c, hs0.cells, ht0.cells, hs0.isTup, ht0.isTup, hck, n0, rg_calln, ncallV_fn, hn, SS, bne_self_eq_false, wr_def, obOf, List.all_cons, List.all_nil, List.map_cons, List.map_nil, List.length_cons, List.length_nil, List.take_zero, List.take_succ_cons, List.take_nil, List.drop_zero, List.drop_succ_cons, List.drop_nil, Nat.reduceAdd, Nat.reduceMul, Nat.reduceSub, if_true, Nat.reduceLT, Nat.reduceLeDiff, ite_true, ite_false, Nat.reduceEqDiff, if_false, reduceCtorEq, ne_eq, List.getD, List.getElem?_cons_zero, List.getElem?_cons_succ, Option.getD_some, Option.bind_some, Option.map_some, Option.isSome_some, reduceIte, List.length_append, List.append_assoc, List.cons_append, List.nil_append, Option.some.injEq, forall_const, implies_true, Int.reduceNeg, eq_self, Prod.mk.injEq, List.self_eq_append_right, List.append_nil, exists_eq_left, exists_eq_left', exists_and_left, exists_eq_right, exists_and_right]
    exact ⟨_, rfl, hio⟩
  · have b : (ckE s l m != 0) = true := bne_iff_ne.2 hz
    refine ⟨[], ckE s l m, ⟨rfl, fun _ => rfl, fun h => absurd h hz⟩, ?_⟩
    refine call_list e16 rfl (Nat.le_of_ble_eq_true rfl) ?_
    generalize ckE s l m = q at *
    simp only [Se.c, List.append_assoc, List.cons_append, List.nil_append] at hck
    simp (config := {maxSteps := 4000000}) only [c16, Se.c, hs0.cells, ht0.cells, hs0.isTup, ht0.isTup, hck, b, SS, bne_self_eq_false, wr_def, obOf, List.all_cons, List.all_nil, List.map_cons, List.map_nil, List.length_cons, List.length_nil, List.take_zero, List.take_succ_cons, List.take_nil, List.drop_zero, List.drop_succ_cons, List.drop_nil, Nat.reduceAdd, Nat.reduceMul, Nat.reduceSub, if_true, Nat.reduceLT, Nat.reduceLeDiff, ite_true, ite_false, Nat.reduceEqDiff, if_false, reduceCtorEq, ne_eq, List.getD, List.getElem?_cons_zero, List.getElem?_cons_succ, Option.getD_some, Option.bind_some, Option.map_some, Option.isSome_some, reduceIte, List.length_append, List.append_assoc, List.cons_append, List.nil_append, Option.some.injEq, forall_const, implies_true, Int.reduceNeg, eq_self, Prod.mk.injEq, List.self_eq_append_right, List.append_nil, exists_eq_left, exists_eq_left', exists_and_left, exists_eq_right, exists_and_right]
    exact ⟨_, rfl, IsL.nil⟩
end Go.Proofs.Ytaekgifbehoipaa.Pb
/- The seconds that the reference finds. Conditions stand in each lemma. -/
namespace Go.Proofs.Ytaekgifbehoipaa.Pb
open Go Go.Proofs.Ytaekgifbehoipaa.Eva Go.Proofs.Ytaekgifbehoipaa.CodeAll Go.Proofs.Ytaekgifbehoipaa.Fl
set_option linter.unusedVariables false
set_option linter.unusedSimpArgs false
set_option maxRecDepth 10000
set_option maxHeartbeats 4000000

theorem clash_ex {H : List Ob} {V W : AV} {l m : List Nd} {s : Se} (hs0 : SlL H V Nd.c 6 l) (ht0 : SlL H W Nd.c 6 m) (h1 : tchk l = 0) (h2 : tchk m = 0) (h3 : s.chk = 0) :
    ∃ xs : List Int, xs = cl (clB s l m) (cFrom l m) (cTo l m + 1) ∧ ecall E 19 [V, W, .agg s.c] H = some (outV H.length 1 xs.length, H ++ outO 1 xs.length (flat intC xs), H.length, H.length) := by
  refine call1_ex (c := intC) (sz := 1) (P := fun xs => xs = cl (clB s l m) (cFrom l m) (cTo l m + 1)) e19 rfl (Nat.le_of_ble_eq_true rfl) ?_
  obtain ⟨c0, c1, c2, c3⟩ := com_ok h1 h2
  have p1 : 0 < l.length := List.length_pos_iff.2 (tchk_ne h1)
  have p2 : 0 < m.length := List.length_pos_iff.2 (tchk_ne h2)
  have gl1 := tchk_len h1
  have gl2 := tchk_len h2
  have len1 := hs0.len
  have len2 := ht0.len
  have w1 : IntKind.i64.wrap ((l.length : Int) - 1) = ((l.length - 1 : Nat) : Int) := by rw [wrap64 (by omega) (by omega)]; omega
  have w2 : IntKind.i64.wrap ((m.length : Int) - 1) = ((m.length - 1 : Nat) : Int) := by rw [wrap64 (by omega) (by omega)]; omega
  have o1 : idxOk 6 V (.int .i64 0) := hs0.ok (by omega) (by omega)
  have o2 : idxOk 6 W (.int .i64 0) := ht0.ok (by omega) (by omega)
  have o3 : idxOk 6 V (.int .i64 ((l.length - 1 : Nat) : Int)) := hs0.ok (by omega) (by omega)
  have o4 : idxOk 6 W (.int .i64 ((m.length - 1 : Nat) : Int)) := ht0.ok (by omega) (by omega)
  have d1 : ∀ {h}, SlL h V Nd.c 6 l → ld1A h (fadA (0 + 0) (idxV 6 V (.int .i64 0))) = _ := fun hs => hs.ldc (i := 0) (x := nd l 0) (by omega) (nd_get p1) (by decide)
  have d2 : ∀ {h}, SlL h W Nd.c 6 m → ld1A h (fadA (0 + 0) (idxV 6 W (.int .i64 0))) = _ := fun ht => ht.ldc (i := 0) (x := nd m 0) (by omega) (nd_get p2) (by decide)
  have d3 : ∀ {h}, SlL h V Nd.c 6 l → ld1A h (fadA (0 + 0) (idxV 6 V (.int .i64 ((l.length - 1 : Nat) : Int)))) = _ := fun hs => hs.ldc (x := nd l (l.length - 1)) (by omega) (by rw [Int.toNat_natCast]; exact nd_get (by omega)) (by decide)
  have d4 : ∀ {h}, SlL h W Nd.c 6 m → ld1A h (fadA (0 + 0) (idxV 6 W (.int .i64 ((m.length - 1 : Nat) : Int)))) = _ := fun ht => ht.ldc (x := nd m (m.length - 1)) (by omega) (by rw [Int.toNat_natCast]; exact nd_get (by omega)) (by decide)
  have hF : cFrom l m = max (nd l 0).t (nd m 0).t := rfl
  have hT : cTo l m = min (nd l (l.length - 1)).t (nd m (m.length - 1)).t := rfl
  generalize cFrom l m = fr at *
  generalize cTo l m = to at *
  simp (config := {maxSteps := 4000000}) only [c19, Se.c, SS, bne_self_eq_false, wr_def, obOf, List.all_cons, List.all_nil, List.map_cons, List.map_nil, List.length_cons, List.length_nil, List.take_zero, List.take_succ_cons, List.take_nil, List.drop_zero, List.drop_succ_cons, List.drop_nil, Nat.reduceAdd, Nat.reduceMul, Nat.reduceSub, if_true, Nat.reduceLT, Nat.reduceLeDiff, ite_true, ite_false, Nat.reduceEqDiff, if_false, reduceCtorEq, ne_eq, List.getD, List.getElem?_cons_zero, List.getElem?_cons_succ, Option.getD_some, Option.bind_some, Option.map_some, Option.isSome_some, reduceIte, List.length_append, List.append_assoc, List.cons_append, List.nil_append, Option.some.injEq, forall_const, implies_true, Int.reduceNeg, eq_self, Prod.mk.injEq, List.self_eq_append_right, List.append_nil, exists_eq_left, exists_eq_left', exists_and_left, exists_eq_right, exists_and_right]
  refine W_loop (fun k f1 g1 => ∃ t : Int, k = (200001 - t).toNat ∧ 0 ≤ t ∧ (t = 0 ∨ fr ≤ t) ∧ (t ≤ fr ∨ t ≤ to + 1) ∧ f1 0 = V ∧ f1 1 = W ∧ f1 5 = .ptr H.length 0 0 ∧ f1 8 = .int .i64 t ∧ SlL g1 V Nd.c 6 l ∧ SlL g1 W Nd.c 6 m ∧ rdObj g1 H.length 0 = some ⟨s.c, 0, 0, true, true⟩ ∧ (∀ id, idOf (f1 7) id → id ≠ H.length ∧ ¬ idOf V id ∧ ¬ idOf W id) ∧ ∃ xs : List Int, IsL H.length g1 (f1 7) 1 true (flat intC xs) xs.length ∧ xs = cl (clB s l m) fr (max t fr)) (by simp) _ ⟨0, rfl, Int.le_refl _, Or.inl rfl, Or.inl c0, rfl, rfl, rfl, rfl, hs0.keep _, ht0.keep _, by simp [rdObj, Se.c], fun id h => absurd h idOf_nil, [], IsL.nil, (cl_nil (by omega)).symm⟩ ?_
  rintro k f1 g1 hn1 ht ⟨t, rfl, ht0', htf, htt, e0, e1, e5, e8, S, T, R, D, xs, LL, XE⟩
  have hHl := rd_lt R
  generalize e7 : f1 7 = vo at *
  by_cases hlim : t ≤ 200000
  rotate_left
  · have b1 : decide (t ≤ 200000) = false := decide_eq_false hlim
    simp (config := {maxSteps := 4000000}) only [e0, e1, e5, e7, e8, b1, SS, bne_self_eq_false, wr_def, obOf, List.all_cons, List.all_nil, List.map_cons, List.map_nil, List.length_cons, List.length_nil, List.take_zero, List.take_succ_cons, List.take_nil, List.drop_zero, List.drop_succ_cons, List.drop_nil, Nat.reduceAdd, Nat.reduceMul, Nat.reduceSub, if_true, Nat.reduceLT, Nat.reduceLeDiff, ite_true, ite_false, Nat.reduceEqDiff, if_false, reduceCtorEq, ne_eq, List.getD, List.getElem?_cons_zero, List.getElem?_cons_succ, Option.getD_some, Option.bind_some, Option.map_some, Option.isSome_some, reduceIte, List.length_append, List.append_assoc, List.cons_append, List.nil_append, Option.some.injEq, forall_const, implies_true, Int.reduceNeg, eq_self, Prod.mk.injEq, List.self_eq_append_right, List.append_nil, exists_eq_left, exists_eq_left', exists_and_left, exists_eq_right, exists_and_right]
    have h9 : max t fr = to + 1 := by omega
    rw [h9] at XE
    exact ⟨_, rfl, by rw [← XE]; exact LL⟩
  have b1 : decide (t ≤ 200000) = true := decide_eq_true hlim
  obtain ⟨u, hu⟩ : ∃ u, max t fr = u := ⟨_, rfl⟩
  have q1 := d1 S
  have q2 := d2 T
  have q3 := d3 S
  have q4 := d4 T
  simp only [Nd.c, Nat.add_zero] at q1 q2 q3 q4
  rw [hu] at XE
  have key : ∀ (f2 : Fr), True := fun _ => trivial
  -- past the end
  by_cases hto : u ≤ to
  rotate_left
  · have fin : xs = cl (clB s l m) fr (to + 1) := by
      rcases htt with h | h
      · have : u = fr := by omega
        rw [XE, this, cl_nil (Int.le_refl _), cl_nil (by omega)]
      · by_cases h9 : t ≤ fr
        · have : u = fr := by omega
          rw [XE, this, cl_nil (Int.le_refl _), cl_nil (by omega)]
        · have : u = to + 1 := by omega
          rw [XE, this]
    by_cases z1 : t < (nd l 0).t
    · have y1 : decide (t < (nd l 0).t) = true := decide_eq_true z1
      have hmx : max (nd l 0).t (nd m 0).t = u := by omega
      by_cases z3 : (nd l (l.length - 1)).t < u
      · have y3 : decide ((nd l (l.length - 1)).t < u) = true := decide_eq_true z3
        simp (config := {maxSteps := 8000000}) only [e0, e1, e5, e7, e8, b1, len1, len2, w1, w2, o1, o2, o3, o4, isPtr_idx o1, isPtr_idx o2, isPtr_idx o3, isPtr_idx o4, q1, q2, q3, q4, y1, hmx, y3, fad_fad, isPtr_fad, SS, bne_self_eq_false, wr_def, obOf, List.all_cons, List.all_nil, List.map_cons, List.map_nil, List.length_cons, List.length_nil, List.take_zero, List.take_succ_cons, List.take_nil, List.drop_zero, List.drop_succ_cons, List.drop_nil, Nat.reduceAdd, Nat.reduceMul, Nat.reduceSub, if_true, Nat.reduceLT, Nat.reduceLeDiff, ite_true, ite_false, Nat.reduceEqDiff, if_false, reduceCtorEq, ne_eq, List.getD, List.getElem?_cons_zero, List.getElem?_cons_succ, Option.getD_some, Option.bind_some, Option.map_some, Option.isSome_some, reduceIte, List.length_append, List.append_assoc, List.cons_append, List.nil_append, Option.some.injEq, forall_const, implies_true, Int.reduceNeg, eq_self, Prod.mk.injEq, List.self_eq_append_right, List.append_nil, exists_eq_left, exists_eq_left', exists_and_left, exists_eq_right, exists_and_right]
        exact ⟨_, rfl, by rw [← fin]; exact LL⟩
      · have y3 : decide ((nd l (l.length - 1)).t < u) = false := decide_eq_false z3
        have y4 : decide ((nd m (m.length - 1)).t < u) = true := decide_eq_true (by omega)
        simp (config := {maxSteps := 8000000}) only [e0, e1, e5, e7, e8, b1, len1, len2, w1, w2, o1, o2, o3, o4, isPtr_idx o1, isPtr_idx o2, isPtr_idx o3, isPtr_idx o4, q1, q2, q3, q4, y1, hmx, y3, y4, fad_fad, isPtr_fad, SS, bne_self_eq_false, wr_def, obOf, List.all_cons, List.all_nil, List.map_cons, List.map_nil, List.length_cons, List.length_nil, List.take_zero, List.take_succ_cons, List.take_nil, List.drop_zero, List.drop_succ_cons, List.drop_nil, Nat.reduceAdd, Nat.reduceMul, Nat.reduceSub, if_true, Nat.reduceLT, Nat.reduceLeDiff, ite_true, ite_false, Nat.reduceEqDiff, if_false, reduceCtorEq, ne_eq, List.getD, List.getElem?_cons_zero, List.getElem?_cons_succ, Option.getD_some, Option.bind_some, Option.map_some, Option.isSome_some, reduceIte, List.length_append, List.append_assoc, List.cons_append, List.nil_append, Option.some.injEq, forall_const, implies_true, Int.reduceNeg, eq_self, Prod.mk.injEq, List.self_eq_append_right, List.append_nil, exists_eq_left, exists_eq_left', exists_and_left, exists_eq_right, exists_and_right]
        exact ⟨_, rfl, by rw [← fin]; exact LL⟩
    · have y1 : decide (t < (nd l 0).t) = false := decide_eq_false z1
      by_cases z2 : t < (nd m 0).t
      · have y2 : decide (t < (nd m 0).t) = true := decide_eq_true z2
        have hmx : max (nd l 0).t (nd m 0).t = u := by omega
        by_cases z3 : (nd l (l.length - 1)).t < u
        · have y3 : decide ((nd l (l.length - 1)).t < u) = true := decide_eq_true z3
          simp (config := {maxSteps := 8000000}) only [e0, e1, e5, e7, e8, b1, len1, len2, w1, w2, o1, o2, o3, o4, isPtr_idx o1, isPtr_idx o2, isPtr_idx o3, isPtr_idx o4, q1, q2, q3, q4, y1, y2, hmx, y3, fad_fad, isPtr_fad, SS, bne_self_eq_false, wr_def, obOf, List.all_cons, List.all_nil, List.map_cons, List.map_nil, List.length_cons, List.length_nil, List.take_zero, List.take_succ_cons, List.take_nil, List.drop_zero, List.drop_succ_cons, List.drop_nil, Nat.reduceAdd, Nat.reduceMul, Nat.reduceSub, if_true, Nat.reduceLT, Nat.reduceLeDiff, ite_true, ite_false, Nat.reduceEqDiff, if_false, reduceCtorEq, ne_eq, List.getD, List.getElem?_cons_zero, List.getElem?_cons_succ, Option.getD_some, Option.bind_some, Option.map_some, Option.isSome_some, reduceIte, List.length_append, List.append_assoc, List.cons_append, List.nil_append, Option.some.injEq, forall_const, implies_true, Int.reduceNeg, eq_self, Prod.mk.injEq, List.self_eq_append_right, List.append_nil, exists_eq_left, exists_eq_left', exists_and_left, exists_eq_right, exists_and_right]
          exact ⟨_, rfl, by rw [← fin]; exact LL⟩
        · have y3 : decide ((nd l (l.length - 1)).t < u) = false := decide_eq_false z3
          have y4 : decide ((nd m (m.length - 1)).t < u) = true := decide_eq_true (by omega)
          simp (config := {maxSteps := 8000000}) only [e0, e1, e5, e7, e8, b1, len1, len2, w1, w2, o1, o2, o3, o4, isPtr_idx o1, isPtr_idx o2, isPtr_idx o3, isPtr_idx o4, q1, q2, q3, q4, y1, y2, hmx, y3, y4, fad_fad, isPtr_fad, SS, bne_self_eq_false, wr_def, obOf, List.all_cons, List.all_nil, List.map_cons, List.map_nil, List.length_cons, List.length_nil, List.take_zero, List.take_succ_cons, List.take_nil, List.drop_zero, List.drop_succ_cons, List.drop_nil, Nat.reduceAdd, Nat.reduceMul, Nat.reduceSub, if_true, Nat.reduceLT, Nat.reduceLeDiff, ite_true, ite_false, Nat.reduceEqDiff, if_false, reduceCtorEq, ne_eq, List.getD, List.getElem?_cons_zero, List.getElem?_cons_succ, Option.getD_some, Option.bind_some, Option.map_some, Option.isSome_some, reduceIte, List.length_append, List.append_assoc, List.cons_append, List.nil_append, Option.some.injEq, forall_const, implies_true, Int.reduceNeg, eq_self, Prod.mk.injEq, List.self_eq_append_right, List.append_nil, exists_eq_left, exists_eq_left', exists_and_left, exists_eq_right, exists_and_right]
          exact ⟨_, rfl, by rw [← fin]; exact LL⟩
      · have y2 : decide (t < (nd m 0).t) = false := decide_eq_false z2
        have hut : u = t := by omega
        subst hut
        by_cases z3 : (nd l (l.length - 1)).t < u
        · have y3 : decide ((nd l (l.length - 1)).t < u) = true := decide_eq_true z3
          simp (config := {maxSteps := 8000000}) only [e0, e1, e5, e7, e8, b1, len1, len2, w1, w2, o1, o2, o3, o4, isPtr_idx o1, isPtr_idx o2, isPtr_idx o3, isPtr_idx o4, q1, q2, q3, q4, y1, y2, y3, fad_fad, isPtr_fad, SS, bne_self_eq_false, wr_def, obOf, List.all_cons, List.all_nil, List.map_cons, List.map_nil, List.length_cons, List.length_nil, List.take_zero, List.take_succ_cons, List.take_nil, List.drop_zero, List.drop_succ_cons, List.drop_nil, Nat.reduceAdd, Nat.reduceMul, Nat.reduceSub, if_true, Nat.reduceLT, Nat.reduceLeDiff, ite_true, ite_false, Nat.reduceEqDiff, if_false, reduceCtorEq, ne_eq, List.getD, List.getElem?_cons_zero, List.getElem?_cons_succ, Option.getD_some, Option.bind_some, Option.map_some, Option.isSome_some, reduceIte, List.length_append, List.append_assoc, List.cons_append, List.nil_append, Option.some.injEq, forall_const, implies_true, Int.reduceNeg, eq_self, Prod.mk.injEq, List.self_eq_append_right, List.append_nil, exists_eq_left, exists_eq_left', exists_and_left, exists_eq_right, exists_and_right]
          exact ⟨_, rfl, by rw [← fin]; exact LL⟩
        · have y3 : decide ((nd l (l.length - 1)).t < u) = false := decide_eq_false z3
          have y4 : decide ((nd m (m.length - 1)).t < u) = true := decide_eq_true (by omega)
          simp (config := {maxSteps := 8000000}) only [e0, e1, e5, e7, e8, b1, len1, len2, w1, w2, o1, o2, o3, o4, isPtr_idx o1, isPtr_idx o2, isPtr_idx o3, isPtr_idx o4, q1, q2, q3, q4, y1, y2, y3, y4, fad_fad, isPtr_fad, SS, bne_self_eq_false, wr_def, obOf, List.all_cons, List.all_nil, List.map_cons, List.map_nil, List.length_cons, List.length_nil, List.take_zero, List.take_succ_cons, List.take_nil, List.drop_zero, List.drop_succ_cons, List.drop_nil, Nat.reduceAdd, Nat.reduceMul, Nat.reduceSub, if_true, Nat.reduceLT, Nat.reduceLeDiff, ite_true, ite_false, Nat.reduceEqDiff, if_false, reduceCtorEq, ne_eq, List.getD, List.getElem?_cons_zero, List.getElem?_cons_succ, Option.getD_some, Option.bind_some, Option.map_some, Option.isSome_some, reduceIte, List.length_append, List.append_assoc, List.cons_append, List.nil_append, Option.some.injEq, forall_const, implies_true, Int.reduceNeg, eq_self, Prod.mk.injEq, List.self_eq_append_right, List.append_nil, exists_eq_left, exists_eq_left', exists_and_left, exists_eq_right, exists_and_right]
          exact ⟨_, rfl, by rw [← fin]; exact LL⟩
  -- a second of both
  have hfu : fr ≤ u := by omega
  have wu : IntKind.i64.wrap (u + 1) = u + 1 := wrap64 (by omega) (by omega)
  have n1 := (rnode_pc S h1 (t := u) (by omega) (by omega)).2
  have n2 := (rnode_pc T h2 (t := u) (by omega) (by omega)).2
  have ok1 := at_ok S h1 (t := u) (by omega) (by omega)
  have ok2 := at_ok T h2 (t := u) (by omega) (by omega)
  have ap := fun H => apt_pc h3 ok1 ok2 H
  have hB : clB s l m u = !apt s (tat l u).1 (tat m u).1 := rfl
  have hcs := cl_succ (B := clB s l m) hfu
  obtain ⟨A, hA⟩ : ∃ A, (tat l u).1 = A := ⟨_, rfl⟩
  obtain ⟨B, hB2⟩ : ∃ B, (tat m u).1 = B := ⟨_, rfl⟩
  rw [hA] at n1 ap hB
  rw [hB2] at n2 ap hB
  have y3 : decide ((nd l (l.length - 1)).t < u) = false := decide_eq_false (by omega)
  have y4 : decide ((nd m (m.length - 1)).t < u) = false := decide_eq_false (by omega)
  have hxl : xs.length ≤ 200001 := by
    rw [XE]
    exact Nat.le_trans cl_len (by omega)
  have app : ∀ P : AV → List Ob → Prop, (∀ v' h', H.length ≤ h'.length → SlL h' V Nd.c 6 l → SlL h' W Nd.c 6 m → rdObj h' H.length 0 = some ⟨s.c, 0, 0, true, true⟩ → (∀ id, idOf v' id → id ≠ H.length ∧ ¬ idOf V id ∧ ¬ idOf W id) → IsL H.length h' v' 1 true (flat intC (xs ++ [u])) (xs ++ [u]).length → P v' h') →
      ∀ q, q = g1.length → appK H.length 1 8 (g1 ++ [⟨[.int .i64 u], 0, 1, true, true⟩]) vo (.sl false q 0 1 0 1) P := by
    rintro P hP q rfl
    refine appK_at (c := [.int .i64 u]) (rw' := true) (fl' := true) (LL.keep _) (by simp [rdObj]) (by rw [flat_len (k := 1) (fun _ => rfl)]) rfl (by unfold appLim; omega) (by simp; omega) (fun v' h' hv' hfr hlen' hidv => ?_)
    have lt9 : ∀ id, idOf vo id → id < g1.length := fun id h => LL.idlt h
    have kp : ∀ id ep o, rdObj g1 id ep = some o → ¬ idOf vo id → rdObj h' id ep = some o := fun id ep o ho hne => hfr id ep o (rd_keep ho) hne
    simp only [List.length_append, List.length_cons, List.length_nil] at hlen' hidv
    have nid : ∀ id, idOf v' id → id ≠ H.length ∧ ¬ idOf V id ∧ ¬ idOf W id := fun id h => by
      rcases hidv with h1 | h1
      · have := idOf_inj h h1
        exact ⟨by omega, fun h => by have := S.idlt h; omega, fun h => by have := T.idlt h; omega⟩
      · exact D id (h1 id h)
    refine hP v' h' (by omega) (S.mono fun id ep o hid ho => kp id ep o ho fun h => (D id h).2.1 hid) (T.mono fun id ep o hid ho => kp id ep o ho fun h => (D id h).2.2 hid) (kp _ _ _ R fun h => (D _ h).1 rfl) nid ?_
    have e : flat intC (xs ++ [u]) = flat intC xs ++ [.int .i64 u] := by simp [flat, intC]
    rw [e, List.length_append]
    simp only [Bool.and_self, ite_self] at hv'
    exact hv'
  have R' := R
  simp only [Nd.c, Se.c] at n1 n2 ap R'
  have hmx1 : max (u + 1) fr = u + 1 := by omega
  have XB : ∀ b, apt s A B = b → (if b = true then xs else xs ++ [u]) = cl (clB s l m) fr (max (u + 1) fr) := fun b hb => by
    rw [hb] at hB
    rw [hB] at hcs
    rw [hmx1, hcs, XE]
    cases b <;> simp
  by_cases z1 : t < (nd l 0).t
  · have y1 : decide (t < (nd l 0).t) = true := decide_eq_true z1
    have hmx : max (nd l 0).t (nd m 0).t = u := by omega
    cases ha : apt s A B
    · rw [ha] at ap
      simp (config := {maxSteps := 8000000}) only [e0, e1, e5, e7, e8, b1, len1, len2, w1, w2, o1, o2, o3, o4, isPtr_idx o1, isPtr_idx o2, isPtr_idx o3, isPtr_idx o4, q1, q2, q3, q4, y1, hmx, y3, y4, n1, n2, ap, R', wu, hn1, fad_fad, isPtr_fad, SS, bne_self_eq_false, wr_def, obOf, List.all_cons, List.all_nil, List.map_cons, List.map_nil, List.length_cons, List.length_nil, List.take_zero, List.take_succ_cons, List.take_nil, List.drop_zero, List.drop_succ_cons, List.drop_nil, Nat.reduceAdd, Nat.reduceMul, Nat.reduceSub, if_true, Nat.reduceLT, Nat.reduceLeDiff, ite_true, ite_false, Nat.reduceEqDiff, if_false, reduceCtorEq, ne_eq, List.getD, List.getElem?_cons_zero, List.getElem?_cons_succ, Option.getD_some, Option.bind_some, Option.map_some, Option.isSome_some, reduceIte, List.length_append, List.append_assoc, List.cons_append, List.nil_append, Option.some.injEq, forall_const, implies_true, Int.reduceNeg, eq_self, Prod.mk.injEq, List.self_eq_append_right, List.append_nil, exists_eq_left, exists_eq_left', exists_and_left, exists_eq_right, exists_and_right]
      exact app _ (fun v' h' r0 r1 r2 r3 r4 r5 => ⟨_, by omega, u + 1, rfl, by omega, by omega, by omega, rfl, r1, r2, r3, r4, by rw [← XB _ ha]; exact r5⟩) _ rfl
    · rw [ha] at ap
      simp (config := {maxSteps := 8000000}) only [e0, e1, e5, e7, e8, b1, len1, len2, w1, w2, o1, o2, o3, o4, isPtr_idx o1, isPtr_idx o2, isPtr_idx o3, isPtr_idx o4, q1, q2, q3, q4, y1, hmx, y3, y4, n1, n2, ap, R', wu, hn1, fad_fad, isPtr_fad, SS, bne_self_eq_false, wr_def, obOf, List.all_cons, List.all_nil, List.map_cons, List.map_nil, List.length_cons, List.length_nil, List.take_zero, List.take_succ_cons, List.take_nil, List.drop_zero, List.drop_succ_cons, List.drop_nil, Nat.reduceAdd, Nat.reduceMul, Nat.reduceSub, if_true, Nat.reduceLT, Nat.reduceLeDiff, ite_true, ite_false, Nat.reduceEqDiff, if_false, reduceCtorEq, ne_eq, List.getD, List.getElem?_cons_zero, List.getElem?_cons_succ, Option.getD_some, Option.bind_some, Option.map_some, Option.isSome_some, reduceIte, List.length_append, List.append_assoc, List.cons_append, List.nil_append, Option.some.injEq, forall_const, implies_true, Int.reduceNeg, eq_self, Prod.mk.injEq, List.self_eq_append_right, List.append_nil, exists_eq_left, exists_eq_left', exists_and_left, exists_eq_right, exists_and_right]
      exact ⟨_, by omega, u + 1, rfl, by omega, by omega, by omega, rfl, S, T, rfl, D, by rw [← XB _ ha]; exact LL⟩
  · have y1 : decide (t < (nd l 0).t) = false := decide_eq_false z1
    by_cases z2 : t < (nd m 0).t
    · have y2 : decide (t < (nd m 0).t) = true := decide_eq_true z2
      have hmx : max (nd l 0).t (nd m 0).t = u := by omega
      cases ha : apt s A B
      · rw [ha] at ap
        simp (config := {maxSteps := 8000000}) only [e0, e1, e5, e7, e8, b1, len1, len2, w1, w2, o1, o2, o3, o4, isPtr_idx o1, isPtr_idx o2, isPtr_idx o3, isPtr_idx o4, q1, q2, q3, q4, y1, y2, hmx, y3, y4, n1, n2, ap, R', wu, hn1, fad_fad, isPtr_fad, SS, bne_self_eq_false, wr_def, obOf, List.all_cons, List.all_nil, List.map_cons, List.map_nil, List.length_cons, List.length_nil, List.take_zero, List.take_succ_cons, List.take_nil, List.drop_zero, List.drop_succ_cons, List.drop_nil, Nat.reduceAdd, Nat.reduceMul, Nat.reduceSub, if_true, Nat.reduceLT, Nat.reduceLeDiff, ite_true, ite_false, Nat.reduceEqDiff, if_false, reduceCtorEq, ne_eq, List.getD, List.getElem?_cons_zero, List.getElem?_cons_succ, Option.getD_some, Option.bind_some, Option.map_some, Option.isSome_some, reduceIte, List.length_append, List.append_assoc, List.cons_append, List.nil_append, Option.some.injEq, forall_const, implies_true, Int.reduceNeg, eq_self, Prod.mk.injEq, List.self_eq_append_right, List.append_nil, exists_eq_left, exists_eq_left', exists_and_left, exists_eq_right, exists_and_right]
        exact app _ (fun v' h' r0 r1 r2 r3 r4 r5 => ⟨_, by omega, u + 1, rfl, by omega, by omega, by omega, rfl, r1, r2, r3, r4, by rw [← XB _ ha]; exact r5⟩) _ rfl
      · rw [ha] at ap
        simp (config := {maxSteps := 8000000}) only [e0, e1, e5, e7, e8, b1, len1, len2, w1, w2, o1, o2, o3, o4, isPtr_idx o1, isPtr_idx o2, isPtr_idx o3, isPtr_idx o4, q1, q2, q3, q4, y1, y2, hmx, y3, y4, n1, n2, ap, R', wu, hn1, fad_fad, isPtr_fad, SS, bne_self_eq_false, wr_def, obOf, List.all_cons, List.all_nil, List.map_cons, List.map_nil, List.length_cons, List.length_nil, List.take_zero, List.take_succ_cons, List.take_nil, List.drop_zero, List.drop_succ_cons, List.drop_nil, Nat.reduceAdd, Nat.reduceMul, Nat.reduceSub, if_true, Nat.reduceLT, Nat.reduceLeDiff, ite_true, ite_false, Nat.reduceEqDiff, if_false, reduceCtorEq, ne_eq, List.getD, List.getElem?_cons_zero, List.getElem?_cons_succ, Option.getD_some, Option.bind_some, Option.map_some, Option.isSome_some, reduceIte, List.length_append, List.append_assoc, List.cons_append, List.nil_append, Option.some.injEq, forall_const, implies_true, Int.reduceNeg, eq_self, Prod.mk.injEq, List.self_eq_append_right, List.append_nil, exists_eq_left, exists_eq_left', exists_and_left, exists_eq_right, exists_and_right]
        exact ⟨_, by omega, u + 1, rfl, by omega, by omega, by omega, rfl, S, T, rfl, D, by rw [← XB _ ha]; exact LL⟩
    · have y2 : decide (t < (nd m 0).t) = false := decide_eq_false z2
      have hut : u = t := by omega
      subst hut
      cases ha : apt s A B
      · rw [ha] at ap
        simp (config := {maxSteps := 8000000}) only [e0, e1, e5, e7, e8, b1, len1, len2, w1, w2, o1, o2, o3, o4, isPtr_idx o1, isPtr_idx o2, isPtr_idx o3, isPtr_idx o4, q1, q2, q3, q4, y1, y2, y3, y4, n1, n2, ap, R', wu, hn1, fad_fad, isPtr_fad, SS, bne_self_eq_false, wr_def, obOf, List.all_cons, List.all_nil, List.map_cons, List.map_nil, List.length_cons, List.length_nil, List.take_zero, List.take_succ_cons, List.take_nil, List.drop_zero, List.drop_succ_cons, List.drop_nil, Nat.reduceAdd, Nat.reduceMul, Nat.reduceSub, if_true, Nat.reduceLT, Nat.reduceLeDiff, ite_true, ite_false, Nat.reduceEqDiff, if_false, reduceCtorEq, ne_eq, List.getD, List.getElem?_cons_zero, List.getElem?_cons_succ, Option.getD_some, Option.bind_some, Option.map_some, Option.isSome_some, reduceIte, List.length_append, List.append_assoc, List.cons_append, List.nil_append, Option.some.injEq, forall_const, implies_true, Int.reduceNeg, eq_self, Prod.mk.injEq, List.self_eq_append_right, List.append_nil, exists_eq_left, exists_eq_left', exists_and_left, exists_eq_right, exists_and_right]
        exact app _ (fun v' h' r0 r1 r2 r3 r4 r5 => ⟨_, by omega, u + 1, rfl, by omega, by omega, by omega, rfl, r1, r2, r3, r4, by rw [← XB _ ha]; exact r5⟩) _ rfl
      · rw [ha] at ap
        simp (config := {maxSteps := 8000000}) only [e0, e1, e5, e7, e8, b1, len1, len2, w1, w2, o1, o2, o3, o4, isPtr_idx o1, isPtr_idx o2, isPtr_idx o3, isPtr_idx o4, q1, q2, q3, q4, y1, y2, y3, y4, n1, n2, ap, R', wu, hn1, fad_fad, isPtr_fad, SS, bne_self_eq_false, wr_def, obOf, List.all_cons, List.all_nil, List.map_cons, List.map_nil, List.length_cons, List.length_nil, List.take_zero, List.take_succ_cons, List.take_nil, List.drop_zero, List.drop_succ_cons, List.drop_nil, Nat.reduceAdd, Nat.reduceMul, Nat.reduceSub, if_true, Nat.reduceLT, Nat.reduceLeDiff, ite_true, ite_false, Nat.reduceEqDiff, if_false, reduceCtorEq, ne_eq, List.getD, List.getElem?_cons_zero, List.getElem?_cons_succ, Option.getD_some, Option.bind_some, Option.map_some, Option.isSome_some, reduceIte, List.length_append, List.append_assoc, List.cons_append, List.nil_append, Option.some.injEq, forall_const, implies_true, Int.reduceNeg, eq_self, Prod.mk.injEq, List.self_eq_append_right, List.append_nil, exists_eq_left, exists_eq_left', exists_and_left, exists_eq_right, exists_and_right]
        exact ⟨_, by omega, u + 1, rfl, by omega, by omega, by omega, rfl, S, T, rfl, D, by rw [← XB _ ha]; exact LL⟩
end Go.Proofs.Ytaekgifbehoipaa.Pb
