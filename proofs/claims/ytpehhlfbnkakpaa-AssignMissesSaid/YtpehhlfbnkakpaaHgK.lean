/- What Best of the package assign answer. Conditions stand in each lemma. -/
import Derived.Test.YtpehhlfbnkakpaaHgH
import Derived.Test.YtpehhlfbnkakpaaHgJ
namespace Go.Proofs.Ytpehhlfbnkakpaa.Hg
open Go Go.Proofs.Ytpehhlfbnkakpaa.Eva Go.Proofs.Ytpehhlfbnkakpaa.CodeAll Go.Proofs.Ytpehhlfbnkakpaa.Fl
set_option linter.unusedVariables false
set_option linter.unusedSimpArgs false
set_option maxRecDepth 10000
set_option maxHeartbeats 4000000

theorem sq_mx {n0 : Nat} {H : List Ob} {v : AV} {vs : List AV} {rows : List (List Int)} {n : Nat} {miss : Int} (hC : ∀ r ∈ rows, RowOk n r) (hm0 : 0 ≤ miss) (hm1 : miss ≤ 1099511627776) (hR : rows.length ≤ 32) (hn : n ≤ 32) (W : Wd n0 H v vs (sqTo rows miss rows.length)) :
    ∃ T, Least (mF (sqTo rows miss rows.length)) rows.length (n + rows.length) T ∧ pcall E 88 [v] H = some (.int .i64 T) := by
  have mx := W.ns.mx (sq_row_len hC)
  rw [sqTo_len] at mx
  obtain ⟨T, L, h⟩ := total_ex (sq_bd hC hm0 hm1) mx (by omega) (by omega)
  exact ⟨T, L, pcall_some.2 h⟩
/-- There is a width that is small. -/
theorem ok_n {rows : List (List Int)} {miss : Int} (hok : Ok rows miss) : ∃ n, n ≤ 32 ∧ ∀ r ∈ rows, RowOk n r := by
  obtain ⟨hR, ⟨n, hC⟩, _⟩ := hok
  cases rows with
  | nil => exact ⟨0, by omega, fun r hr => by cases hr⟩
  | cons r l =>
    obtain ⟨h1, h2, _⟩ := hC r (by simp)
    exact ⟨n, by omega, hC⟩
def outL (n : Nat) (ks : Nat → Nat) (i : Nat) : List Int := (List.range i).map fun a => if ks a < n then (ks a : Int) else -1
theorem outL_len {n i : Nat} {ks : Nat → Nat} : (outL n ks i).length = i := by simp [outL]
theorem outL_get {n i a : Nat} {ks : Nat → Nat} (h : a < i) : (outL n ks i)[a]? = some (if ks a < n then (ks a : Int) else -1) := by simp [outL, h]
theorem outL_succ {n i k : Nat} {ks : Nat → Nat} : outL n (fun a => if a = i then k else ks a) (i + 1) = outL n ks i ++ [if k < n then (k : Int) else -1] := by
  unfold outL
  rw [List.range_succ, List.map_append]
  congr 1
  · apply List.map_congr_left
    intro a ha
    have : a ≠ i := by have := List.mem_range.1 ha; omega
    simp [this]
  · simp
theorem fin_list3 {n0 : Nat} {h : List Ob} {v : AV} {sz k : Nat} {cs : List AV} {n : Nat} {f : Fr} {a b : Int} (H : IsL n0 h v sz true cs k) :
    fin n0 (mkRes [v, .int .i64 a, .int .i64 b]) (stt n f h n0 n0) = (.tup [outV n0 sz k, .int .i64 a, .int .i64 b], h.take n0 ++ outO sz k cs, n0, n0) := fin_list H [.int .i64 a, .int .i64 b] rfl
theorem best_err {H : List Ob} {V : AV} {vs : List AV} {rows : List (List Int)} (A : NsL H V vs rows) {miss : Int} (hno : ¬ Ok rows miss) :
    ∃ e, e ≠ 0 ∧ ecall E 50 [V, .int .i64 miss] H = some (.tup [.sl true 0 0 0 0 0, .int .i64 0, .int .i64 e], H, H.length, H.length) := by
  obtain ⟨e, he, hc⟩ := check_ex A miss
  have hne : e ≠ 0 := fun h => hno (he.1 h)
  have hck := pcall_some.2 hc
  have hb : (e != 0) = true := by rw [bne_iff_ne]; exact hne
  have key : wc E H.length c50.nt c50.code (fun x f h' => exOk x = true ∧ rvq c50.nt f h' c50.res = some [.sl true 0 0 0 0 0, .int .i64 0, .int .i64 e]) (ofL [V, .int .i64 miss]) H := by
    simp (config := {maxSteps := 8000000}) only [c50, hck, hb, SS, bne_self_eq_false, wr_def, obOf, List.all_cons, List.all_nil, List.map_cons, List.map_nil, List.length_cons, List.length_nil, List.take_zero, List.take_succ_cons, List.take_nil, List.drop_zero, List.drop_succ_cons, List.drop_nil, Nat.reduceAdd, Nat.reduceMul, Nat.reduceSub, if_true, Nat.reduceLT, Nat.reduceLeDiff, ite_true, ite_false, Nat.reduceEqDiff, if_false, reduceCtorEq, ne_eq, List.getD, List.getElem?_cons_zero, List.getElem?_cons_succ, Option.getD_some, Option.bind_some, Option.map_some, Option.isSome_some, reduceIte, List.length_append, List.append_assoc, List.cons_append, List.nil_append, Option.some.injEq, forall_const, implies_true, Int.reduceNeg, eq_self, Prod.mk.injEq, List.self_eq_append_right, List.append_nil, exists_eq_left, exists_eq_left', exists_and_left, exists_eq_right, exists_and_right]
  refine ⟨e, hne, ?_⟩
  obtain ⟨x, f', h', k1, k2, ⟨k3, k4⟩, k6⟩ := call_wc e50 rfl (Nat.le_of_ble_eq_true rfl) key
  rw [k6 _ k3 k4, fin_list3 (sz := 1) (IsL.nil (n0 := H.length) (h := h') (sz := 1) (fl := true)), k2]
  simp [outV, outO]
theorem best_ok {H : List Ob} {V : AV} {vs : List AV} {rows : List (List Int)} (A : NsL H V vs rows) (hf : ∀ u ∈ vs, FgL H u) {miss : Int} (hok : Ok rows miss) :
    ∃ n T τs, n ≤ 32 ∧ (∀ r ∈ rows, RowOk n r) ∧ LeastP rows n miss T ∧ T ≤ 35184372088832 ∧ τs.length = rows.length ∧ Val rows n (fun i => (τs[i]?).getD (-1)) ∧ costOf rows miss (fun i => (τs[i]?).getD (-1)) = T ∧ (miss = 0 → ∀ t ∈ τs, t = -1) ∧
      ecall E 50 [V, .int .i64 miss] H = some (.tup [outV H.length 1 rows.length, .int .i64 T, .int .i64 0], H ++ outO 1 rows.length (flat intC τs), H.length, H.length) := by
  obtain ⟨n, hn, hC⟩ := ok_n hok
  have hR := hok.1
  have hm0 := hok.2.2.1
  have hm1 := hok.2.2.2
  obtain ⟨v, vs0, y, hW0, hsq⟩ := square_ex A hf hok
  obtain ⟨T, L, htp⟩ := sq_mx hC hm0 hm1 hR hn hW0
  obtain ⟨hLP, hT⟩ := least_sq (rok_len hC) hm0 hm1 hR L
  obtain ⟨e, he, hc⟩ := check_ex A miss
  have he0 := he.2 hok
  subst he0
  have hck := pcall_some.2 hc
  have hsn := ncall_some.2 hsq
  have hlen := A.out.len
  rw [A.len] at hlen
  have key : wc E H.length c50.nt c50.code (fun x f h' => exOk x = true ∧ ∃ u, rvq c50.nt f h' c50.res = some [u, .int .i64 T, .int .i64 0] ∧ ∃ ks cur, Bs rows n miss T rows.length ks cur ∧ IsL H.length h' u 1 true (flat intC (outL n ks rows.length)) rows.length) (ofL [V, .int .i64 miss]) H := by
    simp (config := {maxSteps := 8000000}) only [c50, hck, rg_calln, ncallV_fn, hsn, htp, hlen, SS, bne_self_eq_false, wr_def, obOf, List.all_cons, List.all_nil, List.map_cons, List.map_nil, List.length_cons, List.length_nil, List.take_zero, List.take_succ_cons, List.take_nil, List.drop_zero, List.drop_succ_cons, List.drop_nil, Nat.reduceAdd, Nat.reduceMul, Nat.reduceSub, if_true, Nat.reduceLT, Nat.reduceLeDiff, ite_true, ite_false, Nat.reduceEqDiff, if_false, reduceCtorEq, ne_eq, List.getD, List.getElem?_cons_zero, List.getElem?_cons_succ, Option.getD_some, Option.bind_some, Option.map_some, Option.isSome_some, reduceIte, List.length_append, List.append_assoc, List.cons_append, List.nil_append, Option.some.injEq, forall_const, implies_true, Int.reduceNeg, eq_self, Prod.mk.injEq, List.self_eq_append_right, List.append_nil, exists_eq_left, exists_eq_left', exists_and_left, exists_eq_right, exists_and_right]
    refine W_loopW (fun q f1 h1 => ∃ i : Nat, q = rows.length - i ∧ i ≤ rows.length ∧ f1 0 = V ∧ f1 8 = v ∧ f1 9 = .int .i64 T ∧ f1 24 = .int .i64 (rows.length : Int) ∧ f1 25 = .int .i64 (i : Int) ∧ ∃ ks cur vs', Bs rows n miss T i ks cur ∧ Wd H.length h1 v vs' cur ∧ IsL H.length h1 (f1 10) 1 true (flat intC (outL n ks i)) i ∧ ∀ id, idOf (f1 10) id → ¬ InW v vs' id) (by simp) rows.length
      ⟨0, rfl, by omega, by simp only [SS, bne_self_eq_false, wr_def, obOf, List.all_cons, List.all_nil, List.map_cons, List.map_nil, List.length_cons, List.length_nil, List.take_zero, List.take_succ_cons, List.take_nil, List.drop_zero, List.drop_succ_cons, List.drop_nil, Nat.reduceAdd, Nat.reduceMul, Nat.reduceSub, if_true, Nat.reduceLT, Nat.reduceLeDiff, ite_true, ite_false, Nat.reduceEqDiff, if_false, reduceCtorEq, ne_eq, List.getD, List.getElem?_cons_zero, List.getElem?_cons_succ, Option.getD_some, Option.bind_some, Option.map_some, Option.isSome_some, reduceIte, List.length_append, List.append_assoc, List.cons_append, List.nil_append, Option.some.injEq, forall_const, implies_true, Int.reduceNeg, eq_self, Prod.mk.injEq, List.self_eq_append_right, List.append_nil, exists_eq_left, exists_eq_left', exists_and_left, exists_eq_right, exists_and_right], by simp only [SS, bne_self_eq_false, wr_def, obOf, List.all_cons, List.all_nil, List.map_cons, List.map_nil, List.length_cons, List.length_nil, List.take_zero, List.take_succ_cons, List.take_nil, List.drop_zero, List.drop_succ_cons, List.drop_nil, Nat.reduceAdd, Nat.reduceMul, Nat.reduceSub, if_true, Nat.reduceLT, Nat.reduceLeDiff, ite_true, ite_false, Nat.reduceEqDiff, if_false, reduceCtorEq, ne_eq, List.getD, List.getElem?_cons_zero, List.getElem?_cons_succ, Option.getD_some, Option.bind_some, Option.map_some, Option.isSome_some, reduceIte, List.length_append, List.append_assoc, List.cons_append, List.nil_append, Option.some.injEq, forall_const, implies_true, Int.reduceNeg, eq_self, Prod.mk.injEq, List.self_eq_append_right, List.append_nil, exists_eq_left, exists_eq_left', exists_and_left, exists_eq_right, exists_and_right], by simp only [SS, bne_self_eq_false, wr_def, obOf, List.all_cons, List.all_nil, List.map_cons, List.map_nil, List.length_cons, List.length_nil, List.take_zero, List.take_succ_cons, List.take_nil, List.drop_zero, List.drop_succ_cons, List.drop_nil, Nat.reduceAdd, Nat.reduceMul, Nat.reduceSub, if_true, Nat.reduceLT, Nat.reduceLeDiff, ite_true, ite_false, Nat.reduceEqDiff, if_false, reduceCtorEq, ne_eq, List.getD, List.getElem?_cons_zero, List.getElem?_cons_succ, Option.getD_some, Option.bind_some, Option.map_some, Option.isSome_some, reduceIte, List.length_append, List.append_assoc, List.cons_append, List.nil_append, Option.some.injEq, forall_const, implies_true, Int.reduceNeg, eq_self, Prod.mk.injEq, List.self_eq_append_right, List.append_nil, exists_eq_left, exists_eq_left', exists_and_left, exists_eq_right, exists_and_right], by simp only [SS, bne_self_eq_false, wr_def, obOf, List.all_cons, List.all_nil, List.map_cons, List.map_nil, List.length_cons, List.length_nil, List.take_zero, List.take_succ_cons, List.take_nil, List.drop_zero, List.drop_succ_cons, List.drop_nil, Nat.reduceAdd, Nat.reduceMul, Nat.reduceSub, if_true, Nat.reduceLT, Nat.reduceLeDiff, ite_true, ite_false, Nat.reduceEqDiff, if_false, reduceCtorEq, ne_eq, List.getD, List.getElem?_cons_zero, List.getElem?_cons_succ, Option.getD_some, Option.bind_some, Option.map_some, Option.isSome_some, reduceIte, List.length_append, List.append_assoc, List.cons_append, List.nil_append, Option.some.injEq, forall_const, implies_true, Int.reduceNeg, eq_self, Prod.mk.injEq, List.self_eq_append_right, List.append_nil, exists_eq_left, exists_eq_left', exists_and_left, exists_eq_right, exists_and_right], by simp only [SS, bne_self_eq_false, wr_def, obOf, List.all_cons, List.all_nil, List.map_cons, List.map_nil, List.length_cons, List.length_nil, List.take_zero, List.take_succ_cons, List.take_nil, List.drop_zero, List.drop_succ_cons, List.drop_nil, Nat.reduceAdd, Nat.reduceMul, Nat.reduceSub, if_true, Nat.reduceLT, Nat.reduceLeDiff, ite_true, ite_false, Nat.reduceEqDiff, if_false, reduceCtorEq, ne_eq, List.getD, List.getElem?_cons_zero, List.getElem?_cons_succ, Option.getD_some, Option.bind_some, Option.map_some, Option.isSome_some, reduceIte, List.length_append, List.append_assoc, List.cons_append, List.nil_append, Option.some.injEq, forall_const, implies_true, Int.reduceNeg, eq_self, Prod.mk.injEq, List.self_eq_append_right, List.append_nil, exists_eq_left, exists_eq_left', exists_and_left, exists_eq_right, exists_and_right]; rfl, _, _, vs0, Bs.init hC hm0 hm1 L, hW0, by simp only [SS, bne_self_eq_false, wr_def, obOf, List.all_cons, List.all_nil, List.map_cons, List.map_nil, List.length_cons, List.length_nil, List.take_zero, List.take_succ_cons, List.take_nil, List.drop_zero, List.drop_succ_cons, List.drop_nil, Nat.reduceAdd, Nat.reduceMul, Nat.reduceSub, if_true, Nat.reduceLT, Nat.reduceLeDiff, ite_true, ite_false, Nat.reduceEqDiff, if_false, reduceCtorEq, ne_eq, List.getD, List.getElem?_cons_zero, List.getElem?_cons_succ, Option.getD_some, Option.bind_some, Option.map_some, Option.isSome_some, reduceIte, List.length_append, List.append_assoc, List.cons_append, List.nil_append, Option.some.injEq, forall_const, implies_true, Int.reduceNeg, eq_self, Prod.mk.injEq, List.self_eq_append_right, List.append_nil, exists_eq_left, exists_eq_left', exists_and_left, exists_eq_right, exists_and_right]; exact IsL.nil, by simp only [SS, bne_self_eq_false, wr_def, obOf, List.all_cons, List.all_nil, List.map_cons, List.map_nil, List.length_cons, List.length_nil, List.take_zero, List.take_succ_cons, List.take_nil, List.drop_zero, List.drop_succ_cons, List.drop_nil, Nat.reduceAdd, Nat.reduceMul, Nat.reduceSub, if_true, Nat.reduceLT, Nat.reduceLeDiff, ite_true, ite_false, Nat.reduceEqDiff, if_false, reduceCtorEq, ne_eq, List.getD, List.getElem?_cons_zero, List.getElem?_cons_succ, Option.getD_some, Option.bind_some, Option.map_some, Option.isSome_some, reduceIte, List.length_append, List.append_assoc, List.cons_append, List.nil_append, Option.some.injEq, forall_const, implies_true, Int.reduceNeg, eq_self, Prod.mk.injEq, List.self_eq_append_right, List.append_nil, exists_eq_left, exists_eq_left', exists_and_left, exists_eq_right, exists_and_right]; exact fun id hid => absurd hid idOf_nil⟩ ?_
    rintro q f1 h1 hn1 ht ⟨i, rfl, hi, e0, e8, e9, e24, e25, ks, cur, vs', B, hW, hI, hsep⟩
    rw [List.take_left] at ht
    have hH := take_eq ht
    generalize h1.drop H.length = x at hH
    subst hH
    have hw1 : IntKind.i64.wrap ((i : Int) + 1) = ((i + 1 : Nat) : Int) := by rw [wrap64 (by omega) (by omega)]; omega
    generalize he10 : f1 10 = vo at *
    by_cases hiR : i < rows.length
    · have hc1 : decide ((i : Int) < (rows.length : Int)) = true := decide_eq_true (by omega)
      obtain ⟨u, r, hr, hu, S, d1, o1⟩ := A.row hiR
      have hrl : r.length = n := rok_len hC r (List.mem_of_getElem? hr)
      have hlu : lenvA false u = some (.int .i64 (n : Int)) := by rw [S.len, hrl]
      have hici : ∀ k, mF cur i k = mF (sqTo rows miss rows.length) i k := fun k => mF_row (B.rest i (Nat.le_refl _))
      have hLc : Least (mF cur) cur.length (n + rows.length) T := by rw [B.len]; exact B.L
      obtain ⟨h2, wl, wa, k, g1, g2, g3, g4, g5, g6, g7, g8, ⟨vs2, g9, g10⟩, g11⟩ := choose_ex (many := n) (C := n + rows.length) hW B.cl B.bd (by rw [B.len]; exact hiR) (by rw [B.len]) (by omega) (fun k h1 h2 h3 => by
        have e1 : k = n + (k - n) := by omega
        rw [hici, e1, sq_priv (rok_len hC) hiR (by omega)]
        unfold priv
        rw [if_neg (by omega)]) hLc (by omega)
      rw [B.len] at g8 g11
      have B2 := B.step hC hm0 hm1 hLP hiR g1 g7 g8 g11
      refine W_seqI (wc_sound _ _ _ _ hn1 ?_)
      simp (config := {maxSteps := 8000000}) only [e0, e8, e9, e24, e25, he10, hc1, SS, bne_self_eq_false, wr_def, obOf, List.all_cons, List.all_nil, List.map_cons, List.map_nil, List.length_cons, List.length_nil, List.take_zero, List.take_succ_cons, List.take_nil, List.drop_zero, List.drop_succ_cons, List.drop_nil, Nat.reduceAdd, Nat.reduceMul, Nat.reduceSub, if_true, Nat.reduceLT, Nat.reduceLeDiff, ite_true, ite_false, Nat.reduceEqDiff, if_false, reduceCtorEq, ne_eq, List.getD, List.getElem?_cons_zero, List.getElem?_cons_succ, Option.getD_some, Option.bind_some, Option.map_some, Option.isSome_some, reduceIte, List.length_append, List.append_assoc, List.cons_append, List.nil_append, Option.some.injEq, forall_const, implies_true, Int.reduceNeg, eq_self, Prod.mk.injEq, List.self_eq_append_right, List.append_nil, exists_eq_left, exists_eq_left', exists_and_left, exists_eq_right, exists_and_right]
      refine W_seqI (wc_sound _ _ _ _ hn1 ?_)
      simp (config := {maxSteps := 8000000}) only [e0, e8, e9, e24, e25, he10, hc1, SS, bne_self_eq_false, wr_def, obOf, List.all_cons, List.all_nil, List.map_cons, List.map_nil, List.length_cons, List.length_nil, List.take_zero, List.take_succ_cons, List.take_nil, List.drop_zero, List.drop_succ_cons, List.drop_nil, Nat.reduceAdd, Nat.reduceMul, Nat.reduceSub, if_true, Nat.reduceLT, Nat.reduceLeDiff, ite_true, ite_false, Nat.reduceEqDiff, if_false, reduceCtorEq, ne_eq, List.getD, List.getElem?_cons_zero, List.getElem?_cons_succ, Option.getD_some, Option.bind_some, Option.map_some, Option.isSome_some, reduceIte, List.length_append, List.append_assoc, List.cons_append, List.nil_append, Option.some.injEq, forall_const, implies_true, Int.reduceNeg, eq_self, Prod.mk.injEq, List.self_eq_append_right, List.append_nil, exists_eq_left, exists_eq_left', exists_and_left, exists_eq_right, exists_and_right]
      refine W_seqI (W_blkI (W_seqI (wc_sound _ _ _ _ hn1 ?_)))
      simp (config := {maxSteps := 8000000}) only [e0, e8, e9, e24, e25, he10, hc1, SS, bne_self_eq_false, wr_def, obOf, List.all_cons, List.all_nil, List.map_cons, List.map_nil, List.length_cons, List.length_nil, List.take_zero, List.take_succ_cons, List.take_nil, List.drop_zero, List.drop_succ_cons, List.drop_nil, Nat.reduceAdd, Nat.reduceMul, Nat.reduceSub, if_true, Nat.reduceLT, Nat.reduceLeDiff, ite_true, ite_false, Nat.reduceEqDiff, if_false, reduceCtorEq, ne_eq, List.getD, List.getElem?_cons_zero, List.getElem?_cons_succ, Option.getD_some, Option.bind_some, Option.map_some, Option.isSome_some, reduceIte, List.length_append, List.append_assoc, List.cons_append, List.nil_append, Option.some.injEq, forall_const, implies_true, Int.reduceNeg, eq_self, Prod.mk.injEq, List.self_eq_append_right, List.append_nil, exists_eq_left, exists_eq_left', exists_and_left, exists_eq_right, exists_and_right]
      refine W_regI (RG_cut (K1 := fun f' h' => f' 0 = V ∧ f' 8 = v ∧ f' 9 = .int .i64 T ∧ f' 24 = .int .i64 (rows.length : Int) ∧ f' 25 = .int .i64 (i : Int) ∧ f' 28 = vo ∧ f' 29 = v ∧ f' 30 = .int .i64 (i : Int) ∧ f' 35 = .int .i64 (n : Int) ∧ f' 36 = .int .i64 T ∧ h' = H ++ x) 9 (RG_of hn1 ?_) ?_)
      · simp (config := {maxSteps := 8000000}) only [e0, e8, e9, e24, e25, he10, o1, isPtr_idx o1, d1, hlu, SS, bne_self_eq_false, wr_def, obOf, List.all_cons, List.all_nil, List.map_cons, List.map_nil, List.length_cons, List.length_nil, List.take_zero, List.take_succ_cons, List.take_nil, List.drop_zero, List.drop_succ_cons, List.drop_nil, Nat.reduceAdd, Nat.reduceMul, Nat.reduceSub, if_true, Nat.reduceLT, Nat.reduceLeDiff, ite_true, ite_false, Nat.reduceEqDiff, if_false, reduceCtorEq, ne_eq, List.getD, List.getElem?_cons_zero, List.getElem?_cons_succ, Option.getD_some, Option.bind_some, Option.map_some, Option.isSome_some, reduceIte, List.length_append, List.append_assoc, List.cons_append, List.nil_append, Option.some.injEq, forall_const, implies_true, Int.reduceNeg, eq_self, Prod.mk.injEq, List.self_eq_append_right, List.append_nil, exists_eq_left, exists_eq_left', exists_and_left, exists_eq_right, exists_and_right]
      clear e0 e8 e9 e24 e25
      rintro f3 h3 hn3 ht3 ⟨e0, e8, e9, e24, e25, e28, e29, e30, e35, e36, rfl⟩
      simp (config := {maxSteps := 8000000}) only [SS, bne_self_eq_false, wr_def, obOf, List.all_cons, List.all_nil, List.map_cons, List.map_nil, List.length_cons, List.length_nil, List.take_zero, List.take_succ_cons, List.take_nil, List.drop_zero, List.drop_succ_cons, List.drop_nil, Nat.reduceAdd, Nat.reduceMul, Nat.reduceSub, if_true, Nat.reduceLT, Nat.reduceLeDiff, ite_true, ite_false, Nat.reduceEqDiff, if_false, reduceCtorEq, ne_eq, List.getD, List.getElem?_cons_zero, List.getElem?_cons_succ, Option.getD_some, Option.bind_some, Option.map_some, Option.isSome_some, reduceIte, List.length_append, List.append_assoc, List.cons_append, List.nil_append, Option.some.injEq, forall_const, implies_true, Int.reduceNeg, eq_self, Prod.mk.injEq, List.self_eq_append_right, List.append_nil, exists_eq_left, exists_eq_left', exists_and_left, exists_eq_right, exists_and_right]
      have hargs : List.map (ev c50.nt f3) [.t 29, .t 30, .t 35, .t 36] ++ [] = [v, .int .i64 (i : Int), .int .i64 (n : Int), .int .i64 T] := by
        simp only [e29, e30, e35, e36, c50, SS, bne_self_eq_false, wr_def, obOf, List.all_cons, List.all_nil, List.map_cons, List.map_nil, List.length_cons, List.length_nil, List.take_zero, List.take_succ_cons, List.take_nil, List.drop_zero, List.drop_succ_cons, List.drop_nil, Nat.reduceAdd, Nat.reduceMul, Nat.reduceSub, if_true, Nat.reduceLT, Nat.reduceLeDiff, ite_true, ite_false, Nat.reduceEqDiff, if_false, reduceCtorEq, ne_eq, List.getD, List.getElem?_cons_zero, List.getElem?_cons_succ, Option.getD_some, Option.bind_some, Option.map_some, Option.isSome_some, reduceIte, List.length_append, List.append_assoc, List.cons_append, List.nil_append, Option.some.injEq, forall_const, implies_true, Int.reduceNeg, eq_self, Prod.mk.injEq, List.self_eq_append_right, List.append_nil, exists_eq_left, exists_eq_left', exists_and_left, exists_eq_right, exists_and_right]
      refine RG_call (k := 90) (caps := []) (v := .int .i64 (if k < n then (k : Int) else -1)) (h2 := h2) (wl := wl) (wa := wa) (by simp only [SS, bne_self_eq_false, wr_def, obOf, List.all_cons, List.all_nil, List.map_cons, List.map_nil, List.length_cons, List.length_nil, List.take_zero, List.take_succ_cons, List.take_nil, List.drop_zero, List.drop_succ_cons, List.drop_nil, Nat.reduceAdd, Nat.reduceMul, Nat.reduceSub, if_true, Nat.reduceLT, Nat.reduceLeDiff, ite_true, ite_false, Nat.reduceEqDiff, if_false, reduceCtorEq, ne_eq, List.getD, List.getElem?_cons_zero, List.getElem?_cons_succ, Option.getD_some, Option.bind_some, Option.map_some, Option.isSome_some, reduceIte, List.length_append, List.append_assoc, List.cons_append, List.nil_append, Option.some.injEq, forall_const, implies_true, Int.reduceNeg, eq_self, Prod.mk.injEq, List.self_eq_append_right, List.append_nil, exists_eq_left, exists_eq_left', exists_and_left, exists_eq_right, exists_and_right]) (by first | (rw [hargs]; exact g2) | (rw [show (List.map (ev 43 f3) [.t 29, .t 30, .t 35, .t 36] ++ [] : List AV) = [v, .int .i64 (i : Int), .int .i64 (n : Int), .int .i64 T] from hargs]; exact g2)) g3 g4 g5 (by rw [g6]; simp) (fun h => by cases h) (RG_of g5 ?_)
      generalize hkv : (if k < n then (k : Int) else -1) = kv at *
      simp (config := {maxSteps := 8000000}) only [e0, e8, e9, e24, e25, e28, SS, bne_self_eq_false, wr_def, obOf, List.all_cons, List.all_nil, List.map_cons, List.map_nil, List.length_cons, List.length_nil, List.take_zero, List.take_succ_cons, List.take_nil, List.drop_zero, List.drop_succ_cons, List.drop_nil, Nat.reduceAdd, Nat.reduceMul, Nat.reduceSub, if_true, Nat.reduceLT, Nat.reduceLeDiff, ite_true, ite_false, Nat.reduceEqDiff, if_false, reduceCtorEq, ne_eq, List.getD, List.getElem?_cons_zero, List.getElem?_cons_succ, Option.getD_some, Option.bind_some, Option.map_some, Option.isSome_some, reduceIte, List.length_append, List.append_assoc, List.cons_append, List.nil_append, Option.some.injEq, forall_const, implies_true, Int.reduceNeg, eq_self, Prod.mk.injEq, List.self_eq_append_right, List.append_nil, exists_eq_left, exists_eq_left', exists_and_left, exists_eq_right, exists_and_right]
      have hI2 : IsL H.length h2 vo 1 true (flat intC (outL n ks i)) i := hI.mono fun id ep o hid ho => g10.keep id ep o ho (fun hv => hsep id hid (Or.inl hv))
      have hvolt : ∀ id, idOf vo id → id < (H ++ x).length := fun id hid => hI.idlt hid
      refine appK_at (c := [.int .i64 kv]) (rw' := true) (fl' := true) (hI2.keep _) (by simp [rdObj]) (by rw [flat_len (k := 1) (fun x => rfl), outL_len]) rfl (by unfold appLim; omega) (by simp; omega) (fun v' h' hv' hfr hlen' hidv => ?_)
      have hn5 : H.length ≤ h'.length := by simp at hlen'; omega
      have hnin : ∀ id, InW v vs2 id → ¬ idOf vo id := by
        intro id hin hvo
        rcases g10.inn id hin with h9 | h9
        · exact hsep id hvo h9
        · have := hvolt id hvo; omega
      refine wc_sound _ _ _ _ hn5 ?_
      simp (config := {maxSteps := 8000000}) only [e0, e8, e9, e24, e25, hw1, SS, bne_self_eq_false, wr_def, obOf, List.all_cons, List.all_nil, List.map_cons, List.map_nil, List.length_cons, List.length_nil, List.take_zero, List.take_succ_cons, List.take_nil, List.drop_zero, List.drop_succ_cons, List.drop_nil, Nat.reduceAdd, Nat.reduceMul, Nat.reduceSub, if_true, Nat.reduceLT, Nat.reduceLeDiff, ite_true, ite_false, Nat.reduceEqDiff, if_false, reduceCtorEq, ne_eq, List.getD, List.getElem?_cons_zero, List.getElem?_cons_succ, Option.getD_some, Option.bind_some, Option.map_some, Option.isSome_some, reduceIte, List.length_append, List.append_assoc, List.cons_append, List.nil_append, Option.some.injEq, forall_const, implies_true, Int.reduceNeg, eq_self, Prod.mk.injEq, List.self_eq_append_right, List.append_nil, exists_eq_left, exists_eq_left', exists_and_left, exists_eq_right, exists_and_right]
      refine ⟨_, by omega, i + 1, rfl, by omega, rfl, _, _, B2, vs2, g9.mono fun id ep o hin ho => hfr id ep o (rd_keep ho) (hnin id hin), ?_, fun id hid hin => ?_⟩
      · rw [outL_succ, hkv]
        simpa [flat, intC] using hv'
      · have h8 := g9.lt hin
        rcases hidv with h9 | h9
        · have := idOf_inj h9 hid
          simp at this; omega
        · exact hnin id hin (h9 id hid)
    · have hc1 : decide ((i : Int) < (rows.length : Int)) = false := decide_eq_false (by omega)
      have hiE : i = rows.length := by omega
      subst hiE
      refine wc_sound _ _ _ _ hn1 ?_
      simp (config := {maxSteps := 8000000}) only [e0, e8, e9, e24, e25, he10, hc1, SS, bne_self_eq_false, wr_def, obOf, List.all_cons, List.all_nil, List.map_cons, List.map_nil, List.length_cons, List.length_nil, List.take_zero, List.take_succ_cons, List.take_nil, List.drop_zero, List.drop_succ_cons, List.drop_nil, Nat.reduceAdd, Nat.reduceMul, Nat.reduceSub, if_true, Nat.reduceLT, Nat.reduceLeDiff, ite_true, ite_false, Nat.reduceEqDiff, if_false, reduceCtorEq, ne_eq, List.getD, List.getElem?_cons_zero, List.getElem?_cons_succ, Option.getD_some, Option.bind_some, Option.map_some, Option.isSome_some, reduceIte, List.length_append, List.append_assoc, List.cons_append, List.nil_append, Option.some.injEq, forall_const, implies_true, Int.reduceNeg, eq_self, Prod.mk.injEq, List.self_eq_append_right, List.append_nil, exists_eq_left, exists_eq_left', exists_and_left, exists_eq_right, exists_and_right]
      exact ⟨_, rfl, ks, ⟨cur, B⟩, hI⟩
  obtain ⟨x, f', h', k1, k2, ⟨k3, u, k4, ks, cur, B, hI⟩, k6⟩ := call_wc e50 rfl (Nat.le_of_ble_eq_true rfl) key
  obtain ⟨hV, hcost⟩ := B.fin hC hm0 hm1 hT
  have hτ : ∀ i, i < rows.length → ((outL n ks rows.length)[i]?).getD (-1) = if ks i < n then (ks i : Int) else -1 := fun i hi => by rw [outL_get hi]; rfl
  refine ⟨n, T, outL n ks rows.length, hn, hC, hLP, hT, outL_len, ⟨fun i hi => ?_, fun i j hi hj e h0 => ?_⟩, ?_, fun h0 t ht => ?_, ?_⟩
  · rw [hτ i hi]; exact hV.rng i hi
  · rw [hτ i hi, hτ j hj] at e
    rw [hτ i hi] at h0
    exact hV.inj i j hi hj e h0
  · rw [← hcost]
    exact sumN_congr fun i hi => by dsimp only; rw [hτ i hi]
  · simp only [outL, List.mem_map, List.mem_range] at ht
    obtain ⟨a, ha, rfl⟩ := ht
    have := B.tie h0 a ha
    rw [if_neg (by omega)]
  · rw [k6 _ k3 k4, fin_list3 hI, k2]
end Go.Proofs.Ytpehhlfbnkakpaa.Hg
