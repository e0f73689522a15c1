/- Searching in a slice of filter tracks, and putting two of them together. Conditions: slices that come in read as told. -/
import Derived.Test.YtpehhlfbnkakpaaFuB
namespace Go.Proofs.Ytpehhlfbnkakpaa.Fl
open Go Go.Proofs.Ytpehhlfbnkakpaa.Eva Go.Proofs.Ytpehhlfbnkakpaa.CodeAll
set_option linter.unusedVariables false
set_option linter.unusedSimpArgs false
set_option maxRecDepth 10000
set_option maxHeartbeats 4000000

/-- IndexFunc and ContainsFunc over T. -/
theorem ixf_T {H : List Ob} {V : AV} {ks : List T} {g : Nat} {caps : List AV} {p : T → Bool} (hs : SlL H V T.c 20 ks) (hbig : ks.length ≤ 1125899906842624) (hf : ∀ x k, k ∈ ks → pcall E g ([.agg k.c] ++ caps) (H ++ x) = some (.bool (p k))) :
    ecall E 73 [V, .fn g caps] H = some (.int .i64 (ixGo p ks 0), H, H.length, H.length) := by
  refine call_plain e73 rfl (Nat.le_of_ble_eq_true rfl) rfl ?_
  generalize hR : ixGo p ks 0 = R
  have hlen := hs.len
  simp (config := {maxSteps := 4000000}) only [c73, hlen, SS, bne_self_eq_false, wr_def, obOf, List.all_cons, List.all_nil, List.map_cons, List.map_nil, List.length_cons, List.length_nil, List.take_zero, List.take_succ_cons, List.take_nil, List.drop_zero, List.drop_succ_cons, List.drop_nil, Nat.reduceAdd, Nat.reduceMul, Nat.reduceSub, if_true, Nat.reduceLT, Nat.reduceLeDiff, ite_true, ite_false, Nat.reduceEqDiff, if_false, reduceCtorEq, ne_eq, List.getD, List.getElem?_cons_zero, List.getElem?_cons_succ, Option.getD_some, Option.bind_some, Option.map_some, Option.isSome_some, reduceIte, List.length_append, List.append_assoc, List.cons_append, List.nil_append, Option.some.injEq, forall_const, implies_true, Int.reduceNeg, eq_self, Prod.mk.injEq, List.self_eq_append_right, List.append_nil, exists_eq_left, exists_eq_left', exists_and_left, exists_eq_right, exists_and_right]
  refine W_loop (fun q f1 h1 => ∃ j : Nat, q = ks.length - j ∧ j ≤ ks.length ∧ f1 0 = V ∧ f1 1 = .fn g caps ∧ f1 7 = .int .i64 ks.length ∧ f1 8 = .int .i64 j ∧ ixGo p (ks.drop j) j = R) (Nat.le_refl _) ks.length ⟨0, rfl, Nat.zero_le _, rfl, rfl, rfl, rfl, hR⟩ ?_
  rintro q f1 h1 hn1 ht ⟨j, rfl, hj, e0, e1, e7, e8, hgo⟩
  rw [List.take_length] at ht
  have hH := take_eq ht
  generalize h1.drop H.length = y at hH
  subst hH
  by_cases hjl : j < ks.length
  · have hjl' : decide ((j : Int) < (ks.length : Int)) = true := by simpa using hjl
    obtain ⟨k, hk⟩ : ∃ k, ks[j]? = some k := ⟨_, List.getElem?_eq_getElem hjl⟩
    have hd : ks.drop j = k :: ks.drop (j + 1) := by
      rw [List.drop_eq_getElem_cons hjl]; congr 1
      rw [List.getElem?_eq_getElem hjl] at hk; simpa using hk
    have hwj : IntKind.i64.wrap ((j : Int) + 1) = ((j + 1 : Nat) : Int) := by rw [wrap64 (by omega) (by omega)]; omega
    have hok : idxOk 20 V (.int .i64 (j : Int)) := hs.ok (by omega) (by omega)
    have hld := (hs.keep y).ldn (i := (j : Int)) (kk := .i64) (x := k) (by omega) (by simpa using hk)
    have hp := hf y k (List.mem_of_getElem? hk)
    rw [hd] at hgo
    simp only [ixGo] at hgo
    simp only [T.c, getC_zero, List.cons_append, List.nil_append] at hld hp
    simp (config := {maxSteps := 4000000}) only [e0, e1, e7, e8, hjl', hwj, hok, isPtr_idx hok, hld, hp, pcallV_fn, SS, bne_self_eq_false, wr_def, obOf, List.all_cons, List.all_nil, List.map_cons, List.map_nil, List.length_cons, List.length_nil, List.take_zero, List.take_succ_cons, List.take_nil, List.drop_zero, List.drop_succ_cons, List.drop_nil, Nat.reduceAdd, Nat.reduceMul, Nat.reduceSub, if_true, Nat.reduceLT, Nat.reduceLeDiff, ite_true, ite_false, Nat.reduceEqDiff, if_false, reduceCtorEq, ne_eq, List.getD, List.getElem?_cons_zero, List.getElem?_cons_succ, Option.getD_some, Option.bind_some, Option.map_some, Option.isSome_some, reduceIte, List.length_append, List.append_assoc, List.cons_append, List.nil_append, Option.some.injEq, forall_const, implies_true, Int.reduceNeg, eq_self, Prod.mk.injEq, List.self_eq_append_right, List.append_nil, exists_eq_left, exists_eq_left', exists_and_left, exists_eq_right, exists_and_right]
    refine ⟨fun k1 => ?_, fun k1 => ?_⟩
    · rw [if_pos k1] at hgo; subst hgo; rfl
    · rw [if_neg (by simpa using k1)] at hgo
      exact ⟨_, by omega, j + 1, rfl, by omega, rfl, hgo⟩
  · have hjl' : decide ((j : Int) < (ks.length : Int)) = false := by simpa using hjl
    have hd : ks.drop j = [] := List.drop_eq_nil_of_le (by omega)
    rw [hd] at hgo
    simp only [ixGo] at hgo
    subst hgo
    simp (config := {maxSteps := 8000000}) only [e0, e1, e7, e8, hjl', SS, bne_self_eq_false, wr_def, obOf, List.all_cons, List.all_nil, List.map_cons, List.map_nil, List.length_cons, List.length_nil, List.take_zero, List.take_succ_cons, List.take_nil, List.drop_zero, List.drop_succ_cons, List.drop_nil, Nat.reduceAdd, Nat.reduceMul, Nat.reduceSub, if_true, Nat.reduceLT, Nat.reduceLeDiff, ite_true, ite_false, Nat.reduceEqDiff, if_false, reduceCtorEq, ne_eq, List.getD, List.getElem?_cons_zero, List.getElem?_cons_succ, Option.getD_some, Option.bind_some, Option.map_some, Option.isSome_some, reduceIte, List.length_append, List.append_assoc, List.cons_append, List.nil_append, Option.some.injEq, forall_const, implies_true, Int.reduceNeg, eq_self, Prod.mk.injEq, List.self_eq_append_right, List.append_nil, exists_eq_left, exists_eq_left', exists_and_left, exists_eq_right, exists_and_right]
theorem ctf_T {H : List Ob} {V : AV} {ks : List T} {g : Nat} {caps : List AV} {p : T → Bool} (hs : SlL H V T.c 20 ks) (hbig : ks.length ≤ 1125899906842624) (hf : ∀ x k, k ∈ ks → pcall E g ([.agg k.c] ++ caps) (H ++ x) = some (.bool (p k))) :
    pcall E 31 [V, .fn g caps] H = some (.bool (ks.any p)) := by
  refine pcall_some.2 (call_plain e31 rfl (Nat.le_of_ble_eq_true rfl) rfl ?_)
  have h1 := pcall_some.2 (ixf_T hs hbig hf)
  simp (config := {maxSteps := 4000000}) only [c31, h1, SS, bne_self_eq_false, wr_def, obOf, List.all_cons, List.all_nil, List.map_cons, List.map_nil, List.length_cons, List.length_nil, List.take_zero, List.take_succ_cons, List.take_nil, List.drop_zero, List.drop_succ_cons, List.drop_nil, Nat.reduceAdd, Nat.reduceMul, Nat.reduceSub, if_true, Nat.reduceLT, Nat.reduceLeDiff, ite_true, ite_false, Nat.reduceEqDiff, if_false, reduceCtorEq, ne_eq, List.getD, List.getElem?_cons_zero, List.getElem?_cons_succ, Option.getD_some, Option.bind_some, Option.map_some, Option.isSome_some, reduceIte, List.length_append, List.append_assoc, List.cons_append, List.nil_append, Option.some.injEq, forall_const, implies_true, Int.reduceNeg, eq_self, Prod.mk.injEq, List.self_eq_append_right, List.append_nil, exists_eq_left, exists_eq_left', exists_and_left, exists_eq_right, exists_and_right]
  exact congrArg AV.bool (ixGo_any p ks 0)

def eqT (a b : T) : Bool := a.id == b.id && (a.st == b.st && (a.ti == b.ti && (a.x == b.x && (a.y == b.y && (a.sx == b.sx && (a.sy == b.sy && (a.hgt == b.hgt && (a.ra == b.ra && (a.rad == b.rad && (a.code == b.code && (a.hits == b.hits && (a.mis == b.mis && (a.slack == b.slack && (a.lt == b.lt && (a.lx == b.lx && (a.ly == b.ly && (a.lh == b.lh && (a.lc == b.lc && (a.le == b.le && true)))))))))))))))))))
theorem eqT_iff (a b : T) : eqT a b = true ↔ a = b := by
  obtain ⟨⟩ := a; obtain ⟨⟩ := b
  simp [eqT]
theorem idx_T {H : List Ob} {V : AV} {ks : List T} (hs : SlL H V T.c 20 ks) (hbig : ks.length ≤ 1125899906842624) (x : T) :
    ecall E 74 [V, .agg x.c] H = some (.int .i64 (ixGo (eqT x) ks 0), H, H.length, H.length) := by
  refine call_plain e74 rfl (Nat.le_of_ble_eq_true rfl) rfl ?_
  generalize hR : ixGo (eqT x) ks 0 = R
  have hlen := hs.len
  simp (config := {maxSteps := 4000000}) only [c74, T.c, hlen, SS, bne_self_eq_false, wr_def, obOf, List.all_cons, List.all_nil, List.map_cons, List.map_nil, List.length_cons, List.length_nil, List.take_zero, List.take_succ_cons, List.take_nil, List.drop_zero, List.drop_succ_cons, List.drop_nil, Nat.reduceAdd, Nat.reduceMul, Nat.reduceSub, if_true, Nat.reduceLT, Nat.reduceLeDiff, ite_true, ite_false, Nat.reduceEqDiff, if_false, reduceCtorEq, ne_eq, List.getD, List.getElem?_cons_zero, List.getElem?_cons_succ, Option.getD_some, Option.bind_some, Option.map_some, Option.isSome_some, reduceIte, List.length_append, List.append_assoc, List.cons_append, List.nil_append, Option.some.injEq, forall_const, implies_true, Int.reduceNeg, eq_self, Prod.mk.injEq, List.self_eq_append_right, List.append_nil, exists_eq_left, exists_eq_left', exists_and_left, exists_eq_right, exists_and_right]
  refine W_loop (fun q f1 h1 => ∃ j : Nat, q = ks.length - j ∧ j ≤ ks.length ∧ f1 0 = V ∧ f1 3 = .ptr H.length 0 0 ∧ f1 7 = .int .i64 ks.length ∧ f1 8 = .int .i64 j ∧ rdObj h1 H.length 0 = some ⟨x.c, 0, 0, true, true⟩ ∧ ixGo (eqT x) (ks.drop j) j = R) (by simp) ks.length ⟨0, rfl, Nat.zero_le _, rfl, rfl, rfl, rfl, by simp [rdObj, T.c], hR⟩ ?_
  rintro q f1 h1 hn1 ht ⟨j, rfl, hj, e0, e3, e7, e8, r3, hgo⟩
  rw [List.take_left] at ht
  have hH := take_eq ht
  generalize h1.drop H.length = y at hH
  subst hH
  by_cases hjl : j < ks.length
  · have hjl' : decide ((j : Int) < (ks.length : Int)) = true := decide_eq_true (by omega)
    obtain ⟨k, hk⟩ : ∃ k, ks[j]? = some k := ⟨_, List.getElem?_eq_getElem hjl⟩
    have hd : ks.drop j = k :: ks.drop (j + 1) := by
      rw [List.drop_eq_getElem_cons hjl]; congr 1
      rw [List.getElem?_eq_getElem hjl] at hk; simpa using hk
    have hwj : IntKind.i64.wrap ((j : Int) + 1) = ((j + 1 : Nat) : Int) := by rw [wrap64 (by omega) (by omega)]; omega
    have hok : idxOk 20 V (.int .i64 (j : Int)) := hs.ok (by omega) (by omega)
    have hld := (hs.keep y).ldn (i := (j : Int)) (kk := .i64) (x := k) (by omega) (by simpa using hk)
    rw [hd] at hgo
    simp only [ixGo] at hgo
    simp only [T.c] at hld r3
    have hq : (x.id == k.id && (x.st == k.st && (x.ti == k.ti && (x.x == k.x && (x.y == k.y && (x.sx == k.sx && (x.sy == k.sy && (x.hgt == k.hgt && (x.ra == k.ra && (x.rad == k.rad && (x.code == k.code && (x.hits == k.hits && (x.mis == k.mis && (x.slack == k.slack && (x.lt == k.lt && (x.lx == k.lx && (x.ly == k.ly && (x.lh == k.lh && (x.lc == k.lc && (x.le == k.le)))))))))))))))))))) = eqT x k := by simp [eqT]
    generalize eqT x k = Q at *
    simp (config := {maxSteps := 4000000}) only [e0, e3, e7, e8, hjl', hwj, hok, isPtr_idx hok, hld, r3, hq, Bool.false_xor, SS, bne_self_eq_false, wr_def, obOf, List.all_cons, List.all_nil, List.map_cons, List.map_nil, List.length_cons, List.length_nil, List.take_zero, List.take_succ_cons, List.take_nil, List.drop_zero, List.drop_succ_cons, List.drop_nil, Nat.reduceAdd, Nat.reduceMul, Nat.reduceSub, if_true, Nat.reduceLT, Nat.reduceLeDiff, ite_true, ite_false, Nat.reduceEqDiff, if_false, reduceCtorEq, ne_eq, List.getD, List.getElem?_cons_zero, List.getElem?_cons_succ, Option.getD_some, Option.bind_some, Option.map_some, Option.isSome_some, reduceIte, List.length_append, List.append_assoc, List.cons_append, List.nil_append, Option.some.injEq, forall_const, implies_true, Int.reduceNeg, eq_self, Prod.mk.injEq, List.self_eq_append_right, List.append_nil, exists_eq_left, exists_eq_left', exists_and_left, exists_eq_right, exists_and_right]
    refine ⟨fun k1 => ?_, fun k1 => ?_⟩
    · rw [if_pos k1] at hgo; subst hgo; rfl
    · rw [if_neg (by simpa using k1)] at hgo
      exact ⟨_, by omega, j + 1, rfl, by omega, rfl, rfl, hgo⟩
  · have hjl' : decide ((j : Int) < (ks.length : Int)) = false := decide_eq_false (by omega)
    have hd : ks.drop j = [] := List.drop_eq_nil_of_le (by omega)
    rw [hd] at hgo
    simp only [ixGo] at hgo
    subst hgo
    simp (config := {maxSteps := 8000000}) only [e0, e3, e7, e8, hjl', SS, bne_self_eq_false, wr_def, obOf, List.all_cons, List.all_nil, List.map_cons, List.map_nil, List.length_cons, List.length_nil, List.take_zero, List.take_succ_cons, List.take_nil, List.drop_zero, List.drop_succ_cons, List.drop_nil, Nat.reduceAdd, Nat.reduceMul, Nat.reduceSub, if_true, Nat.reduceLT, Nat.reduceLeDiff, ite_true, ite_false, Nat.reduceEqDiff, if_false, reduceCtorEq, ne_eq, List.getD, List.getElem?_cons_zero, List.getElem?_cons_succ, Option.getD_some, Option.bind_some, Option.map_some, Option.isSome_some, reduceIte, List.length_append, List.append_assoc, List.cons_append, List.nil_append, Option.some.injEq, forall_const, implies_true, Int.reduceNeg, eq_self, Prod.mk.injEq, List.self_eq_append_right, List.append_nil, exists_eq_left, exists_eq_left', exists_and_left, exists_eq_right, exists_and_right]
theorem con_T {H : List Ob} {V : AV} {ks : List T} (hs : SlL H V T.c 20 ks) (hbig : ks.length ≤ 1125899906842624) (x : T) :
    pcall E 33 [V, .agg x.c] H = some (.bool (ks.any (eqT x))) := by
  refine pcall_some.2 (call_plain e33 rfl (Nat.le_of_ble_eq_true rfl) rfl ?_)
  have h1 := fun o => pcall_some.2 (idx_T (hs.keep o) hbig x)
  simp only [T.c] at h1
  simp (config := {maxSteps := 4000000}) only [c33, T.c, h1, SS, bne_self_eq_false, wr_def, obOf, List.all_cons, List.all_nil, List.map_cons, List.map_nil, List.length_cons, List.length_nil, List.take_zero, List.take_succ_cons, List.take_nil, List.drop_zero, List.drop_succ_cons, List.drop_nil, Nat.reduceAdd, Nat.reduceMul, Nat.reduceSub, if_true, Nat.reduceLT, Nat.reduceLeDiff, ite_true, ite_false, Nat.reduceEqDiff, if_false, reduceCtorEq, ne_eq, List.getD, List.getElem?_cons_zero, List.getElem?_cons_succ, Option.getD_some, Option.bind_some, Option.map_some, Option.isSome_some, reduceIte, List.length_append, List.append_assoc, List.cons_append, List.nil_append, Option.some.injEq, forall_const, implies_true, Int.reduceNeg, eq_self, Prod.mk.injEq, List.self_eq_append_right, List.append_nil, exists_eq_left, exists_eq_left', exists_and_left, exists_eq_right, exists_and_right]
  exact congrArg AV.bool (ixGo_any (eqT x) ks 0)

theorem grow_T {k : Nat} (hk : k ≤ 1000) (H : List Ob) : ∃ v o, ecall E 75 [.sl true 0 0 0 0 0, .int .i64 (k : Int)] H = some (v, H ++ o, H.length, H.length) ∧ Bu H.length (H ++ o) v 20 [] 0 ∧ (∀ id, idOf v id → id = H.length) ∧ (k = 0 → v = .sl true 0 0 0 0 0) := by
  by_cases h0 : k = 0
  · subst h0
    refine ⟨.sl true 0 0 0 0 0, [], ?_, ⟨rfl, Or.inl ⟨rfl, rfl⟩⟩, fun id h => absurd h idOf_nil, fun _ => rfl⟩
    have w0 : IntKind.i64.wrap (((0 : Nat) : Int) - IntKind.i64.wrap (0 - 0)) = 0 := by decide
    have w1 : IntKind.i64.wrap (0 - ((0 : Nat) : Int)) = 0 := by decide
    have w2 : IntKind.i64.wrap (((0 : Nat) : Int) - 0) = 0 := by decide
    have d1 : decide (((0 : Nat) : Int) < 0) = false := rfl
    have d2 : decide ((0 : Int) < 0) = false := rfl
    have key : wc E H.length c75.nt c75.code (fun e f h' => exOk e = true ∧ rvq c75.nt f h' c75.res = some [.sl true 0 0 0 0 0]) (ofL [.sl true 0 0 0 0 0, .int .i64 ((0 : Nat) : Int)]) H := by
      simp (config := {maxSteps := 4000000}) only [c75, w0, w1, w2, d1, d2, SS, bne_self_eq_false, wr_def, obOf, List.all_cons, List.all_nil, List.map_cons, List.map_nil, List.length_cons, List.length_nil, List.take_zero, List.take_succ_cons, List.take_nil, List.drop_zero, List.drop_succ_cons, List.drop_nil, Nat.reduceAdd, Nat.reduceMul, Nat.reduceSub, if_true, Nat.reduceLT, Nat.reduceLeDiff, ite_true, ite_false, Nat.reduceEqDiff, if_false, reduceCtorEq, ne_eq, List.getD, List.getElem?_cons_zero, List.getElem?_cons_succ, Option.getD_some, Option.bind_some, Option.map_some, Option.isSome_some, reduceIte, List.length_append, List.append_assoc, List.cons_append, List.nil_append, Option.some.injEq, forall_const, implies_true, Int.reduceNeg, eq_self, Prod.mk.injEq, List.self_eq_append_right, List.append_nil, exists_eq_left, exists_eq_left', exists_and_left, exists_eq_right, exists_and_right]
    obtain ⟨e, f', h', k1, k2, ⟨k3, k4⟩, k6⟩ := call_wc e75 rfl (Nat.le_of_ble_eq_true rfl) key
    rw [k6 _ k3 k4, mkRes1, fin_ni, k2, List.append_nil]
  · have w1 : IntKind.i64.wrap (0 - ((0 : Nat) : Int)) = 0 := by decide
    have w2 : IntKind.i64.wrap ((k : Int) - 0) = k := by rw [wrap64 (by omega) (by omega)]; omega
    have d1 : decide ((k : Int) < 0) = false := decide_eq_false (by omega)
    have d2 : decide ((0 : Int) < (k : Int)) = true := decide_eq_true (by omega)
    refine ⟨.sl false H.length 0 20 0 0, [⟨zrep k [.int .i64 0, .int .i64 0, .int .i64 0, .int .i64 0, .int .i64 0, .int .i64 0, .int .i64 0, .int .i64 0, .int .i64 0, .int .i64 0, .int .i64 0, .int .i64 0, .int .i64 0, .int .i64 0, .int .i64 0, .int .i64 0, .int .i64 0, .int .i64 0, .int .i64 0, .int .i64 0], 0, 20, true, true⟩], ?_, ⟨rfl, Or.inr ⟨H.length, 0, _, rfl, rd_last (o := ⟨_, 0, 20, true, true⟩), Nat.le_refl _, Or.inl rfl⟩⟩, fun id h => h.2, fun h => absurd h h0⟩
    have key : wc E H.length c75.nt c75.code (fun e f h' => exOk e = true ∧ rvq c75.nt f h' c75.res = some [.sl false H.length 0 20 0 0] ∧ rdObj h' H.length 0 = some ⟨zrep k [.int .i64 0, .int .i64 0, .int .i64 0, .int .i64 0, .int .i64 0, .int .i64 0, .int .i64 0, .int .i64 0, .int .i64 0, .int .i64 0, .int .i64 0, .int .i64 0, .int .i64 0, .int .i64 0, .int .i64 0, .int .i64 0, .int .i64 0, .int .i64 0, .int .i64 0, .int .i64 0], 0, 20, true, true⟩) (ofL [.sl true 0 0 0 0 0, .int .i64 (k : Int)]) H := by
      have hs1 : slcA 20 none (some 0) (.sl true 0 0 0 0 0) = some (.sl true 0 0 0 0 0) := by simp [slcA]
      have hs2 : slcA 20 none (some ((0 : Nat) : Int)) (.sl false H.length 0 20 0 k) = some (.sl false H.length 0 20 0 0) := by simp [slcA]
      have hs2' : slcA 20 none (some 0) (.sl false H.length 0 20 0 k) = some (.sl false H.length 0 20 0 0) := by simp [slcA]
      simp (config := {maxSteps := 4000000}) only [c75, w1, w2, d1, d2, hs1, rg_appz, SS, bne_self_eq_false, wr_def, obOf, List.all_cons, List.all_nil, List.map_cons, List.map_nil, List.length_cons, List.length_nil, List.take_zero, List.take_succ_cons, List.take_nil, List.drop_zero, List.drop_succ_cons, List.drop_nil, Nat.reduceAdd, Nat.reduceMul, Nat.reduceSub, if_true, Nat.reduceLT, Nat.reduceLeDiff, ite_true, ite_false, Nat.reduceEqDiff, if_false, reduceCtorEq, ne_eq, List.getD, List.getElem?_cons_zero, List.getElem?_cons_succ, Option.getD_some, Option.bind_some, Option.map_some, Option.isSome_some, reduceIte, List.length_append, List.append_assoc, List.cons_append, List.nil_append, Option.some.injEq, forall_const, implies_true, Int.reduceNeg, eq_self, Prod.mk.injEq, List.self_eq_append_right, List.append_nil, exists_eq_left, exists_eq_left', exists_and_left, exists_eq_right, exists_and_right]
      refine ⟨_, _, aappz_nil (by omega) (by unfold appLim; omega), ?_⟩
      simp (config := {maxSteps := 4000000}) only [c75, w1, w2, d1, d2, hs1, hs2, hs2', SS, bne_self_eq_false, wr_def, obOf, List.all_cons, List.all_nil, List.map_cons, List.map_nil, List.length_cons, List.length_nil, List.take_zero, List.take_succ_cons, List.take_nil, List.drop_zero, List.drop_succ_cons, List.drop_nil, Nat.reduceAdd, Nat.reduceMul, Nat.reduceSub, if_true, Nat.reduceLT, Nat.reduceLeDiff, ite_true, ite_false, Nat.reduceEqDiff, if_false, reduceCtorEq, ne_eq, List.getD, List.getElem?_cons_zero, List.getElem?_cons_succ, Option.getD_some, Option.bind_some, Option.map_some, Option.isSome_some, reduceIte, List.length_append, List.append_assoc, List.cons_append, List.nil_append, Option.some.injEq, forall_const, implies_true, Int.reduceNeg, eq_self, Prod.mk.injEq, List.self_eq_append_right, List.append_nil, exists_eq_left, exists_eq_left', exists_and_left, exists_eq_right, exists_and_right]
    obtain ⟨e, f', h', k1, k2, ⟨k3, k4, k5⟩, k6⟩ := call_wc e75 rfl (Nat.le_of_ble_eq_true rfl) key
    rw [k6 _ k3 k4, mkRes1, fin_ob k5 (Nat.le_refl _), k2]

theorem concat_T {H : List Ob} {j : Nat} {v1 v2 : AV} {xs ys : List T} {rw' fl' : Bool} (hj : rdObj H j 0 = some ⟨[v1, v2], 0, 1, rw', fl'⟩) (h1 : SlL H v1 T.c 20 xs) (f1 : FgL H v1) (h2 : SlL H v2 T.c 20 ys) (f2 : FgL H v2) (hb : xs.length + ys.length ≤ 500) :
    ecall E 34 [.sl false j 0 1 0 2] H = some (outV H.length 20 (xs ++ ys).length, H ++ outO 20 (xs ++ ys).length (flat T.c (xs ++ ys)), H.length, H.length) := by
  refine call_list1 e34 rfl (Nat.le_of_ble_eq_true rfl) ?_
  have l1 := h1.len
  have l2 := h2.len
  have hjj := fun o => rd_keep (l := o) hj
  have d0 : decide ((0 : Int) < ((2 : Nat) : Int)) = true := rfl
  have d1 : decide ((1 : Int) < ((2 : Nat) : Int)) = true := rfl
  have d2 : decide ((2 : Int) < ((2 : Nat) : Int)) = false := rfl
  have w0 : IntKind.i64.wrap (0 + 1) = 1 := by decide
  have w1 : IntKind.i64.wrap (1 + 1) = 2 := by decide
  have w2 : IntKind.i64.wrap (0 + (xs.length : Int)) = (xs.length : Int) := by rw [wrap64 (by omega) (by omega)]; omega
  have w3 : IntKind.i64.wrap ((xs.length : Int) + (ys.length : Int)) = ((xs.length + ys.length : Nat) : Int) := by rw [wrap64 (by omega) (by omega)]; omega
  have d3 : decide ((xs.length : Int) < 0) = false := decide_eq_false (by omega)
  have d4 : decide (((xs.length + ys.length : Nat) : Int) < 0) = false := decide_eq_false (by omega)
  obtain ⟨gv, go, g1, g2, g3, g4⟩ := grow_T (k := xs.length + ys.length) (by omega) H
  have g1' := ncall_some.2 g1
  have hp0 : (0 : Int) ≤ 0 ∧ (0 : Int) < ((2 : Nat) : Int) ∧ true = true ∧ true = true := by decide
  have i0 : Int.toNat 0 = 0 := rfl
  have i1 : Int.toNat 1 = 1 := rfl
  have p0 : ((0 : Int) ≤ 0) = True := eq_true (by decide)
  have p1 : ((0 : Int) < ((2 : Nat) : Int)) = True := eq_true (by decide)
  have p2 : ((0 : Int) ≤ 1) = True := eq_true (by decide)
  have p3 : ((1 : Int) < ((2 : Nat) : Int)) = True := eq_true (by decide)
  simp (config := {maxSteps := 4000000}) only [c34, SS, bne_self_eq_false, wr_def, obOf, List.all_cons, List.all_nil, List.map_cons, List.map_nil, List.length_cons, List.length_nil, List.take_zero, List.take_succ_cons, List.take_nil, List.drop_zero, List.drop_succ_cons, List.drop_nil, Nat.reduceAdd, Nat.reduceMul, Nat.reduceSub, if_true, Nat.reduceLT, Nat.reduceLeDiff, ite_true, ite_false, Nat.reduceEqDiff, if_false, reduceCtorEq, ne_eq, List.getD, List.getElem?_cons_zero, List.getElem?_cons_succ, Option.getD_some, Option.bind_some, Option.map_some, Option.isSome_some, reduceIte, List.length_append, List.append_assoc, List.cons_append, List.nil_append, Option.some.injEq, forall_const, implies_true, Int.reduceNeg, eq_self, Prod.mk.injEq, List.self_eq_append_right, List.append_nil, exists_eq_left, exists_eq_left', exists_and_left, exists_eq_right, exists_and_right]
  refine W_once (by simp) ?_
  simp (config := {maxSteps := 4000000}) only [d0, w0, p0, p1, i0, hj, l1, w2, d3, SS, bne_self_eq_false, wr_def, obOf, List.all_cons, List.all_nil, List.map_cons, List.map_nil, List.length_cons, List.length_nil, List.take_zero, List.take_succ_cons, List.take_nil, List.drop_zero, List.drop_succ_cons, List.drop_nil, Nat.reduceAdd, Nat.reduceMul, Nat.reduceSub, if_true, Nat.reduceLT, Nat.reduceLeDiff, ite_true, ite_false, Nat.reduceEqDiff, if_false, reduceCtorEq, ne_eq, List.getD, List.getElem?_cons_zero, List.getElem?_cons_succ, Option.getD_some, Option.bind_some, Option.map_some, Option.isSome_some, reduceIte, List.length_append, List.append_assoc, List.cons_append, List.nil_append, Option.some.injEq, forall_const, implies_true, Int.reduceNeg, eq_self, Prod.mk.injEq, List.self_eq_append_right, List.append_nil, exists_eq_left, exists_eq_left', exists_and_left, exists_eq_right, exists_and_right]
  refine W_once (by simp) ?_
  simp (config := {maxSteps := 4000000}) only [d1, w1, p2, p3, i1, hj, l2, w3, d4, SS, bne_self_eq_false, wr_def, obOf, List.all_cons, List.all_nil, List.map_cons, List.map_nil, List.length_cons, List.length_nil, List.take_zero, List.take_succ_cons, List.take_nil, List.drop_zero, List.drop_succ_cons, List.drop_nil, Nat.reduceAdd, Nat.reduceMul, Nat.reduceSub, if_true, Nat.reduceLT, Nat.reduceLeDiff, ite_true, ite_false, Nat.reduceEqDiff, if_false, reduceCtorEq, ne_eq, List.getD, List.getElem?_cons_zero, List.getElem?_cons_succ, Option.getD_some, Option.bind_some, Option.map_some, Option.isSome_some, reduceIte, List.length_append, List.append_assoc, List.cons_append, List.nil_append, Option.some.injEq, forall_const, implies_true, Int.reduceNeg, eq_self, Prod.mk.injEq, List.self_eq_append_right, List.append_nil, exists_eq_left, exists_eq_left', exists_and_left, exists_eq_right, exists_and_right]
  refine W_once (by simp) ?_
  simp (config := {maxSteps := 4000000}) only [d2, rg_calln, ncallV_fn, g1', SS, bne_self_eq_false, wr_def, obOf, List.all_cons, List.all_nil, List.map_cons, List.map_nil, List.length_cons, List.length_nil, List.take_zero, List.take_succ_cons, List.take_nil, List.drop_zero, List.drop_succ_cons, List.drop_nil, Nat.reduceAdd, Nat.reduceMul, Nat.reduceSub, if_true, Nat.reduceLT, Nat.reduceLeDiff, ite_true, ite_false, Nat.reduceEqDiff, if_false, reduceCtorEq, ne_eq, List.getD, List.getElem?_cons_zero, List.getElem?_cons_succ, Option.getD_some, Option.bind_some, Option.map_some, Option.isSome_some, reduceIte, List.length_append, List.append_assoc, List.cons_append, List.nil_append, Option.some.injEq, forall_const, implies_true, Int.reduceNeg, eq_self, Prod.mk.injEq, List.self_eq_append_right, List.append_nil, exists_eq_left, exists_eq_left', exists_and_left, exists_eq_right, exists_and_right]
  refine W_once (by simp) ?_
  simp (config := {maxSteps := 4000000}) only [d0, w0, p0, p1, i0, hjj, SS, bne_self_eq_false, wr_def, obOf, List.all_cons, List.all_nil, List.map_cons, List.map_nil, List.length_cons, List.length_nil, List.take_zero, List.take_succ_cons, List.take_nil, List.drop_zero, List.drop_succ_cons, List.drop_nil, Nat.reduceAdd, Nat.reduceMul, Nat.reduceSub, if_true, Nat.reduceLT, Nat.reduceLeDiff, ite_true, ite_false, Nat.reduceEqDiff, if_false, reduceCtorEq, ne_eq, List.getD, List.getElem?_cons_zero, List.getElem?_cons_succ, Option.getD_some, Option.bind_some, Option.map_some, Option.isSome_some, reduceIte, List.length_append, List.append_assoc, List.cons_append, List.nil_append, Option.some.injEq, forall_const, implies_true, Int.reduceNeg, eq_self, Prod.mk.injEq, List.self_eq_append_right, List.append_nil, exists_eq_left, exists_eq_left', exists_and_left, exists_eq_right, exists_and_right]
  refine bu_app (c := T.c) (ys := xs) g2 (h1.keep go) (f1.keep h1 go) (by unfold appLim; omega) (by simp) (fun v' h' hv' hfr hlen' hidv hz1 => ?_)
  have hlo : ∀ id, idOf gv id → ¬ id < H.length := fun id hx => by have := g3 id hx; omega
  have jlt := rd_lt hj
  have r' : rdObj h' j 0 = some ⟨[v1, v2], 0, 1, rw', fl'⟩ := hfr _ _ _ (rd_keep hj) (fun hx => hlo _ hx jlt)
  have h2' : SlL h' v2 T.c 20 ys := h2.mono (fun id ep o hid ho => hfr _ _ _ (rd_keep ho) (fun hx => hlo _ hx (rd_lt ho)))
  have f2' : FgL h' v2 := fun id ep o hid ho => by
    have hlt := h2.idlt hid
    obtain ⟨_, _, _, ⟨_, ⟨nl, rfl⟩ | rfl⟩ | ⟨id2, ep2, off, o2, rfl, q2, _⟩⟩ := h2
    · exact absurd hid (fun h => h)
    · exact absurd hid idOf_nil
    · obtain ⟨_, rfl⟩ := hid
      have hq := hfr _ _ _ (rd_keep (l := go) q2) (fun hx => hlo _ hx (rd_lt q2))
      have : o = o2 := by
        unfold rdObj at hq ho
        cases hh : h'[id]? with
        | none => rw [hh] at ho; cases ho
        | some ob =>
          rw [hh] at ho hq
          simp only at ho hq
          split at ho <;> (try (cases ho; done))
          split at hq <;> (try (cases hq; done))
          simp only [Option.some.injEq] at ho hq
          rw [← ho, ← hq]
      subst this
      exact f2 id _ o ⟨rfl, rfl⟩ q2
  have hn' : H.length ≤ h'.length := by simp at hlen'; omega
  refine W_once hn' ?_
  simp (config := {maxSteps := 4000000}) only [d1, w1, p2, p3, i1, r', SS, bne_self_eq_false, wr_def, obOf, List.all_cons, List.all_nil, List.map_cons, List.map_nil, List.length_cons, List.length_nil, List.take_zero, List.take_succ_cons, List.take_nil, List.drop_zero, List.drop_succ_cons, List.drop_nil, Nat.reduceAdd, Nat.reduceMul, Nat.reduceSub, if_true, Nat.reduceLT, Nat.reduceLeDiff, ite_true, ite_false, Nat.reduceEqDiff, if_false, reduceCtorEq, ne_eq, List.getD, List.getElem?_cons_zero, List.getElem?_cons_succ, Option.getD_some, Option.bind_some, Option.map_some, Option.isSome_some, reduceIte, List.length_append, List.append_assoc, List.cons_append, List.nil_append, Option.some.injEq, forall_const, implies_true, Int.reduceNeg, eq_self, Prod.mk.injEq, List.self_eq_append_right, List.append_nil, exists_eq_left, exists_eq_left', exists_and_left, exists_eq_right, exists_and_right]
  refine bu_app (c := T.c) (ys := ys) hv' h2' f2' (by unfold appLim; omega) hn' (fun v2' h2'' hv2 hfr2 hlen2 hidv2 hz2 => ?_)
  refine W_once (by omega) ?_
  simp (config := {maxSteps := 4000000}) only [d2, SS, bne_self_eq_false, wr_def, obOf, List.all_cons, List.all_nil, List.map_cons, List.map_nil, List.length_cons, List.length_nil, List.take_zero, List.take_succ_cons, List.take_nil, List.drop_zero, List.drop_succ_cons, List.drop_nil, Nat.reduceAdd, Nat.reduceMul, Nat.reduceSub, if_true, Nat.reduceLT, Nat.reduceLeDiff, ite_true, ite_false, Nat.reduceEqDiff, if_false, reduceCtorEq, ne_eq, List.getD, List.getElem?_cons_zero, List.getElem?_cons_succ, Option.getD_some, Option.bind_some, Option.map_some, Option.isSome_some, reduceIte, List.length_append, List.append_assoc, List.cons_append, List.nil_append, Option.some.injEq, forall_const, implies_true, Int.reduceNeg, eq_self, Prod.mk.injEq, List.self_eq_append_right, List.append_nil, exists_eq_left, exists_eq_left', exists_and_left, exists_eq_right, exists_and_right]
  refine ⟨_, rfl, ?_⟩
  have e1 : flat T.c (xs ++ ys) = [] ++ flat T.c xs ++ flat T.c ys := by simp [flat]
  have e2 : xs.length + ys.length = 0 + xs.length + ys.length := by omega
  rw [e1, e2]
  by_cases hz : 0 + xs.length + ys.length = 0
  · have hx0 : xs.length = 0 := by omega
    have hy0 : ys.length = 0 := by omega
    have hx : xs = [] := List.length_eq_zero_iff.1 hx0
    have hy : ys = [] := List.length_eq_zero_iff.1 hy0
    refine Or.inl ⟨?_, by subst hx; subst hy; rfl, hz⟩
    rw [hz2 hy0, hz1 hx0, g4 (by omega)]
  · exact hv2.isl hz
end Go.Proofs.Ytpehhlfbnkakpaa.Fl
