/- What the functions of the package filter, and those that they call, answer. Conditions: none. -/
import Derived.Test.YtpehhlfbnkakpaaNmA
namespace Go.Proofs.Ytpehhlfbnkakpaa.Fl
open Go Go.Proofs.Ytpehhlfbnkakpaa.Eva Go.Proofs.Ytpehhlfbnkakpaa.CodeAll
set_option linter.unusedVariables false
set_option linter.unusedSimpArgs false
set_option maxRecDepth 10000
set_option maxHeartbeats 4000000

theorem speed_run (a : Int) (H : List Ob) : ecall E 98 [.int .i64 a] H = some (.bool (decide (a < -12800) || decide (12800 < a)), H, H.length, H.length) := by
  refine call_plain e98 rfl (Nat.le_of_ble_eq_true rfl) rfl ?_
  simp only [c98, SS, bne_self_eq_false, wr_def, obOf, List.all_cons, List.all_nil, List.map_cons, List.map_nil, List.length_cons, List.length_nil, List.take_zero, List.take_succ_cons, List.take_nil, List.drop_zero, List.drop_succ_cons, List.drop_nil, Nat.reduceAdd, Nat.reduceMul, Nat.reduceSub, if_true, Nat.reduceLT, Nat.reduceLeDiff, ite_true, ite_false, Nat.reduceEqDiff, if_false, reduceCtorEq, ne_eq, List.getD, List.getElem?_cons_zero, List.getElem?_cons_succ, Option.getD_some, Option.bind_some, Option.map_some, Option.isSome_some, reduceIte, List.length_append, List.append_assoc, List.cons_append, List.nil_append, Option.some.injEq, forall_const, implies_true, Int.reduceNeg, eq_self, Prod.mk.injEq, List.self_eq_append_right, List.append_nil, exists_eq_left, exists_eq_left', exists_and_left, exists_eq_right, exists_and_right]
theorem placed_run (x y : Int) (H : List Ob) : ecall E 119 [.agg [.int .i64 x, .int .i64 y]] H = some (.bool (decide (-1000000 ≤ x) && decide (x ≤ 1000000) && decide (-1000000 ≤ y) && decide (y ≤ 1000000)), H, H.length, H.length) := by
  refine call_plain e119 rfl (Nat.le_of_ble_eq_true rfl) rfl ?_
  simp only [c119, SS, bne_self_eq_false, wr_def, obOf, List.all_cons, List.all_nil, List.map_cons, List.map_nil, List.length_cons, List.length_nil, List.take_zero, List.take_succ_cons, List.take_nil, List.drop_zero, List.drop_succ_cons, List.drop_nil, Nat.reduceAdd, Nat.reduceMul, Nat.reduceSub, if_true, Nat.reduceLT, Nat.reduceLeDiff, ite_true, ite_false, Nat.reduceEqDiff, if_false, reduceCtorEq, ne_eq, List.getD, List.getElem?_cons_zero, List.getElem?_cons_succ, Option.getD_some, Option.bind_some, Option.map_some, Option.isSome_some, reduceIte, List.length_append, List.append_assoc, List.cons_append, List.nil_append, Option.some.injEq, forall_const, implies_true, Int.reduceNeg, eq_self, Prod.mk.injEq, List.self_eq_append_right, List.append_nil, exists_eq_left, exists_eq_left', exists_and_left, exists_eq_right, exists_and_right]
theorem placed_pc (x y : Int) (H : List Ob) : pcall E 119 [.agg [.int .i64 x, .int .i64 y]] H = some (.bool (decide (-1000000 ≤ x) && decide (x ≤ 1000000) && decide (-1000000 ≤ y) && decide (y ≤ 1000000))) := pcall_some.2 (placed_run x y H)
theorem speed_pc (a : Int) (H : List Ob) : pcall E 98 [.int .i64 a] H = some (.bool (decide (a < -12800) || decide (12800 < a))) := pcall_some.2 (speed_run a H)

def spotOff (t x y hgt c e : Int) : Bool := decide (t < 0) || decide (200000 < t) || !(decide (-1000000 ≤ x) && decide (x ≤ 1000000) && decide (-1000000 ≤ y) && decide (y ≤ 1000000)) || decide (hgt < 0) || decide (60000 < hgt) || decide (c < -1) || decide (4095 < c) || decide (e < 0) || decide (1000000 < e)

theorem spot_run (t x y hgt c e : Int) (H : List Ob) : ecall E 99 [.agg [.int .i64 t, .int .i64 x, .int .i64 y, .int .i64 hgt, .int .i64 c, .int .i64 e]] H = some (.int .i64 (if spotOff t x y hgt c e = true then 4 else 0), H, H.length, H.length) := by
  refine call_plain e99 rfl (Nat.le_of_ble_eq_true rfl) rfl ?_
  simp only [c99, placed_pc, SS, bne_self_eq_false, wr_def, obOf, List.all_cons, List.all_nil, List.map_cons, List.map_nil, List.length_cons, List.length_nil, List.take_zero, List.take_succ_cons, List.take_nil, List.drop_zero, List.drop_succ_cons, List.drop_nil, Nat.reduceAdd, Nat.reduceMul, Nat.reduceSub, if_true, Nat.reduceLT, Nat.reduceLeDiff, ite_true, ite_false, Nat.reduceEqDiff, if_false, reduceCtorEq, ne_eq, List.getD, List.getElem?_cons_zero, List.getElem?_cons_succ, Option.getD_some, Option.bind_some, Option.map_some, Option.isSome_some, reduceIte, List.length_append, List.append_assoc, List.cons_append, List.nil_append, Option.some.injEq, forall_const, implies_true, Int.reduceNeg, eq_self, Prod.mk.injEq, List.self_eq_append_right, List.append_nil, exists_eq_left, exists_eq_left', exists_and_left, exists_eq_right, exists_and_right]
  exact ⟨fun hb => by simp only [spotOff, hb, ite_true], fun hb => by simp only [spotOff, hb, Bool.false_eq_true, ite_false]⟩
theorem spot_pc (t x y hgt c e : Int) (H : List Ob) : pcall E 99 [.agg [.int .i64 t, .int .i64 x, .int .i64 y, .int .i64 hgt, .int .i64 c, .int .i64 e]] H = some (.int .i64 (if spotOff t x y hgt c e = true then 4 else 0)) := pcall_some.2 (spot_run ..)

structure T where
  (id st ti x y sx sy hgt ra rad code hits mis slack lt lx ly lh lc le : Int)
def T.c (f : T) : List AV := [.int .i64 f.id, .int .i64 f.st, .int .i64 f.ti, .int .i64 f.x, .int .i64 f.y, .int .i64 f.sx, .int .i64 f.sy, .int .i64 f.hgt, .int .i64 f.ra, .int .i64 f.rad, .int .i64 f.code, .int .i64 f.hits, .int .i64 f.mis, .int .i64 f.slack, .int .i64 f.lt, .int .i64 f.lx, .int .i64 f.ly, .int .i64 f.lh, .int .i64 f.lc, .int .i64 f.le]
def T.zero : T := ⟨0, 0, 0, 0, 0, 0, 0, 0, 0, 0, 0, 0, 0, 0, 0, 0, 0, 0, 0, 0⟩

def T.chk (f : T) : Int :=
  if (decide (f.ti < 0) || decide (200000 < f.ti) || decide (f.x < -1000000) || decide (1000000 < f.x) || decide (f.y < -1000000) || decide (1000000 < f.y)) = true then 4 else
  if (decide (f.sx < -12800) || decide (12800 < f.sx) || (decide (f.sy < -12800) || decide (12800 < f.sy))) = true then 4 else
  if (decide (f.hgt < 0) || decide (60000 < f.hgt)) = true then 4 else
  if (decide (f.ra < -3200) || decide (3200 < f.ra)) = true then 4 else
  if (decide (f.rad < 0) || decide (4000000 < f.rad)) = true then 4 else
  if (decide (f.code < -1) || decide (4095 < f.code)) = true then 4 else
  if (decide (f.slack < 0) || decide (409600 < f.slack)) = true then 4 else
  if (decide (f.id < 0) || decide (f.hits < 0) || decide (f.mis < 0)) = true then 4 else
  if (decide (f.st < 0) || decide (2 < f.st)) = true then 1 else
  if spotOff f.lt f.lx f.ly f.lh f.lc f.le = true then 4 else
  if f.ti < f.lt then 12 else 0

theorem check_run (f : T) (H : List Ob) : ecall E 64 [.agg f.c] H = some (.int .i64 f.chk, H, H.length, H.length) := by
  refine call_plain e64 rfl (Nat.le_of_ble_eq_true rfl) rfl ?_
  simp (config := {maxSteps := 4000000}) only [T.c, c64, spot_pc, speed_pc, SS, bne_self_eq_false, wr_def, obOf, List.all_cons, List.all_nil, List.map_cons, List.map_nil, List.length_cons, List.length_nil, List.take_zero, List.take_succ_cons, List.take_nil, List.drop_zero, List.drop_succ_cons, List.drop_nil, Nat.reduceAdd, Nat.reduceMul, Nat.reduceSub, if_true, Nat.reduceLT, Nat.reduceLeDiff, ite_true, ite_false, Nat.reduceEqDiff, if_false, reduceCtorEq, ne_eq, List.getD, List.getElem?_cons_zero, List.getElem?_cons_succ, Option.getD_some, Option.bind_some, Option.map_some, Option.isSome_some, reduceIte, List.length_append, List.append_assoc, List.cons_append, List.nil_append, Option.some.injEq, forall_const, implies_true, Int.reduceNeg, eq_self, Prod.mk.injEq, List.self_eq_append_right, List.append_nil, exists_eq_left, exists_eq_left', exists_and_left, exists_eq_right, exists_and_right]
  unfold T.chk
  repeat' first | (refine And.intro ?_ ?_) | (intro hb; simp only [hb, if_true, Bool.false_eq_true, if_false])
  all_goals (by_cases hs : spotOff f.lt f.lx f.ly f.lh f.lc f.le = true <;> simp_all <;> omega)
theorem check_pc (f : T) (H : List Ob) : pcall E 64 [.agg f.c] H = some (.int .i64 f.chk) := pcall_some.2 (check_run f H)
theorem check_pcl (id st ti x y sx sy hgt ra rad code hits mis slack lt lx ly lh lc le : Int) (H : List Ob) : pcall E 64 [.agg [.int .i64 id, .int .i64 st, .int .i64 ti, .int .i64 x, .int .i64 y, .int .i64 sx, .int .i64 sy, .int .i64 hgt, .int .i64 ra, .int .i64 rad, .int .i64 code, .int .i64 hits, .int .i64 mis, .int .i64 slack, .int .i64 lt, .int .i64 lx, .int .i64 ly, .int .i64 lh, .int .i64 lc, .int .i64 le]] H = some (.int .i64 (T.chk ⟨id, st, ti, x, y, sx, sy, hgt, ra, rad, code, hits, mis, slack, lt, lx, ly, lh, lc, le⟩)) := check_pc ⟨id, st, ti, x, y, sx, sy, hgt, ra, rad, code, hits, mis, slack, lt, lx, ly, lh, lc, le⟩ H

theorem down_pc (a b : Int) (H : List Ob) : pcall E 100 [.int .i64 a, .int .i64 b] H = some (.int .i64 (dvd a b)) := by
  refine pcall_some.2 (call_plain e100 rfl (Nat.le_of_ble_eq_true rfl) rfl ?_)
  simp (config := {maxSteps := 4000000}) only [c100, dvd_pc, SS, bne_self_eq_false, wr_def, obOf, List.all_cons, List.all_nil, List.map_cons, List.map_nil, List.length_cons, List.length_nil, List.take_zero, List.take_succ_cons, List.take_nil, List.drop_zero, List.drop_succ_cons, List.drop_nil, Nat.reduceAdd, Nat.reduceMul, Nat.reduceSub, if_true, Nat.reduceLT, Nat.reduceLeDiff, ite_true, ite_false, Nat.reduceEqDiff, if_false, reduceCtorEq, ne_eq, List.getD, List.getElem?_cons_zero, List.getElem?_cons_succ, Option.getD_some, Option.bind_some, Option.map_some, Option.isSome_some, reduceIte, List.length_append, List.append_assoc, List.cons_append, List.nil_append, Option.some.injEq, forall_const, implies_true, Int.reduceNeg, eq_self, Prod.mk.injEq, List.self_eq_append_right, List.append_nil, exists_eq_left, exists_eq_left', exists_and_left, exists_eq_right, exists_and_right]
theorem up_pc (a b : Int) (H : List Ob) : pcall E 102 [.int .i64 a, .int .i64 b] H = some (.int .i64 (dvu a b)) := by
  refine pcall_some.2 (call_plain e102 rfl (Nat.le_of_ble_eq_true rfl) rfl ?_)
  simp (config := {maxSteps := 4000000}) only [c102, dvu_pc, SS, bne_self_eq_false, wr_def, obOf, List.all_cons, List.all_nil, List.map_cons, List.map_nil, List.length_cons, List.length_nil, List.take_zero, List.take_succ_cons, List.take_nil, List.drop_zero, List.drop_succ_cons, List.drop_nil, Nat.reduceAdd, Nat.reduceMul, Nat.reduceSub, if_true, Nat.reduceLT, Nat.reduceLeDiff, ite_true, ite_false, Nat.reduceEqDiff, if_false, reduceCtorEq, ne_eq, List.getD, List.getElem?_cons_zero, List.getElem?_cons_succ, Option.getD_some, Option.bind_some, Option.map_some, Option.isSome_some, reduceIte, List.length_append, List.append_assoc, List.cons_append, List.nil_append, Option.some.injEq, forall_const, implies_true, Int.reduceNeg, eq_self, Prod.mk.injEq, List.self_eq_append_right, List.append_nil, exists_eq_left, exists_eq_left', exists_and_left, exists_eq_right, exists_and_right]
theorem between_pc (a lo hi : Int) (H : List Ob) : pcall E 101 [.int .i64 a, .int .i64 lo, .int .i64 hi] H = some (.int .i64 (max lo (min a hi))) := by
  refine pcall_some.2 (call_plain e101 rfl (Nat.le_of_ble_eq_true rfl) rfl ?_)
  simp (config := {maxSteps := 4000000}) only [c101, SS, bne_self_eq_false, wr_def, obOf, List.all_cons, List.all_nil, List.map_cons, List.map_nil, List.length_cons, List.length_nil, List.take_zero, List.take_succ_cons, List.take_nil, List.drop_zero, List.drop_succ_cons, List.drop_nil, Nat.reduceAdd, Nat.reduceMul, Nat.reduceSub, if_true, Nat.reduceLT, Nat.reduceLeDiff, ite_true, ite_false, Nat.reduceEqDiff, if_false, reduceCtorEq, ne_eq, List.getD, List.getElem?_cons_zero, List.getElem?_cons_succ, Option.getD_some, Option.bind_some, Option.map_some, Option.isSome_some, reduceIte, List.length_append, List.append_assoc, List.cons_append, List.nil_append, Option.some.injEq, forall_const, implies_true, Int.reduceNeg, eq_self, Prod.mk.injEq, List.self_eq_append_right, List.append_nil, exists_eq_left, exists_eq_left', exists_and_left, exists_eq_right, exists_and_right]
theorem within_pc (n lo hi : Int) (H : List Ob) (hz : w (w (hi - lo) + 1) ≠ 0) : pcall E 20 [.int .i64 n, .int .i64 lo, .int .i64 hi] H = some (.int .i64 (wi n lo hi)) := by
  refine pcall_some.2 (call_plain e20 rfl (Nat.le_of_ble_eq_true rfl) rfl ?_)
  simp (config := {maxSteps := 4000000}) only [c20, abin_rem _ _ _ hz, wi, SS, bne_self_eq_false, wr_def, obOf, List.all_cons, List.all_nil, List.map_cons, List.map_nil, List.length_cons, List.length_nil, List.take_zero, List.take_succ_cons, List.take_nil, List.drop_zero, List.drop_succ_cons, List.drop_nil, Nat.reduceAdd, Nat.reduceMul, Nat.reduceSub, if_true, Nat.reduceLT, Nat.reduceLeDiff, ite_true, ite_false, Nat.reduceEqDiff, if_false, reduceCtorEq, ne_eq, List.getD, List.getElem?_cons_zero, List.getElem?_cons_succ, Option.getD_some, Option.bind_some, Option.map_some, Option.isSome_some, reduceIte, List.length_append, List.append_assoc, List.cons_append, List.nil_append, Option.some.injEq, forall_const, implies_true, Int.reduceNeg, eq_self, Prod.mk.injEq, List.self_eq_append_right, List.append_nil, exists_eq_left, exists_eq_left', exists_and_left, exists_eq_right, exists_and_right]
end Go.Proofs.Ytpehhlfbnkakpaa.Fl
