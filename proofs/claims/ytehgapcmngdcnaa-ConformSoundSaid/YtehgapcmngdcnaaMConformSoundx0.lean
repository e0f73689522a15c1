-- Written for this claim by a program of this session out of the translation (functions with function values and the like). Lean checks it.
import Derived.Test.YtehgapcmngdcnaaProg
import Derived.Test.YtehgapcmngdcnaaEvt
import Derived.Below
import Derived.Deep.Draws
import Derived.Deep.AppendLies
import Derived.Maps.AppendAt
import Derived.OwnWalk
import Derived.Laws.BytesArg
import Derived.Laws.MakeOwn
import Derived.Laws.OwnMore
import Derived.Deep.OwnRows
import Derived.Tactics
import Derived.Lib.ConvBytes
import Derived.Laws.Slices
import Derived.WalkKit
import Derived.KernelRfl
import Derived.RowKit3
import Derived.Deep.LoopGhost
import Derived.Deep.QuietTactic
import Derived.BigQuiet
import Derived.WideLaws
import Derived.Deep.DeepCutAuto
import Derived.Deep.CutBlock
import Derived.Deep.RegionHeld3
import Derived.Laws.Rows
import Derived.Lib.AppendStr
import Derived.ArgAppend
import Derived.Laws.IdiomCopy
import Derived.OrdersHeld
import Derived.Laws.BitsLemmas
import Derived.RowKit
import Derived.Test.YtehgapcmngdcnaaWWords
import Derived.Test.YtehgapcmngdcnaaWLast
import Derived.Test.YtehgapcmngdcnaaWTab
import Derived.Test.YtehgapcmngdcnaaWFour
import Derived.Test.YtehgapcmngdcnaaWQPut
import Derived.Test.YtehgapcmngdcnaaWApart
import Derived.Test.YtehgapcmngdcnaaWArr
import Derived.Test.YtehgapcmngdcnaaWZeros
import Derived.Test.YtehgapcmngdcnaaWFoot
import Derived.Test.YtehgapcmngdcnaaWKept
import Derived.Test.YtehgapcmngdcnaaWShare
import Derived.Test.YtehgapcmngdcnaaWN
import Derived.Test.YtehgapcmngdcnaaWFootNe
import Derived.Test.YtehgapcmngdcnaaWAt
import Derived.Test.YtehgapcmngdcnaaWEqStruct
import Derived.Test.YtehgapcmngdcnaaWRepsOne
import Derived.Test.YtehgapcmngdcnaaWInv
import Derived.Test.YtehgapcmngdcnaaWInvWords
import Derived.Test.YtehgapcmngdcnaaWGuard
import Derived.Test.YtehgapcmngdcnaaWNEv
import Derived.Test.YtehgapcmngdcnaaWMore
namespace Go.Proofs.Ytehgapcmngdcnaa.MConformSound
open Go.RowKit Go.Proofs.Ytehgapcmngdcnaa.Evt Go.Proofs.YtehgapcmngdcnaaW.PrintWords Go.Proofs.YtehgapcmngdcnaaW.PrintLast Go.Proofs.YtehgapcmngdcnaaW.PrintMore
attribute [local go_sem] max2_int min2_int max_two min_two max_three min_three max_four min_four   -- for this text's walks alone
set_option linter.unusedVariables false
set_option linter.unusedSimpArgs false



def errW : Option Int → Value
  | none => .nilIface
  | some c => .iface 0 (.int .i64 c)
theorem errW_none : errW none = .nilIface := rfl
theorem errW_some (c : Int) : errW (some c) = .iface 0 (.int .i64 c) := rfl

def cel2 (v0 v1 : Value) (i : Nat) : Option Value := (#[v0, v1] : Array Value)[i]?
@[go_sem] theorem cel2_0 (v0 v1 : Value) : cel2 v0 v1 0 = some v0 := rfl
@[go_sem] theorem cel2_1 (v0 v1 : Value) : cel2 v0 v1 1 = some v1 := rfl
theorem blkc2 {w : World} {g : Nat} {t : TypeId} {v0 v1 : Value} (h : w.heap[g]? = some (.cells #[v0, v1] t (0, 0))) :
    (∀ i, w.cell? ⟨g, i, none⟩ = cel2 v0 v1 i) ∧ (∀ i, w.frozen? ⟨g, i, none⟩ = false) := ⟨fun i => blk_cell h i, fun i => blk_frozen h i⟩
def cel6 (v0 v1 v2 v3 v4 v5 : Value) (i : Nat) : Option Value := (#[v0, v1, v2, v3, v4, v5] : Array Value)[i]?
@[go_sem] theorem cel6_0 (v0 v1 v2 v3 v4 v5 : Value) : cel6 v0 v1 v2 v3 v4 v5 0 = some v0 := rfl
@[go_sem] theorem cel6_1 (v0 v1 v2 v3 v4 v5 : Value) : cel6 v0 v1 v2 v3 v4 v5 1 = some v1 := rfl
@[go_sem] theorem cel6_2 (v0 v1 v2 v3 v4 v5 : Value) : cel6 v0 v1 v2 v3 v4 v5 2 = some v2 := rfl
@[go_sem] theorem cel6_3 (v0 v1 v2 v3 v4 v5 : Value) : cel6 v0 v1 v2 v3 v4 v5 3 = some v3 := rfl
@[go_sem] theorem cel6_4 (v0 v1 v2 v3 v4 v5 : Value) : cel6 v0 v1 v2 v3 v4 v5 4 = some v4 := rfl
@[go_sem] theorem cel6_5 (v0 v1 v2 v3 v4 v5 : Value) : cel6 v0 v1 v2 v3 v4 v5 5 = some v5 := rfl
theorem blkc6 {w : World} {g : Nat} {t : TypeId} {v0 v1 v2 v3 v4 v5 : Value} (h : w.heap[g]? = some (.cells #[v0, v1, v2, v3, v4, v5] t (0, 0))) :
    (∀ i, w.cell? ⟨g, i, none⟩ = cel6 v0 v1 v2 v3 v4 v5 i) ∧ (∀ i, w.frozen? ⟨g, i, none⟩ = false) := ⟨fun i => blk_cell h i, fun i => blk_frozen h i⟩
def cel13 (v0 v1 v2 v3 v4 v5 v6 v7 v8 v9 v10 v11 v12 : Value) (i : Nat) : Option Value := (#[v0, v1, v2, v3, v4, v5, v6, v7, v8, v9, v10, v11, v12] : Array Value)[i]?
@[go_sem] theorem cel13_0 (v0 v1 v2 v3 v4 v5 v6 v7 v8 v9 v10 v11 v12 : Value) : cel13 v0 v1 v2 v3 v4 v5 v6 v7 v8 v9 v10 v11 v12 0 = some v0 := rfl
@[go_sem] theorem cel13_1 (v0 v1 v2 v3 v4 v5 v6 v7 v8 v9 v10 v11 v12 : Value) : cel13 v0 v1 v2 v3 v4 v5 v6 v7 v8 v9 v10 v11 v12 1 = some v1 := rfl
@[go_sem] theorem cel13_2 (v0 v1 v2 v3 v4 v5 v6 v7 v8 v9 v10 v11 v12 : Value) : cel13 v0 v1 v2 v3 v4 v5 v6 v7 v8 v9 v10 v11 v12 2 = some v2 := rfl
@[go_sem] theorem cel13_3 (v0 v1 v2 v3 v4 v5 v6 v7 v8 v9 v10 v11 v12 : Value) : cel13 v0 v1 v2 v3 v4 v5 v6 v7 v8 v9 v10 v11 v12 3 = some v3 := rfl
@[go_sem] theorem cel13_4 (v0 v1 v2 v3 v4 v5 v6 v7 v8 v9 v10 v11 v12 : Value) : cel13 v0 v1 v2 v3 v4 v5 v6 v7 v8 v9 v10 v11 v12 4 = some v4 := rfl
@[go_sem] theorem cel13_5 (v0 v1 v2 v3 v4 v5 v6 v7 v8 v9 v10 v11 v12 : Value) : cel13 v0 v1 v2 v3 v4 v5 v6 v7 v8 v9 v10 v11 v12 5 = some v5 := rfl
@[go_sem] theorem cel13_6 (v0 v1 v2 v3 v4 v5 v6 v7 v8 v9 v10 v11 v12 : Value) : cel13 v0 v1 v2 v3 v4 v5 v6 v7 v8 v9 v10 v11 v12 6 = some v6 := rfl
@[go_sem] theorem cel13_7 (v0 v1 v2 v3 v4 v5 v6 v7 v8 v9 v10 v11 v12 : Value) : cel13 v0 v1 v2 v3 v4 v5 v6 v7 v8 v9 v10 v11 v12 7 = some v7 := rfl
@[go_sem] theorem cel13_8 (v0 v1 v2 v3 v4 v5 v6 v7 v8 v9 v10 v11 v12 : Value) : cel13 v0 v1 v2 v3 v4 v5 v6 v7 v8 v9 v10 v11 v12 8 = some v8 := rfl
@[go_sem] theorem cel13_9 (v0 v1 v2 v3 v4 v5 v6 v7 v8 v9 v10 v11 v12 : Value) : cel13 v0 v1 v2 v3 v4 v5 v6 v7 v8 v9 v10 v11 v12 9 = some v9 := rfl
@[go_sem] theorem cel13_10 (v0 v1 v2 v3 v4 v5 v6 v7 v8 v9 v10 v11 v12 : Value) : cel13 v0 v1 v2 v3 v4 v5 v6 v7 v8 v9 v10 v11 v12 10 = some v10 := rfl
@[go_sem] theorem cel13_11 (v0 v1 v2 v3 v4 v5 v6 v7 v8 v9 v10 v11 v12 : Value) : cel13 v0 v1 v2 v3 v4 v5 v6 v7 v8 v9 v10 v11 v12 11 = some v11 := rfl
@[go_sem] theorem cel13_12 (v0 v1 v2 v3 v4 v5 v6 v7 v8 v9 v10 v11 v12 : Value) : cel13 v0 v1 v2 v3 v4 v5 v6 v7 v8 v9 v10 v11 v12 12 = some v12 := rfl
theorem blkc13 {w : World} {g : Nat} {t : TypeId} {v0 v1 v2 v3 v4 v5 v6 v7 v8 v9 v10 v11 v12 : Value} (h : w.heap[g]? = some (.cells #[v0, v1, v2, v3, v4, v5, v6, v7, v8, v9, v10, v11, v12] t (0, 0))) :
    (∀ i, w.cell? ⟨g, i, none⟩ = cel13 v0 v1 v2 v3 v4 v5 v6 v7 v8 v9 v10 v11 v12 i) ∧ (∀ i, w.frozen? ⟨g, i, none⟩ = false) := ⟨fun i => blk_cell h i, fun i => blk_frozen h i⟩
theorem isz45 : (Try.prog.info? 45).map (·.size) = some 2 := by kernel_rfl
theorem isz47 : (Try.prog.info? 47).map (·.size) = some 13 := by kernel_rfl
theorem isz82 : (Try.prog.info? 82).map (·.size) = some 6 := by kernel_rfl
theorem info82 : (Try.prog.info? 82).map (fun i => (i.zero, i.size, i.bytes)) = some (some (.agg #[(.int .i64 0), (.int .i64 0), (.int .i64 0), (.int .i64 0), (.int .i64 0), (.int .i64 0)]), 6, 48) := by kernel_rfl
-- the values' own types
/-! #### struct type 45 -/
structure S45 where
  f0 : Int
  f1 : Int
def z45 : S45 := ⟨(0 : Int), (0 : Int)⟩
def k45 : Kd S45 := Kd.iso (Kd.pair (Kd.int .i64) (Kd.int .i64)) (fun x : S45 => (x.f0, x.f1))
theorem k45_open {w : World} {x : S45} {cs : List Value} (h : k45.K w x cs) : cs = [.int .i64 x.f0, .int .i64 x.f1] := by
  obtain ⟨_, _, rfl, rfl, rfl⟩ := h
  exact rfl
theorem k45_openM {w : World} {base : Nat} {ok : Nat → Prop} {x : S45} {cs : List Value} (h : k45.M w base ok x cs) : cs = [.int .i64 x.f0, .int .i64 x.f1] := by
  obtain ⟨_, _, rfl, rfl, rfl⟩ := h
  exact rfl
theorem k45_mk (w : World) (x : S45)  : k45.K w x [.int .i64 x.f0, .int .i64 x.f1] := ⟨[.int .i64 x.f0], [.int .i64 x.f1], rfl, rfl, rfl⟩
theorem k45_mkM (w : World) (base : Nat) (ok : Nat → Prop) (x : S45)  : k45.M w base ok x [.int .i64 x.f0, .int .i64 x.f1] := ⟨[.int .i64 x.f0], [.int .i64 x.f1], rfl, rfl, rfl⟩
def rd_T45 (xs : List S45) (i : Int) : S45 := xs.getD i.toNat z45
theorem at_T45 {w : World} {A : Option Addr} {n : Nat} {xs : List S45} (h : Kd.C k45 w A n xs) (i : Int) (h0 : 0 ≤ i) (h1 : i < n) : ∃ ad , A = some ad ∧ w.cell? (ad.add (i.toNat * 2)) = some (.int .i64 (rd_T45 xs i).f0) ∧ w.cell? ⟨(ad.add (i.toNat * 2)).block, (ad.add (i.toNat * 2)).off + 1, none⟩ = some (.int .i64 (rd_T45 xs i).f1) := by
  obtain ⟨ad, c, e, _, hK, hc0⟩ := Kd.C_get h z45 i h0 h1
  have hc : ∀ j u, c[j]? = some u → w.cell? (ad.add (i.toNat * 2 + j)) = some u := hc0
  obtain rfl := k45_open hK
  exact ⟨ad, e, hc 0 _ rfl, by rw [← add_field _ _ 1 (by omega)]; exact hc 1 _ rfl⟩

/-! #### struct type 80 -/
structure S80 where
  f0 : Int
  f1 : S45
  f2 : Int
def z80 : S80 := ⟨(0 : Int), z45, (0 : Int)⟩
def k80 : Kd S80 := Kd.iso (Kd.pair (Kd.int .i64) (Kd.pair k45 (Kd.int .i64))) (fun x : S80 => (x.f0, x.f1, x.f2))
theorem k80_open {w : World} {x : S80} {cs : List Value} (h : k80.K w x cs) : cs = [.int .i64 x.f0, .int .i64 x.f1.f0, .int .i64 x.f1.f1, .int .i64 x.f2] := by
  obtain ⟨_, _, rfl, rfl, ⟨_, _, rfl, s1, rfl⟩⟩ := h
  obtain rfl := k45_open s1
  exact rfl
theorem k80_openM {w : World} {base : Nat} {ok : Nat → Prop} {x : S80} {cs : List Value} (h : k80.M w base ok x cs) : cs = [.int .i64 x.f0, .int .i64 x.f1.f0, .int .i64 x.f1.f1, .int .i64 x.f2] := by
  obtain ⟨_, _, rfl, rfl, ⟨_, _, rfl, s1, rfl⟩⟩ := h
  obtain rfl := k45_openM s1
  exact rfl
theorem k80_mk (w : World) (x : S80)  : k80.K w x [.int .i64 x.f0, .int .i64 x.f1.f0, .int .i64 x.f1.f1, .int .i64 x.f2] := ⟨[.int .i64 x.f0], [.int .i64 x.f1.f0, .int .i64 x.f1.f1, .int .i64 x.f2], rfl, rfl, ⟨[.int .i64 x.f1.f0, .int .i64 x.f1.f1], [.int .i64 x.f2], rfl, (k45_mk w x.f1 ), rfl⟩⟩
theorem k80_mkM (w : World) (base : Nat) (ok : Nat → Prop) (x : S80)  : k80.M w base ok x [.int .i64 x.f0, .int .i64 x.f1.f0, .int .i64 x.f1.f1, .int .i64 x.f2] := ⟨[.int .i64 x.f0], [.int .i64 x.f1.f0, .int .i64 x.f1.f1, .int .i64 x.f2], rfl, rfl, ⟨[.int .i64 x.f1.f0, .int .i64 x.f1.f1], [.int .i64 x.f2], rfl, (k45_mkM w base ok x.f1 ), rfl⟩⟩
def rd_T80 (xs : List S80) (i : Int) : S80 := xs.getD i.toNat z80
theorem at_T80 {w : World} {A : Option Addr} {n : Nat} {xs : List S80} (h : Kd.C k80 w A n xs) (i : Int) (h0 : 0 ≤ i) (h1 : i < n) : ∃ ad , A = some ad ∧ w.cell? (ad.add (i.toNat * 4)) = some (.int .i64 (rd_T80 xs i).f0) ∧ w.cell? ⟨(ad.add (i.toNat * 4)).block, (ad.add (i.toNat * 4)).off + 1, none⟩ = some (.int .i64 (rd_T80 xs i).f1.f0) ∧ w.cell? ⟨(ad.add (i.toNat * 4)).block, (ad.add (i.toNat * 4)).off + 2, none⟩ = some (.int .i64 (rd_T80 xs i).f1.f1) ∧ w.cell? ⟨(ad.add (i.toNat * 4)).block, (ad.add (i.toNat * 4)).off + 3, none⟩ = some (.int .i64 (rd_T80 xs i).f2) := by
  obtain ⟨ad, c, e, _, hK, hc0⟩ := Kd.C_get h z80 i h0 h1
  have hc : ∀ j u, c[j]? = some u → w.cell? (ad.add (i.toNat * 4 + j)) = some u := hc0
  obtain rfl := k80_open hK
  exact ⟨ad, e, hc 0 _ rfl, by rw [← add_field _ _ 1 (by omega)]; exact hc 1 _ rfl, by rw [← add_field _ _ 2 (by omega)]; exact hc 2 _ rfl, by rw [← add_field _ _ 3 (by omega)]; exact hc 3 _ rfl⟩

/-! #### struct type 82 -/
structure S82 where
  f0 : S80
  f1 : Int
  f2 : Int
def z82 : S82 := ⟨z80, (0 : Int), (0 : Int)⟩
def k82 : Kd S82 := Kd.iso (Kd.pair k80 (Kd.pair (Kd.int .i64) (Kd.int .i64))) (fun x : S82 => (x.f0, x.f1, x.f2))
theorem k82_open {w : World} {x : S82} {cs : List Value} (h : k82.K w x cs) : cs = [.int .i64 x.f0.f0, .int .i64 x.f0.f1.f0, .int .i64 x.f0.f1.f1, .int .i64 x.f0.f2, .int .i64 x.f1, .int .i64 x.f2] := by
  obtain ⟨_, _, rfl, s0, ⟨_, _, rfl, rfl, rfl⟩⟩ := h
  obtain rfl := k80_open s0
  exact rfl
theorem k82_openM {w : World} {base : Nat} {ok : Nat → Prop} {x : S82} {cs : List Value} (h : k82.M w base ok x cs) : cs = [.int .i64 x.f0.f0, .int .i64 x.f0.f1.f0, .int .i64 x.f0.f1.f1, .int .i64 x.f0.f2, .int .i64 x.f1, .int .i64 x.f2] := by
  obtain ⟨_, _, rfl, s0, ⟨_, _, rfl, rfl, rfl⟩⟩ := h
  obtain rfl := k80_openM s0
  exact rfl
theorem k82_mk (w : World) (x : S82)  : k82.K w x [.int .i64 x.f0.f0, .int .i64 x.f0.f1.f0, .int .i64 x.f0.f1.f1, .int .i64 x.f0.f2, .int .i64 x.f1, .int .i64 x.f2] := ⟨[.int .i64 x.f0.f0, .int .i64 x.f0.f1.f0, .int .i64 x.f0.f1.f1, .int .i64 x.f0.f2], [.int .i64 x.f1, .int .i64 x.f2], rfl, (k80_mk w x.f0 ), ⟨[.int .i64 x.f1], [.int .i64 x.f2], rfl, rfl, rfl⟩⟩
theorem k82_mkM (w : World) (base : Nat) (ok : Nat → Prop) (x : S82)  : k82.M w base ok x [.int .i64 x.f0.f0, .int .i64 x.f0.f1.f0, .int .i64 x.f0.f1.f1, .int .i64 x.f0.f2, .int .i64 x.f1, .int .i64 x.f2] := ⟨[.int .i64 x.f0.f0, .int .i64 x.f0.f1.f0, .int .i64 x.f0.f1.f1, .int .i64 x.f0.f2], [.int .i64 x.f1, .int .i64 x.f2], rfl, (k80_mkM w base ok x.f0 ), ⟨[.int .i64 x.f1], [.int .i64 x.f2], rfl, rfl, rfl⟩⟩
def rd_T82 (xs : List S82) (i : Int) : S82 := xs.getD i.toNat z82
theorem at_T82 {w : World} {A : Option Addr} {n : Nat} {xs : List S82} (h : Kd.C k82 w A n xs) (i : Int) (h0 : 0 ≤ i) (h1 : i < n) : ∃ ad , A = some ad ∧ w.cell? (ad.add (i.toNat * 6)) = some (.int .i64 (rd_T82 xs i).f0.f0) ∧ w.cell? ⟨(ad.add (i.toNat * 6)).block, (ad.add (i.toNat * 6)).off + 1, none⟩ = some (.int .i64 (rd_T82 xs i).f0.f1.f0) ∧ w.cell? ⟨(ad.add (i.toNat * 6)).block, (ad.add (i.toNat * 6)).off + 2, none⟩ = some (.int .i64 (rd_T82 xs i).f0.f1.f1) ∧ w.cell? ⟨(ad.add (i.toNat * 6)).block, (ad.add (i.toNat * 6)).off + 3, none⟩ = some (.int .i64 (rd_T82 xs i).f0.f2) ∧ w.cell? ⟨(ad.add (i.toNat * 6)).block, (ad.add (i.toNat * 6)).off + 4, none⟩ = some (.int .i64 (rd_T82 xs i).f1) ∧ w.cell? ⟨(ad.add (i.toNat * 6)).block, (ad.add (i.toNat * 6)).off + 5, none⟩ = some (.int .i64 (rd_T82 xs i).f2) := by
  obtain ⟨ad, c, e, _, hK, hc0⟩ := Kd.C_get h z82 i h0 h1
  have hc : ∀ j u, c[j]? = some u → w.cell? (ad.add (i.toNat * 6 + j)) = some u := hc0
  obtain rfl := k82_open hK
  exact ⟨ad, e, hc 0 _ rfl, by rw [← add_field _ _ 1 (by omega)]; exact hc 1 _ rfl, by rw [← add_field _ _ 2 (by omega)]; exact hc 2 _ rfl, by rw [← add_field _ _ 3 (by omega)]; exact hc 3 _ rfl, by rw [← add_field _ _ 4 (by omega)]; exact hc 4 _ rfl, by rw [← add_field _ _ 5 (by omega)]; exact hc 5 _ rfl⟩

end Go.Proofs.Ytehgapcmngdcnaa.MConformSound
