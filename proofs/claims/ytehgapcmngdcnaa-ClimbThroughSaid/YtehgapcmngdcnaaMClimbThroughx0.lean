-- Written for this claim by a program of this session out of the translation (functions with function values and the like). Lean checks it.
import Derived.Test.YtehgapcmngdcnaaProg
import Derived.Test.YtehgapcmngdcnaaEvt
import Derived.Below
import Derived.Deep.Draws
import Derived.Deep.AppendLies
import Derived.Maps.AppendAt
import Derived.OwnWalk
import Derived.Laws.BytesArg
import Derived.Laws.MakeOwn
import Derived.Laws.OwnMore
import Derived.Deep.OwnRows
import Derived.Tactics
import Derived.Lib.ConvBytes
import Derived.Laws.Slices
import Derived.WalkKit
import Derived.KernelRfl
import Derived.RowKit3
import Derived.Deep.LoopGhost
import Derived.Deep.QuietTactic
import Derived.BigQuiet
import Derived.WideLaws
import Derived.Deep.DeepCutAuto
import Derived.Deep.CutBlock
import Derived.Deep.RegionHeld3
import Derived.Laws.Rows
import Derived.Lib.AppendStr
import Derived.ArgAppend
import Derived.Laws.IdiomCopy
import Derived.OrdersHeld
import Derived.Laws.BitsLemmas
import Derived.RowKit
import Derived.Test.YtehgapcmngdcnaaWWords
import Derived.Test.YtehgapcmngdcnaaWLast
import Derived.Test.YtehgapcmngdcnaaWTab
import Derived.Test.YtehgapcmngdcnaaWFour
import Derived.Test.YtehgapcmngdcnaaWQPut
import Derived.Test.YtehgapcmngdcnaaWApart
import Derived.Test.YtehgapcmngdcnaaWArr
import Derived.Test.YtehgapcmngdcnaaWZeros
import Derived.Test.YtehgapcmngdcnaaWFoot
import Derived.Test.YtehgapcmngdcnaaWKept
import Derived.Test.YtehgapcmngdcnaaWShare
import Derived.Test.YtehgapcmngdcnaaWN
import Derived.Test.YtehgapcmngdcnaaWFootNe
import Derived.Test.YtehgapcmngdcnaaWAt
import Derived.Test.YtehgapcmngdcnaaWEqStruct
import Derived.Test.YtehgapcmngdcnaaWRepsOne
import Derived.Test.YtehgapcmngdcnaaWInv
import Derived.Test.YtehgapcmngdcnaaWInvWords
import Derived.Test.YtehgapcmngdcnaaWGuard
import Derived.Test.YtehgapcmngdcnaaWNEv
import Derived.Test.YtehgapcmngdcnaaWMore
namespace Go.Proofs.Ytehgapcmngdcnaa.MClimbThrough
open Go.RowKit Go.Proofs.Ytehgapcmngdcnaa.Evt Go.Proofs.YtehgapcmngdcnaaW.PrintWords Go.Proofs.YtehgapcmngdcnaaW.PrintLast Go.Proofs.YtehgapcmngdcnaaW.PrintMore
attribute [local go_sem] max2_int min2_int max_two min_two max_three min_three max_four min_four   -- for this text's walks alone
set_option linter.unusedVariables false
set_option linter.unusedSimpArgs false



def errW : Option Int → Value
  | none => .nilIface
  | some c => .iface 0 (.int .i64 c)
theorem errW_none : errW none = .nilIface := rfl
theorem errW_some (c : Int) : errW (some c) = .iface 0 (.int .i64 c) := rfl

def cel2 (v0 v1 : Value) (i : Nat) : Option Value := (#[v0, v1] : Array Value)[i]?
@[go_sem] theorem cel2_0 (v0 v1 : Value) : cel2 v0 v1 0 = some v0 := rfl
@[go_sem] theorem cel2_1 (v0 v1 : Value) : cel2 v0 v1 1 = some v1 := rfl
theorem blkc2 {w : World} {g : Nat} {t : TypeId} {v0 v1 : Value} (h : w.heap[g]? = some (.cells #[v0, v1] t (0, 0))) :
    (∀ i, w.cell? ⟨g, i, none⟩ = cel2 v0 v1 i) ∧ (∀ i, w.frozen? ⟨g, i, none⟩ = false) := ⟨fun i => blk_cell h i, fun i => blk_frozen h i⟩
theorem isz31 : (Try.prog.info? 31).map (·.size) = some 2 := by kernel_rfl
theorem info31 : (Try.prog.info? 31).map (fun i => (i.zero, i.size, i.bytes)) = some (some (.agg #[(.int .i64 0), (.int .i64 0)]), 2, 16) := by kernel_rfl
-- the values' own types
/-! #### struct type 31 -/
structure S31 where
  f0 : Int
  f1 : Int
def z31 : S31 := ⟨(0 : Int), (0 : Int)⟩
def k31 : Kd S31 := Kd.iso (Kd.pair (Kd.int .i64) (Kd.int .i64)) (fun x : S31 => (x.f0, x.f1))
theorem k31_open {w : World} {x : S31} {cs : List Value} (h : k31.K w x cs) : cs = [.int .i64 x.f0, .int .i64 x.f1] := by
  obtain ⟨_, _, rfl, rfl, rfl⟩ := h
  exact rfl
theorem k31_openM {w : World} {base : Nat} {ok : Nat → Prop} {x : S31} {cs : List Value} (h : k31.M w base ok x cs) : cs = [.int .i64 x.f0, .int .i64 x.f1] := by
  obtain ⟨_, _, rfl, rfl, rfl⟩ := h
  exact rfl
theorem k31_mk (w : World) (x : S31)  : k31.K w x [.int .i64 x.f0, .int .i64 x.f1] := ⟨[.int .i64 x.f0], [.int .i64 x.f1], rfl, rfl, rfl⟩
theorem k31_mkM (w : World) (base : Nat) (ok : Nat → Prop) (x : S31)  : k31.M w base ok x [.int .i64 x.f0, .int .i64 x.f1] := ⟨[.int .i64 x.f0], [.int .i64 x.f1], rfl, rfl, rfl⟩
def rd_T31 (xs : List S31) (i : Int) : S31 := xs.getD i.toNat z31
theorem at_T31 {w : World} {A : Option Addr} {n : Nat} {xs : List S31} (h : Kd.C k31 w A n xs) (i : Int) (h0 : 0 ≤ i) (h1 : i < n) : ∃ ad , A = some ad ∧ w.cell? (ad.add (i.toNat * 2)) = some (.int .i64 (rd_T31 xs i).f0) ∧ w.cell? ⟨(ad.add (i.toNat * 2)).block, (ad.add (i.toNat * 2)).off + 1, none⟩ = some (.int .i64 (rd_T31 xs i).f1) := by
  obtain ⟨ad, c, e, _, hK, hc0⟩ := Kd.C_get h z31 i h0 h1
  have hc : ∀ j u, c[j]? = some u → w.cell? (ad.add (i.toNat * 2 + j)) = some u := hc0
  obtain rfl := k31_open hK
  exact ⟨ad, e, hc 0 _ rfl, by rw [← add_field _ _ 1 (by omega)]; exact hc 1 _ rfl⟩

end Go.Proofs.Ytehgapcmngdcnaa.MClimbThrough
