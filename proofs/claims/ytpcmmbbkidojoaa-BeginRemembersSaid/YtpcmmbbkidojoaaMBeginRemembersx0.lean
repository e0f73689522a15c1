-- Written for this claim by a program of this session out of the translation (functions with function values and the like). Lean checks it.
import Derived.Test.YtpcmmbbkidojoaaProg
import Derived.Test.YtpcmmbbkidojoaaEvt
import Derived.Below
import Derived.Deep.Draws
import Derived.Deep.AppendLies
import Derived.Maps.AppendAt
import Derived.OwnWalk
import Derived.Laws.BytesArg
import Derived.Laws.MakeOwn
import Derived.Laws.OwnMore
import Derived.Deep.OwnRows
import Derived.Tactics
import Derived.Lib.ConvBytes
import Derived.Laws.Slices
import Derived.WalkKit
import Derived.KernelRfl
import Derived.RowKit3
import Derived.Deep.LoopGhost
import Derived.Deep.QuietTactic
import Derived.BigQuiet
import Derived.WideLaws
import Derived.Deep.DeepCutAuto
import Derived.Deep.CutBlock
import Derived.Deep.RegionHeld3
import Derived.Laws.Rows
import Derived.Lib.AppendStr
import Derived.ArgAppend
import Derived.Laws.IdiomCopy
import Derived.OrdersHeld
import Derived.Laws.BitsLemmas
import Derived.RowKit
import Derived.Test.YtpcmmbbkidojoaaWWords
import Derived.Test.YtpcmmbbkidojoaaWLast
import Derived.Test.YtpcmmbbkidojoaaWTab
import Derived.Test.YtpcmmbbkidojoaaWFour
import Derived.Test.YtpcmmbbkidojoaaWQPut
import Derived.Test.YtpcmmbbkidojoaaWApart
import Derived.Test.YtpcmmbbkidojoaaWArr
import Derived.Test.YtpcmmbbkidojoaaWZeros
import Derived.Test.YtpcmmbbkidojoaaWFoot
import Derived.Test.YtpcmmbbkidojoaaWKept
import Derived.Test.YtpcmmbbkidojoaaWShare
import Derived.Test.YtpcmmbbkidojoaaWN
import Derived.Test.YtpcmmbbkidojoaaWFootNe
import Derived.Test.YtpcmmbbkidojoaaWAt
import Derived.Test.YtpcmmbbkidojoaaWEqStruct
import Derived.Test.YtpcmmbbkidojoaaWRepsOne
import Derived.Test.YtpcmmbbkidojoaaWInv
import Derived.Test.YtpcmmbbkidojoaaWInvWords
import Derived.Test.YtpcmmbbkidojoaaWGuard
import Derived.Test.YtpcmmbbkidojoaaWNEv
import Derived.Test.YtpcmmbbkidojoaaWMore
namespace Go.Proofs.Ytpcmmbbkidojoaa.MBeginRemembers
open Go.RowKit Go.Proofs.Ytpcmmbbkidojoaa.Evt Go.Proofs.YtpcmmbbkidojoaaW.PrintWords Go.Proofs.YtpcmmbbkidojoaaW.PrintLast Go.Proofs.YtpcmmbbkidojoaaW.PrintMore
attribute [local go_sem] max2_int min2_int max_two min_two max_three min_three max_four min_four   -- for this text's walks alone
set_option linter.unusedVariables false
set_option linter.unusedSimpArgs false



def errW : Option Int → Value
  | none => .nilIface
  | some c => .iface 0 (.int .i64 c)
theorem errW_none : errW none = .nilIface := rfl
theorem errW_some (c : Int) : errW (some c) = .iface 0 (.int .i64 c) := rfl

def cel2 (v0 v1 : Value) (i : Nat) : Option Value := (#[v0, v1] : Array Value)[i]?
@[go_sem] theorem cel2_0 (v0 v1 : Value) : cel2 v0 v1 0 = some v0 := rfl
@[go_sem] theorem cel2_1 (v0 v1 : Value) : cel2 v0 v1 1 = some v1 := rfl
theorem blkc2 {w : World} {g : Nat} {t : TypeId} {v0 v1 : Value} (h : w.heap[g]? = some (.cells #[v0, v1] t (0, 0))) :
    (∀ i, w.cell? ⟨g, i, none⟩ = cel2 v0 v1 i) ∧ (∀ i, w.frozen? ⟨g, i, none⟩ = false) := ⟨fun i => blk_cell h i, fun i => blk_frozen h i⟩
theorem isz3 : (Try.prog.info? 3).map (·.size) = some 1 := by kernel_rfl
theorem isz79 : (Try.prog.info? 79).map (·.size) = some 2 := by kernel_rfl
theorem info4 : (Try.prog.info? 4).map (fun i => (i.zero, i.size, i.bytes)) = some (some (.bool false), 1, 1) := by kernel_rfl
-- the values' own types

end Go.Proofs.Ytpcmmbbkidojoaa.MBeginRemembers
