-- Written for this claim by a program of this session out of the translation (functions with function values and the like). Lean checks it.
import Derived.Test.YtpcmmbbkidojoaaProg
import Derived.Below
import Derived.Deep.Draws
import Derived.Deep.AppendLies
import Derived.Maps.AppendAt
import Derived.OwnWalk
import Derived.Laws.BytesArg
import Derived.Laws.MakeOwn
import Derived.Laws.OwnMore
import Derived.Deep.OwnRows
import Derived.Tactics
import Derived.Lib.ConvBytes
import Derived.Laws.Slices
import Derived.WalkKit
import Derived.KernelRfl
import Derived.RowKit3
import Derived.Deep.LoopGhost
import Derived.Deep.QuietTactic
import Derived.BigQuiet
import Derived.WideLaws
import Derived.Deep.DeepCutAuto
import Derived.Deep.CutBlock
import Derived.Deep.RegionHeld3
import Derived.Laws.Rows
import Derived.Lib.AppendStr
import Derived.ArgAppend
import Derived.Laws.IdiomCopy
import Derived.OrdersHeld
import Derived.Laws.BitsLemmas
import Derived.RowKit
import Derived.Test.YtpcmmbbkidojoaaWWords
import Derived.Test.YtpcmmbbkidojoaaWLast
import Derived.Test.YtpcmmbbkidojoaaWTab
import Derived.Test.YtpcmmbbkidojoaaWFour
import Derived.Test.YtpcmmbbkidojoaaWQPut
import Derived.Test.YtpcmmbbkidojoaaWApart
import Derived.Test.YtpcmmbbkidojoaaWArr
import Derived.Test.YtpcmmbbkidojoaaWZeros
import Derived.Test.YtpcmmbbkidojoaaWFoot
import Derived.Test.YtpcmmbbkidojoaaWKept
import Derived.Test.YtpcmmbbkidojoaaWShare
import Derived.Test.YtpcmmbbkidojoaaWN
import Derived.Test.YtpcmmbbkidojoaaWFootNe
import Derived.Test.YtpcmmbbkidojoaaWAt
import Derived.Test.YtpcmmbbkidojoaaWEqStruct
import Derived.Test.YtpcmmbbkidojoaaWRepsOne
import Derived.Test.YtpcmmbbkidojoaaWInv
import Derived.Test.YtpcmmbbkidojoaaWInvWords
import Derived.Test.YtpcmmbbkidojoaaWGuard
import Derived.Test.YtpcmmbbkidojoaaWNEv
import Derived.Test.YtpcmmbbkidojoaaWMore
namespace Go.Proofs.Ytpcmmbbkidojoaa.MCoastTurns
open Go.RowKit Go.Proofs.YtpcmmbbkidojoaaW.PrintWords Go.Proofs.YtpcmmbbkidojoaaW.PrintLast Go.Proofs.YtpcmmbbkidojoaaW.PrintMore
attribute [local go_sem] max2_int min2_int max_two min_two max_three min_three max_four min_four   -- for this text's walks alone
set_option linter.unusedVariables false
set_option linter.unusedSimpArgs false



def errW : Option Int → Value
  | none => .nilIface
  | some c => .iface 0 (.int .i64 c)
theorem errW_none : errW none = .nilIface := rfl
theorem errW_some (c : Int) : errW (some c) = .iface 0 (.int .i64 c) := rfl

def cel2 (v0 v1 : Value) (i : Nat) : Option Value := (#[v0, v1] : Array Value)[i]?
@[go_sem] theorem cel2_0 (v0 v1 : Value) : cel2 v0 v1 0 = some v0 := rfl
@[go_sem] theorem cel2_1 (v0 v1 : Value) : cel2 v0 v1 1 = some v1 := rfl
theorem blkc2 {w : World} {g : Nat} {t : TypeId} {v0 v1 : Value} (h : w.heap[g]? = some (.cells #[v0, v1] t (0, 0))) :
    (∀ i, w.cell? ⟨g, i, none⟩ = cel2 v0 v1 i) ∧ (∀ i, w.frozen? ⟨g, i, none⟩ = false) := ⟨fun i => blk_cell h i, fun i => blk_frozen h i⟩
def cel6 (v0 v1 v2 v3 v4 v5 : Value) (i : Nat) : Option Value := (#[v0, v1, v2, v3, v4, v5] : Array Value)[i]?
@[go_sem] theorem cel6_0 (v0 v1 v2 v3 v4 v5 : Value) : cel6 v0 v1 v2 v3 v4 v5 0 = some v0 := rfl
@[go_sem] theorem cel6_1 (v0 v1 v2 v3 v4 v5 : Value) : cel6 v0 v1 v2 v3 v4 v5 1 = some v1 := rfl
@[go_sem] theorem cel6_2 (v0 v1 v2 v3 v4 v5 : Value) : cel6 v0 v1 v2 v3 v4 v5 2 = some v2 := rfl
@[go_sem] theorem cel6_3 (v0 v1 v2 v3 v4 v5 : Value) : cel6 v0 v1 v2 v3 v4 v5 3 = some v3 := rfl
@[go_sem] theorem cel6_4 (v0 v1 v2 v3 v4 v5 : Value) : cel6 v0 v1 v2 v3 v4 v5 4 = some v4 := rfl
@[go_sem] theorem cel6_5 (v0 v1 v2 v3 v4 v5 : Value) : cel6 v0 v1 v2 v3 v4 v5 5 = some v5 := rfl
theorem blkc6 {w : World} {g : Nat} {t : TypeId} {v0 v1 v2 v3 v4 v5 : Value} (h : w.heap[g]? = some (.cells #[v0, v1, v2, v3, v4, v5] t (0, 0))) :
    (∀ i, w.cell? ⟨g, i, none⟩ = cel6 v0 v1 v2 v3 v4 v5 i) ∧ (∀ i, w.frozen? ⟨g, i, none⟩ = false) := ⟨fun i => blk_cell h i, fun i => blk_frozen h i⟩
def cel13 (v0 v1 v2 v3 v4 v5 v6 v7 v8 v9 v10 v11 v12 : Value) (i : Nat) : Option Value := (#[v0, v1, v2, v3, v4, v5, v6, v7, v8, v9, v10, v11, v12] : Array Value)[i]?
@[go_sem] theorem cel13_0 (v0 v1 v2 v3 v4 v5 v6 v7 v8 v9 v10 v11 v12 : Value) : cel13 v0 v1 v2 v3 v4 v5 v6 v7 v8 v9 v10 v11 v12 0 = some v0 := rfl
@[go_sem] theorem cel13_1 (v0 v1 v2 v3 v4 v5 v6 v7 v8 v9 v10 v11 v12 : Value) : cel13 v0 v1 v2 v3 v4 v5 v6 v7 v8 v9 v10 v11 v12 1 = some v1 := rfl
@[go_sem] theorem cel13_2 (v0 v1 v2 v3 v4 v5 v6 v7 v8 v9 v10 v11 v12 : Value) : cel13 v0 v1 v2 v3 v4 v5 v6 v7 v8 v9 v10 v11 v12 2 = some v2 := rfl
@[go_sem] theorem cel13_3 (v0 v1 v2 v3 v4 v5 v6 v7 v8 v9 v10 v11 v12 : Value) : cel13 v0 v1 v2 v3 v4 v5 v6 v7 v8 v9 v10 v11 v12 3 = some v3 := rfl
@[go_sem] theorem cel13_4 (v0 v1 v2 v3 v4 v5 v6 v7 v8 v9 v10 v11 v12 : Value) : cel13 v0 v1 v2 v3 v4 v5 v6 v7 v8 v9 v10 v11 v12 4 = some v4 := rfl
@[go_sem] theorem cel13_5 (v0 v1 v2 v3 v4 v5 v6 v7 v8 v9 v10 v11 v12 : Value) : cel13 v0 v1 v2 v3 v4 v5 v6 v7 v8 v9 v10 v11 v12 5 = some v5 := rfl
@[go_sem] theorem cel13_6 (v0 v1 v2 v3 v4 v5 v6 v7 v8 v9 v10 v11 v12 : Value) : cel13 v0 v1 v2 v3 v4 v5 v6 v7 v8 v9 v10 v11 v12 6 = some v6 := rfl
@[go_sem] theorem cel13_7 (v0 v1 v2 v3 v4 v5 v6 v7 v8 v9 v10 v11 v12 : Value) : cel13 v0 v1 v2 v3 v4 v5 v6 v7 v8 v9 v10 v11 v12 7 = some v7 := rfl
@[go_sem] theorem cel13_8 (v0 v1 v2 v3 v4 v5 v6 v7 v8 v9 v10 v11 v12 : Value) : cel13 v0 v1 v2 v3 v4 v5 v6 v7 v8 v9 v10 v11 v12 8 = some v8 := rfl
@[go_sem] theorem cel13_9 (v0 v1 v2 v3 v4 v5 v6 v7 v8 v9 v10 v11 v12 : Value) : cel13 v0 v1 v2 v3 v4 v5 v6 v7 v8 v9 v10 v11 v12 9 = some v9 := rfl
@[go_sem] theorem cel13_10 (v0 v1 v2 v3 v4 v5 v6 v7 v8 v9 v10 v11 v12 : Value) : cel13 v0 v1 v2 v3 v4 v5 v6 v7 v8 v9 v10 v11 v12 10 = some v10 := rfl
@[go_sem] theorem cel13_11 (v0 v1 v2 v3 v4 v5 v6 v7 v8 v9 v10 v11 v12 : Value) : cel13 v0 v1 v2 v3 v4 v5 v6 v7 v8 v9 v10 v11 v12 11 = some v11 := rfl
@[go_sem] theorem cel13_12 (v0 v1 v2 v3 v4 v5 v6 v7 v8 v9 v10 v11 v12 : Value) : cel13 v0 v1 v2 v3 v4 v5 v6 v7 v8 v9 v10 v11 v12 12 = some v12 := rfl
theorem blkc13 {w : World} {g : Nat} {t : TypeId} {v0 v1 v2 v3 v4 v5 v6 v7 v8 v9 v10 v11 v12 : Value} (h : w.heap[g]? = some (.cells #[v0, v1, v2, v3, v4, v5, v6, v7, v8, v9, v10, v11, v12] t (0, 0))) :
    (∀ i, w.cell? ⟨g, i, none⟩ = cel13 v0 v1 v2 v3 v4 v5 v6 v7 v8 v9 v10 v11 v12 i) ∧ (∀ i, w.frozen? ⟨g, i, none⟩ = false) := ⟨fun i => blk_cell h i, fun i => blk_frozen h i⟩
def cel20 (v0 v1 v2 v3 v4 v5 v6 v7 v8 v9 v10 v11 v12 v13 v14 v15 v16 v17 v18 v19 : Value) (i : Nat) : Option Value := (#[v0, v1, v2, v3, v4, v5, v6, v7, v8, v9, v10, v11, v12, v13, v14, v15, v16, v17, v18, v19] : Array Value)[i]?
@[go_sem] theorem cel20_0 (v0 v1 v2 v3 v4 v5 v6 v7 v8 v9 v10 v11 v12 v13 v14 v15 v16 v17 v18 v19 : Value) : cel20 v0 v1 v2 v3 v4 v5 v6 v7 v8 v9 v10 v11 v12 v13 v14 v15 v16 v17 v18 v19 0 = some v0 := rfl
@[go_sem] theorem cel20_1 (v0 v1 v2 v3 v4 v5 v6 v7 v8 v9 v10 v11 v12 v13 v14 v15 v16 v17 v18 v19 : Value) : cel20 v0 v1 v2 v3 v4 v5 v6 v7 v8 v9 v10 v11 v12 v13 v14 v15 v16 v17 v18 v19 1 = some v1 := rfl
@[go_sem] theorem cel20_2 (v0 v1 v2 v3 v4 v5 v6 v7 v8 v9 v10 v11 v12 v13 v14 v15 v16 v17 v18 v19 : Value) : cel20 v0 v1 v2 v3 v4 v5 v6 v7 v8 v9 v10 v11 v12 v13 v14 v15 v16 v17 v18 v19 2 = some v2 := rfl
@[go_sem] theorem cel20_3 (v0 v1 v2 v3 v4 v5 v6 v7 v8 v9 v10 v11 v12 v13 v14 v15 v16 v17 v18 v19 : Value) : cel20 v0 v1 v2 v3 v4 v5 v6 v7 v8 v9 v10 v11 v12 v13 v14 v15 v16 v17 v18 v19 3 = some v3 := rfl
@[go_sem] theorem cel20_4 (v0 v1 v2 v3 v4 v5 v6 v7 v8 v9 v10 v11 v12 v13 v14 v15 v16 v17 v18 v19 : Value) : cel20 v0 v1 v2 v3 v4 v5 v6 v7 v8 v9 v10 v11 v12 v13 v14 v15 v16 v17 v18 v19 4 = some v4 := rfl
@[go_sem] theorem cel20_5 (v0 v1 v2 v3 v4 v5 v6 v7 v8 v9 v10 v11 v12 v13 v14 v15 v16 v17 v18 v19 : Value) : cel20 v0 v1 v2 v3 v4 v5 v6 v7 v8 v9 v10 v11 v12 v13 v14 v15 v16 v17 v18 v19 5 = some v5 := rfl
@[go_sem] theorem cel20_6 (v0 v1 v2 v3 v4 v5 v6 v7 v8 v9 v10 v11 v12 v13 v14 v15 v16 v17 v18 v19 : Value) : cel20 v0 v1 v2 v3 v4 v5 v6 v7 v8 v9 v10 v11 v12 v13 v14 v15 v16 v17 v18 v19 6 = some v6 := rfl
@[go_sem] theorem cel20_7 (v0 v1 v2 v3 v4 v5 v6 v7 v8 v9 v10 v11 v12 v13 v14 v15 v16 v17 v18 v19 : Value) : cel20 v0 v1 v2 v3 v4 v5 v6 v7 v8 v9 v10 v11 v12 v13 v14 v15 v16 v17 v18 v19 7 = some v7 := rfl
@[go_sem] theorem cel20_8 (v0 v1 v2 v3 v4 v5 v6 v7 v8 v9 v10 v11 v12 v13 v14 v15 v16 v17 v18 v19 : Value) : cel20 v0 v1 v2 v3 v4 v5 v6 v7 v8 v9 v10 v11 v12 v13 v14 v15 v16 v17 v18 v19 8 = some v8 := rfl
@[go_sem] theorem cel20_9 (v0 v1 v2 v3 v4 v5 v6 v7 v8 v9 v10 v11 v12 v13 v14 v15 v16 v17 v18 v19 : Value) : cel20 v0 v1 v2 v3 v4 v5 v6 v7 v8 v9 v10 v11 v12 v13 v14 v15 v16 v17 v18 v19 9 = some v9 := rfl
@[go_sem] theorem cel20_10 (v0 v1 v2 v3 v4 v5 v6 v7 v8 v9 v10 v11 v12 v13 v14 v15 v16 v17 v18 v19 : Value) : cel20 v0 v1 v2 v3 v4 v5 v6 v7 v8 v9 v10 v11 v12 v13 v14 v15 v16 v17 v18 v19 10 = some v10 := rfl
@[go_sem] theorem cel20_11 (v0 v1 v2 v3 v4 v5 v6 v7 v8 v9 v10 v11 v12 v13 v14 v15 v16 v17 v18 v19 : Value) : cel20 v0 v1 v2 v3 v4 v5 v6 v7 v8 v9 v10 v11 v12 v13 v14 v15 v16 v17 v18 v19 11 = some v11 := rfl
@[go_sem] theorem cel20_12 (v0 v1 v2 v3 v4 v5 v6 v7 v8 v9 v10 v11 v12 v13 v14 v15 v16 v17 v18 v19 : Value) : cel20 v0 v1 v2 v3 v4 v5 v6 v7 v8 v9 v10 v11 v12 v13 v14 v15 v16 v17 v18 v19 12 = some v12 := rfl
@[go_sem] theorem cel20_13 (v0 v1 v2 v3 v4 v5 v6 v7 v8 v9 v10 v11 v12 v13 v14 v15 v16 v17 v18 v19 : Value) : cel20 v0 v1 v2 v3 v4 v5 v6 v7 v8 v9 v10 v11 v12 v13 v14 v15 v16 v17 v18 v19 13 = some v13 := rfl
@[go_sem] theorem cel20_14 (v0 v1 v2 v3 v4 v5 v6 v7 v8 v9 v10 v11 v12 v13 v14 v15 v16 v17 v18 v19 : Value) : cel20 v0 v1 v2 v3 v4 v5 v6 v7 v8 v9 v10 v11 v12 v13 v14 v15 v16 v17 v18 v19 14 = some v14 := rfl
@[go_sem] theorem cel20_15 (v0 v1 v2 v3 v4 v5 v6 v7 v8 v9 v10 v11 v12 v13 v14 v15 v16 v17 v18 v19 : Value) : cel20 v0 v1 v2 v3 v4 v5 v6 v7 v8 v9 v10 v11 v12 v13 v14 v15 v16 v17 v18 v19 15 = some v15 := rfl
@[go_sem] theorem cel20_16 (v0 v1 v2 v3 v4 v5 v6 v7 v8 v9 v10 v11 v12 v13 v14 v15 v16 v17 v18 v19 : Value) : cel20 v0 v1 v2 v3 v4 v5 v6 v7 v8 v9 v10 v11 v12 v13 v14 v15 v16 v17 v18 v19 16 = some v16 := rfl
@[go_sem] theorem cel20_17 (v0 v1 v2 v3 v4 v5 v6 v7 v8 v9 v10 v11 v12 v13 v14 v15 v16 v17 v18 v19 : Value) : cel20 v0 v1 v2 v3 v4 v5 v6 v7 v8 v9 v10 v11 v12 v13 v14 v15 v16 v17 v18 v19 17 = some v17 := rfl
@[go_sem] theorem cel20_18 (v0 v1 v2 v3 v4 v5 v6 v7 v8 v9 v10 v11 v12 v13 v14 v15 v16 v17 v18 v19 : Value) : cel20 v0 v1 v2 v3 v4 v5 v6 v7 v8 v9 v10 v11 v12 v13 v14 v15 v16 v17 v18 v19 18 = some v18 := rfl
@[go_sem] theorem cel20_19 (v0 v1 v2 v3 v4 v5 v6 v7 v8 v9 v10 v11 v12 v13 v14 v15 v16 v17 v18 v19 : Value) : cel20 v0 v1 v2 v3 v4 v5 v6 v7 v8 v9 v10 v11 v12 v13 v14 v15 v16 v17 v18 v19 19 = some v19 := rfl
theorem blkc20 {w : World} {g : Nat} {t : TypeId} {v0 v1 v2 v3 v4 v5 v6 v7 v8 v9 v10 v11 v12 v13 v14 v15 v16 v17 v18 v19 : Value} (h : w.heap[g]? = some (.cells #[v0, v1, v2, v3, v4, v5, v6, v7, v8, v9, v10, v11, v12, v13, v14, v15, v16, v17, v18, v19] t (0, 0))) :
    (∀ i, w.cell? ⟨g, i, none⟩ = cel20 v0 v1 v2 v3 v4 v5 v6 v7 v8 v9 v10 v11 v12 v13 v14 v15 v16 v17 v18 v19 i) ∧ (∀ i, w.frozen? ⟨g, i, none⟩ = false) := ⟨fun i => blk_cell h i, fun i => blk_frozen h i⟩
-- the values' own types

end Go.Proofs.Ytpcmmbbkidojoaa.MCoastTurns
