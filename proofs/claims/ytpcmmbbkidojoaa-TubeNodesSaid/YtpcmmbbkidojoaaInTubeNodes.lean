/- What the arguments of TubeNodes look like, and the statement over them, without Go and memory. -/
import Derived.Test.YtpcmmbbkidojoaaMTubeNodesx7
import Derived.Test.YtpcmmbbkidojoaaOpens
namespace Go.Proofs.Ytpcmmbbkidojoaa.InTubeNodes
open Go.RowKit Go.Proofs.Ytpcmmbbkidojoaa.Opens Go.Proofs.Ytpcmmbbkidojoaa.MTubeNodes Go.Proofs.YtpcmmbbkidojoaaW.PrintWords Go.Proofs.YtpcmmbbkidojoaaW.PrintLast
def good38 (x : S38) : Prop := I64 x.f0 ∧ I64 x.f1
def good89 (x : S89) : Prop := I64 x.f0 ∧ good38 x.f1 ∧ I64 x.f2
def good91 (x : S91) : Prop := good89 x.f0 ∧ I64 x.f1 ∧ I64 x.f2
def Pure : Prop := ∀ (l0 : List (S91)) (a1 : Int), l0.length * 48 ≤ 140737488351232 → (∀ x ∈ l0, good91 x) → I64 a1 → ∃ k, skywaylaw1_TubeNodes.f k l0 a1 = some true
end Go.Proofs.Ytpcmmbbkidojoaa.InTubeNodes
