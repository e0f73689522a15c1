/- What the arguments of GrayChange look like, and the statement over them, without Go and memory. -/
import Derived.Test.YtpcmmbbkidojoaaMGrayChangex1
import Derived.Test.YtpcmmbbkidojoaaOpens
namespace Go.Proofs.Ytpcmmbbkidojoaa.InGrayChange
open Go.RowKit Go.Proofs.Ytpcmmbbkidojoaa.Opens Go.Proofs.Ytpcmmbbkidojoaa.MGrayChange Go.Proofs.YtpcmmbbkidojoaaW.PrintWords Go.Proofs.YtpcmmbbkidojoaaW.PrintLast

def Pure : Prop := ∀ (a0 : Int) (a1 : Int) (a2 : Int), I64 a0 → I64 a1 → I64 a2 → ∃ k, skywaykeep2_GrayChange.f k a0 a1 a2 = some true
end Go.Proofs.Ytpcmmbbkidojoaa.InGrayChange
