/- What the arguments of GrayNear look like, and the statement over them, without Go and memory. -/
import Derived.Test.YtpcmmbbkidojoaaPGrayNearx1
import Derived.Test.YtpcmmbbkidojoaaOpens
namespace Go.Proofs.Ytpcmmbbkidojoaa.InGrayNear
open Go.RowKit Go.Proofs.Ytpcmmbbkidojoaa.Opens Go.Proofs.Ytpcmmbbkidojoaa.PGrayNear Go.Proofs.YtpcmmbbkidojoaaW.PrintWords Go.Proofs.YtpcmmbbkidojoaaW.PrintLast

def Pure : Prop := ∀ (a0 : Int), I64 a0 → ∃ k, skywaykeep2_GrayNear.f k a0 = some true
end Go.Proofs.Ytpcmmbbkidojoaa.InGrayNear
