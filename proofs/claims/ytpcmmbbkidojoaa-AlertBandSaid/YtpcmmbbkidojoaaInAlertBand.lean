/- What the arguments of AlertBand look like, and the statement over them, without Go and memory. -/
import Derived.Test.YtpcmmbbkidojoaaMAlertBandx1
import Derived.Test.YtpcmmbbkidojoaaOpens
namespace Go.Proofs.Ytpcmmbbkidojoaa.InAlertBand
open Go.RowKit Go.Proofs.Ytpcmmbbkidojoaa.Opens Go.Proofs.Ytpcmmbbkidojoaa.MAlertBand Go.Proofs.YtpcmmbbkidojoaaW.PrintWords Go.Proofs.YtpcmmbbkidojoaaW.PrintLast

def Pure : Prop := ∀ (a0 : Int) (a1 : Int), I64 a0 → I64 a1 → ∃ k, skywaykeep2_AlertBand.f k a0 a1 = some true
end Go.Proofs.Ytpcmmbbkidojoaa.InAlertBand
