/- What the arguments of BeginRemembers look like, and the statement over them, without Go and memory. -/
import Derived.Test.YtpcmmbbkidojoaaMBeginRemembersx2
import Derived.Test.YtpcmmbbkidojoaaOpens
namespace Go.Proofs.Ytpcmmbbkidojoaa.InBeginRemembers
open Go.RowKit Go.Proofs.Ytpcmmbbkidojoaa.Opens Go.Proofs.Ytpcmmbbkidojoaa.MBeginRemembers Go.Proofs.YtpcmmbbkidojoaaW.PrintWords Go.Proofs.YtpcmmbbkidojoaaW.PrintLast

def Pure : Prop := ∀ (l0 : List (Bool)), l0.length * 1 ≤ 140737488351232 → (∀ x ∈ l0, Any x) → ∃ k, skywaykeep2_BeginRemembers.f k l0 = some true
end Go.Proofs.Ytpcmmbbkidojoaa.InBeginRemembers
