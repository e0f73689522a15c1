/- What the arguments of ClimbNarrows look like, and the statement over them, without Go and memory. -/
import Derived.Test.YtpcmmbbkidojoaaPClimbNarrowsx2
import Derived.Test.YtpcmmbbkidojoaaOpens
namespace Go.Proofs.Ytpcmmbbkidojoaa.InClimbNarrows
open Go.RowKit Go.Proofs.Ytpcmmbbkidojoaa.Opens Go.Proofs.Ytpcmmbbkidojoaa.PClimbNarrows Go.Proofs.YtpcmmbbkidojoaaW.PrintWords Go.Proofs.YtpcmmbbkidojoaaW.PrintLast
def good112 (x : S112) : Prop := I64 x.f0 ∧ I64 x.f1
def Pure : Prop := ∀ (l0 : List (S112)), l0.length * 16 ≤ 140737488351232 → (∀ x ∈ l0, good112 x) → ∃ k, skywaykeep2_ClimbNarrows.f k l0 = some true
end Go.Proofs.Ytpcmmbbkidojoaa.InClimbNarrows
