/- What the arguments of RadarGrows look like, and the statement over them, without Go and memory. -/
import Derived.Test.YtpcmmbbkidojoaaMRadarGrowsx2
import Derived.Test.YtpcmmbbkidojoaaOpens
namespace Go.Proofs.Ytpcmmbbkidojoaa.InRadarGrows
open Go.RowKit Go.Proofs.Ytpcmmbbkidojoaa.Opens Go.Proofs.Ytpcmmbbkidojoaa.MRadarGrows Go.Proofs.YtpcmmbbkidojoaaW.PrintWords Go.Proofs.YtpcmmbbkidojoaaW.PrintLast

def Pure : Prop := ∀ (a0_0 : Int) (a0_1 : Int) (a0_2 : Int) (a0_3 : Int) (a0_4 : Int) (a0_5 : Int) (a1 : Int) (a2 : Int), I64 a0_0 → I64 a0_1 → I64 a0_2 → I64 a0_3 → I64 a0_4 → I64 a0_5 → I64 a1 → I64 a2 → ∃ k, skywaykeep2_RadarGrows.f k a0_0 a0_1 a0_2 a0_3 a0_4 a0_5 a1 a2 = some true
end Go.Proofs.Ytpcmmbbkidojoaa.InRadarGrows
