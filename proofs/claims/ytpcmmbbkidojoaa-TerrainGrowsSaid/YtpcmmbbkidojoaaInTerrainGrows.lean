/- What the arguments of TerrainGrows look like, and the statement over them, without Go and memory. -/
import Derived.Test.YtpcmmbbkidojoaaPTerrainGrowsx7
import Derived.Test.YtpcmmbbkidojoaaOpens
namespace Go.Proofs.Ytpcmmbbkidojoaa.InTerrainGrows
open Go.RowKit Go.Proofs.Ytpcmmbbkidojoaa.Opens Go.Proofs.Ytpcmmbbkidojoaa.PTerrainGrows Go.Proofs.YtpcmmbbkidojoaaW.PrintWords Go.Proofs.YtpcmmbbkidojoaaW.PrintLast

def Pure : Prop := ∀ (a0_0 : Int) (a0_1 : Int) (a0_2 : Int) (a0_3 : Int) (a0_4 : Int) (l0_5 : List (Int)) (a1_0 : Int) (a1_1 : Int) (a2 : Int) (a3 : Int) (a4 : Int), I64 a0_0 → I64 a0_1 → I64 a0_2 → I64 a0_3 → I64 a0_4 → l0_5.length * 8 ≤ 140737488351232 → (∀ x ∈ l0_5, I64 x) → I64 a1_0 → I64 a1_1 → I64 a2 → I64 a3 → I64 a4 → ∃ k, skywaykeep2_TerrainGrows.f k a0_0 a0_1 a0_2 a0_3 a0_4 l0_5 a1_0 a1_1 a2 a3 a4 = some true
end Go.Proofs.Ytpcmmbbkidojoaa.InTerrainGrows
