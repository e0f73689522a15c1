/- What the arguments of CoastTurns look like, and the statement over them, without Go and memory. -/
import Derived.Test.YtpcmmbbkidojoaaMCoastTurnsx5
import Derived.Test.YtpcmmbbkidojoaaOpens
namespace Go.Proofs.Ytpcmmbbkidojoaa.InCoastTurns
open Go.RowKit Go.Proofs.Ytpcmmbbkidojoaa.Opens Go.Proofs.Ytpcmmbbkidojoaa.MCoastTurns Go.Proofs.YtpcmmbbkidojoaaW.PrintWords Go.Proofs.YtpcmmbbkidojoaaW.PrintLast

def Pure : Prop := ∀ (a0_0 : Int) (a0_1 : Int) (a0_2 : Int) (a0_3 : Int) (a0_4 : Int) (a0_5 : Int) (a0_6 : Int) (a0_7 : Int) (a0_8 : Int) (a0_9 : Int) (a0_10 : Int) (a0_11 : Int) (a0_12 : Int) (a0_13 : Int) (a0_14 : Int) (a0_15 : Int) (a0_16 : Int) (a0_17 : Int) (a0_18 : Int) (a0_19 : Int) (a1 : Int), I64 a0_0 → I64 a0_1 → I64 a0_2 → I64 a0_3 → I64 a0_4 → I64 a0_5 → I64 a0_6 → I64 a0_7 → I64 a0_8 → I64 a0_9 → I64 a0_10 → I64 a0_11 → I64 a0_12 → I64 a0_13 → I64 a0_14 → I64 a0_15 → I64 a0_16 → I64 a0_17 → I64 a0_18 → I64 a0_19 → I64 a1 → ∃ k, skywaykeep2_CoastTurns.f k a0_0 a0_1 a0_2 a0_3 a0_4 a0_5 a0_6 a0_7 a0_8 a0_9 a0_10 a0_11 a0_12 a0_13 a0_14 a0_15 a0_16 a0_17 a0_18 a0_19 a1 = some true
end Go.Proofs.Ytpcmmbbkidojoaa.InCoastTurns
