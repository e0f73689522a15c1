/- What the arguments of BiasBack look like, and the statement over them, without Go and memory. -/
import Derived.Test.YtpcmmbbkidojoaaPBiasBackx2
import Derived.Test.YtpcmmbbkidojoaaOpens
namespace Go.Proofs.Ytpcmmbbkidojoaa.InBiasBack
open Go.RowKit Go.Proofs.Ytpcmmbbkidojoaa.Opens Go.Proofs.Ytpcmmbbkidojoaa.PBiasBack Go.Proofs.YtpcmmbbkidojoaaW.PrintWords Go.Proofs.YtpcmmbbkidojoaaW.PrintLast

def Pure : Prop := ∀ (a0_0 : Int) (a0_1 : Int) (a0_2 : Int) (a0_3 : Int) (a0_4 : Int) (a0_5 : Int) (a1_0 : Int) (a1_1 : Int) (a1_2 : Int), I64 a0_0 → I64 a0_1 → I64 a0_2 → I64 a0_3 → I64 a0_4 → I64 a0_5 → I64 a1_0 → I64 a1_1 → I64 a1_2 → ∃ k, skywaykeep2_BiasBack.f k a0_0 a0_1 a0_2 a0_3 a0_4 a0_5 a1_0 a1_1 a1_2 = some true
end Go.Proofs.Ytpcmmbbkidojoaa.InBiasBack
