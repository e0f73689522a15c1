/- What comes into WireBack, and the statement over it, without the program's memory. No condition. -/
import Derived.Test.YtaekgifbehoipaaEvaS
import Derived.Test.YtaekgifbehoipaaEvaV
import Derived.Test.YtaekgifbehoipaaCodeAll
namespace Go.Proofs.Ytaekgifbehoipaa.InWireBack
open Go Go.Proofs.Ytaekgifbehoipaa.Eva
def shapes : List AT := [.st [.int .i64, .int .i64, .sl (.st [.int .i64, .int .i64, .int .i64, .int .i64, .int .i64, .int .i64]) 48], .str, .int .i64]
def Pure : Prop := Law CodeAll.E 7 shapes
end Go.Proofs.Ytaekgifbehoipaa.InWireBack
