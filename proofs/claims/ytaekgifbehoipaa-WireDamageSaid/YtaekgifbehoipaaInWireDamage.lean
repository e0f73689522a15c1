/- What comes into WireDamage, and the statement over it, without the program's memory. No condition. -/
import Derived.Test.YtaekgifbehoipaaEvaS
import Derived.Test.YtaekgifbehoipaaEvaV
import Derived.Test.YtaekgifbehoipaaCodeAll
namespace Go.Proofs.Ytaekgifbehoipaa.InWireDamage
open Go Go.Proofs.Ytaekgifbehoipaa.Eva
def shapes : List AT := [.st [.int .i64, .int .i64, .sl (.st [.int .i64, .int .i64, .int .i64, .int .i64, .int .i64, .int .i64]) 48], .int .i64, .int .u8]
def Pure : Prop := Law CodeAll.E 6 shapes
end Go.Proofs.Ytaekgifbehoipaa.InWireDamage
