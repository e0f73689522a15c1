/- What comes into FuseOnce, and the statement over it, without the program's memory. No condition. -/
import Derived.Test.YtaekgifbehoipaaEvaS
import Derived.Test.YtaekgifbehoipaaEvaV
import Derived.Test.YtaekgifbehoipaaCodeAll
namespace Go.Proofs.Ytaekgifbehoipaa.InFuseOnce
open Go Go.Proofs.Ytaekgifbehoipaa.Eva
def shapes : List AT := [.sl (.st [.int .i64, .st [.int .i64, .int .i64], .int .i64, .int .i64, .int .i64]) 48, .int .i64, .int .i64]
def Pure : Prop := Law CodeAll.E 10 shapes
end Go.Proofs.Ytaekgifbehoipaa.InFuseOnce
