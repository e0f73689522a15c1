/- What comes into BiasExact, and the statement over it, without the program's memory. No condition. -/
import Derived.Test.YtaekgifbehoipaaEvaS
import Derived.Test.YtaekgifbehoipaaEvaV
import Derived.Test.YtaekgifbehoipaaCodeAll
namespace Go.Proofs.Ytaekgifbehoipaa.InBiasExact
open Go Go.Proofs.Ytaekgifbehoipaa.Eva
def shapes : List AT := [.sl (.st [.int .i64, .int .i64, .int .i64, .int .i64, .int .i64, .int .i64]) 48, .st [.int .i64, .int .i64, .int .i64], .sl (.st [.int .i64, .int .i64, .int .i64, .int .i64, .int .i64, .int .i64]) 48]
def Pure : Prop := Law CodeAll.E 9 shapes
end Go.Proofs.Ytaekgifbehoipaa.InBiasExact
