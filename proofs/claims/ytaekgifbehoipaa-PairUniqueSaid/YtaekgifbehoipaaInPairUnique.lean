/- What comes into PairUnique, and the statement over it, without the program's memory. No condition. -/
import Derived.Test.YtaekgifbehoipaaEvaS
import Derived.Test.YtaekgifbehoipaaEvaV
import Derived.Test.YtaekgifbehoipaaCodeAll
namespace Go.Proofs.Ytaekgifbehoipaa.InPairUnique
open Go Go.Proofs.Ytaekgifbehoipaa.Eva
def shapes : List AT := [.sl (.st [.int .i64, .int .i64, .int .i64, .st [.int .i64, .int .i64], .st [.int .i64, .int .i64], .int .i64, .int .i64, .int .i64, .int .i64, .int .i64, .int .i64]) 104, .sl (.sl (.st [.st [.int .i64, .st [.int .i64, .int .i64], .int .i64], .int .i64, .int .i64]) 48) 24, .sl (.int .i64) 8, .int .i64]
def Pure : Prop := Law CodeAll.E 8 shapes
end Go.Proofs.Ytaekgifbehoipaa.InPairUnique
