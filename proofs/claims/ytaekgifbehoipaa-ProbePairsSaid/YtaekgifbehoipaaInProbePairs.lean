/- What comes into ProbePairs, and the statement over it, without the program's memory. No condition. -/
import Derived.Test.YtaekgifbehoipaaEvaS
import Derived.Test.YtaekgifbehoipaaEvaV
import Derived.Test.YtaekgifbehoipaaCodeAll
namespace Go.Proofs.Ytaekgifbehoipaa.InProbePairs
open Go Go.Proofs.Ytaekgifbehoipaa.Eva
def shapes : List AT := [.sl (.st [.st [.int .i64, .st [.int .i64, .int .i64], .int .i64], .int .i64, .int .i64]) 48, .sl (.st [.st [.int .i64, .st [.int .i64, .int .i64], .int .i64], .int .i64, .int .i64]) 48, .st [.int .i64, .int .i64]]
def Pure : Prop := Law CodeAll.E 4 shapes
end Go.Proofs.Ytaekgifbehoipaa.InProbePairs
