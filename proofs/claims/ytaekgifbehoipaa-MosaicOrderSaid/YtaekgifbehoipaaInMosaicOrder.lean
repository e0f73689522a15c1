/- What comes into MosaicOrder, and the statement over it, without the program's memory. No condition. -/
import Derived.Test.YtaekgifbehoipaaEvaS
import Derived.Test.YtaekgifbehoipaaEvaV
import Derived.Test.YtaekgifbehoipaaCodeAll
namespace Go.Proofs.Ytaekgifbehoipaa.InMosaicOrder
open Go Go.Proofs.Ytaekgifbehoipaa.Eva
def shapes : List AT := [.sl (.st [.int .i64, .int .i64, .int .i64, .int .i64, .int .i64, .int .i64]) 48, .sl (.st [.int .i64, .int .i64, .int .i64, .int .i64, .int .i64, .int .i64]) 48, .int .i64]
def Pure : Prop := Law CodeAll.E 11 shapes
end Go.Proofs.Ytaekgifbehoipaa.InMosaicOrder
