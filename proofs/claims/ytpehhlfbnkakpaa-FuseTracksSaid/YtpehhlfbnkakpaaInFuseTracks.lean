/- What comes into FuseTracks, and the statement over it, without the program's memory. No condition. -/
import Derived.Test.YtpehhlfbnkakpaaEvaS
import Derived.Test.YtpehhlfbnkakpaaEvaV
import Derived.Test.YtpehhlfbnkakpaaCodeAll
namespace Go.Proofs.Ytpehhlfbnkakpaa.InFuseTracks
open Go Go.Proofs.Ytpehhlfbnkakpaa.Eva
def shapes : List AT := [.sl (.st [.st [.int .i64, .int .i64, .int .i64, .st [.int .i64, .int .i64], .st [.int .i64, .int .i64], .int .i64, .int .i64, .int .i64, .int .i64, .int .i64, .int .i64], .int .i64, .st [.int .i64, .st [.int .i64, .int .i64], .int .i64, .int .i64, .int .i64]]) 160, .int .i64]
def Pure : Prop := Law CodeAll.E 8 shapes
end Go.Proofs.Ytpehhlfbnkakpaa.InFuseTracks
