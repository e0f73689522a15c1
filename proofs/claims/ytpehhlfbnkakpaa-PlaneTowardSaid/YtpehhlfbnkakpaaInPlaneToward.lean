/- What comes into PlaneToward, and the statement over it, without the program's memory. No condition. -/
import Derived.Test.YtpehhlfbnkakpaaEvaS
import Derived.Test.YtpehhlfbnkakpaaEvaV
import Derived.Test.YtpehhlfbnkakpaaCodeAll
namespace Go.Proofs.Ytpehhlfbnkakpaa.InPlaneToward
open Go Go.Proofs.Ytpehhlfbnkakpaa.Eva
def shapes : List AT := [.st [.int .i64, .int .i64], .st [.int .i64, .int .i64], .int .i64, .int .i64]
def Pure : Prop := Law CodeAll.E 3 shapes
end Go.Proofs.Ytpehhlfbnkakpaa.InPlaneToward
