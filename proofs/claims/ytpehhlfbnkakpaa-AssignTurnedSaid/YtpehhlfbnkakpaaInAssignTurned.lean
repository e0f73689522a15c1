/- What comes into AssignTurned, and the statement over it, without the program's memory. No condition. -/
import Derived.Test.YtpehhlfbnkakpaaEvaS
import Derived.Test.YtpehhlfbnkakpaaEvaV
import Derived.Test.YtpehhlfbnkakpaaCodeAll
namespace Go.Proofs.Ytpehhlfbnkakpaa.InAssignTurned
open Go Go.Proofs.Ytpehhlfbnkakpaa.Eva
def shapes : List AT := [.sl (.sl (.int .i64) 8) 24, .int .i64, .int .i64, .int .i64, .sl (.int .i64) 8]
def Pure : Prop := Law CodeAll.E 13 shapes
end Go.Proofs.Ytpehhlfbnkakpaa.InAssignTurned
