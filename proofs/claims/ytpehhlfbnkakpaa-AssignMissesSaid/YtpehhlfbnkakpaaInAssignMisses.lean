/- What comes into AssignMisses, and the statement over it, without the program's memory. No condition. -/
import Derived.Test.YtpehhlfbnkakpaaEvaS
import Derived.Test.YtpehhlfbnkakpaaEvaV
import Derived.Test.YtpehhlfbnkakpaaCodeAll
namespace Go.Proofs.Ytpehhlfbnkakpaa.InAssignMisses
open Go Go.Proofs.Ytpehhlfbnkakpaa.Eva
def shapes : List AT := [.sl (.sl (.int .i64) 8) 24]
def Pure : Prop := Law CodeAll.E 14 shapes
end Go.Proofs.Ytpehhlfbnkakpaa.InAssignMisses
