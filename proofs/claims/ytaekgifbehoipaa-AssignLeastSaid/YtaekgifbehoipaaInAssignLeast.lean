/- What comes into AssignLeast, and the statement over it, without the program's memory. No condition. -/
import Derived.Test.YtaekgifbehoipaaEvaS
import Derived.Test.YtaekgifbehoipaaEvaV
import Derived.Test.YtaekgifbehoipaaCodeAll
namespace Go.Proofs.Ytaekgifbehoipaa.InAssignLeast
open Go Go.Proofs.Ytaekgifbehoipaa.Eva
def shapes : List AT := [.sl (.sl (.int .i64) 8) 24, .int .i64, .sl (.int .i64) 8]
def Pure : Prop := Law CodeAll.E 3 shapes
end Go.Proofs.Ytaekgifbehoipaa.InAssignLeast
