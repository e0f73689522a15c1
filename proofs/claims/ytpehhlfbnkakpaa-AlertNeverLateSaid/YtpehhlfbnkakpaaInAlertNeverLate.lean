/- What comes into AlertNeverLate, and the statement over it, without the program's memory. No condition. -/
import Derived.Test.YtpehhlfbnkakpaaEvaS
import Derived.Test.YtpehhlfbnkakpaaEvaV
import Derived.Test.YtpehhlfbnkakpaaCodeAll
namespace Go.Proofs.Ytpehhlfbnkakpaa.InAlertNeverLate
open Go Go.Proofs.Ytpehhlfbnkakpaa.Eva
def shapes : List AT := [.st [.int .i64, .int .i64], .st [.int .i64, .int .i64], .st [.int .i64, .int .i64], .st [.int .i64, .int .i64], .sl (.int .i64) 8, .sl (.int .i64) 8, .int .i64, .int .i64, .int .i64, .st [.int .i64, .int .i64]]
def Pure : Prop := Law CodeAll.E 9 shapes
end Go.Proofs.Ytpehhlfbnkakpaa.InAlertNeverLate
