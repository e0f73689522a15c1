/- What comes into BitsNearest, and the statement over it, without the program's memory. No condition. -/
import Derived.Test.YtpehhlfbnkakpaaEvaS
import Derived.Test.YtpehhlfbnkakpaaEvaV
import Derived.Test.YtpehhlfbnkakpaaCodeAll
namespace Go.Proofs.Ytpehhlfbnkakpaa.InBitsNearest
open Go Go.Proofs.Ytpehhlfbnkakpaa.Eva
def shapes : List AT := [.int .i64, .int .i64]
def Pure : Prop := Law CodeAll.E 6 shapes
end Go.Proofs.Ytpehhlfbnkakpaa.InBitsNearest
