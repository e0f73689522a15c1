/- What comes into BeginAlways, and the statement over it, without the program's memory. No condition. -/
import Derived.Test.YtehgapcmngdcnaaEvaS
import Derived.Test.YtehgapcmngdcnaaEvaV
import Derived.Test.YtehgapcmngdcnaaCodeAll
namespace Go.Proofs.Ytehgapcmngdcnaa.InBeginAlways
open Go Go.Proofs.Ytehgapcmngdcnaa.Eva
def shapes : List AT := [.int .i64, .int .i64]
def Pure : Prop := Law CodeAll.E 6 shapes
end Go.Proofs.Ytehgapcmngdcnaa.InBeginAlways
