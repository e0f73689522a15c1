/- What comes into BeginSooner, and the statement over it, without the program's memory. No condition. -/
import Derived.Test.YtehgapcmngdcnaaEvaS
import Derived.Test.YtehgapcmngdcnaaEvaV
import Derived.Test.YtehgapcmngdcnaaCodeAll
namespace Go.Proofs.Ytehgapcmngdcnaa.InBeginSooner
open Go Go.Proofs.Ytehgapcmngdcnaa.Eva
def shapes : List AT := [.sl (.bool) 1, .sl (.bool) 1, .int .i64, .int .i64]
def Pure : Prop := Law CodeAll.E 5 shapes
end Go.Proofs.Ytehgapcmngdcnaa.InBeginSooner
