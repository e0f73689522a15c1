/- What comes into ClimbHolds, and the statement over it, without the program's memory. No condition. -/
import Derived.Test.YtehgapcmngdcnaaEvaS
import Derived.Test.YtehgapcmngdcnaaEvaV
import Derived.Test.YtehgapcmngdcnaaCodeAll
namespace Go.Proofs.Ytehgapcmngdcnaa.InClimbHolds
open Go Go.Proofs.Ytehgapcmngdcnaa.Eva
def shapes : List AT := [.int .i64, .int .i64, .sl (.int .i64) 8]
def Pure : Prop := Law CodeAll.E 3 shapes
end Go.Proofs.Ytehgapcmngdcnaa.InClimbHolds
