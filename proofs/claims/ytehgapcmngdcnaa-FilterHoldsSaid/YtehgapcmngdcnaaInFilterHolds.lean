/- What comes into FilterHolds, and the statement over it, without the program's memory. No condition. -/
import Derived.Test.YtehgapcmngdcnaaEvaS
import Derived.Test.YtehgapcmngdcnaaEvaV
import Derived.Test.YtehgapcmngdcnaaCodeAll
namespace Go.Proofs.Ytehgapcmngdcnaa.InFilterHolds
open Go Go.Proofs.Ytehgapcmngdcnaa.Eva
def shapes : List AT := [.st [.int .i64, .int .i64], .st [.int .i64, .int .i64], .sl (.int .i64) 8, .sl (.int .i64) 8, .int .i64, .int .i64, .int .i64, .int .i64, .int .i64]
def Pure : Prop := Law CodeAll.E 9 shapes
end Go.Proofs.Ytehgapcmngdcnaa.InFilterHolds
