/- What comes into ConformFirst, and the statement over it, without the program's memory. No condition. -/
import Derived.Test.YtehgapcmngdcnaaEvaS
import Derived.Test.YtehgapcmngdcnaaEvaV
import Derived.Test.YtehgapcmngdcnaaCodeAll
namespace Go.Proofs.Ytehgapcmngdcnaa.InConformFirst
open Go Go.Proofs.Ytehgapcmngdcnaa.Eva
def shapes : List AT := [.sl (.st [.int .i64, .int .i64, .int .i64, .st [.int .i64, .int .i64], .st [.int .i64, .int .i64], .int .i64, .int .i64, .int .i64, .int .i64, .int .i64, .int .i64]) 104, .sl (.st [.st [.int .i64, .st [.int .i64, .int .i64], .int .i64], .int .i64, .int .i64]) 48]
def Pure : Prop := Law CodeAll.E 14 shapes
end Go.Proofs.Ytehgapcmngdcnaa.InConformFirst
