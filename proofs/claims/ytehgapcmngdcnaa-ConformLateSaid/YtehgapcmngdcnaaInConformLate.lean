/- What comes into ConformLate, and the statement over it, without the program's memory. No condition. -/
import Derived.Test.YtehgapcmngdcnaaEvaS
import Derived.Test.YtehgapcmngdcnaaEvaV
import Derived.Test.YtehgapcmngdcnaaCodeAll
namespace Go.Proofs.Ytehgapcmngdcnaa.InConformLate
open Go Go.Proofs.Ytehgapcmngdcnaa.Eva
def shapes : List AT := [.sl (.st [.st [.int .i64, .st [.int .i64, .int .i64], .int .i64], .int .i64, .int .i64]) 48, .int .i64, .int .i64]
def Pure : Prop := Law CodeAll.E 12 shapes
end Go.Proofs.Ytehgapcmngdcnaa.InConformLate
