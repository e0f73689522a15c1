/- What comes into FilterContains, and the statement over it, without the program's memory. No condition. -/
import Derived.Test.YtehgapcmngdcnaaEvaS
import Derived.Test.YtehgapcmngdcnaaEvaV
import Derived.Test.YtehgapcmngdcnaaCodeAll
namespace Go.Proofs.Ytehgapcmngdcnaa.InFilterContains
open Go Go.Proofs.Ytehgapcmngdcnaa.Eva
def shapes : List AT := [.st [.st [.int .i64, .int .i64, .int .i64, .st [.int .i64, .int .i64], .st [.int .i64, .int .i64], .int .i64, .int .i64, .int .i64, .int .i64, .int .i64, .int .i64], .int .i64, .st [.int .i64, .st [.int .i64, .int .i64], .int .i64, .int .i64, .int .i64]], .st [.int .i64, .st [.int .i64, .int .i64], .int .i64, .int .i64, .int .i64]]
def Pure : Prop := Law CodeAll.E 10 shapes
end Go.Proofs.Ytehgapcmngdcnaa.InFilterContains
