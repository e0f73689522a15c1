/- What comes into CoastTurns, and the statement over it, without the program's memory. No condition. -/
import Derived.Test.YtpcmmbbkidojoaaEvaS
import Derived.Test.YtpcmmbbkidojoaaEvaV
import Derived.Test.YtpcmmbbkidojoaaCodeCoastTurns
namespace Go.Proofs.Ytpcmmbbkidojoaa.InCoastTurns
open Go Go.Proofs.Ytpcmmbbkidojoaa.Eva
def shapes : List AT := [.st [.st [.int .i64, .int .i64, .int .i64, .st [.int .i64, .int .i64], .st [.int .i64, .int .i64], .int .i64, .int .i64, .int .i64, .int .i64, .int .i64, .int .i64], .int .i64, .st [.int .i64, .st [.int .i64, .int .i64], .int .i64, .int .i64, .int .i64]], .int .i64]
def Pure : Prop := Law CodeCoastTurns.E 8 shapes
end Go.Proofs.Ytpcmmbbkidojoaa.InCoastTurns
