/- What comes into PolygonPlaces, and the statement over it, without the program's memory. No condition. -/
import Derived.Test.YtpcmmbbkidojoaaEvaS
import Derived.Test.YtpcmmbbkidojoaaEvaV
import Derived.Test.YtpcmmbbkidojoaaCodeAll
namespace Go.Proofs.Ytpcmmbbkidojoaa.InPolygonPlaces
open Go Go.Proofs.Ytpcmmbbkidojoaa.Eva
def shapes : List AT := [.sl (.st [.int .i64, .int .i64]) 16, .st [.int .i64, .int .i64]]
def Pure : Prop := Law CodeAll.E 14 shapes
end Go.Proofs.Ytpcmmbbkidojoaa.InPolygonPlaces
