/- What comes into WireUnique, and the statement over it, without the program's memory. No condition. -/
import Derived.Test.YtaekgifbehoipaaEvaS
import Derived.Test.YtaekgifbehoipaaEvaV
import Derived.Test.YtaekgifbehoipaaCodeAll
namespace Go.Proofs.Ytaekgifbehoipaa.InWireUnique
open Go Go.Proofs.Ytaekgifbehoipaa.Eva
def shapes : List AT := [.str]
def Pure : Prop := Law CodeAll.E 5 shapes
end Go.Proofs.Ytaekgifbehoipaa.InWireUnique
