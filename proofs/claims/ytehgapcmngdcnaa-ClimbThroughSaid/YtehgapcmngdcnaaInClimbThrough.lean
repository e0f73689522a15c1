/- What the arguments of ClimbThrough look like, and the statement over them, without Go and memory. -/
import Derived.Test.YtehgapcmngdcnaaMClimbThroughx3
import Derived.Test.YtehgapcmngdcnaaOpens
namespace Go.Proofs.Ytehgapcmngdcnaa.InClimbThrough
open Go.RowKit Go.Proofs.Ytehgapcmngdcnaa.Opens Go.Proofs.Ytehgapcmngdcnaa.MClimbThrough Go.Proofs.YtehgapcmngdcnaaW.PrintWords Go.Proofs.YtehgapcmngdcnaaW.PrintLast
def good31 (x : S31) : Prop := I64 x.f0 ∧ I64 x.f1
def Pure : Prop := ∀ (l0 : List (S31)) (a1 : Int) (a2 : Int) (a3 : Int), l0.length * 16 ≤ 140737488351232 → (∀ x ∈ l0, good31 x) → I64 a1 → I64 a2 → I64 a3 → ∃ k, skywaykeep2_ClimbThrough.f k l0 a1 a2 a3 = some true
end Go.Proofs.Ytehgapcmngdcnaa.InClimbThrough
