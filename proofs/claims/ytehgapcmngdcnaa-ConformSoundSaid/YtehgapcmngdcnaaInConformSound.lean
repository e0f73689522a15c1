/- What the arguments of ConformSound look like, and the statement over them, without Go and memory. -/
import Derived.Test.YtehgapcmngdcnaaMConformSoundx5
import Derived.Test.YtehgapcmngdcnaaOpens
namespace Go.Proofs.Ytehgapcmngdcnaa.InConformSound
open Go.RowKit Go.Proofs.Ytehgapcmngdcnaa.Opens Go.Proofs.Ytehgapcmngdcnaa.MConformSound Go.Proofs.YtehgapcmngdcnaaW.PrintWords Go.Proofs.YtehgapcmngdcnaaW.PrintLast
def good45 (x : S45) : Prop := I64 x.f0 ∧ I64 x.f1
def good80 (x : S80) : Prop := I64 x.f0 ∧ good45 x.f1 ∧ I64 x.f2
def good82 (x : S82) : Prop := good80 x.f0 ∧ I64 x.f1 ∧ I64 x.f2
def Pure : Prop := ∀ (a0_0 : Int) (a0_1 : Int) (a0_2 : Int) (a0_3 : Int) (a0_4 : Int) (a0_5 : Int) (a0_6 : Int) (a0_7 : Int) (a0_8 : Int) (a0_9 : Int) (a0_10 : Int) (a0_11 : Int) (a0_12 : Int) (l1 : List (S82)) (a2_0 : Int) (a2_1 : Int) (a3 : Int), I64 a0_0 → I64 a0_1 → I64 a0_2 → I64 a0_3 → I64 a0_4 → I64 a0_5 → I64 a0_6 → I64 a0_7 → I64 a0_8 → I64 a0_9 → I64 a0_10 → I64 a0_11 → I64 a0_12 → l1.length * 48 ≤ 140737488351232 → (∀ x ∈ l1, good82 x) → I64 a2_0 → I64 a2_1 → I64 a3 → ∃ k, skywaykeep2_ConformSound.f k a0_0 a0_1 a0_2 a0_3 a0_4 a0_5 a0_6 a0_7 a0_8 a0_9 a0_10 a0_11 a0_12 l1 a2_0 a2_1 a3 = some true
end Go.Proofs.Ytehgapcmngdcnaa.InConformSound
