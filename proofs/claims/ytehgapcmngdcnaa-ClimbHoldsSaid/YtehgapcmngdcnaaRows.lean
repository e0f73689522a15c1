/-
  No cell of these rows narrows 'for every input' (looked for: loops, veiled, ifaces, maps, wideKeys, modest, calm, conditions, laid).
  DERIVED. THE GIVEN ROWS OF THIS SEAT. 12 by the template 'for every input the law returns true; each argument reads behind the call as it read before'; 0 by the template 'total and deterministic' (their statements: YtehgapcmngdcnaaTotals.lean).
  GIVEN WITH THE SEED: the statements are not yours to turn. If you find one false, say at which input.
  Laid BY PROGRAM, IN A SANDBOX (cutbox-rows.mjs): the forced cells as the released guide's own fill.sh prints them over the translation 38f137360c1b9947… (all of the seat's roots in one cut). By AI agents, Wed Nov 11 2026. No macro, syntax, notation, axiom, sorry.
-/
import Derived.Test.YtehgapcmngdcnaaChecked
import GoSem.Claim
import GoSem.ClaimJoined
import GoSem.ClaimMapViews
import Derived.JoinedTies
import Derived.KernelRfl
namespace Go.Proofs.Ytehgapcmngdcnaa
/- THE CELL 'sum', in the pinned program and in every row, IS THE sha256 OF THE DUMP (.gsa) THAT YtehgapcmngdcnaaProg.lean LOADS. Nothing in Lean hashes anything: it is a label: what it is worth is what the hold of that sum in a sandbox is worth. -/
noncomputable def Try.pinned : Pinned := { name := "ytehgapcmngdcnaa", sum := "38f137360c1b994717bd85b6d9730396f7a9c5de102b03be227c20a79f24c532", checked := Try.checked }
namespace Rows
def none {H : Type} : Left H := { results := [], args := [] }

/-- 'skywaykeep2.ClimbHolds': WHATEVER THE INPUT: true; the input reads as it did. -/
def climbHoldsSpec : ChangeSpec := { name := "climbHolds", fn := fun _ => fun
  | [d1, d2, d3] => { results := [.lit (.bool true)], args := [d1, d2, d3] }
  | _ => none }
def climbHoldsRow : OpenClaim := { program := "ytehgapcmngdcnaa", sum := "38f137360c1b994717bd85b6d9730396f7a9c5de102b03be227c20a79f24c532", func := "skyway/skywaykeep2.ClimbHolds", spec := "climbHolds", unfollowed := true, recurses := true, apart := false }
def ClimbHoldsSaid : Prop := climbHoldsRow.holds Try.pinned (OpenSpec.ofChange climbHoldsSpec)

/-- ITS FALSE NEIGHBOUR: 'it returns false'. Refute it at one input. -/
def climbHoldsWrong : ChangeSpec := { name := "climbHolds", fn := fun _ => fun
  | [d1, d2, d3] => { results := [.lit (.bool false)], args := [d1, d2, d3] }
  | _ => none }
def ClimbHoldsWrongFalsely : Prop := climbHoldsRow.holds Try.pinned (OpenSpec.ofChange climbHoldsWrong)

/-- 'skywaykeep2.ClimbThrough': WHATEVER THE INPUT: true; the input reads as it did. -/
def climbThroughSpec : ChangeSpec := { name := "climbThrough", fn := fun _ => fun
  | [d1, d2, d3, d4] => { results := [.lit (.bool true)], args := [d1, d2, d3, d4] }
  | _ => none }
def climbThroughRow : OpenClaim := { program := "ytehgapcmngdcnaa", sum := "38f137360c1b994717bd85b6d9730396f7a9c5de102b03be227c20a79f24c532", func := "skyway/skywaykeep2.ClimbThrough", spec := "climbThrough", apart := false }
def ClimbThroughSaid : Prop := climbThroughRow.holds Try.pinned (OpenSpec.ofChange climbThroughSpec)

/-- ITS FALSE NEIGHBOUR: 'it returns false'. Refute it at one input. -/
def climbThroughWrong : ChangeSpec := { name := "climbThrough", fn := fun _ => fun
  | [d1, d2, d3, d4] => { results := [.lit (.bool false)], args := [d1, d2, d3, d4] }
  | _ => none }
def ClimbThroughWrongFalsely : Prop := climbThroughRow.holds Try.pinned (OpenSpec.ofChange climbThroughWrong)

/-- 'skywaykeep2.BeginSooner': WHATEVER THE INPUT: true; the input reads as it did. -/
def beginSoonerSpec : ChangeSpec := { name := "beginSooner", fn := fun _ => fun
  | [d1, d2, d3, d4] => { results := [.lit (.bool true)], args := [d1, d2, d3, d4] }
  | _ => none }
def beginSoonerRow : OpenClaim := { program := "ytehgapcmngdcnaa", sum := "38f137360c1b994717bd85b6d9730396f7a9c5de102b03be227c20a79f24c532", func := "skyway/skywaykeep2.BeginSooner", spec := "beginSooner", apart := false }
def BeginSoonerSaid : Prop := beginSoonerRow.holds Try.pinned (OpenSpec.ofChange beginSoonerSpec)

/-- ITS FALSE NEIGHBOUR: 'it returns false'. Refute it at one input. -/
def beginSoonerWrong : ChangeSpec := { name := "beginSooner", fn := fun _ => fun
  | [d1, d2, d3, d4] => { results := [.lit (.bool false)], args := [d1, d2, d3, d4] }
  | _ => none }
def BeginSoonerWrongFalsely : Prop := beginSoonerRow.holds Try.pinned (OpenSpec.ofChange beginSoonerWrong)

/-- 'skywaykeep2.BeginAlways': WHATEVER THE INPUT: true; the input reads as it did. -/
def beginAlwaysSpec : ChangeSpec := { name := "beginAlways", fn := fun _ => fun
  | [d1, d2] => { results := [.lit (.bool true)], args := [d1, d2] }
  | _ => none }
def beginAlwaysRow : OpenClaim := { program := "ytehgapcmngdcnaa", sum := "38f137360c1b994717bd85b6d9730396f7a9c5de102b03be227c20a79f24c532", func := "skyway/skywaykeep2.BeginAlways", spec := "beginAlways", unfollowed := true, recurses := true, apart := false }
def BeginAlwaysSaid : Prop := beginAlwaysRow.holds Try.pinned (OpenSpec.ofChange beginAlwaysSpec)

/-- ITS FALSE NEIGHBOUR: 'it returns false'. Refute it at one input. -/
def beginAlwaysWrong : ChangeSpec := { name := "beginAlways", fn := fun _ => fun
  | [d1, d2] => { results := [.lit (.bool false)], args := [d1, d2] }
  | _ => none }
def BeginAlwaysWrongFalsely : Prop := beginAlwaysRow.holds Try.pinned (OpenSpec.ofChange beginAlwaysWrong)

/-- 'skywaykeep2.CoastAhead': WHATEVER THE INPUT: true; the input reads as it did. -/
def coastAheadSpec : ChangeSpec := { name := "coastAhead", fn := fun _ => fun
  | [d1, d2, d3, d4] => { results := [.lit (.bool true)], args := [d1, d2, d3, d4] }
  | _ => none }
def coastAheadRow : OpenClaim := { program := "ytehgapcmngdcnaa", sum := "38f137360c1b994717bd85b6d9730396f7a9c5de102b03be227c20a79f24c532", func := "skyway/skywaykeep2.CoastAhead", spec := "coastAhead", unfollowed := true, recurses := true, apart := false }
def CoastAheadSaid : Prop := coastAheadRow.holds Try.pinned (OpenSpec.ofChange coastAheadSpec)

/-- ITS FALSE NEIGHBOUR: 'it returns false'. Refute it at one input. -/
def coastAheadWrong : ChangeSpec := { name := "coastAhead", fn := fun _ => fun
  | [d1, d2, d3, d4] => { results := [.lit (.bool false)], args := [d1, d2, d3, d4] }
  | _ => none }
def CoastAheadWrongFalsely : Prop := coastAheadRow.holds Try.pinned (OpenSpec.ofChange coastAheadWrong)

/-- 'skywaykeep2.FilterGains': WHATEVER THE INPUT: true; the input reads as it did. -/
def filterGainsSpec : ChangeSpec := { name := "filterGains", fn := fun _ => fun
  | [d1, d2, d3] => { results := [.lit (.bool true)], args := [d1, d2, d3] }
  | _ => none }
def filterGainsRow : OpenClaim := { program := "ytehgapcmngdcnaa", sum := "38f137360c1b994717bd85b6d9730396f7a9c5de102b03be227c20a79f24c532", func := "skyway/skywaykeep2.FilterGains", spec := "filterGains", unfollowed := true, recurses := true, apart := false }
def FilterGainsSaid : Prop := filterGainsRow.holds Try.pinned (OpenSpec.ofChange filterGainsSpec)

/-- ITS FALSE NEIGHBOUR: 'it returns false'. Refute it at one input. -/
def filterGainsWrong : ChangeSpec := { name := "filterGains", fn := fun _ => fun
  | [d1, d2, d3] => { results := [.lit (.bool false)], args := [d1, d2, d3] }
  | _ => none }
def FilterGainsWrongFalsely : Prop := filterGainsRow.holds Try.pinned (OpenSpec.ofChange filterGainsWrong)

/-- 'skywaykeep2.FilterHolds': WHATEVER THE INPUT: true; the input reads as it did. -/
def filterHoldsSpec : ChangeSpec := { name := "filterHolds", fn := fun _ => fun
  | [d1, d2, d3, d4, d5, d6, d7, d8, d9] => { results := [.lit (.bool true)], args := [d1, d2, d3, d4, d5, d6, d7, d8, d9] }
  | _ => none }
def filterHoldsRow : OpenClaim := { program := "ytehgapcmngdcnaa", sum := "38f137360c1b994717bd85b6d9730396f7a9c5de102b03be227c20a79f24c532", func := "skyway/skywaykeep2.FilterHolds", spec := "filterHolds", unfollowed := true, recurses := true, apart := false }
def FilterHoldsSaid : Prop := filterHoldsRow.holds Try.pinned (OpenSpec.ofChange filterHoldsSpec)

/-- ITS FALSE NEIGHBOUR: 'it returns false'. Refute it at one input. -/
def filterHoldsWrong : ChangeSpec := { name := "filterHolds", fn := fun _ => fun
  | [d1, d2, d3, d4, d5, d6, d7, d8, d9] => { results := [.lit (.bool false)], args := [d1, d2, d3, d4, d5, d6, d7, d8, d9] }
  | _ => none }
def FilterHoldsWrongFalsely : Prop := filterHoldsRow.holds Try.pinned (OpenSpec.ofChange filterHoldsWrong)

/-- 'skywaykeep2.FilterContains': WHATEVER THE INPUT: true; the input reads as it did. -/
def filterContainsSpec : ChangeSpec := { name := "filterContains", fn := fun _ => fun
  | [d1, d2] => { results := [.lit (.bool true)], args := [d1, d2] }
  | _ => none }
def filterContainsRow : OpenClaim := { program := "ytehgapcmngdcnaa", sum := "38f137360c1b994717bd85b6d9730396f7a9c5de102b03be227c20a79f24c532", func := "skyway/skywaykeep2.FilterContains", spec := "filterContains", unfollowed := true, recurses := true, apart := false }
def FilterContainsSaid : Prop := filterContainsRow.holds Try.pinned (OpenSpec.ofChange filterContainsSpec)

/-- ITS FALSE NEIGHBOUR: 'it returns false'. Refute it at one input. -/
def filterContainsWrong : ChangeSpec := { name := "filterContains", fn := fun _ => fun
  | [d1, d2] => { results := [.lit (.bool false)], args := [d1, d2] }
  | _ => none }
def FilterContainsWrongFalsely : Prop := filterContainsRow.holds Try.pinned (OpenSpec.ofChange filterContainsWrong)

/-- 'skywaykeep2.PairFits': WHATEVER THE INPUT: true; the input reads as it did. -/
def pairFitsSpec : ChangeSpec := { name := "pairFits", fn := fun _ => fun
  | [d1, d2, d3, d4] => { results := [.lit (.bool true)], args := [d1, d2, d3, d4] }
  | _ => none }
def pairFitsRow : OpenClaim := { program := "ytehgapcmngdcnaa", sum := "38f137360c1b994717bd85b6d9730396f7a9c5de102b03be227c20a79f24c532", func := "skyway/skywaykeep2.PairFits", spec := "pairFits", apart := false }
def PairFitsSaid : Prop := pairFitsRow.holds Try.pinned (OpenSpec.ofChange pairFitsSpec)

/-- ITS FALSE NEIGHBOUR: 'it returns false'. Refute it at one input. -/
def pairFitsWrong : ChangeSpec := { name := "pairFits", fn := fun _ => fun
  | [d1, d2, d3, d4] => { results := [.lit (.bool false)], args := [d1, d2, d3, d4] }
  | _ => none }
def PairFitsWrongFalsely : Prop := pairFitsRow.holds Try.pinned (OpenSpec.ofChange pairFitsWrong)

/-- 'skywaykeep2.ConformLate': WHATEVER THE INPUT: true; the input reads as it did. -/
def conformLateSpec : ChangeSpec := { name := "conformLate", fn := fun _ => fun
  | [d1, d2, d3] => { results := [.lit (.bool true)], args := [d1, d2, d3] }
  | _ => none }
def conformLateRow : OpenClaim := { program := "ytehgapcmngdcnaa", sum := "38f137360c1b994717bd85b6d9730396f7a9c5de102b03be227c20a79f24c532", func := "skyway/skywaykeep2.ConformLate", spec := "conformLate", apart := false }
def ConformLateSaid : Prop := conformLateRow.holds Try.pinned (OpenSpec.ofChange conformLateSpec)

/-- ITS FALSE NEIGHBOUR: 'it returns false'. Refute it at one input. -/
def conformLateWrong : ChangeSpec := { name := "conformLate", fn := fun _ => fun
  | [d1, d2, d3] => { results := [.lit (.bool false)], args := [d1, d2, d3] }
  | _ => none }
def ConformLateWrongFalsely : Prop := conformLateRow.holds Try.pinned (OpenSpec.ofChange conformLateWrong)

/-- 'skywaykeep2.ConformSound': WHATEVER THE INPUT: true; the input reads as it did. -/
def conformSoundSpec : ChangeSpec := { name := "conformSound", fn := fun _ => fun
  | [d1, d2, d3, d4] => { results := [.lit (.bool true)], args := [d1, d2, d3, d4] }
  | _ => none }
def conformSoundRow : OpenClaim := { program := "ytehgapcmngdcnaa", sum := "38f137360c1b994717bd85b6d9730396f7a9c5de102b03be227c20a79f24c532", func := "skyway/skywaykeep2.ConformSound", spec := "conformSound", apart := false }
def ConformSoundSaid : Prop := conformSoundRow.holds Try.pinned (OpenSpec.ofChange conformSoundSpec)

/-- ITS FALSE NEIGHBOUR: 'it returns false'. Refute it at one input. -/
def conformSoundWrong : ChangeSpec := { name := "conformSound", fn := fun _ => fun
  | [d1, d2, d3, d4] => { results := [.lit (.bool false)], args := [d1, d2, d3, d4] }
  | _ => none }
def ConformSoundWrongFalsely : Prop := conformSoundRow.holds Try.pinned (OpenSpec.ofChange conformSoundWrong)

/-- 'skywaykeep2.ConformFirst': WHATEVER THE INPUT: true; the input reads as it did. -/
def conformFirstSpec : ChangeSpec := { name := "conformFirst", fn := fun _ => fun
  | [d1, d2] => { results := [.lit (.bool true)], args := [d1, d2] }
  | _ => none }
def conformFirstRow : OpenClaim := { program := "ytehgapcmngdcnaa", sum := "38f137360c1b994717bd85b6d9730396f7a9c5de102b03be227c20a79f24c532", func := "skyway/skywaykeep2.ConformFirst", spec := "conformFirst", unfollowed := true, recurses := true, apart := false }
def ConformFirstSaid : Prop := conformFirstRow.holds Try.pinned (OpenSpec.ofChange conformFirstSpec)

/-- ITS FALSE NEIGHBOUR: 'it returns false'. Refute it at one input. -/
def conformFirstWrong : ChangeSpec := { name := "conformFirst", fn := fun _ => fun
  | [d1, d2] => { results := [.lit (.bool false)], args := [d1, d2] }
  | _ => none }
def ConformFirstWrongFalsely : Prop := conformFirstRow.holds Try.pinned (OpenSpec.ofChange conformFirstWrong)

/- THE SECOND FORM. 'bulk': how many values and letters a reading holds, each counted each time it is reached (what is shared counts as often as it is met; a slice's spare places count too). A statement '..UptoSaid' is the law's where the arguments, and the package variables that the reading takes, are together of bulk at most 1048576: NARROWER than '..Said'. Prove '..Said' where nothing that the law and all that it calls make is longer than what came in: it says more and counts as full. Else prove '..UptoSaid'. A law counts once. -/
mutual
def uptoBulk {H : Type} : DataW H → Nat
  | .lit (.string bytes) => bytes.length + 1
  | .lit _ => 1
  | .nil => 1
  | .ptr d => uptoBulk d + 1
  | .slice elems spare => uptoBulkAll elems + uptoBulkAll spare + 1
  | .agg parts => uptoBulkAll parts + 1
  | .iface _ d => uptoBulk d + 1
  | .map entries => uptoBulkEntries entries + 1
  | .held _ => 1
def uptoBulkAll {H : Type} : List (DataW H) → Nat
  | [] => 0
  | d :: r => uptoBulk d + uptoBulkAll r
def uptoBulkEntries {H : Type} : List (Lit × DataW H) → Nat
  | [] => 0
  | x :: r => uptoBulkEntry x + uptoBulkEntries r
def uptoBulkEntry {H : Type} : Lit × DataW H → Nat
  | (.string bytes, d) => bytes.length + uptoBulk d + 1
  | (_, d) => uptoBulk d + 1
 end
def uptoSmall : (H : Type) → List (DataW H) → Bool := fun _ ds => decide (uptoBulkAll ds ≤ 1048576)
def OpenSpec.upto (s : _root_.Go.ChangeSpec) : _root_.Go.OpenSpec := { _root_.Go.OpenSpec.ofChange s with cond := some uptoSmall }

/-- 'skywaykeep2.ClimbHolds', WHERE WHAT IT READS IS OF BULK AT MOST 1048576: true; the input reads as it did. -/
def climbHoldsUptoRow : OpenClaim := { program := "ytehgapcmngdcnaa", sum := "38f137360c1b994717bd85b6d9730396f7a9c5de102b03be227c20a79f24c532", func := "skyway/skywaykeep2.ClimbHolds", spec := "climbHolds", unfollowed := true, recurses := true, apart := false, narrowed := true }
def ClimbHoldsUptoSaid : Prop := climbHoldsUptoRow.holds Try.pinned (OpenSpec.upto climbHoldsSpec)

/-- 'skywaykeep2.ClimbThrough', WHERE WHAT IT READS IS OF BULK AT MOST 1048576: true; the input reads as it did. -/
def climbThroughUptoRow : OpenClaim := { program := "ytehgapcmngdcnaa", sum := "38f137360c1b994717bd85b6d9730396f7a9c5de102b03be227c20a79f24c532", func := "skyway/skywaykeep2.ClimbThrough", spec := "climbThrough", apart := false, narrowed := true }
def ClimbThroughUptoSaid : Prop := climbThroughUptoRow.holds Try.pinned (OpenSpec.upto climbThroughSpec)

/-- 'skywaykeep2.BeginSooner', WHERE WHAT IT READS IS OF BULK AT MOST 1048576: true; the input reads as it did. -/
def beginSoonerUptoRow : OpenClaim := { program := "ytehgapcmngdcnaa", sum := "38f137360c1b994717bd85b6d9730396f7a9c5de102b03be227c20a79f24c532", func := "skyway/skywaykeep2.BeginSooner", spec := "beginSooner", apart := false, narrowed := true }
def BeginSoonerUptoSaid : Prop := beginSoonerUptoRow.holds Try.pinned (OpenSpec.upto beginSoonerSpec)

/-- 'skywaykeep2.BeginAlways', WHERE WHAT IT READS IS OF BULK AT MOST 1048576: true; the input reads as it did. -/
def beginAlwaysUptoRow : OpenClaim := { program := "ytehgapcmngdcnaa", sum := "38f137360c1b994717bd85b6d9730396f7a9c5de102b03be227c20a79f24c532", func := "skyway/skywaykeep2.BeginAlways", spec := "beginAlways", unfollowed := true, recurses := true, apart := false, narrowed := true }
def BeginAlwaysUptoSaid : Prop := beginAlwaysUptoRow.holds Try.pinned (OpenSpec.upto beginAlwaysSpec)

/-- 'skywaykeep2.CoastAhead', WHERE WHAT IT READS IS OF BULK AT MOST 1048576: true; the input reads as it did. -/
def coastAheadUptoRow : OpenClaim := { program := "ytehgapcmngdcnaa", sum := "38f137360c1b994717bd85b6d9730396f7a9c5de102b03be227c20a79f24c532", func := "skyway/skywaykeep2.CoastAhead", spec := "coastAhead", unfollowed := true, recurses := true, apart := false, narrowed := true }
def CoastAheadUptoSaid : Prop := coastAheadUptoRow.holds Try.pinned (OpenSpec.upto coastAheadSpec)

/-- 'skywaykeep2.FilterGains', WHERE WHAT IT READS IS OF BULK AT MOST 1048576: true; the input reads as it did. -/
def filterGainsUptoRow : OpenClaim := { program := "ytehgapcmngdcnaa", sum := "38f137360c1b994717bd85b6d9730396f7a9c5de102b03be227c20a79f24c532", func := "skyway/skywaykeep2.FilterGains", spec := "filterGains", unfollowed := true, recurses := true, apart := false, narrowed := true }
def FilterGainsUptoSaid : Prop := filterGainsUptoRow.holds Try.pinned (OpenSpec.upto filterGainsSpec)

/-- 'skywaykeep2.FilterHolds', WHERE WHAT IT READS IS OF BULK AT MOST 1048576: true; the input reads as it did. -/
def filterHoldsUptoRow : OpenClaim := { program := "ytehgapcmngdcnaa", sum := "38f137360c1b994717bd85b6d9730396f7a9c5de102b03be227c20a79f24c532", func := "skyway/skywaykeep2.FilterHolds", spec := "filterHolds", unfollowed := true, recurses := true, apart := false, narrowed := true }
def FilterHoldsUptoSaid : Prop := filterHoldsUptoRow.holds Try.pinned (OpenSpec.upto filterHoldsSpec)

/-- 'skywaykeep2.FilterContains', WHERE WHAT IT READS IS OF BULK AT MOST 1048576: true; the input reads as it did. -/
def filterContainsUptoRow : OpenClaim := { program := "ytehgapcmngdcnaa", sum := "38f137360c1b994717bd85b6d9730396f7a9c5de102b03be227c20a79f24c532", func := "skyway/skywaykeep2.FilterContains", spec := "filterContains", unfollowed := true, recurses := true, apart := false, narrowed := true }
def FilterContainsUptoSaid : Prop := filterContainsUptoRow.holds Try.pinned (OpenSpec.upto filterContainsSpec)

/-- 'skywaykeep2.PairFits', WHERE WHAT IT READS IS OF BULK AT MOST 1048576: true; the input reads as it did. -/
def pairFitsUptoRow : OpenClaim := { program := "ytehgapcmngdcnaa", sum := "38f137360c1b994717bd85b6d9730396f7a9c5de102b03be227c20a79f24c532", func := "skyway/skywaykeep2.PairFits", spec := "pairFits", apart := false, narrowed := true }
def PairFitsUptoSaid : Prop := pairFitsUptoRow.holds Try.pinned (OpenSpec.upto pairFitsSpec)

/-- 'skywaykeep2.ConformLate', WHERE WHAT IT READS IS OF BULK AT MOST 1048576: true; the input reads as it did. -/
def conformLateUptoRow : OpenClaim := { program := "ytehgapcmngdcnaa", sum := "38f137360c1b994717bd85b6d9730396f7a9c5de102b03be227c20a79f24c532", func := "skyway/skywaykeep2.ConformLate", spec := "conformLate", apart := false, narrowed := true }
def ConformLateUptoSaid : Prop := conformLateUptoRow.holds Try.pinned (OpenSpec.upto conformLateSpec)

/-- 'skywaykeep2.ConformSound', WHERE WHAT IT READS IS OF BULK AT MOST 1048576: true; the input reads as it did. -/
def conformSoundUptoRow : OpenClaim := { program := "ytehgapcmngdcnaa", sum := "38f137360c1b994717bd85b6d9730396f7a9c5de102b03be227c20a79f24c532", func := "skyway/skywaykeep2.ConformSound", spec := "conformSound", apart := false, narrowed := true }
def ConformSoundUptoSaid : Prop := conformSoundUptoRow.holds Try.pinned (OpenSpec.upto conformSoundSpec)

/-- 'skywaykeep2.ConformFirst', WHERE WHAT IT READS IS OF BULK AT MOST 1048576: true; the input reads as it did. -/
def conformFirstUptoRow : OpenClaim := { program := "ytehgapcmngdcnaa", sum := "38f137360c1b994717bd85b6d9730396f7a9c5de102b03be227c20a79f24c532", func := "skyway/skywaykeep2.ConformFirst", spec := "conformFirst", unfollowed := true, recurses := true, apart := false, narrowed := true }
def ConformFirstUptoSaid : Prop := conformFirstUptoRow.holds Try.pinned (OpenSpec.upto conformFirstSpec)

end Rows
end Go.Proofs.Ytehgapcmngdcnaa
