/-
  No cell of these rows narrows 'for every input' (looked for: loops, veiled, ifaces, maps, wideKeys, modest, calm, conditions, laid).
  DERIVED. THE GIVEN ROWS OF THIS SEAT. 12 by the template 'for every input the law returns true; each argument reads behind the call as it read before'; 0 by the template 'total and deterministic' (their statements: YtpehhlfbnkakpaaTotals.lean).
  GIVEN WITH THE SEED: the statements are not yours to turn. If you find one false, say at which input.
  Laid BY PROGRAM, IN A SANDBOX (cutbox-rows.mjs): the forced cells as the released guide's own fill.sh prints them over the translation 54ba1d84af1e7760… (all of the seat's roots in one cut). By AI agents, Wed Nov 11 2026. No macro, syntax, notation, axiom, sorry.
-/
import Derived.Test.YtpehhlfbnkakpaaChecked
import GoSem.Claim
import GoSem.ClaimJoined
import GoSem.ClaimMapViews
import Derived.JoinedTies
import Derived.KernelRfl
namespace Go.Proofs.Ytpehhlfbnkakpaa
/- THE CELL 'sum', in the pinned program and in every row, IS THE sha256 OF THE DUMP (.gsa) THAT YtpehhlfbnkakpaaProg.lean LOADS. Nothing in Lean hashes anything: it is a label: what it is worth is what the hold of that sum in a sandbox is worth. -/
noncomputable def Try.pinned : Pinned := { name := "ytpehhlfbnkakpaa", sum := "54ba1d84af1e77601071aea617834cab2bc07726e83744523a8c7d19046cfbf9", checked := Try.checked }
namespace Rows
def none {H : Type} : Left H := { results := [], args := [] }

/-- 'skywaylaw1.PlaneToward': WHATEVER THE INPUT: true; the input reads as it did. -/
def planeTowardSpec : ChangeSpec := { name := "planeToward", fn := fun _ => fun
  | [d1, d2, d3, d4] => { results := [.lit (.bool true)], args := [d1, d2, d3, d4] }
  | _ => none }
def planeTowardRow : OpenClaim := { program := "ytpehhlfbnkakpaa", sum := "54ba1d84af1e77601071aea617834cab2bc07726e83744523a8c7d19046cfbf9", func := "skyway/skywaylaw1.PlaneToward", spec := "planeToward", inPlace := ["math.sqrt"], recurses := true, apart := false }
def PlaneTowardSaid : Prop := planeTowardRow.holds Try.pinned (OpenSpec.ofChange planeTowardSpec)

/-- ITS FALSE NEIGHBOUR: 'it returns false'. Refute it at one input. -/
def planeTowardWrong : ChangeSpec := { name := "planeToward", fn := fun _ => fun
  | [d1, d2, d3, d4] => { results := [.lit (.bool false)], args := [d1, d2, d3, d4] }
  | _ => none }
def PlaneTowardWrongFalsely : Prop := planeTowardRow.holds Try.pinned (OpenSpec.ofChange planeTowardWrong)

/-- 'skywaykeep2.AlertSure': WHATEVER THE INPUT: true; the input reads as it did. -/
def alertSureSpec : ChangeSpec := { name := "alertSure", fn := fun _ => fun
  | [d1, d2, d3, d4, d5] => { results := [.lit (.bool true)], args := [d1, d2, d3, d4, d5] }
  | _ => none }
def alertSureRow : OpenClaim := { program := "ytpehhlfbnkakpaa", sum := "54ba1d84af1e77601071aea617834cab2bc07726e83744523a8c7d19046cfbf9", func := "skyway/skywaykeep2.AlertSure", spec := "alertSure", unfollowed := true, recurses := true, apart := false }
def AlertSureSaid : Prop := alertSureRow.holds Try.pinned (OpenSpec.ofChange alertSureSpec)

/-- ITS FALSE NEIGHBOUR: 'it returns false'. Refute it at one input. -/
def alertSureWrong : ChangeSpec := { name := "alertSure", fn := fun _ => fun
  | [d1, d2, d3, d4, d5] => { results := [.lit (.bool false)], args := [d1, d2, d3, d4, d5] }
  | _ => none }
def AlertSureWrongFalsely : Prop := alertSureRow.holds Try.pinned (OpenSpec.ofChange alertSureWrong)

/-- 'skywaykeep2.TerrainSooner': WHATEVER THE INPUT: true; the input reads as it did. -/
def terrainSoonerSpec : ChangeSpec := { name := "terrainSooner", fn := fun _ => fun
  | [d1, d2, d3, d4, d5] => { results := [.lit (.bool true)], args := [d1, d2, d3, d4, d5] }
  | _ => none }
def terrainSoonerRow : OpenClaim := { program := "ytpehhlfbnkakpaa", sum := "54ba1d84af1e77601071aea617834cab2bc07726e83744523a8c7d19046cfbf9", func := "skyway/skywaykeep2.TerrainSooner", spec := "terrainSooner", unfollowed := true, recurses := true, apart := false }
def TerrainSoonerSaid : Prop := terrainSoonerRow.holds Try.pinned (OpenSpec.ofChange terrainSoonerSpec)

/-- ITS FALSE NEIGHBOUR: 'it returns false'. Refute it at one input. -/
def terrainSoonerWrong : ChangeSpec := { name := "terrainSooner", fn := fun _ => fun
  | [d1, d2, d3, d4, d5] => { results := [.lit (.bool false)], args := [d1, d2, d3, d4, d5] }
  | _ => none }
def TerrainSoonerWrongFalsely : Prop := terrainSoonerRow.holds Try.pinned (OpenSpec.ofChange terrainSoonerWrong)

/-- 'skywaylaw1.BitsNearest': WHATEVER THE INPUT: true; the input reads as it did. -/
def bitsNearestSpec : ChangeSpec := { name := "bitsNearest", fn := fun _ => fun
  | [d1, d2] => { results := [.lit (.bool true)], args := [d1, d2] }
  | _ => none }
def bitsNearestRow : OpenClaim := { program := "ytpehhlfbnkakpaa", sum := "54ba1d84af1e77601071aea617834cab2bc07726e83744523a8c7d19046cfbf9", func := "skyway/skywaylaw1.BitsNearest", spec := "bitsNearest", inPlace := ["math.Float64bits", "math.Float64frombits"], apart := false }
def BitsNearestSaid : Prop := bitsNearestRow.holds Try.pinned (OpenSpec.ofChange bitsNearestSpec)

/-- ITS FALSE NEIGHBOUR: 'it returns false'. Refute it at one input. -/
def bitsNearestWrong : ChangeSpec := { name := "bitsNearest", fn := fun _ => fun
  | [d1, d2] => { results := [.lit (.bool false)], args := [d1, d2] }
  | _ => none }
def BitsNearestWrongFalsely : Prop := bitsNearestRow.holds Try.pinned (OpenSpec.ofChange bitsNearestWrong)

/-- 'skywaykeep2.AlertPairs': WHATEVER THE INPUT: true; the input reads as it did. -/
def alertPairsSpec : ChangeSpec := { name := "alertPairs", fn := fun _ => fun
  | [d1, d2, d3] => { results := [.lit (.bool true)], args := [d1, d2, d3] }
  | _ => none }
def alertPairsRow : OpenClaim := { program := "ytpehhlfbnkakpaa", sum := "54ba1d84af1e77601071aea617834cab2bc07726e83744523a8c7d19046cfbf9", func := "skyway/skywaykeep2.AlertPairs", spec := "alertPairs", unfollowed := true, recurses := true, apart := false }
def AlertPairsSaid : Prop := alertPairsRow.holds Try.pinned (OpenSpec.ofChange alertPairsSpec)

/-- ITS FALSE NEIGHBOUR: 'it returns false'. Refute it at one input. -/
def alertPairsWrong : ChangeSpec := { name := "alertPairs", fn := fun _ => fun
  | [d1, d2, d3] => { results := [.lit (.bool false)], args := [d1, d2, d3] }
  | _ => none }
def AlertPairsWrongFalsely : Prop := alertPairsRow.holds Try.pinned (OpenSpec.ofChange alertPairsWrong)

/-- 'skywaykeep2.FuseTracks': WHATEVER THE INPUT: true; the input reads as it did. -/
def fuseTracksSpec : ChangeSpec := { name := "fuseTracks", fn := fun _ => fun
  | [d1, d2] => { results := [.lit (.bool true)], args := [d1, d2] }
  | _ => none }
def fuseTracksRow : OpenClaim := { program := "ytpehhlfbnkakpaa", sum := "54ba1d84af1e77601071aea617834cab2bc07726e83744523a8c7d19046cfbf9", func := "skyway/skywaykeep2.FuseTracks", spec := "fuseTracks", unfollowed := true, recurses := true, apart := false }
def FuseTracksSaid : Prop := fuseTracksRow.holds Try.pinned (OpenSpec.ofChange fuseTracksSpec)

/-- ITS FALSE NEIGHBOUR: 'it returns false'. Refute it at one input. -/
def fuseTracksWrong : ChangeSpec := { name := "fuseTracks", fn := fun _ => fun
  | [d1, d2] => { results := [.lit (.bool false)], args := [d1, d2] }
  | _ => none }
def FuseTracksWrongFalsely : Prop := fuseTracksRow.holds Try.pinned (OpenSpec.ofChange fuseTracksWrong)

/-- 'skywaykeep2.AlertNeverLate': WHATEVER THE INPUT: true; the input reads as it did. -/
def alertNeverLateSpec : ChangeSpec := { name := "alertNeverLate", fn := fun _ => fun
  | [d1, d2, d3, d4, d5, d6, d7, d8, d9, d10] => { results := [.lit (.bool true)], args := [d1, d2, d3, d4, d5, d6, d7, d8, d9, d10] }
  | _ => none }
def alertNeverLateRow : OpenClaim := { program := "ytpehhlfbnkakpaa", sum := "54ba1d84af1e77601071aea617834cab2bc07726e83744523a8c7d19046cfbf9", func := "skyway/skywaykeep2.AlertNeverLate", spec := "alertNeverLate", unfollowed := true, recurses := true, apart := false }
def AlertNeverLateSaid : Prop := alertNeverLateRow.holds Try.pinned (OpenSpec.ofChange alertNeverLateSpec)

/-- ITS FALSE NEIGHBOUR: 'it returns false'. Refute it at one input. -/
def alertNeverLateWrong : ChangeSpec := { name := "alertNeverLate", fn := fun _ => fun
  | [d1, d2, d3, d4, d5, d6, d7, d8, d9, d10] => { results := [.lit (.bool false)], args := [d1, d2, d3, d4, d5, d6, d7, d8, d9, d10] }
  | _ => none }
def AlertNeverLateWrongFalsely : Prop := alertNeverLateRow.holds Try.pinned (OpenSpec.ofChange alertNeverLateWrong)

/-- 'skywaykeep2.TerrainNeverLate': WHATEVER THE INPUT: true; the input reads as it did. -/
def terrainNeverLateSpec : ChangeSpec := { name := "terrainNeverLate", fn := fun _ => fun
  | [d1, d2, d3, d4, d5, d6, d7] => { results := [.lit (.bool true)], args := [d1, d2, d3, d4, d5, d6, d7] }
  | _ => none }
def terrainNeverLateRow : OpenClaim := { program := "ytpehhlfbnkakpaa", sum := "54ba1d84af1e77601071aea617834cab2bc07726e83744523a8c7d19046cfbf9", func := "skyway/skywaykeep2.TerrainNeverLate", spec := "terrainNeverLate", unfollowed := true, recurses := true, apart := false }
def TerrainNeverLateSaid : Prop := terrainNeverLateRow.holds Try.pinned (OpenSpec.ofChange terrainNeverLateSpec)

/-- ITS FALSE NEIGHBOUR: 'it returns false'. Refute it at one input. -/
def terrainNeverLateWrong : ChangeSpec := { name := "terrainNeverLate", fn := fun _ => fun
  | [d1, d2, d3, d4, d5, d6, d7] => { results := [.lit (.bool false)], args := [d1, d2, d3, d4, d5, d6, d7] }
  | _ => none }
def TerrainNeverLateWrongFalsely : Prop := terrainNeverLateRow.holds Try.pinned (OpenSpec.ofChange terrainNeverLateWrong)

/-- 'skywaylaw1.NumRoots': WHATEVER THE INPUT: true; the input reads as it did. -/
def numRootsSpec : ChangeSpec := { name := "numRoots", fn := fun _ => fun
  | [d] => { results := [.lit (.bool true)], args := [d] }
  | _ => none }
def numRootsRow : OpenClaim := { program := "ytpehhlfbnkakpaa", sum := "54ba1d84af1e77601071aea617834cab2bc07726e83744523a8c7d19046cfbf9", func := "skyway/skywaylaw1.NumRoots", spec := "numRoots", inPlace := ["math.sqrt"], named := ["math/bits.divideError", "math/bits.overflowError"], apart := false }
def NumRootsSaid : Prop := numRootsRow.holds Try.pinned (OpenSpec.ofChange numRootsSpec)

/-- ITS FALSE NEIGHBOUR: 'it returns false'. Refute it at one input. -/
def numRootsWrong : ChangeSpec := { name := "numRoots", fn := fun _ => fun
  | [d] => { results := [.lit (.bool false)], args := [d] }
  | _ => none }
def NumRootsWrongFalsely : Prop := numRootsRow.holds Try.pinned (OpenSpec.ofChange numRootsWrong)

/-- 'skywaylaw1.NumProducts': WHATEVER THE INPUT: true; the input reads as it did. -/
def numProductsSpec : ChangeSpec := { name := "numProducts", fn := fun _ => fun
  | [d1, d2, d3] => { results := [.lit (.bool true)], args := [d1, d2, d3] }
  | _ => none }
def numProductsRow : OpenClaim := { program := "ytpehhlfbnkakpaa", sum := "54ba1d84af1e77601071aea617834cab2bc07726e83744523a8c7d19046cfbf9", func := "skyway/skywaylaw1.NumProducts", spec := "numProducts", inPlace := ["math.sqrt"], named := ["math/bits.divideError", "math/bits.overflowError"], apart := false }
def NumProductsSaid : Prop := numProductsRow.holds Try.pinned (OpenSpec.ofChange numProductsSpec)

/-- ITS FALSE NEIGHBOUR: 'it returns false'. Refute it at one input. -/
def numProductsWrong : ChangeSpec := { name := "numProducts", fn := fun _ => fun
  | [d1, d2, d3] => { results := [.lit (.bool false)], args := [d1, d2, d3] }
  | _ => none }
def NumProductsWrongFalsely : Prop := numProductsRow.holds Try.pinned (OpenSpec.ofChange numProductsWrong)

/-- 'skywaykeep2.AssignTurned': WHATEVER THE INPUT: true; the input reads as it did. -/
def assignTurnedSpec : ChangeSpec := { name := "assignTurned", fn := fun _ => fun
  | [d1, d2, d3, d4, d5] => { results := [.lit (.bool true)], args := [d1, d2, d3, d4, d5] }
  | _ => none }
def assignTurnedRow : OpenClaim := { program := "ytpehhlfbnkakpaa", sum := "54ba1d84af1e77601071aea617834cab2bc07726e83744523a8c7d19046cfbf9", func := "skyway/skywaykeep2.AssignTurned", spec := "assignTurned", apart := false }
def AssignTurnedSaid : Prop := assignTurnedRow.holds Try.pinned (OpenSpec.ofChange assignTurnedSpec)

/-- ITS FALSE NEIGHBOUR: 'it returns false'. Refute it at one input. -/
def assignTurnedWrong : ChangeSpec := { name := "assignTurned", fn := fun _ => fun
  | [d1, d2, d3, d4, d5] => { results := [.lit (.bool false)], args := [d1, d2, d3, d4, d5] }
  | _ => none }
def AssignTurnedWrongFalsely : Prop := assignTurnedRow.holds Try.pinned (OpenSpec.ofChange assignTurnedWrong)

/-- 'skywaykeep2.AssignMisses': WHATEVER THE INPUT: true; the input reads as it did. -/
def assignMissesSpec : ChangeSpec := { name := "assignMisses", fn := fun _ => fun
  | [d] => { results := [.lit (.bool true)], args := [d] }
  | _ => none }
def assignMissesRow : OpenClaim := { program := "ytpehhlfbnkakpaa", sum := "54ba1d84af1e77601071aea617834cab2bc07726e83744523a8c7d19046cfbf9", func := "skyway/skywaykeep2.AssignMisses", spec := "assignMisses", unfollowed := true, recurses := true, apart := false }
def AssignMissesSaid : Prop := assignMissesRow.holds Try.pinned (OpenSpec.ofChange assignMissesSpec)

/-- ITS FALSE NEIGHBOUR: 'it returns false'. Refute it at one input. -/
def assignMissesWrong : ChangeSpec := { name := "assignMisses", fn := fun _ => fun
  | [d] => { results := [.lit (.bool false)], args := [d] }
  | _ => none }
def AssignMissesWrongFalsely : Prop := assignMissesRow.holds Try.pinned (OpenSpec.ofChange assignMissesWrong)

/- THE SECOND FORM. 'bulk': how many values and letters a reading holds, each counted each time it is reached (what is shared counts as often as it is met; a slice's spare places count too). A statement '..UptoSaid' is the law's where the arguments, and the package variables that the reading takes, are together of bulk at most 1048576: NARROWER than '..Said'. Prove '..Said' where nothing that the law and all that it calls make is longer than what came in: it says more and counts as full. Else prove '..UptoSaid'. A law counts once. -/
mutual
def uptoBulk {H : Type} : DataW H → Nat
  | .lit (.string bytes) => bytes.length + 1
  | .lit _ => 1
  | .nil => 1
  | .ptr d => uptoBulk d + 1
  | .slice elems spare => uptoBulkAll elems + uptoBulkAll spare + 1
  | .agg parts => uptoBulkAll parts + 1
  | .iface _ d => uptoBulk d + 1
  | .map entries => uptoBulkEntries entries + 1
  | .held _ => 1
def uptoBulkAll {H : Type} : List (DataW H) → Nat
  | [] => 0
  | d :: r => uptoBulk d + uptoBulkAll r
def uptoBulkEntries {H : Type} : List (Lit × DataW H) → Nat
  | [] => 0
  | x :: r => uptoBulkEntry x + uptoBulkEntries r
def uptoBulkEntry {H : Type} : Lit × DataW H → Nat
  | (.string bytes, d) => bytes.length + uptoBulk d + 1
  | (_, d) => uptoBulk d + 1
 end
def uptoSmall : (H : Type) → List (DataW H) → Bool := fun _ ds => decide (uptoBulkAll ds ≤ 1048576)
def OpenSpec.upto (s : _root_.Go.ChangeSpec) : _root_.Go.OpenSpec := { _root_.Go.OpenSpec.ofChange s with cond := some uptoSmall }

/-- 'skywaylaw1.PlaneToward', WHERE WHAT IT READS IS OF BULK AT MOST 1048576: true; the input reads as it did. -/
def planeTowardUptoRow : OpenClaim := { program := "ytpehhlfbnkakpaa", sum := "54ba1d84af1e77601071aea617834cab2bc07726e83744523a8c7d19046cfbf9", func := "skyway/skywaylaw1.PlaneToward", spec := "planeToward", inPlace := ["math.sqrt"], recurses := true, apart := false, narrowed := true }
def PlaneTowardUptoSaid : Prop := planeTowardUptoRow.holds Try.pinned (OpenSpec.upto planeTowardSpec)

/-- 'skywaykeep2.AlertSure', WHERE WHAT IT READS IS OF BULK AT MOST 1048576: true; the input reads as it did. -/
def alertSureUptoRow : OpenClaim := { program := "ytpehhlfbnkakpaa", sum := "54ba1d84af1e77601071aea617834cab2bc07726e83744523a8c7d19046cfbf9", func := "skyway/skywaykeep2.AlertSure", spec := "alertSure", unfollowed := true, recurses := true, apart := false, narrowed := true }
def AlertSureUptoSaid : Prop := alertSureUptoRow.holds Try.pinned (OpenSpec.upto alertSureSpec)

/-- 'skywaykeep2.TerrainSooner', WHERE WHAT IT READS IS OF BULK AT MOST 1048576: true; the input reads as it did. -/
def terrainSoonerUptoRow : OpenClaim := { program := "ytpehhlfbnkakpaa", sum := "54ba1d84af1e77601071aea617834cab2bc07726e83744523a8c7d19046cfbf9", func := "skyway/skywaykeep2.TerrainSooner", spec := "terrainSooner", unfollowed := true, recurses := true, apart := false, narrowed := true }
def TerrainSoonerUptoSaid : Prop := terrainSoonerUptoRow.holds Try.pinned (OpenSpec.upto terrainSoonerSpec)

/-- 'skywaylaw1.BitsNearest', WHERE WHAT IT READS IS OF BULK AT MOST 1048576: true; the input reads as it did. -/
def bitsNearestUptoRow : OpenClaim := { program := "ytpehhlfbnkakpaa", sum := "54ba1d84af1e77601071aea617834cab2bc07726e83744523a8c7d19046cfbf9", func := "skyway/skywaylaw1.BitsNearest", spec := "bitsNearest", inPlace := ["math.Float64bits", "math.Float64frombits"], apart := false, narrowed := true }
def BitsNearestUptoSaid : Prop := bitsNearestUptoRow.holds Try.pinned (OpenSpec.upto bitsNearestSpec)

/-- 'skywaykeep2.AlertPairs', WHERE WHAT IT READS IS OF BULK AT MOST 1048576: true; the input reads as it did. -/
def alertPairsUptoRow : OpenClaim := { program := "ytpehhlfbnkakpaa", sum := "54ba1d84af1e77601071aea617834cab2bc07726e83744523a8c7d19046cfbf9", func := "skyway/skywaykeep2.AlertPairs", spec := "alertPairs", unfollowed := true, recurses := true, apart := false, narrowed := true }
def AlertPairsUptoSaid : Prop := alertPairsUptoRow.holds Try.pinned (OpenSpec.upto alertPairsSpec)

/-- 'skywaykeep2.FuseTracks', WHERE WHAT IT READS IS OF BULK AT MOST 1048576: true; the input reads as it did. -/
def fuseTracksUptoRow : OpenClaim := { program := "ytpehhlfbnkakpaa", sum := "54ba1d84af1e77601071aea617834cab2bc07726e83744523a8c7d19046cfbf9", func := "skyway/skywaykeep2.FuseTracks", spec := "fuseTracks", unfollowed := true, recurses := true, apart := false, narrowed := true }
def FuseTracksUptoSaid : Prop := fuseTracksUptoRow.holds Try.pinned (OpenSpec.upto fuseTracksSpec)

/-- 'skywaykeep2.AlertNeverLate', WHERE WHAT IT READS IS OF BULK AT MOST 1048576: true; the input reads as it did. -/
def alertNeverLateUptoRow : OpenClaim := { program := "ytpehhlfbnkakpaa", sum := "54ba1d84af1e77601071aea617834cab2bc07726e83744523a8c7d19046cfbf9", func := "skyway/skywaykeep2.AlertNeverLate", spec := "alertNeverLate", unfollowed := true, recurses := true, apart := false, narrowed := true }
def AlertNeverLateUptoSaid : Prop := alertNeverLateUptoRow.holds Try.pinned (OpenSpec.upto alertNeverLateSpec)

/-- 'skywaykeep2.TerrainNeverLate', WHERE WHAT IT READS IS OF BULK AT MOST 1048576: true; the input reads as it did. -/
def terrainNeverLateUptoRow : OpenClaim := { program := "ytpehhlfbnkakpaa", sum := "54ba1d84af1e77601071aea617834cab2bc07726e83744523a8c7d19046cfbf9", func := "skyway/skywaykeep2.TerrainNeverLate", spec := "terrainNeverLate", unfollowed := true, recurses := true, apart := false, narrowed := true }
def TerrainNeverLateUptoSaid : Prop := terrainNeverLateUptoRow.holds Try.pinned (OpenSpec.upto terrainNeverLateSpec)

/-- 'skywaylaw1.NumRoots', WHERE WHAT IT READS IS OF BULK AT MOST 1048576: true; the input reads as it did. -/
def numRootsUptoRow : OpenClaim := { program := "ytpehhlfbnkakpaa", sum := "54ba1d84af1e77601071aea617834cab2bc07726e83744523a8c7d19046cfbf9", func := "skyway/skywaylaw1.NumRoots", spec := "numRoots", inPlace := ["math.sqrt"], named := ["math/bits.divideError", "math/bits.overflowError"], apart := false, narrowed := true }
def NumRootsUptoSaid : Prop := numRootsUptoRow.holds Try.pinned (OpenSpec.upto numRootsSpec)

/-- 'skywaylaw1.NumProducts', WHERE WHAT IT READS IS OF BULK AT MOST 1048576: true; the input reads as it did. -/
def numProductsUptoRow : OpenClaim := { program := "ytpehhlfbnkakpaa", sum := "54ba1d84af1e77601071aea617834cab2bc07726e83744523a8c7d19046cfbf9", func := "skyway/skywaylaw1.NumProducts", spec := "numProducts", inPlace := ["math.sqrt"], named := ["math/bits.divideError", "math/bits.overflowError"], apart := false, narrowed := true }
def NumProductsUptoSaid : Prop := numProductsUptoRow.holds Try.pinned (OpenSpec.upto numProductsSpec)

/-- 'skywaykeep2.AssignTurned', WHERE WHAT IT READS IS OF BULK AT MOST 1048576: true; the input reads as it did. -/
def assignTurnedUptoRow : OpenClaim := { program := "ytpehhlfbnkakpaa", sum := "54ba1d84af1e77601071aea617834cab2bc07726e83744523a8c7d19046cfbf9", func := "skyway/skywaykeep2.AssignTurned", spec := "assignTurned", apart := false, narrowed := true }
def AssignTurnedUptoSaid : Prop := assignTurnedUptoRow.holds Try.pinned (OpenSpec.upto assignTurnedSpec)

/-- 'skywaykeep2.AssignMisses', WHERE WHAT IT READS IS OF BULK AT MOST 1048576: true; the input reads as it did. -/
def assignMissesUptoRow : OpenClaim := { program := "ytpehhlfbnkakpaa", sum := "54ba1d84af1e77601071aea617834cab2bc07726e83744523a8c7d19046cfbf9", func := "skyway/skywaykeep2.AssignMisses", spec := "assignMisses", unfollowed := true, recurses := true, apart := false, narrowed := true }
def AssignMissesUptoSaid : Prop := assignMissesUptoRow.holds Try.pinned (OpenSpec.upto assignMissesSpec)

end Rows
end Go.Proofs.Ytpehhlfbnkakpaa
