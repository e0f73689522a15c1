/-
  No cell of these rows narrows 'for every input' (looked for: loops, veiled, ifaces, maps, wideKeys, modest, calm, conditions, laid).
  DERIVED. THE GIVEN ROWS OF THIS SEAT. 12 by the template 'for every input the law returns true; each argument reads behind the call as it read before'; 0 by the template 'total and deterministic' (their statements: YtpcmmbbkidojoaaTotals.lean).
  GIVEN WITH THE SEED: the statements are not yours to turn. If you find one false, say at which input.
  Laid BY PROGRAM, IN A SANDBOX (cutbox-rows.mjs): the forced cells as the released guide's own fill.sh prints them over the translation 222a92e17d85f570… (all of the seat's roots in one cut). By AI agents, Wed Nov 11 2026. No macro, syntax, notation, axiom, sorry.
-/
import Derived.Test.YtpcmmbbkidojoaaChecked
import GoSem.Claim
import GoSem.ClaimJoined
import GoSem.ClaimMapViews
import Derived.JoinedTies
import Derived.KernelRfl
namespace Go.Proofs.Ytpcmmbbkidojoaa
/- THE CELL 'sum', in the pinned program and in every row, IS THE sha256 OF THE DUMP (.gsa) THAT YtpcmmbbkidojoaaProg.lean LOADS. Nothing in Lean hashes anything: it is a label: what it is worth is what the hold of that sum in a sandbox is worth. -/
noncomputable def Try.pinned : Pinned := { name := "ytpcmmbbkidojoaa", sum := "222a92e17d85f57036ec3c936d982cd60960f93737656bb489931aded935fb6e", checked := Try.checked }
namespace Rows
def none {H : Type} : Left H := { results := [], args := [] }

/-- 'skywaykeep2.AlertBand': WHATEVER THE INPUT: true; the input reads as it did. -/
def alertBandSpec : ChangeSpec := { name := "alertBand", fn := fun _ => fun
  | [d1, d2] => { results := [.lit (.bool true)], args := [d1, d2] }
  | _ => none }
def alertBandRow : OpenClaim := { program := "ytpcmmbbkidojoaa", sum := "222a92e17d85f57036ec3c936d982cd60960f93737656bb489931aded935fb6e", func := "skyway/skywaykeep2.AlertBand", spec := "alertBand", unfollowed := true, recurses := true, apart := false }
def AlertBandSaid : Prop := alertBandRow.holds Try.pinned (OpenSpec.ofChange alertBandSpec)

/-- ITS FALSE NEIGHBOUR: 'it returns false'. Refute it at one input. -/
def alertBandWrong : ChangeSpec := { name := "alertBand", fn := fun _ => fun
  | [d1, d2] => { results := [.lit (.bool false)], args := [d1, d2] }
  | _ => none }
def AlertBandWrongFalsely : Prop := alertBandRow.holds Try.pinned (OpenSpec.ofChange alertBandWrong)

/-- 'skywaykeep2.GrayChange': WHATEVER THE INPUT: true; the input reads as it did. -/
def grayChangeSpec : ChangeSpec := { name := "grayChange", fn := fun _ => fun
  | [d1, d2, d3] => { results := [.lit (.bool true)], args := [d1, d2, d3] }
  | _ => none }
def grayChangeRow : OpenClaim := { program := "ytpcmmbbkidojoaa", sum := "222a92e17d85f57036ec3c936d982cd60960f93737656bb489931aded935fb6e", func := "skyway/skywaykeep2.GrayChange", spec := "grayChange", unfollowed := true, recurses := true, apart := false }
def GrayChangeSaid : Prop := grayChangeRow.holds Try.pinned (OpenSpec.ofChange grayChangeSpec)

/-- ITS FALSE NEIGHBOUR: 'it returns false'. Refute it at one input. -/
def grayChangeWrong : ChangeSpec := { name := "grayChange", fn := fun _ => fun
  | [d1, d2, d3] => { results := [.lit (.bool false)], args := [d1, d2, d3] }
  | _ => none }
def GrayChangeWrongFalsely : Prop := grayChangeRow.holds Try.pinned (OpenSpec.ofChange grayChangeWrong)

/-- 'skywaykeep2.BiasBack': WHATEVER THE INPUT: true; the input reads as it did. -/
def biasBackSpec : ChangeSpec := { name := "biasBack", fn := fun _ => fun
  | [d1, d2] => { results := [.lit (.bool true)], args := [d1, d2] }
  | _ => none }
def biasBackRow : OpenClaim := { program := "ytpcmmbbkidojoaa", sum := "222a92e17d85f57036ec3c936d982cd60960f93737656bb489931aded935fb6e", func := "skyway/skywaykeep2.BiasBack", spec := "biasBack", apart := false }
def BiasBackSaid : Prop := biasBackRow.holds Try.pinned (OpenSpec.ofChange biasBackSpec)

/-- ITS FALSE NEIGHBOUR: 'it returns false'. Refute it at one input. -/
def biasBackWrong : ChangeSpec := { name := "biasBack", fn := fun _ => fun
  | [d1, d2] => { results := [.lit (.bool false)], args := [d1, d2] }
  | _ => none }
def BiasBackWrongFalsely : Prop := biasBackRow.holds Try.pinned (OpenSpec.ofChange biasBackWrong)

/-- 'skywaykeep2.GrayNear': WHATEVER THE INPUT: true; the input reads as it did. -/
def grayNearSpec : ChangeSpec := { name := "grayNear", fn := fun _ => fun
  | [d] => { results := [.lit (.bool true)], args := [d] }
  | _ => none }
def grayNearRow : OpenClaim := { program := "ytpcmmbbkidojoaa", sum := "222a92e17d85f57036ec3c936d982cd60960f93737656bb489931aded935fb6e", func := "skyway/skywaykeep2.GrayNear", spec := "grayNear", apart := false }
def GrayNearSaid : Prop := grayNearRow.holds Try.pinned (OpenSpec.ofChange grayNearSpec)

/-- ITS FALSE NEIGHBOUR: 'it returns false'. Refute it at one input. -/
def grayNearWrong : ChangeSpec := { name := "grayNear", fn := fun _ => fun
  | [d] => { results := [.lit (.bool false)], args := [d] }
  | _ => none }
def GrayNearWrongFalsely : Prop := grayNearRow.holds Try.pinned (OpenSpec.ofChange grayNearWrong)

/-- 'skywaykeep2.RadarGrows': WHATEVER THE INPUT: true; the input reads as it did. -/
def radarGrowsSpec : ChangeSpec := { name := "radarGrows", fn := fun _ => fun
  | [d1, d2, d3] => { results := [.lit (.bool true)], args := [d1, d2, d3] }
  | _ => none }
def radarGrowsRow : OpenClaim := { program := "ytpcmmbbkidojoaa", sum := "222a92e17d85f57036ec3c936d982cd60960f93737656bb489931aded935fb6e", func := "skyway/skywaykeep2.RadarGrows", spec := "radarGrows", unfollowed := true, recurses := true, apart := false }
def RadarGrowsSaid : Prop := radarGrowsRow.holds Try.pinned (OpenSpec.ofChange radarGrowsSpec)

/-- ITS FALSE NEIGHBOUR: 'it returns false'. Refute it at one input. -/
def radarGrowsWrong : ChangeSpec := { name := "radarGrows", fn := fun _ => fun
  | [d1, d2, d3] => { results := [.lit (.bool false)], args := [d1, d2, d3] }
  | _ => none }
def RadarGrowsWrongFalsely : Prop := radarGrowsRow.holds Try.pinned (OpenSpec.ofChange radarGrowsWrong)

/-- 'skywaykeep2.CoastTurns': WHATEVER THE INPUT: true; the input reads as it did. -/
def coastTurnsSpec : ChangeSpec := { name := "coastTurns", fn := fun _ => fun
  | [d1, d2] => { results := [.lit (.bool true)], args := [d1, d2] }
  | _ => none }
def coastTurnsRow : OpenClaim := { program := "ytpcmmbbkidojoaa", sum := "222a92e17d85f57036ec3c936d982cd60960f93737656bb489931aded935fb6e", func := "skyway/skywaykeep2.CoastTurns", spec := "coastTurns", unfollowed := true, recurses := true, apart := false }
def CoastTurnsSaid : Prop := coastTurnsRow.holds Try.pinned (OpenSpec.ofChange coastTurnsSpec)

/-- ITS FALSE NEIGHBOUR: 'it returns false'. Refute it at one input. -/
def coastTurnsWrong : ChangeSpec := { name := "coastTurns", fn := fun _ => fun
  | [d1, d2] => { results := [.lit (.bool false)], args := [d1, d2] }
  | _ => none }
def CoastTurnsWrongFalsely : Prop := coastTurnsRow.holds Try.pinned (OpenSpec.ofChange coastTurnsWrong)

/-- 'skywaykeep2.ClimbNarrows': WHATEVER THE INPUT: true; the input reads as it did. -/
def climbNarrowsSpec : ChangeSpec := { name := "climbNarrows", fn := fun _ => fun
  | [d] => { results := [.lit (.bool true)], args := [d] }
  | _ => none }
def climbNarrowsRow : OpenClaim := { program := "ytpcmmbbkidojoaa", sum := "222a92e17d85f57036ec3c936d982cd60960f93737656bb489931aded935fb6e", func := "skyway/skywaykeep2.ClimbNarrows", spec := "climbNarrows", apart := false }
def ClimbNarrowsSaid : Prop := climbNarrowsRow.holds Try.pinned (OpenSpec.ofChange climbNarrowsSpec)

/-- ITS FALSE NEIGHBOUR: 'it returns false'. Refute it at one input. -/
def climbNarrowsWrong : ChangeSpec := { name := "climbNarrows", fn := fun _ => fun
  | [d] => { results := [.lit (.bool false)], args := [d] }
  | _ => none }
def ClimbNarrowsWrongFalsely : Prop := climbNarrowsRow.holds Try.pinned (OpenSpec.ofChange climbNarrowsWrong)

/-- 'skywaykeep2.GateCosts': WHATEVER THE INPUT: true; the input reads as it did. -/
def gateCostsSpec : ChangeSpec := { name := "gateCosts", fn := fun _ => fun
  | [d1, d2, d3] => { results := [.lit (.bool true)], args := [d1, d2, d3] }
  | _ => none }
def gateCostsRow : OpenClaim := { program := "ytpcmmbbkidojoaa", sum := "222a92e17d85f57036ec3c936d982cd60960f93737656bb489931aded935fb6e", func := "skyway/skywaykeep2.GateCosts", spec := "gateCosts", apart := false }
def GateCostsSaid : Prop := gateCostsRow.holds Try.pinned (OpenSpec.ofChange gateCostsSpec)

/-- ITS FALSE NEIGHBOUR: 'it returns false'. Refute it at one input. -/
def gateCostsWrong : ChangeSpec := { name := "gateCosts", fn := fun _ => fun
  | [d1, d2, d3] => { results := [.lit (.bool false)], args := [d1, d2, d3] }
  | _ => none }
def GateCostsWrongFalsely : Prop := gateCostsRow.holds Try.pinned (OpenSpec.ofChange gateCostsWrong)

/-- 'skywaykeep2.TerrainGrows': WHATEVER THE INPUT: true; the input reads as it did. -/
def terrainGrowsSpec : ChangeSpec := { name := "terrainGrows", fn := fun _ => fun
  | [d1, d2, d3, d4, d5] => { results := [.lit (.bool true)], args := [d1, d2, d3, d4, d5] }
  | _ => none }
def terrainGrowsRow : OpenClaim := { program := "ytpcmmbbkidojoaa", sum := "222a92e17d85f57036ec3c936d982cd60960f93737656bb489931aded935fb6e", func := "skyway/skywaykeep2.TerrainGrows", spec := "terrainGrows", apart := false }
def TerrainGrowsSaid : Prop := terrainGrowsRow.holds Try.pinned (OpenSpec.ofChange terrainGrowsSpec)

/-- ITS FALSE NEIGHBOUR: 'it returns false'. Refute it at one input. -/
def terrainGrowsWrong : ChangeSpec := { name := "terrainGrows", fn := fun _ => fun
  | [d1, d2, d3, d4, d5] => { results := [.lit (.bool false)], args := [d1, d2, d3, d4, d5] }
  | _ => none }
def TerrainGrowsWrongFalsely : Prop := terrainGrowsRow.holds Try.pinned (OpenSpec.ofChange terrainGrowsWrong)

/-- 'skywaykeep2.BeginRemembers': WHATEVER THE INPUT: true; the input reads as it did. -/
def beginRemembersSpec : ChangeSpec := { name := "beginRemembers", fn := fun _ => fun
  | [d] => { results := [.lit (.bool true)], args := [d] }
  | _ => none }
def beginRemembersRow : OpenClaim := { program := "ytpcmmbbkidojoaa", sum := "222a92e17d85f57036ec3c936d982cd60960f93737656bb489931aded935fb6e", func := "skyway/skywaykeep2.BeginRemembers", spec := "beginRemembers", apart := false }
def BeginRemembersSaid : Prop := beginRemembersRow.holds Try.pinned (OpenSpec.ofChange beginRemembersSpec)

/-- ITS FALSE NEIGHBOUR: 'it returns false'. Refute it at one input. -/
def beginRemembersWrong : ChangeSpec := { name := "beginRemembers", fn := fun _ => fun
  | [d] => { results := [.lit (.bool false)], args := [d] }
  | _ => none }
def BeginRemembersWrongFalsely : Prop := beginRemembersRow.holds Try.pinned (OpenSpec.ofChange beginRemembersWrong)

/-- 'skywaylaw1.TubeNodes': WHATEVER THE INPUT: true; the input reads as it did. -/
def tubeNodesSpec : ChangeSpec := { name := "tubeNodes", fn := fun _ => fun
  | [d1, d2] => { results := [.lit (.bool true)], args := [d1, d2] }
  | _ => none }
def tubeNodesRow : OpenClaim := { program := "ytpcmmbbkidojoaa", sum := "222a92e17d85f57036ec3c936d982cd60960f93737656bb489931aded935fb6e", func := "skyway/skywaylaw1.TubeNodes", spec := "tubeNodes", recurses := true, apart := false }
def TubeNodesSaid : Prop := tubeNodesRow.holds Try.pinned (OpenSpec.ofChange tubeNodesSpec)

/-- ITS FALSE NEIGHBOUR: 'it returns false'. Refute it at one input. -/
def tubeNodesWrong : ChangeSpec := { name := "tubeNodes", fn := fun _ => fun
  | [d1, d2] => { results := [.lit (.bool false)], args := [d1, d2] }
  | _ => none }
def TubeNodesWrongFalsely : Prop := tubeNodesRow.holds Try.pinned (OpenSpec.ofChange tubeNodesWrong)

/-- 'skywaylaw1.PolygonPlaces': WHATEVER THE INPUT: true; the input reads as it did. -/
def polygonPlacesSpec : ChangeSpec := { name := "polygonPlaces", fn := fun _ => fun
  | [d1, d2] => { results := [.lit (.bool true)], args := [d1, d2] }
  | _ => none }
def polygonPlacesRow : OpenClaim := { program := "ytpcmmbbkidojoaa", sum := "222a92e17d85f57036ec3c936d982cd60960f93737656bb489931aded935fb6e", func := "skyway/skywaylaw1.PolygonPlaces", spec := "polygonPlaces", apart := false }
def PolygonPlacesSaid : Prop := polygonPlacesRow.holds Try.pinned (OpenSpec.ofChange polygonPlacesSpec)

/-- ITS FALSE NEIGHBOUR: 'it returns false'. Refute it at one input. -/
def polygonPlacesWrong : ChangeSpec := { name := "polygonPlaces", fn := fun _ => fun
  | [d1, d2] => { results := [.lit (.bool false)], args := [d1, d2] }
  | _ => none }
def PolygonPlacesWrongFalsely : Prop := polygonPlacesRow.holds Try.pinned (OpenSpec.ofChange polygonPlacesWrong)

/- THE SECOND FORM. 'bulk': how many values and letters a reading holds, each counted each time it is reached (what is shared counts as often as it is met; a slice's spare places count too). A statement '..UptoSaid' is the law's where the arguments, and the package variables that the reading takes, are together of bulk at most 1048576: NARROWER than '..Said'. Prove '..Said' where nothing that the law and all that it calls make is longer than what came in: it says more and counts as full. Else prove '..UptoSaid'. A law counts once. -/
mutual
def uptoBulk {H : Type} : DataW H → Nat
  | .lit (.string bytes) => bytes.length + 1
  | .lit _ => 1
  | .nil => 1
  | .ptr d => uptoBulk d + 1
  | .slice elems spare => uptoBulkAll elems + uptoBulkAll spare + 1
  | .agg parts => uptoBulkAll parts + 1
  | .iface _ d => uptoBulk d + 1
  | .map entries => uptoBulkEntries entries + 1
  | .held _ => 1
def uptoBulkAll {H : Type} : List (DataW H) → Nat
  | [] => 0
  | d :: r => uptoBulk d + uptoBulkAll r
def uptoBulkEntries {H : Type} : List (Lit × DataW H) → Nat
  | [] => 0
  | x :: r => uptoBulkEntry x + uptoBulkEntries r
def uptoBulkEntry {H : Type} : Lit × DataW H → Nat
  | (.string bytes, d) => bytes.length + uptoBulk d + 1
  | (_, d) => uptoBulk d + 1
 end
def uptoSmall : (H : Type) → List (DataW H) → Bool := fun _ ds => decide (uptoBulkAll ds ≤ 1048576)
def OpenSpec.upto (s : _root_.Go.ChangeSpec) : _root_.Go.OpenSpec := { _root_.Go.OpenSpec.ofChange s with cond := some uptoSmall }

/-- 'skywaykeep2.AlertBand', WHERE WHAT IT READS IS OF BULK AT MOST 1048576: true; the input reads as it did. -/
def alertBandUptoRow : OpenClaim := { program := "ytpcmmbbkidojoaa", sum := "222a92e17d85f57036ec3c936d982cd60960f93737656bb489931aded935fb6e", func := "skyway/skywaykeep2.AlertBand", spec := "alertBand", unfollowed := true, recurses := true, apart := false, narrowed := true }
def AlertBandUptoSaid : Prop := alertBandUptoRow.holds Try.pinned (OpenSpec.upto alertBandSpec)

/-- 'skywaykeep2.GrayChange', WHERE WHAT IT READS IS OF BULK AT MOST 1048576: true; the input reads as it did. -/
def grayChangeUptoRow : OpenClaim := { program := "ytpcmmbbkidojoaa", sum := "222a92e17d85f57036ec3c936d982cd60960f93737656bb489931aded935fb6e", func := "skyway/skywaykeep2.GrayChange", spec := "grayChange", unfollowed := true, recurses := true, apart := false, narrowed := true }
def GrayChangeUptoSaid : Prop := grayChangeUptoRow.holds Try.pinned (OpenSpec.upto grayChangeSpec)

/-- 'skywaykeep2.BiasBack', WHERE WHAT IT READS IS OF BULK AT MOST 1048576: true; the input reads as it did. -/
def biasBackUptoRow : OpenClaim := { program := "ytpcmmbbkidojoaa", sum := "222a92e17d85f57036ec3c936d982cd60960f93737656bb489931aded935fb6e", func := "skyway/skywaykeep2.BiasBack", spec := "biasBack", apart := false, narrowed := true }
def BiasBackUptoSaid : Prop := biasBackUptoRow.holds Try.pinned (OpenSpec.upto biasBackSpec)

/-- 'skywaykeep2.GrayNear', WHERE WHAT IT READS IS OF BULK AT MOST 1048576: true; the input reads as it did. -/
def grayNearUptoRow : OpenClaim := { program := "ytpcmmbbkidojoaa", sum := "222a92e17d85f57036ec3c936d982cd60960f93737656bb489931aded935fb6e", func := "skyway/skywaykeep2.GrayNear", spec := "grayNear", apart := false, narrowed := true }
def GrayNearUptoSaid : Prop := grayNearUptoRow.holds Try.pinned (OpenSpec.upto grayNearSpec)

/-- 'skywaykeep2.RadarGrows', WHERE WHAT IT READS IS OF BULK AT MOST 1048576: true; the input reads as it did. -/
def radarGrowsUptoRow : OpenClaim := { program := "ytpcmmbbkidojoaa", sum := "222a92e17d85f57036ec3c936d982cd60960f93737656bb489931aded935fb6e", func := "skyway/skywaykeep2.RadarGrows", spec := "radarGrows", unfollowed := true, recurses := true, apart := false, narrowed := true }
def RadarGrowsUptoSaid : Prop := radarGrowsUptoRow.holds Try.pinned (OpenSpec.upto radarGrowsSpec)

/-- 'skywaykeep2.CoastTurns', WHERE WHAT IT READS IS OF BULK AT MOST 1048576: true; the input reads as it did. -/
def coastTurnsUptoRow : OpenClaim := { program := "ytpcmmbbkidojoaa", sum := "222a92e17d85f57036ec3c936d982cd60960f93737656bb489931aded935fb6e", func := "skyway/skywaykeep2.CoastTurns", spec := "coastTurns", unfollowed := true, recurses := true, apart := false, narrowed := true }
def CoastTurnsUptoSaid : Prop := coastTurnsUptoRow.holds Try.pinned (OpenSpec.upto coastTurnsSpec)

/-- 'skywaykeep2.ClimbNarrows', WHERE WHAT IT READS IS OF BULK AT MOST 1048576: true; the input reads as it did. -/
def climbNarrowsUptoRow : OpenClaim := { program := "ytpcmmbbkidojoaa", sum := "222a92e17d85f57036ec3c936d982cd60960f93737656bb489931aded935fb6e", func := "skyway/skywaykeep2.ClimbNarrows", spec := "climbNarrows", apart := false, narrowed := true }
def ClimbNarrowsUptoSaid : Prop := climbNarrowsUptoRow.holds Try.pinned (OpenSpec.upto climbNarrowsSpec)

/-- 'skywaykeep2.GateCosts', WHERE WHAT IT READS IS OF BULK AT MOST 1048576: true; the input reads as it did. -/
def gateCostsUptoRow : OpenClaim := { program := "ytpcmmbbkidojoaa", sum := "222a92e17d85f57036ec3c936d982cd60960f93737656bb489931aded935fb6e", func := "skyway/skywaykeep2.GateCosts", spec := "gateCosts", apart := false, narrowed := true }
def GateCostsUptoSaid : Prop := gateCostsUptoRow.holds Try.pinned (OpenSpec.upto gateCostsSpec)

/-- 'skywaykeep2.TerrainGrows', WHERE WHAT IT READS IS OF BULK AT MOST 1048576: true; the input reads as it did. -/
def terrainGrowsUptoRow : OpenClaim := { program := "ytpcmmbbkidojoaa", sum := "222a92e17d85f57036ec3c936d982cd60960f93737656bb489931aded935fb6e", func := "skyway/skywaykeep2.TerrainGrows", spec := "terrainGrows", apart := false, narrowed := true }
def TerrainGrowsUptoSaid : Prop := terrainGrowsUptoRow.holds Try.pinned (OpenSpec.upto terrainGrowsSpec)

/-- 'skywaykeep2.BeginRemembers', WHERE WHAT IT READS IS OF BULK AT MOST 1048576: true; the input reads as it did. -/
def beginRemembersUptoRow : OpenClaim := { program := "ytpcmmbbkidojoaa", sum := "222a92e17d85f57036ec3c936d982cd60960f93737656bb489931aded935fb6e", func := "skyway/skywaykeep2.BeginRemembers", spec := "beginRemembers", apart := false, narrowed := true }
def BeginRemembersUptoSaid : Prop := beginRemembersUptoRow.holds Try.pinned (OpenSpec.upto beginRemembersSpec)

/-- 'skywaylaw1.TubeNodes', WHERE WHAT IT READS IS OF BULK AT MOST 1048576: true; the input reads as it did. -/
def tubeNodesUptoRow : OpenClaim := { program := "ytpcmmbbkidojoaa", sum := "222a92e17d85f57036ec3c936d982cd60960f93737656bb489931aded935fb6e", func := "skyway/skywaylaw1.TubeNodes", spec := "tubeNodes", recurses := true, apart := false, narrowed := true }
def TubeNodesUptoSaid : Prop := tubeNodesUptoRow.holds Try.pinned (OpenSpec.upto tubeNodesSpec)

/-- 'skywaylaw1.PolygonPlaces', WHERE WHAT IT READS IS OF BULK AT MOST 1048576: true; the input reads as it did. -/
def polygonPlacesUptoRow : OpenClaim := { program := "ytpcmmbbkidojoaa", sum := "222a92e17d85f57036ec3c936d982cd60960f93737656bb489931aded935fb6e", func := "skyway/skywaylaw1.PolygonPlaces", spec := "polygonPlaces", apart := false, narrowed := true }
def PolygonPlacesUptoSaid : Prop := polygonPlacesUptoRow.holds Try.pinned (OpenSpec.upto polygonPlacesSpec)

end Rows
end Go.Proofs.Ytpcmmbbkidojoaa
