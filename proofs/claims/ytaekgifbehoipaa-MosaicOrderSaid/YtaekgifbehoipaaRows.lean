/-
  No cell of these rows narrows 'for every input' (looked for: loops, veiled, ifaces, maps, wideKeys, modest, calm, conditions, laid).
  DERIVED. THE GIVEN ROWS OF THIS SEAT. 9 by the template 'for every input the law returns true; each argument reads behind the call as it read before'; 0 by the template 'total and deterministic' (their statements: YtaekgifbehoipaaTotals.lean).
  GIVEN WITH THE SEED: the statements are not yours to turn. If you find one false, say at which input.
  Laid BY PROGRAM, IN A SANDBOX (cutbox-rows.mjs): the forced cells as the released guide's own fill.sh prints them over the translation 71f6e92c47a7b42a… (all of the seat's roots in one cut). By AI agents, Wed Nov 11 2026. No macro, syntax, notation, axiom, sorry.
-/
import Derived.Test.YtaekgifbehoipaaChecked
import GoSem.Claim
import GoSem.ClaimJoined
import GoSem.ClaimMapViews
import Derived.JoinedTies
import Derived.KernelRfl
namespace Go.Proofs.Ytaekgifbehoipaa
/- THE CELL 'sum', in the pinned program and in every row, IS THE sha256 OF THE DUMP (.gsa) THAT YtaekgifbehoipaaProg.lean LOADS. Nothing in Lean hashes anything: it is a label: what it is worth is what the hold of that sum in a sandbox is worth. -/
noncomputable def Try.pinned : Pinned := { name := "ytaekgifbehoipaa", sum := "71f6e92c47a7b42ae1b9b30435bb8400be1a8672d5a6925bb3e4182535811176", checked := Try.checked }
namespace Rows
def none {H : Type} : Left H := { results := [], args := [] }

/-- 'skywaykeep2.AssignLeast': WHATEVER THE INPUT: true; the input reads as it did. -/
def assignLeastSpec : ChangeSpec := { name := "assignLeast", fn := fun _ => fun
  | [d1, d2, d3] => { results := [.lit (.bool true)], args := [d1, d2, d3] }
  | _ => none }
def assignLeastRow : OpenClaim := { program := "ytaekgifbehoipaa", sum := "71f6e92c47a7b42ae1b9b30435bb8400be1a8672d5a6925bb3e4182535811176", func := "skyway/skywaykeep2.AssignLeast", spec := "assignLeast", apart := false }
def AssignLeastSaid : Prop := assignLeastRow.holds Try.pinned (OpenSpec.ofChange assignLeastSpec)

/-- ITS FALSE NEIGHBOUR: 'it returns false'. Refute it at one input. -/
def assignLeastWrong : ChangeSpec := { name := "assignLeast", fn := fun _ => fun
  | [d1, d2, d3] => { results := [.lit (.bool false)], args := [d1, d2, d3] }
  | _ => none }
def AssignLeastWrongFalsely : Prop := assignLeastRow.holds Try.pinned (OpenSpec.ofChange assignLeastWrong)

/-- 'skywaylaw1.ProbePairs': WHATEVER THE INPUT: true; the input reads as it did. -/
def probePairsSpec : ChangeSpec := { name := "probePairs", fn := fun _ => fun
  | [d1, d2, d3] => { results := [.lit (.bool true)], args := [d1, d2, d3] }
  | _ => none }
def probePairsRow : OpenClaim := { program := "ytaekgifbehoipaa", sum := "71f6e92c47a7b42ae1b9b30435bb8400be1a8672d5a6925bb3e4182535811176", func := "skyway/skywaylaw1.ProbePairs", spec := "probePairs", inPlace := ["math.sqrt"], recurses := true, apart := false }
def ProbePairsSaid : Prop := probePairsRow.holds Try.pinned (OpenSpec.ofChange probePairsSpec)

/-- ITS FALSE NEIGHBOUR: 'it returns false'. Refute it at one input. -/
def probePairsWrong : ChangeSpec := { name := "probePairs", fn := fun _ => fun
  | [d1, d2, d3] => { results := [.lit (.bool false)], args := [d1, d2, d3] }
  | _ => none }
def ProbePairsWrongFalsely : Prop := probePairsRow.holds Try.pinned (OpenSpec.ofChange probePairsWrong)

/-- 'skywaykeep2.WireUnique': WHATEVER THE INPUT: true; the input reads as it did. -/
def wireUniqueSpec : ChangeSpec := { name := "wireUnique", fn := fun _ => fun
  | [d] => { results := [.lit (.bool true)], args := [d] }
  | _ => none }
def wireUniqueRow : OpenClaim := { program := "ytaekgifbehoipaa", sum := "71f6e92c47a7b42ae1b9b30435bb8400be1a8672d5a6925bb3e4182535811176", func := "skyway/skywaykeep2.WireUnique", spec := "wireUnique", inPlace := ["math.Float64bits", "math.Float64frombits"], unfollowed := true, recurses := true, apart := false }
def WireUniqueSaid : Prop := wireUniqueRow.holds Try.pinned (OpenSpec.ofChange wireUniqueSpec)

/-- ITS FALSE NEIGHBOUR: 'it returns false'. Refute it at one input. -/
def wireUniqueWrong : ChangeSpec := { name := "wireUnique", fn := fun _ => fun
  | [d] => { results := [.lit (.bool false)], args := [d] }
  | _ => none }
def WireUniqueWrongFalsely : Prop := wireUniqueRow.holds Try.pinned (OpenSpec.ofChange wireUniqueWrong)

/-- 'skywaykeep2.WireDamage': WHATEVER THE INPUT: true; the input reads as it did. -/
def wireDamageSpec : ChangeSpec := { name := "wireDamage", fn := fun _ => fun
  | [d1, d2, d3] => { results := [.lit (.bool true)], args := [d1, d2, d3] }
  | _ => none }
def wireDamageRow : OpenClaim := { program := "ytaekgifbehoipaa", sum := "71f6e92c47a7b42ae1b9b30435bb8400be1a8672d5a6925bb3e4182535811176", func := "skyway/skywaykeep2.WireDamage", spec := "wireDamage", inPlace := ["math.Float64bits", "math.Float64frombits"], unfollowed := true, recurses := true, apart := false }
def WireDamageSaid : Prop := wireDamageRow.holds Try.pinned (OpenSpec.ofChange wireDamageSpec)

/-- ITS FALSE NEIGHBOUR: 'it returns false'. Refute it at one input. -/
def wireDamageWrong : ChangeSpec := { name := "wireDamage", fn := fun _ => fun
  | [d1, d2, d3] => { results := [.lit (.bool false)], args := [d1, d2, d3] }
  | _ => none }
def WireDamageWrongFalsely : Prop := wireDamageRow.holds Try.pinned (OpenSpec.ofChange wireDamageWrong)

/-- 'skywaykeep2.WireBack': WHATEVER THE INPUT: true; the input reads as it did. -/
def wireBackSpec : ChangeSpec := { name := "wireBack", fn := fun _ => fun
  | [d1, d2, d3] => { results := [.lit (.bool true)], args := [d1, d2, d3] }
  | _ => none }
def wireBackRow : OpenClaim := { program := "ytaekgifbehoipaa", sum := "71f6e92c47a7b42ae1b9b30435bb8400be1a8672d5a6925bb3e4182535811176", func := "skyway/skywaykeep2.WireBack", spec := "wireBack", inPlace := ["math.Float64bits", "math.Float64frombits"], unfollowed := true, recurses := true, apart := false }
def WireBackSaid : Prop := wireBackRow.holds Try.pinned (OpenSpec.ofChange wireBackSpec)

/-- ITS FALSE NEIGHBOUR: 'it returns false'. Refute it at one input. -/
def wireBackWrong : ChangeSpec := { name := "wireBack", fn := fun _ => fun
  | [d1, d2, d3] => { results := [.lit (.bool false)], args := [d1, d2, d3] }
  | _ => none }
def WireBackWrongFalsely : Prop := wireBackRow.holds Try.pinned (OpenSpec.ofChange wireBackWrong)

/-- 'skywaykeep2.PairUnique': WHATEVER THE INPUT: true; the input reads as it did. -/
def pairUniqueSpec : ChangeSpec := { name := "pairUnique", fn := fun _ => fun
  | [d1, d2, d3, d4] => { results := [.lit (.bool true)], args := [d1, d2, d3, d4] }
  | _ => none }
def pairUniqueRow : OpenClaim := { program := "ytaekgifbehoipaa", sum := "71f6e92c47a7b42ae1b9b30435bb8400be1a8672d5a6925bb3e4182535811176", func := "skyway/skywaykeep2.PairUnique", spec := "pairUnique", apart := false }
def PairUniqueSaid : Prop := pairUniqueRow.holds Try.pinned (OpenSpec.ofChange pairUniqueSpec)

/-- ITS FALSE NEIGHBOUR: 'it returns false'. Refute it at one input. -/
def pairUniqueWrong : ChangeSpec := { name := "pairUnique", fn := fun _ => fun
  | [d1, d2, d3, d4] => { results := [.lit (.bool false)], args := [d1, d2, d3, d4] }
  | _ => none }
def PairUniqueWrongFalsely : Prop := pairUniqueRow.holds Try.pinned (OpenSpec.ofChange pairUniqueWrong)

/-- 'skywaykeep2.BiasExact': WHATEVER THE INPUT: true; the input reads as it did. -/
def biasExactSpec : ChangeSpec := { name := "biasExact", fn := fun _ => fun
  | [d1, d2, d3] => { results := [.lit (.bool true)], args := [d1, d2, d3] }
  | _ => none }
def biasExactRow : OpenClaim := { program := "ytaekgifbehoipaa", sum := "71f6e92c47a7b42ae1b9b30435bb8400be1a8672d5a6925bb3e4182535811176", func := "skyway/skywaykeep2.BiasExact", spec := "biasExact", recurses := true, apart := false }
def BiasExactSaid : Prop := biasExactRow.holds Try.pinned (OpenSpec.ofChange biasExactSpec)

/-- ITS FALSE NEIGHBOUR: 'it returns false'. Refute it at one input. -/
def biasExactWrong : ChangeSpec := { name := "biasExact", fn := fun _ => fun
  | [d1, d2, d3] => { results := [.lit (.bool false)], args := [d1, d2, d3] }
  | _ => none }
def BiasExactWrongFalsely : Prop := biasExactRow.holds Try.pinned (OpenSpec.ofChange biasExactWrong)

/-- 'skywaykeep2.FuseOnce': WHATEVER THE INPUT: true; the input reads as it did. -/
def fuseOnceSpec : ChangeSpec := { name := "fuseOnce", fn := fun _ => fun
  | [d1, d2, d3] => { results := [.lit (.bool true)], args := [d1, d2, d3] }
  | _ => none }
def fuseOnceRow : OpenClaim := { program := "ytaekgifbehoipaa", sum := "71f6e92c47a7b42ae1b9b30435bb8400be1a8672d5a6925bb3e4182535811176", func := "skyway/skywaykeep2.FuseOnce", spec := "fuseOnce", unfollowed := true, recurses := true, apart := false }
def FuseOnceSaid : Prop := fuseOnceRow.holds Try.pinned (OpenSpec.ofChange fuseOnceSpec)

/-- ITS FALSE NEIGHBOUR: 'it returns false'. Refute it at one input. -/
def fuseOnceWrong : ChangeSpec := { name := "fuseOnce", fn := fun _ => fun
  | [d1, d2, d3] => { results := [.lit (.bool false)], args := [d1, d2, d3] }
  | _ => none }
def FuseOnceWrongFalsely : Prop := fuseOnceRow.holds Try.pinned (OpenSpec.ofChange fuseOnceWrong)

/-- 'skywaykeep2.MosaicOrder': WHATEVER THE INPUT: true; the input reads as it did. -/
def mosaicOrderSpec : ChangeSpec := { name := "mosaicOrder", fn := fun _ => fun
  | [d1, d2, d3] => { results := [.lit (.bool true)], args := [d1, d2, d3] }
  | _ => none }
def mosaicOrderRow : OpenClaim := { program := "ytaekgifbehoipaa", sum := "71f6e92c47a7b42ae1b9b30435bb8400be1a8672d5a6925bb3e4182535811176", func := "skyway/skywaykeep2.MosaicOrder", spec := "mosaicOrder", unfollowed := true, recurses := true, apart := false }
def MosaicOrderSaid : Prop := mosaicOrderRow.holds Try.pinned (OpenSpec.ofChange mosaicOrderSpec)

/-- ITS FALSE NEIGHBOUR: 'it returns false'. Refute it at one input. -/
def mosaicOrderWrong : ChangeSpec := { name := "mosaicOrder", fn := fun _ => fun
  | [d1, d2, d3] => { results := [.lit (.bool false)], args := [d1, d2, d3] }
  | _ => none }
def MosaicOrderWrongFalsely : Prop := mosaicOrderRow.holds Try.pinned (OpenSpec.ofChange mosaicOrderWrong)

/- THE SECOND FORM. 'bulk': how many values and letters a reading holds, each counted each time it is reached (what is shared counts as often as it is met; a slice's spare places count too). A statement '..UptoSaid' is the law's where the arguments, and the package variables that the reading takes, are together of bulk at most 1048576: NARROWER than '..Said'. Prove '..Said' where nothing that the law and all that it calls make is longer than what came in: it says more and counts as full. Else prove '..UptoSaid'. A law counts once. -/
mutual
def uptoBulk {H : Type} : DataW H → Nat
  | .lit (.string bytes) => bytes.length + 1
  | .lit _ => 1
  | .nil => 1
  | .ptr d => uptoBulk d + 1
  | .slice elems spare => uptoBulkAll elems + uptoBulkAll spare + 1
  | .agg parts => uptoBulkAll parts + 1
  | .iface _ d => uptoBulk d + 1
  | .map entries => uptoBulkEntries entries + 1
  | .held _ => 1
def uptoBulkAll {H : Type} : List (DataW H) → Nat
  | [] => 0
  | d :: r => uptoBulk d + uptoBulkAll r
def uptoBulkEntries {H : Type} : List (Lit × DataW H) → Nat
  | [] => 0
  | x :: r => uptoBulkEntry x + uptoBulkEntries r
def uptoBulkEntry {H : Type} : Lit × DataW H → Nat
  | (.string bytes, d) => bytes.length + uptoBulk d + 1
  | (_, d) => uptoBulk d + 1
 end
def uptoSmall : (H : Type) → List (DataW H) → Bool := fun _ ds => decide (uptoBulkAll ds ≤ 1048576)
def OpenSpec.upto (s : _root_.Go.ChangeSpec) : _root_.Go.OpenSpec := { _root_.Go.OpenSpec.ofChange s with cond := some uptoSmall }

/-- 'skywaykeep2.AssignLeast', WHERE WHAT IT READS IS OF BULK AT MOST 1048576: true; the input reads as it did. -/
def assignLeastUptoRow : OpenClaim := { program := "ytaekgifbehoipaa", sum := "71f6e92c47a7b42ae1b9b30435bb8400be1a8672d5a6925bb3e4182535811176", func := "skyway/skywaykeep2.AssignLeast", spec := "assignLeast", apart := false, narrowed := true }
def AssignLeastUptoSaid : Prop := assignLeastUptoRow.holds Try.pinned (OpenSpec.upto assignLeastSpec)

/-- 'skywaylaw1.ProbePairs', WHERE WHAT IT READS IS OF BULK AT MOST 1048576: true; the input reads as it did. -/
def probePairsUptoRow : OpenClaim := { program := "ytaekgifbehoipaa", sum := "71f6e92c47a7b42ae1b9b30435bb8400be1a8672d5a6925bb3e4182535811176", func := "skyway/skywaylaw1.ProbePairs", spec := "probePairs", inPlace := ["math.sqrt"], recurses := true, apart := false, narrowed := true }
def ProbePairsUptoSaid : Prop := probePairsUptoRow.holds Try.pinned (OpenSpec.upto probePairsSpec)

/-- 'skywaykeep2.WireUnique', WHERE WHAT IT READS IS OF BULK AT MOST 1048576: true; the input reads as it did. -/
def wireUniqueUptoRow : OpenClaim := { program := "ytaekgifbehoipaa", sum := "71f6e92c47a7b42ae1b9b30435bb8400be1a8672d5a6925bb3e4182535811176", func := "skyway/skywaykeep2.WireUnique", spec := "wireUnique", inPlace := ["math.Float64bits", "math.Float64frombits"], unfollowed := true, recurses := true, apart := false, narrowed := true }
def WireUniqueUptoSaid : Prop := wireUniqueUptoRow.holds Try.pinned (OpenSpec.upto wireUniqueSpec)

/-- 'skywaykeep2.WireDamage', WHERE WHAT IT READS IS OF BULK AT MOST 1048576: true; the input reads as it did. -/
def wireDamageUptoRow : OpenClaim := { program := "ytaekgifbehoipaa", sum := "71f6e92c47a7b42ae1b9b30435bb8400be1a8672d5a6925bb3e4182535811176", func := "skyway/skywaykeep2.WireDamage", spec := "wireDamage", inPlace := ["math.Float64bits", "math.Float64frombits"], unfollowed := true, recurses := true, apart := false, narrowed := true }
def WireDamageUptoSaid : Prop := wireDamageUptoRow.holds Try.pinned (OpenSpec.upto wireDamageSpec)

/-- 'skywaykeep2.WireBack', WHERE WHAT IT READS IS OF BULK AT MOST 1048576: true; the input reads as it did. -/
def wireBackUptoRow : OpenClaim := { program := "ytaekgifbehoipaa", sum := "71f6e92c47a7b42ae1b9b30435bb8400be1a8672d5a6925bb3e4182535811176", func := "skyway/skywaykeep2.WireBack", spec := "wireBack", inPlace := ["math.Float64bits", "math.Float64frombits"], unfollowed := true, recurses := true, apart := false, narrowed := true }
def WireBackUptoSaid : Prop := wireBackUptoRow.holds Try.pinned (OpenSpec.upto wireBackSpec)

/-- 'skywaykeep2.PairUnique', WHERE WHAT IT READS IS OF BULK AT MOST 1048576: true; the input reads as it did. -/
def pairUniqueUptoRow : OpenClaim := { program := "ytaekgifbehoipaa", sum := "71f6e92c47a7b42ae1b9b30435bb8400be1a8672d5a6925bb3e4182535811176", func := "skyway/skywaykeep2.PairUnique", spec := "pairUnique", apart := false, narrowed := true }
def PairUniqueUptoSaid : Prop := pairUniqueUptoRow.holds Try.pinned (OpenSpec.upto pairUniqueSpec)

/-- 'skywaykeep2.BiasExact', WHERE WHAT IT READS IS OF BULK AT MOST 1048576: true; the input reads as it did. -/
def biasExactUptoRow : OpenClaim := { program := "ytaekgifbehoipaa", sum := "71f6e92c47a7b42ae1b9b30435bb8400be1a8672d5a6925bb3e4182535811176", func := "skyway/skywaykeep2.BiasExact", spec := "biasExact", recurses := true, apart := false, narrowed := true }
def BiasExactUptoSaid : Prop := biasExactUptoRow.holds Try.pinned (OpenSpec.upto biasExactSpec)

/-- 'skywaykeep2.FuseOnce', WHERE WHAT IT READS IS OF BULK AT MOST 1048576: true; the input reads as it did. -/
def fuseOnceUptoRow : OpenClaim := { program := "ytaekgifbehoipaa", sum := "71f6e92c47a7b42ae1b9b30435bb8400be1a8672d5a6925bb3e4182535811176", func := "skyway/skywaykeep2.FuseOnce", spec := "fuseOnce", unfollowed := true, recurses := true, apart := false, narrowed := true }
def FuseOnceUptoSaid : Prop := fuseOnceUptoRow.holds Try.pinned (OpenSpec.upto fuseOnceSpec)

/-- 'skywaykeep2.MosaicOrder', WHERE WHAT IT READS IS OF BULK AT MOST 1048576: true; the input reads as it did. -/
def mosaicOrderUptoRow : OpenClaim := { program := "ytaekgifbehoipaa", sum := "71f6e92c47a7b42ae1b9b30435bb8400be1a8672d5a6925bb3e4182535811176", func := "skyway/skywaykeep2.MosaicOrder", spec := "mosaicOrder", unfollowed := true, recurses := true, apart := false, narrowed := true }
def MosaicOrderUptoSaid : Prop := mosaicOrderUptoRow.holds Try.pinned (OpenSpec.upto mosaicOrderSpec)

end Rows
end Go.Proofs.Ytaekgifbehoipaa
