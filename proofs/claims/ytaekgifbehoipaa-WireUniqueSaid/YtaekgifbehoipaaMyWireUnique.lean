/- The law WireUnique: the abstract machine answers true. No condition. -/
import Derived.Test.YtaekgifbehoipaaInWireUnique
import Derived.Test.YtaekgifbehoipaaWrU
namespace Go.Proofs.Ytaekgifbehoipaa.MyWireUnique
open Go Go.Proofs.Ytaekgifbehoipaa.Eva Go.Proofs.Ytaekgifbehoipaa.CodeAll Go.Proofs.Ytaekgifbehoipaa.InWireUnique
set_option linter.unusedVariables false

theorem proved : Pure := by
  intro xs hg
  obtain ⟨e0, s0, rfl, u0, v0⟩ := goodL_cons hg
  obtain rfl := goodL_nil v0
  obtain ⟨b, rfl, hb⟩ := good_str u0
  have := Wr.unique_law b (by unfold lim at hb; omega) []
  simpa only [layA, layD, layL, argA, shapes, List.nil_append, List.cons_append, List.append_nil, List.append_assoc, List.length_nil, List.length_append, Nat.add_zero, Nat.zero_add, List.headD_cons] using this
end Go.Proofs.Ytaekgifbehoipaa.MyWireUnique
