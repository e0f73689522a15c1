/- Slices of whole numbers. Conditions: none. -/
import Derived.Test.YtaekgifbehoipaaEvaY
namespace Go.Proofs.Ytaekgifbehoipaa.Fl
open Go Go.Proofs.Ytaekgifbehoipaa.Eva
def intC (x : Int) : List AV := [.int .i64 x]
theorem dv_i (d : DV) (h : goodD (.int .i64) d) : ∃ x : Int, True ∧ ∀ n, layD n (.int .i64) d = (intC x, []) := by
  obtain ⟨n1, rfl, lo1, hi1⟩ := good_i64 h
  exact ⟨n1, trivial, fun n => rfl⟩
end Go.Proofs.Ytaekgifbehoipaa.Fl
