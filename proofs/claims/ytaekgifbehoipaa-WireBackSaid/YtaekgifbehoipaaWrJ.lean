/- A plot that comes in. No condition. -/
import Derived.Test.YtaekgifbehoipaaWrC
import Derived.Test.YtaekgifbehoipaaEvaY
namespace Go.Proofs.Ytaekgifbehoipaa.Wr
open Go Go.Proofs.Ytaekgifbehoipaa.Eva Go.Proofs.Ytaekgifbehoipaa.CodeAll
theorem dv_pl (d : DV) (h : goodD (.st [.int .i64, .int .i64, .int .i64, .int .i64, .int .i64, .int .i64]) d) : ∃ x : Pl, True ∧ ∀ n, layD n (.st [.int .i64, .int .i64, .int .i64, .int .i64, .int .i64, .int .i64]) d = (x.c, []) := by
  obtain ⟨l, rfl, g⟩ := good_st h
  obtain ⟨a, _, rfl, xa, g⟩ := goodL_cons g
  obtain ⟨b, _, rfl, xb, g⟩ := goodL_cons g
  obtain ⟨c, _, rfl, xc, g⟩ := goodL_cons g
  obtain ⟨e, _, rfl, xe, g⟩ := goodL_cons g
  obtain ⟨f, _, rfl, xf, g⟩ := goodL_cons g
  obtain ⟨i, _, rfl, xi, g⟩ := goodL_cons g
  obtain rfl := goodL_nil g
  obtain ⟨a, rfl, -, -⟩ := good_i64 xa
  obtain ⟨b, rfl, -, -⟩ := good_i64 xb
  obtain ⟨c, rfl, -, -⟩ := good_i64 xc
  obtain ⟨e, rfl, -, -⟩ := good_i64 xe
  obtain ⟨f, rfl, -, -⟩ := good_i64 xf
  obtain ⟨i, rfl, -, -⟩ := good_i64 xi
  exact ⟨⟨a, b, c, e, f, i⟩, trivial, fun n => rfl⟩
end Go.Proofs.Ytaekgifbehoipaa.Wr
