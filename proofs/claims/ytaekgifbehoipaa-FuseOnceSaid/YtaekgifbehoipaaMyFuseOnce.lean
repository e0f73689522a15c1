/- The law FuseOnce: the abstract machine answers true. No condition. -/
import Derived.Test.YtaekgifbehoipaaInFuseOnce
import Derived.Test.YtaekgifbehoipaaZFuseOnced
import Derived.Test.YtaekgifbehoipaaEvaY
namespace Go.Proofs.Ytaekgifbehoipaa.MyFuseOnce
open Go Go.Proofs.Ytaekgifbehoipaa.Eva Go.Proofs.Ytaekgifbehoipaa.CodeAll Go.Proofs.Ytaekgifbehoipaa.InFuseOnce Go.Proofs.Ytaekgifbehoipaa.Fl Go.Proofs.Ytaekgifbehoipaa.So
set_option linter.unusedVariables false
set_option linter.unusedSimpArgs false
set_option maxRecDepth 10000
set_option maxHeartbeats 4000000

theorem dv_sd (d : DV) (h : goodD (.st [.int .i64, .st [.int .i64, .int .i64], .int .i64, .int .i64, .int .i64]) d) :
    ∃ x : Sd, True ∧ ∀ n, layD n (.st [.int .i64, .st [.int .i64, .int .i64], .int .i64, .int .i64, .int .i64]) d = (x.c, []) := by
  obtain ⟨l, rfl, g⟩ := good_st h
  obtain ⟨a, _, rfl, xa, g⟩ := goodL_cons g
  obtain ⟨p, _, rfl, xp, g⟩ := goodL_cons g
  obtain ⟨c, _, rfl, xc, g⟩ := goodL_cons g
  obtain ⟨e, _, rfl, xe, g⟩ := goodL_cons g
  obtain ⟨f, _, rfl, xf, g⟩ := goodL_cons g
  obtain rfl := goodL_nil g
  obtain ⟨a, rfl, -, -⟩ := good_i64 xa
  obtain ⟨l2, rfl, g2⟩ := good_st xp
  obtain ⟨x, q1, rfl, xx, g3⟩ := goodL_cons g2
  obtain ⟨y, q2, rfl, xy, g4⟩ := goodL_cons g3
  obtain rfl := goodL_nil g4
  obtain ⟨x, rfl, -, -⟩ := good_i64 xx
  obtain ⟨y, rfl, -, -⟩ := good_i64 xy
  obtain ⟨c, rfl, -, -⟩ := good_i64 xc
  obtain ⟨e, rfl, -, -⟩ := good_i64 xe
  obtain ⟨f, rfl, -, -⟩ := good_i64 xf
  exact ⟨⟨a, x, y, c, e, f⟩, trivial, fun n => rfl⟩
theorem proved : Pure := by
  intro xs hg
  obtain ⟨e0, s0, rfl, u0, v0⟩ := goodL_cons hg
  obtain ⟨e1, s1, rfl, u1, v1⟩ := goodL_cons v0
  obtain ⟨e2, s2, rfl, u2, v2⟩ := goodL_cons v1
  obtain rfl := goodL_nil v2
  obtain ⟨ts, p0, b0, k0⟩ := in_slf (c := Sd.c) (P := fun _ => True) dv_sd (fun x => rfl) (by decide) u0
  obtain ⟨band, rfl, -, -⟩ := good_i64 u1
  obtain ⟨byv, rfl, -, -⟩ := good_i64 u2
  obtain ⟨w0, o0, e0', r0⟩ := k0 0
  have hs := r0 [] [] rfl
  simp only [List.append_nil, List.nil_append, List.append_assoc] at hs
  unfold lim at b0
  have := once_law band byv hs.1 hs.2 (by omega)
  simpa only [layA, layD, layL, argA, shapes, e0', List.nil_append, List.cons_append, List.append_nil, List.append_assoc, List.length_nil, List.length_append, Nat.add_zero, Nat.zero_add, List.headD_cons] using this
end Go.Proofs.Ytaekgifbehoipaa.MyFuseOnce
