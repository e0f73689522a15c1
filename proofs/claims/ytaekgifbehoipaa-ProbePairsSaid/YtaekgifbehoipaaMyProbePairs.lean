/- The law ProbePairs: the abstract machine answers true. No condition. -/
import Derived.Test.YtaekgifbehoipaaInProbePairs
import Derived.Test.YtaekgifbehoipaaZProbePairsc
namespace Go.Proofs.Ytaekgifbehoipaa.MyProbePairs
open Go Go.Proofs.Ytaekgifbehoipaa.Eva Go.Proofs.Ytaekgifbehoipaa.CodeAll Go.Proofs.Ytaekgifbehoipaa.InProbePairs Go.Proofs.Ytaekgifbehoipaa.Fl Go.Proofs.Ytaekgifbehoipaa.Pb
set_option linter.unusedVariables false
set_option linter.unusedSimpArgs false
set_option maxRecDepth 10000
set_option maxHeartbeats 4000000

theorem two {d : DV} (h : goodD (.st [.int .i64, .int .i64]) d) : ∃ x y : Int, d = .st [.i x, .i y] := by
  obtain ⟨l, rfl, g⟩ := good_st h
  obtain ⟨a, _, rfl, xa, g⟩ := goodL_cons g
  obtain ⟨b, _, rfl, xb, g⟩ := goodL_cons g
  obtain rfl := goodL_nil g
  obtain ⟨a, rfl, -, -⟩ := good_i64 xa
  obtain ⟨b, rfl, -, -⟩ := good_i64 xb
  exact ⟨a, b, rfl⟩
theorem dv_nd (d : DV) (h : goodD (.st [.st [.int .i64, .st [.int .i64, .int .i64], .int .i64], .int .i64, .int .i64]) d) :
    ∃ x : Nd, True ∧ ∀ n, layD n (.st [.st [.int .i64, .st [.int .i64, .int .i64], .int .i64], .int .i64, .int .i64]) d = (x.c, []) := by
  obtain ⟨l, rfl, g⟩ := good_st h
  obtain ⟨s, _, rfl, xs, g⟩ := goodL_cons g
  obtain ⟨r, _, rfl, xr, g⟩ := goodL_cons g
  obtain ⟨b, _, rfl, xb, g⟩ := goodL_cons g
  obtain rfl := goodL_nil g
  obtain ⟨l2, rfl, g2⟩ := good_st xs
  obtain ⟨t, q1, rfl, xt, g3⟩ := goodL_cons g2
  obtain ⟨p, q2, rfl, xp, g4⟩ := goodL_cons g3
  obtain ⟨hh, q3, rfl, xh, g5⟩ := goodL_cons g4
  obtain rfl := goodL_nil g5
  obtain ⟨t, rfl, -, -⟩ := good_i64 xt
  obtain ⟨x, y, rfl⟩ := two xp
  obtain ⟨hh, rfl, -, -⟩ := good_i64 xh
  obtain ⟨r, rfl, -, -⟩ := good_i64 xr
  obtain ⟨b, rfl, -, -⟩ := good_i64 xb
  exact ⟨⟨t, x, y, hh, r, b⟩, trivial, fun n => rfl⟩
theorem proved : Pure := by
  intro xs hg
  obtain ⟨e0, s0, rfl, u0, v0⟩ := goodL_cons hg
  obtain ⟨e1, s1, rfl, u1, v1⟩ := goodL_cons v0
  obtain ⟨e2, s2, rfl, u2, v2⟩ := goodL_cons v1
  obtain rfl := goodL_nil v2
  obtain ⟨ls, p0, b0, k0⟩ := in_sl (c := Nd.c) (P := fun _ => True) dv_nd (fun x => rfl) (by decide) u0
  obtain ⟨ms, p1, b1, k1⟩ := in_sl (c := Nd.c) (P := fun _ => True) dv_nd (fun x => rfl) (by decide) u1
  obtain ⟨la, ve, rfl⟩ := two u2
  obtain ⟨w0, o0, e0', r0⟩ := k0 0
  obtain ⟨w1, o1, e1', r1⟩ := k1 o0.length
  have hs := r0 [] o1 rfl
  have ht := r1 o0 [] rfl
  simp only [List.append_nil, List.nil_append, List.append_assoc] at hs ht
  have := pairs_law ⟨la, ve⟩ hs ht
  simpa only [Se.c, layA, layD, layL, argA, shapes, e0', e1', List.nil_append, List.cons_append, List.append_nil, List.append_assoc, List.length_nil, List.length_append, Nat.add_zero, Nat.zero_add, List.headD_cons] using this
end Go.Proofs.Ytaekgifbehoipaa.MyProbePairs
