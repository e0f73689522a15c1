/- The law MosaicOrder: the abstract machine answers true. No condition. -/
import Derived.Test.YtaekgifbehoipaaInMosaicOrder
import Derived.Test.YtaekgifbehoipaaZMosaicOrderd
namespace Go.Proofs.Ytaekgifbehoipaa.MyMosaicOrder
open Go Go.Proofs.Ytaekgifbehoipaa.Eva Go.Proofs.Ytaekgifbehoipaa.CodeAll Go.Proofs.Ytaekgifbehoipaa.InMosaicOrder Go.Proofs.Ytaekgifbehoipaa.Fl Go.Proofs.Ytaekgifbehoipaa.Mo
set_option linter.unusedVariables false
set_option linter.unusedSimpArgs false
set_option maxRecDepth 10000
set_option maxHeartbeats 4000000

theorem dv_pt (d : DV) (h : goodD (.st [.int .i64, .int .i64, .int .i64, .int .i64, .int .i64, .int .i64]) d) :
    ∃ x : Pt, True ∧ ∀ n, layD n (.st [.int .i64, .int .i64, .int .i64, .int .i64, .int .i64, .int .i64]) d = (x.c, []) := by
  obtain ⟨l, rfl, g⟩ := good_st h
  obtain ⟨a, _, rfl, xa, g⟩ := goodL_cons g
  obtain ⟨b, _, rfl, xb, g⟩ := goodL_cons g
  obtain ⟨c, _, rfl, xc, g⟩ := goodL_cons g
  obtain ⟨e, _, rfl, xe, g⟩ := goodL_cons g
  obtain ⟨f, _, rfl, xf, g⟩ := goodL_cons g
  obtain ⟨i, _, rfl, xi, g⟩ := goodL_cons g
  obtain rfl := goodL_nil g
  obtain ⟨a, rfl, -, -⟩ := good_i64 xa
  obtain ⟨b, rfl, -, -⟩ := good_i64 xb
  obtain ⟨c, rfl, -, -⟩ := good_i64 xc
  obtain ⟨e, rfl, -, -⟩ := good_i64 xe
  obtain ⟨f, rfl, -, -⟩ := good_i64 xf
  obtain ⟨i, rfl, -, -⟩ := good_i64 xi
  exact ⟨⟨a, b, c, e, f, i⟩, trivial, fun n => rfl⟩
theorem proved : Pure := by
  intro xs hg
  obtain ⟨e0, s0, rfl, u0, v0⟩ := goodL_cons hg
  obtain ⟨e1, s1, rfl, u1, v1⟩ := goodL_cons v0
  obtain ⟨e2, s2, rfl, u2, v2⟩ := goodL_cons v1
  obtain rfl := goodL_nil v2
  obtain ⟨ls, p0, b0, k0⟩ := in_slf (c := Pt.c) (P := fun _ => True) dv_pt (fun x => rfl) (by decide) u0
  obtain ⟨ms, p1, b1, k1⟩ := in_slf (c := Pt.c) (P := fun _ => True) dv_pt (fun x => rfl) (by decide) u1
  obtain ⟨time, rfl, -, -⟩ := good_i64 u2
  obtain ⟨w0, o0, e0', r0⟩ := k0 0
  obtain ⟨w1, o1, e1', r1⟩ := k1 o0.length
  have hs := r0 [] o1 rfl
  have ht := r1 o0 [] rfl
  simp only [List.append_nil, List.nil_append, List.append_assoc] at hs ht
  have := order_law time hs.1 ht.1 hs.2 ht.2
  simpa only [layA, layD, layL, argA, shapes, e0', e1', List.nil_append, List.cons_append, List.append_nil, List.append_assoc, List.length_nil, List.length_append, Nat.add_zero, Nat.zero_add, List.headD_cons] using this
end Go.Proofs.Ytaekgifbehoipaa.MyMosaicOrder
