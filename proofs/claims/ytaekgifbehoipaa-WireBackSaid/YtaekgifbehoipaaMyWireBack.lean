/- The law WireBack: the abstract machine answers true. No condition. -/
import Derived.Test.YtaekgifbehoipaaInWireBack
import Derived.Test.YtaekgifbehoipaaWrY
import Derived.Test.YtaekgifbehoipaaWrJ
namespace Go.Proofs.Ytaekgifbehoipaa.MyWireBack
open Go Go.Proofs.Ytaekgifbehoipaa.Eva Go.Proofs.Ytaekgifbehoipaa.CodeAll Go.Proofs.Ytaekgifbehoipaa.InWireBack
set_option linter.unusedVariables false
set_option maxRecDepth 10000

theorem proved : Pure := by
  intro xs hg
  obtain ⟨e0, s0, rfl, u0, v0⟩ := goodL_cons hg
  obtain ⟨e1, s1, rfl, u1, v1⟩ := goodL_cons v0
  obtain ⟨e2, s2, rfl, u2, v2⟩ := goodL_cons v1
  obtain rfl := goodL_nil v2
  obtain ⟨l, rfl, g0⟩ := good_st u0
  obtain ⟨f0, q0, rfl, x0, y0⟩ := goodL_cons g0
  obtain ⟨f1, q1, rfl, x1, y1⟩ := goodL_cons y0
  obtain ⟨f2, q2, rfl, x2, y2⟩ := goodL_cons y1
  obtain rfl := goodL_nil y2
  obtain ⟨R, rfl, -, -⟩ := good_i64 x0
  obtain ⟨T, rfl, -, -⟩ := good_i64 x1
  obtain ⟨ps, p2, b2, k2⟩ := in_sl (c := Wr.Pl.c) (P := fun _ => True) Wr.dv_pl (fun x => rfl) (by decide) x2
  obtain ⟨more, rfl, hm⟩ := good_str u1
  obtain ⟨cut, rfl, -, -⟩ := good_i64 u2
  obtain ⟨w2, o2, e2', r2⟩ := k2 0
  have hs := r2 [] [] rfl
  simp only [List.append_nil, List.nil_append] at hs
  have := Wr.back_law (R := R) (T := T) (cut := cut) hs (by unfold lim at b2; omega) hm
  simpa only [layA, layD, layL, argA, shapes, e2', List.nil_append, List.cons_append, List.append_nil, List.append_assoc, List.length_nil, List.length_append, Nat.add_zero, Nat.zero_add, List.headD_cons] using this
end Go.Proofs.Ytaekgifbehoipaa.MyWireBack
