/- The law PairUnique: the abstract machine answers true. No condition. -/
import Derived.Test.YtaekgifbehoipaaInPairUnique
import Derived.Test.YtaekgifbehoipaaZPairUniquee
namespace Go.Proofs.Ytaekgifbehoipaa.MyPairUnique
open Go Go.Proofs.Ytaekgifbehoipaa.Eva Go.Proofs.Ytaekgifbehoipaa.CodeAll Go.Proofs.Ytaekgifbehoipaa.InPairUnique Go.Proofs.Ytaekgifbehoipaa.Fl Go.Proofs.Ytaekgifbehoipaa.Hg
set_option linter.unusedVariables false
set_option linter.unusedSimpArgs false
set_option maxRecDepth 10000
set_option maxHeartbeats 4000000

theorem proved : Pure := by
  intro xs hg
  obtain ⟨e0, s0, rfl, u0, v0⟩ := goodL_cons hg
  obtain ⟨e1, s1, rfl, u1, v1⟩ := goodL_cons v0
  obtain ⟨e2, s2, rfl, u2, v2⟩ := goodL_cons v1
  obtain ⟨e3, s3, rfl, u3, v3⟩ := goodL_cons v2
  obtain rfl := goodL_nil v3
  obtain ⟨ts, p0, b0, k0⟩ := in_sl (c := K.c) (P := fun _ => True) dv_k (fun x => rfl) (by decide) u0
  obtain ⟨ls, p1, b1, k1⟩ := in_sls (c := Nd.c) (P := fun _ => True) dv_nd (fun x => rfl) (by decide) u1
  obtain ⟨cs, p2, b2, k2⟩ := in_sl (c := intC) (P := fun _ => True) dv_i (fun x => rfl) (by decide) u2
  obtain ⟨time, rfl, lo, hi⟩ := good_i64 u3
  obtain ⟨w0, o0, e0', r0⟩ := k0 0
  obtain ⟨w1, o1, e1', r1⟩ := k1 o0.length
  obtain ⟨w2, o2, e2', r2⟩ := k2 (o0.length + o1.length)
  have hs := r0 [] (o1 ++ o2) rfl
  obtain ⟨us, A⟩ := r1 o0 o2 rfl
  have hx := r2 (o0 ++ o1) [] (by simp)
  simp only [List.append_nil, List.nil_append, List.append_assoc] at hs A hx
  unfold lim at b0 b1 b2
  have := unique_law time hs A hx (by omega) (by omega) (by omega)
  simpa only [layA, layD, layL, argA, shapes, e0', e1', e2', List.nil_append, List.cons_append, List.append_nil, List.append_assoc, List.length_nil, List.length_append, Nat.add_zero, Nat.zero_add, List.headD_cons] using this
end Go.Proofs.Ytaekgifbehoipaa.MyPairUnique
