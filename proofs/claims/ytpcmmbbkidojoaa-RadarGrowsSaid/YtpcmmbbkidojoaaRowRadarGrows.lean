/- The row of the law RadarGrows: whatever its arguments, it returns true, and they read as before. No condition. -/
import Derived.Test.YtpcmmbbkidojoaaRows
import Derived.Test.YtpcmmbbkidojoaaInRadarGrows
import Derived.Test.YtpcmmbbkidojoaaMyRadarGrows
import Derived.WalkKit
import Derived.ProofKit
import Derived.OpenShut
import Derived.ShutString
import Derived.ChangeOld
import Derived.Below
import Derived.SizedLaws
import Derived.Carry
import Derived.KernelRfl
namespace Go.Proofs.Ytpcmmbbkidojoaa.radarGrows
open Go.ChangeShapes Go.WideShapes Go.ChangeAt Go.RowKit
open Go.ChangeMaps (open_string shut_string)
open Go.Proofs.Ytpcmmbbkidojoaa.Opens Go.Proofs.Ytpcmmbbkidojoaa.MRadarGrows Go.Proofs.Ytpcmmbbkidojoaa.InRadarGrows Go.Proofs.YtpcmmbbkidojoaaW.PrintWords
set_option linter.unusedVariables false
set_option linter.unusedSimpArgs false
theorem own : ownKnob Try.prog.godebug = none := by kernel_rfl
theorem laidOut : laidOutB Try.prog = true := by kernel_rfl
set_option maxRecDepth 100000 in
theorem lifted (os : Os) (started : os.Started) (H : Type) (enc : TypeId × Value → H) :
    ReturnsInHanded {} Try.checked os 7 .any (Rows.radarGrowsSpec.pre6 enc Try.prog Try.f7 Rows.radarGrowsRow.domain false) (Rows.radarGrowsSpec.post enc Try.prog Try.f7 false true false false) := by
  refine returnsInHanded_of_change_sized (C := Try.checked) own started (by kernel_rfl) Try.func7
    (ChangeSpec.witness6 (enc := enc) (C := Try.checked) false ⟨#[], #[.agg #[.int .i64 0, .int .i64 0, .int .i64 0, .int .i64 0, .int .i64 0, .int .i64 0], .int .i64 0, .int .i64 0], []⟩ 8 (by kernel_rfl) (by kernel_rfl) (by kernel_rfl) (by kernel_rfl)) ?_
  intro W base args ds gs before hval0 hW hcnd hsz0 _
  have hsz : (DataW.weightsEach Try.prog (Try.f7.params.toList ++ Rows.radarGrowsSpec.plain.varTypes Try.prog) (ds ++ gs)).all (· ≤ reachBytes) = true := hsz0
  have hval : ∀ (j : Nat) t v, Try.f7.params[j]? = some t → args[j]? = some v → Value.okWide Try.prog W .any base t v := hval0
  have hW' := hW
  obtain ⟨p, q, hA0, hV, rfl, hfz, hnd⟩ := hW
  have hA : DataW.TrodAll enc Try.prog W 0 (fun _ => true) true Try.f7.params.toList args.toList ds p := hA0
  rw [Try.params7] at hA hval hsz
  obtain ⟨v0, vs0, d0, ds0, p0, q0, hargs, rfl, rfl, h0, r0⟩ := trodAll_cons hA
  obtain ⟨v1, vs1, d1, ds1, p1, q1, rfl, rfl, rfl, h1, r1⟩ := trodAll_cons r0
  obtain ⟨v2, vs2, d2, ds2, p2, q2, rfl, rfl, rfl, h2, r2⟩ := trodAll_cons r1
  obtain ⟨rfl, rfl, rfl⟩ := trodAll_nil r2
  obtain rfl : args = #[v0, v1, v2] := by cases args; simp_all
  obtain ⟨rfl, rfl⟩ := trodVars_none hV
  obtain ⟨cs0, rfl, ec0⟩ := agg_of Try.underlying40 (hval 0 40 v0 rfl rfl)
  have k0 := h0
  have lt0 : ∀ x ∈ p0, x.block < W.heap.size := by obtain ⟨m, hm⟩ := k0; exact DataW.trod_lt m _ _ _ hm
  obtain ⟨fu0, hf0⟩ := h0
  rw [ec0] at hf0
  obtain ⟨⟨a0_0, ⟨a0_1, a0_2⟩, a0_3, a0_4, a0_5⟩, hK0, ⟨g0_0, ⟨g0_1, g0_2⟩, g0_3, g0_4, g0_5⟩⟩ := (opens_struct (t := 40) Try.underlying40 (by kernel_rfl) (by kernel_rfl) (OpensF.cons (opens_i64 Try.underlying3) (OpensF.cons (opens_struct (t := 38) Try.underlying38 (by kernel_rfl) (by kernel_rfl) (OpensF.cons (opens_i64 Try.underlying3) (OpensF.one (opens_i64 Try.underlying3)))) (OpensF.cons (opens_i64 Try.underlying3) (OpensF.cons (opens_i64 Try.underlying3) (OpensF.one (opens_i64 Try.underlying3))))))) hf0 (weights_of hsz (j := 0) (t := 40) rfl rfl)
  obtain ⟨_, _, rfl, rfl, ⟨_, _, rfl, ⟨_, _, rfl, rfl, rfl⟩, ⟨_, _, rfl, rfl, ⟨_, _, rfl, rfl, rfl⟩⟩⟩⟩ := hK0
  obtain ⟨a1, rfl, rfl, rfl, w1⟩ := open_int Try.underlying3 (hval 1 3 v1 rfl rfl) h1
  have g1 : I64 a1 := bounds_i64 w1
  obtain ⟨a2, rfl, rfl, rfl, w2⟩ := open_int Try.underlying3 (hval 2 3 v2 rfl rfl) h2
  have g2 : I64 a2 := bounds_i64 w2
  clear hA0 hval0 hsz0 hsz
  obtain ⟨k, hk⟩ := MyRadarGrows.proved _ _ _ _ _ _ _ _ g0_0 g0_1 g0_2 g0_3 g0_4 g0_5 g1 g2
  refine (skywaykeep2_RadarGrows.calls k a0_0 a0_1 a0_2 a0_3 a0_4 a0_5 a1 a2 true W hk).mono fun e W' ⟨he, bel0⟩ => ?_
  have bel : Below W.heap.size W W' := bel0
  subst he
  exact ⟨_, rfl, _, _, _, [], _, [], hW', trodAll_mk1 (shut_bool Try.underlying4 _), (trodAll_cons_mk (Below.trod laidOut (by kernel_rfl) (of_decide_eq_true (by kernel_rfl)) k0 bel lt0) (trodAll_cons_mk (shut_int Try.underlying3 w1) (trodAll_cons_mk (shut_int Try.underlying3 w2) trodAll_mk0))), rfl, bel.frame _, fun h => by cases h⟩
theorem over : Rows.radarGrowsRow.holds Try.pinned (OpenSpec.ofChange Rows.radarGrowsSpec) :=
  OpenClaim.holds_of_wide 7 Try.f7 rfl rfl rfl rfl rfl rfl rfl ⟨rfl, rfl, rfl, rfl, rfl⟩ rfl rfl rfl rfl rfl (by kernel_rfl) Try.func7 (by kernel_rfl)
    (of_decide_eq_true (by kernel_rfl)) (by unfold Func.isWrapper; first | (rw [if_pos (by decide +kernel)]; kernel_rfl) | (rw [if_neg (by decide +kernel)]; exact ⟨rfl, rfl⟩))
    (fun os started H enc _ => lifted os started H enc)
theorem proved : Rows.RadarGrowsSaid := over
#print axioms proved
end Go.Proofs.Ytpcmmbbkidojoaa.radarGrows
namespace Go.Proofs.Ytpcmmbbkidojoaa
/-- The row, under a short name, for the claim. -/
theorem radarGrows_holds : Rows.RadarGrowsSaid := radarGrows.proved
end Go.Proofs.Ytpcmmbbkidojoaa
