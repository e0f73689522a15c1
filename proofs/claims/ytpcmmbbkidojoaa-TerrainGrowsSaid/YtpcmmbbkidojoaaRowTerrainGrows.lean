/- The row of the law TerrainGrows: whatever its arguments, it returns true, and they read as before. No condition. -/
import Derived.Test.YtpcmmbbkidojoaaRows
import Derived.Test.YtpcmmbbkidojoaaInTerrainGrows
import Derived.Test.YtpcmmbbkidojoaaMyTerrainGrows
import Derived.WalkKit
import Derived.ProofKit
import Derived.OpenShut
import Derived.ShutString
import Derived.ChangeOld
import Derived.Below
import Derived.SizedLaws
import Derived.Carry
import Derived.KernelRfl
namespace Go.Proofs.Ytpcmmbbkidojoaa.terrainGrows
open Go.ChangeShapes Go.WideShapes Go.ChangeAt Go.RowKit
open Go.ChangeMaps (open_string shut_string)
open Go.Proofs.Ytpcmmbbkidojoaa.Opens Go.Proofs.Ytpcmmbbkidojoaa.PTerrainGrows Go.Proofs.Ytpcmmbbkidojoaa.InTerrainGrows Go.Proofs.YtpcmmbbkidojoaaW.PrintWords
set_option linter.unusedVariables false
set_option linter.unusedSimpArgs false
theorem own : ownKnob Try.prog.godebug = none := by kernel_rfl
theorem laidOut : laidOutB Try.prog = true := by kernel_rfl
set_option maxRecDepth 100000 in
theorem lifted (os : Os) (started : os.Started) (H : Type) (enc : TypeId × Value → H) :
    ReturnsInHanded {} Try.checked os 11 .any (Rows.terrainGrowsSpec.pre6 enc Try.prog Try.f11 Rows.terrainGrowsRow.domain false) (Rows.terrainGrowsSpec.post enc Try.prog Try.f11 false true false false) := by
  refine returnsInHanded_of_change_sized (C := Try.checked) own started (by kernel_rfl) Try.func11
    (ChangeSpec.witness6 (enc := enc) (C := Try.checked) false ⟨#[], #[.agg #[.int .i64 0, .int .i64 0, .int .i64 0, .int .i64 0, .int .i64 0, .slice none 0 0], .agg #[.int .i64 0, .int .i64 0], .int .i64 0, .int .i64 0, .int .i64 0], []⟩ 8 (by kernel_rfl) (by kernel_rfl) (by kernel_rfl) (by kernel_rfl)) ?_
  intro W base args ds gs before hval0 hW hcnd hsz0 _
  have hsz : (DataW.weightsEach Try.prog (Try.f11.params.toList ++ Rows.terrainGrowsSpec.plain.varTypes Try.prog) (ds ++ gs)).all (· ≤ reachBytes) = true := hsz0
  have hval : ∀ (j : Nat) t v, Try.f11.params[j]? = some t → args[j]? = some v → Value.okWide Try.prog W .any base t v := hval0
  have hW' := hW
  obtain ⟨p, q, hA0, hV, rfl, hfz, hnd⟩ := hW
  have hA : DataW.TrodAll enc Try.prog W 0 (fun _ => true) true Try.f11.params.toList args.toList ds p := hA0
  rw [Try.params11] at hA hval hsz
  obtain ⟨v0, vs0, d0, ds0, p0, q0, hargs, rfl, rfl, h0, r0⟩ := trodAll_cons hA
  obtain ⟨v1, vs1, d1, ds1, p1, q1, rfl, rfl, rfl, h1, r1⟩ := trodAll_cons r0
  obtain ⟨v2, vs2, d2, ds2, p2, q2, rfl, rfl, rfl, h2, r2⟩ := trodAll_cons r1
  obtain ⟨v3, vs3, d3, ds3, p3, q3, rfl, rfl, rfl, h3, r3⟩ := trodAll_cons r2
  obtain ⟨v4, vs4, d4, ds4, p4, q4, rfl, rfl, rfl, h4, r4⟩ := trodAll_cons r3
  obtain ⟨rfl, rfl, rfl⟩ := trodAll_nil r4
  obtain rfl : args = #[v0, v1, v2, v3, v4] := by cases args; simp_all
  obtain ⟨rfl, rfl⟩ := trodVars_none hV
  obtain ⟨cs0, rfl, ec0⟩ := agg_of Try.underlying71 (hval 0 71 v0 rfl rfl)
  have k0 := h0
  have lt0 : ∀ x ∈ p0, x.block < W.heap.size := by obtain ⟨m, hm⟩ := k0; exact DataW.trod_lt m _ _ _ hm
  obtain ⟨fu0, hf0⟩ := h0
  rw [ec0] at hf0
  obtain ⟨⟨⟨a0_0, a0_1⟩, a0_2, a0_3, a0_4, l0_5⟩, hK0, ⟨⟨g0_0, g0_1⟩, g0_2, g0_3, g0_4, ⟨y0_5, G0_5⟩⟩⟩ := (opens_struct (t := 71) Try.underlying71 (by kernel_rfl) (by kernel_rfl) (OpensF.cons (opens_struct (t := 38) Try.underlying38 (by kernel_rfl) (by kernel_rfl) (OpensF.cons (opens_i64 Try.underlying3) (OpensF.one (opens_i64 Try.underlying3)))) (OpensF.cons (opens_i64 Try.underlying3) (OpensF.cons (opens_i64 Try.underlying3) (OpensF.cons (opens_i64 Try.underlying3) (OpensF.one (opens_slice (e := 3) Try.underlying65 (by kernel_rfl) (by kernel_rfl : Try.prog.bytesOf 3 = 8) (opens_i64 Try.underlying3) 3))))))) hf0 (weights_of hsz (j := 0) (t := 71) rfl rfl)
  obtain ⟨_, _, rfl, ⟨_, _, rfl, rfl, rfl⟩, ⟨_, _, rfl, rfl, ⟨_, _, rfl, rfl, ⟨_, _, rfl, rfl, ⟨A0_5, c0_5, rfl, hl0_5, hr0_5⟩⟩⟩⟩⟩ := hK0
  obtain ⟨cs1, rfl, ec1⟩ := agg_of Try.underlying38 (hval 1 38 v1 rfl rfl)
  have k1 := h1
  have lt1 : ∀ x ∈ p1, x.block < W.heap.size := by obtain ⟨m, hm⟩ := k1; exact DataW.trod_lt m _ _ _ hm
  obtain ⟨fu1, hf1⟩ := h1
  rw [ec1] at hf1
  obtain ⟨⟨a1_0, a1_1⟩, hK1, ⟨g1_0, g1_1⟩⟩ := (opens_struct (t := 38) Try.underlying38 (by kernel_rfl) (by kernel_rfl) (OpensF.cons (opens_i64 Try.underlying3) (OpensF.one (opens_i64 Try.underlying3)))) hf1 (weights_of hsz (j := 1) (t := 38) rfl rfl)
  obtain ⟨_, _, rfl, rfl, rfl⟩ := hK1
  obtain ⟨a2, rfl, rfl, rfl, w2⟩ := open_int Try.underlying3 (hval 2 3 v2 rfl rfl) h2
  have g2 : I64 a2 := bounds_i64 w2
  obtain ⟨a3, rfl, rfl, rfl, w3⟩ := open_int Try.underlying3 (hval 3 3 v3 rfl rfl) h3
  have g3 : I64 a3 := bounds_i64 w3
  obtain ⟨a4, rfl, rfl, rfl, w4⟩ := open_int Try.underlying3 (hval 4 3 v4 rfl rfl) h4
  have g4 : I64 a4 := bounds_i64 w4
  clear hA0 hval0 hsz0 hsz
  obtain ⟨k, hk⟩ := MyTerrainGrows.proved _ _ _ _ _ _ _ _ _ _ _ g0_0 g0_1 g0_2 g0_3 g0_4 y0_5 G0_5 g1_0 g1_1 g2 g3 g4
  refine (skywaykeep2_TerrainGrows.calls k a0_0 a0_1 a0_2 a0_3 a0_4 _ _ l0_5 a1_0 a1_1 a2 a3 a4 true W hr0_5 hl0_5 hk).mono fun e W' ⟨he, bel0⟩ => ?_
  have bel : Below W.heap.size W W' := bel0
  subst he
  exact ⟨_, rfl, _, _, _, [], _, [], hW', trodAll_mk1 (shut_bool Try.underlying4 _), (trodAll_cons_mk (Below.trod laidOut (by kernel_rfl) (of_decide_eq_true (by kernel_rfl)) k0 bel lt0) (trodAll_cons_mk (Below.trod laidOut (by kernel_rfl) (of_decide_eq_true (by kernel_rfl)) k1 bel lt1) (trodAll_cons_mk (shut_int Try.underlying3 w2) (trodAll_cons_mk (shut_int Try.underlying3 w3) (trodAll_cons_mk (shut_int Try.underlying3 w4) trodAll_mk0))))), rfl, bel.frame _, fun h => by cases h⟩
theorem over : Rows.terrainGrowsRow.holds Try.pinned (OpenSpec.ofChange Rows.terrainGrowsSpec) :=
  OpenClaim.holds_of_wide 11 Try.f11 rfl rfl rfl rfl rfl rfl rfl ⟨rfl, rfl, rfl, rfl, rfl⟩ rfl rfl rfl rfl rfl (by kernel_rfl) Try.func11 (by kernel_rfl)
    (of_decide_eq_true (by kernel_rfl)) (by unfold Func.isWrapper; first | (rw [if_pos (by decide +kernel)]; kernel_rfl) | (rw [if_neg (by decide +kernel)]; exact ⟨rfl, rfl⟩))
    (fun os started H enc _ => lifted os started H enc)
theorem proved : Rows.TerrainGrowsSaid := over
#print axioms proved
end Go.Proofs.Ytpcmmbbkidojoaa.terrainGrows
namespace Go.Proofs.Ytpcmmbbkidojoaa
/-- The row, under a short name, for the claim. -/
theorem terrainGrows_holds : Rows.TerrainGrowsSaid := terrainGrows.proved
end Go.Proofs.Ytpcmmbbkidojoaa
