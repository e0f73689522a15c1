/- The row of the law TubeNodes: whatever its arguments, it returns true, and they read as before. No condition. -/
import Derived.Test.YtpcmmbbkidojoaaRows
import Derived.Test.YtpcmmbbkidojoaaInTubeNodes
import Derived.Test.YtpcmmbbkidojoaaMyTubeNodes
import Derived.WalkKit
import Derived.ProofKit
import Derived.OpenShut
import Derived.ShutString
import Derived.ChangeOld
import Derived.Below
import Derived.SizedLaws
import Derived.Carry
import Derived.KernelRfl
namespace Go.Proofs.Ytpcmmbbkidojoaa.tubeNodes
open Go.ChangeShapes Go.WideShapes Go.ChangeAt Go.RowKit
open Go.ChangeMaps (open_string shut_string)
open Go.Proofs.Ytpcmmbbkidojoaa.Opens Go.Proofs.Ytpcmmbbkidojoaa.MTubeNodes Go.Proofs.Ytpcmmbbkidojoaa.InTubeNodes Go.Proofs.YtpcmmbbkidojoaaW.PrintWords
set_option linter.unusedVariables false
set_option linter.unusedSimpArgs false
theorem op38 : Opens Try.prog 38 k38 good38 := Opens.imp (Opens.iso (opens_struct (t := 38) Try.underlying38 (by kernel_rfl) (by kernel_rfl) (OpensF.cons (opens_i64 Try.underlying3) (OpensF.one (opens_i64 Try.underlying3)))) (fun x : S38 => (x.f0, x.f1)) (fun y => ⟨y.1, y.2⟩) (fun _ => rfl)) (fun _ h => h)
theorem op89 : Opens Try.prog 89 k89 good89 := Opens.imp (Opens.iso (opens_struct (t := 89) Try.underlying89 (by kernel_rfl) (by kernel_rfl) (OpensF.cons (opens_i64 Try.underlying3) (OpensF.cons op38 (OpensF.one (opens_i64 Try.underlying3))))) (fun x : S89 => (x.f0, x.f1, x.f2)) (fun y => ⟨y.1, y.2.1, y.2.2⟩) (fun _ => rfl)) (fun _ h => h)
theorem op91 : Opens Try.prog 91 k91 good91 := Opens.imp (Opens.iso (opens_struct (t := 91) Try.underlying91 (by kernel_rfl) (by kernel_rfl) (OpensF.cons op89 (OpensF.cons (opens_i64 Try.underlying3) (OpensF.one (opens_i64 Try.underlying3))))) (fun x : S91 => (x.f0, x.f1, x.f2)) (fun y => ⟨y.1, y.2.1, y.2.2⟩) (fun _ => rfl)) (fun _ h => h)
theorem own : ownKnob Try.prog.godebug = none := by kernel_rfl
theorem laidOut : laidOutB Try.prog = true := by kernel_rfl
set_option maxRecDepth 100000 in
theorem lifted (os : Os) (started : os.Started) (H : Type) (enc : TypeId × Value → H) :
    ReturnsInHanded {} Try.checked os 13 .any (Rows.tubeNodesSpec.pre6 enc Try.prog Try.f13 Rows.tubeNodesRow.domain false) (Rows.tubeNodesSpec.post enc Try.prog Try.f13 false true false false) := by
  refine returnsInHanded_of_change_sized (C := Try.checked) own started (by kernel_rfl) Try.func13
    (ChangeSpec.witness6 (enc := enc) (C := Try.checked) false ⟨#[], #[.slice none 0 0, .int .i64 0], []⟩ 8 (by kernel_rfl) (by kernel_rfl) (by kernel_rfl) (by kernel_rfl)) ?_
  intro W base args ds gs before hval0 hW hcnd hsz0 _
  have hsz : (DataW.weightsEach Try.prog (Try.f13.params.toList ++ Rows.tubeNodesSpec.plain.varTypes Try.prog) (ds ++ gs)).all (· ≤ reachBytes) = true := hsz0
  have hval : ∀ (j : Nat) t v, Try.f13.params[j]? = some t → args[j]? = some v → Value.okWide Try.prog W .any base t v := hval0
  have hW' := hW
  obtain ⟨p, q, hA0, hV, rfl, hfz, hnd⟩ := hW
  have hA : DataW.TrodAll enc Try.prog W 0 (fun _ => true) true Try.f13.params.toList args.toList ds p := hA0
  rw [Try.params13] at hA hval hsz
  obtain ⟨v0, vs0, d0, ds0, p0, q0, hargs, rfl, rfl, h0, r0⟩ := trodAll_cons hA
  obtain ⟨v1, vs1, d1, ds1, p1, q1, rfl, rfl, rfl, h1, r1⟩ := trodAll_cons r0
  obtain ⟨rfl, rfl, rfl⟩ := trodAll_nil r1
  obtain rfl : args = #[v0, v1] := by cases args; simp_all
  obtain ⟨rfl, rfl⟩ := trodVars_none hV
  obtain ⟨va0, len0, cap0, rfl⟩ := okWide_slice Try.underlying86 (hval 0 86 v0 rfl rfl)
  have k0 := h0
  have lt0 : ∀ x ∈ p0, x.block < W.heap.size := by obtain ⟨m, hm⟩ := k0; exact DataW.trod_lt m _ _ _ hm
  obtain ⟨fu0, hf0⟩ := h0
  obtain ⟨l0, ⟨A0, c0, e0, hl0, hr0⟩, G0⟩ := (opens_slice (e := 91) Try.underlying86 (by kernel_rfl) (by kernel_rfl : Try.prog.bytesOf 91 = 48) op91 91) hf0 (weights_of hsz (j := 0) (t := 86) rfl rfl)
  simp [Value.cells] at e0
  obtain ⟨rfl, rfl, rfl⟩ := e0
  obtain ⟨a1, rfl, rfl, rfl, w1⟩ := open_int Try.underlying3 (hval 1 3 v1 rfl rfl) h1
  have g1 : I64 a1 := bounds_i64 w1
  clear hA0 hval0 hsz0 hsz
  obtain ⟨k, hk⟩ := MyTubeNodes.proved _ _ G0.1 G0.2 g1
  refine (skywaylaw1_TubeNodes.calls k _ _ l0 a1 true W hr0 hl0 hk).mono fun e W' ⟨he, bel0⟩ => ?_
  have bel : Below W.heap.size W W' := bel0
  subst he
  exact ⟨_, rfl, _, _, _, [], _, [], hW', trodAll_mk1 (shut_bool Try.underlying4 _), (trodAll_cons_mk (Below.trod laidOut (by kernel_rfl) (of_decide_eq_true (by kernel_rfl)) k0 bel lt0) (trodAll_cons_mk (shut_int Try.underlying3 w1) trodAll_mk0)), rfl, bel.frame _, fun h => by cases h⟩
theorem over : Rows.tubeNodesRow.holds Try.pinned (OpenSpec.ofChange Rows.tubeNodesSpec) :=
  OpenClaim.holds_of_wide 13 Try.f13 rfl rfl rfl rfl rfl rfl rfl ⟨rfl, rfl, rfl, rfl, rfl⟩ rfl rfl rfl rfl rfl (by kernel_rfl) Try.func13 (by kernel_rfl)
    (of_decide_eq_true (by kernel_rfl)) (by unfold Func.isWrapper; first | (rw [if_pos (by decide +kernel)]; kernel_rfl) | (rw [if_neg (by decide +kernel)]; exact ⟨rfl, rfl⟩))
    (fun os started H enc _ => lifted os started H enc)
theorem proved : Rows.TubeNodesSaid := over
#print axioms proved
end Go.Proofs.Ytpcmmbbkidojoaa.tubeNodes
namespace Go.Proofs.Ytpcmmbbkidojoaa
/-- The row, under a short name, for the claim. -/
theorem tubeNodes_holds : Rows.TubeNodesSaid := tubeNodes.proved
end Go.Proofs.Ytpcmmbbkidojoaa
