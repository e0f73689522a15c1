/- The row of the law MosaicOrder: whatever its arguments, it returns true, and they read as before. No condition. -/
import Derived.Test.YtaekgifbehoipaaRows
import Derived.Test.YtaekgifbehoipaaInMosaicOrder
import Derived.Test.YtaekgifbehoipaaMyMosaicOrder
import Derived.WalkKit
import Derived.ProofKit
import Derived.OpenShut
import Derived.ShutString
import Derived.ChangeOld
import Derived.Below
import Derived.SizedLaws
import Derived.Carry
import Derived.KernelRfl
namespace Go.Proofs.Ytaekgifbehoipaa.mosaicOrder
open Go.ChangeShapes Go.WideShapes Go.ChangeAt Go.RowKit Go.Proofs.Ytaekgifbehoipaa.Eva
set_option linter.unusedVariables false
set_option linter.unusedSimpArgs false
theorem own : ownKnob Try.prog.godebug = none := by kernel_rfl
theorem laidOut : laidOutB Try.prog = true := by kernel_rfl
theorem fit : fitsL Try.prog InMosaicOrder.shapes Try.f11.params.toList = true := by kernel_rfl
theorem readable : (Try.f11.params.toList.all fun t => Try.prog.readableRec t && decide (t < Try.prog.types.size)) = true := by kernel_rfl
set_option maxRecDepth 100000 in
theorem lifted (os : Os) (started : os.Started) (H : Type) (enc : TypeId × Value → H) :
    ReturnsInHanded {} Try.checked os 11 .any (Rows.mosaicOrderSpec.pre6 enc Try.prog Try.f11 Rows.mosaicOrderRow.domain false) (Rows.mosaicOrderSpec.post enc Try.prog Try.f11 false true false false) := by
  refine returnsInHanded_of_change_sized (C := Try.checked) own started (by kernel_rfl) Try.func11
    (ChangeSpec.witness6 (enc := enc) (C := Try.checked) false ⟨#[], #[.slice none 0 0, .slice none 0 0, .int .i64 0], []⟩ 8 (by kernel_rfl) (by kernel_rfl) (by kernel_rfl) (by kernel_rfl)) ?_
  intro W base args ds gs before hval0 hW hcnd hsz0 _
  have hsz : (DataW.weightsEach Try.prog (Try.f11.params.toList ++ []) (ds ++ gs)).all (· ≤ reachBytes) = true := hsz0
  have hval : ∀ (j : Nat) t v, Try.f11.params[j]? = some t → args[j]? = some v → Value.okWide Try.prog W .any base t v := hval0
  have hW' := hW
  obtain ⟨p, q, hA0, hV, rfl, hfz, hnd⟩ := hW
  have hA : DataW.TrodAll enc Try.prog W 0 (fun _ => true) true Try.f11.params.toList args.toList ds p := hA0
  obtain ⟨rfl, rfl⟩ := trodVars_none hV
  rw [List.append_nil, List.append_nil] at hsz
  have hlen : ds.length = 3 := (trodAll_len hA).trans (by kernel_rfl)
  obtain ⟨d0, d1, d2, rfl⟩ : ∃ d0 d1 d2, ds = [d0, d1, d2] := by
    match ds, hlen with
    | [d0, d1, d2], _ => exact ⟨_, _, _, rfl⟩
  refine (row_of (H := H) CodeAll.env laidOut MyMosaicOrder.proved fit readable hA (fun j t v hj hv => hval j t v (by simpa using hj) hv) hsz).mono fun e W' ⟨he, bel, hA'⟩ => ?_
  subst he
  exact ⟨_, rfl, _, _, _, [], _, [], hW', trodAll_mk1 (shut_bool Try.underlying4 _), hA', rfl, bel.frame _, fun h => by cases h⟩
theorem over : Rows.mosaicOrderRow.holds Try.pinned (OpenSpec.ofChange Rows.mosaicOrderSpec) :=
  OpenClaim.holds_of_wide 11 Try.f11 rfl rfl rfl rfl rfl rfl rfl ⟨rfl, rfl, rfl, rfl, rfl⟩ rfl rfl rfl rfl rfl (by kernel_rfl) Try.func11 (by kernel_rfl)
    (of_decide_eq_true (by kernel_rfl)) (by unfold Func.isWrapper; first | (rw [if_pos (by decide +kernel)]; kernel_rfl) | (rw [if_neg (by decide +kernel)]; exact ⟨rfl, rfl⟩))
    (fun os started H enc _ => lifted os started H enc)
theorem proved : Rows.MosaicOrderSaid := over
#print axioms proved
end Go.Proofs.Ytaekgifbehoipaa.mosaicOrder
namespace Go.Proofs.Ytaekgifbehoipaa
/-- The row, under a short name, for the claim. -/
theorem mosaicOrder_holds : Rows.MosaicOrderSaid := mosaicOrder.proved
end Go.Proofs.Ytaekgifbehoipaa
