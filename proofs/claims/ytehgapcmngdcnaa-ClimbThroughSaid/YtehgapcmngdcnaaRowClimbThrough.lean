/- The row of the law ClimbThrough: whatever its arguments, it returns true, and they read as before. No condition. -/
import Derived.Test.YtehgapcmngdcnaaRows
import Derived.Test.YtehgapcmngdcnaaInClimbThrough
import Derived.Test.YtehgapcmngdcnaaMyClimbThrough
import Derived.WalkKit
import Derived.ProofKit
import Derived.OpenShut
import Derived.ShutString
import Derived.ChangeOld
import Derived.Below
import Derived.SizedLaws
import Derived.Carry
import Derived.KernelRfl
namespace Go.Proofs.Ytehgapcmngdcnaa.climbThrough
open Go.ChangeShapes Go.WideShapes Go.ChangeAt Go.RowKit
open Go.ChangeMaps (open_string shut_string)
open Go.Proofs.Ytehgapcmngdcnaa.Opens Go.Proofs.Ytehgapcmngdcnaa.MClimbThrough Go.Proofs.Ytehgapcmngdcnaa.InClimbThrough Go.Proofs.YtehgapcmngdcnaaW.PrintWords
set_option linter.unusedVariables false
set_option linter.unusedSimpArgs false
theorem op31 : Opens Try.prog 31 k31 good31 := Opens.imp (Opens.iso (opens_struct (t := 31) Try.underlying31 (by kernel_rfl) (by kernel_rfl) (OpensF.cons (opens_i64 Try.underlying3) (OpensF.one (opens_i64 Try.underlying3)))) (fun x : S31 => (x.f0, x.f1)) (fun y => ⟨y.1, y.2⟩) (fun _ => rfl)) (fun _ h => h)
theorem own : ownKnob Try.prog.godebug = none := by kernel_rfl
theorem laidOut : laidOutB Try.prog = true := by kernel_rfl
set_option maxRecDepth 100000 in
theorem lifted (os : Os) (started : os.Started) (H : Type) (enc : TypeId × Value → H) :
    ReturnsInHanded {} Try.checked os 4 .any (Rows.climbThroughSpec.pre6 enc Try.prog Try.f4 Rows.climbThroughRow.domain false) (Rows.climbThroughSpec.post enc Try.prog Try.f4 false true false false) := by
  refine returnsInHanded_of_change_sized (C := Try.checked) own started (by kernel_rfl) Try.func4
    (ChangeSpec.witness6 (enc := enc) (C := Try.checked) false ⟨#[], #[.slice none 0 0, .int .i64 0, .int .i64 0, .int .i64 0], []⟩ 8 (by kernel_rfl) (by kernel_rfl) (by kernel_rfl) (by kernel_rfl)) ?_
  intro W base args ds gs before hval0 hW hcnd hsz0 _
  have hsz : (DataW.weightsEach Try.prog (Try.f4.params.toList ++ Rows.climbThroughSpec.plain.varTypes Try.prog) (ds ++ gs)).all (· ≤ reachBytes) = true := hsz0
  have hval : ∀ (j : Nat) t v, Try.f4.params[j]? = some t → args[j]? = some v → Value.okWide Try.prog W .any base t v := hval0
  have hW' := hW
  obtain ⟨p, q, hA0, hV, rfl, hfz, hnd⟩ := hW
  have hA : DataW.TrodAll enc Try.prog W 0 (fun _ => true) true Try.f4.params.toList args.toList ds p := hA0
  rw [Try.params4] at hA hval hsz
  obtain ⟨v0, vs0, d0, ds0, p0, q0, hargs, rfl, rfl, h0, r0⟩ := trodAll_cons hA
  obtain ⟨v1, vs1, d1, ds1, p1, q1, rfl, rfl, rfl, h1, r1⟩ := trodAll_cons r0
  obtain ⟨v2, vs2, d2, ds2, p2, q2, rfl, rfl, rfl, h2, r2⟩ := trodAll_cons r1
  obtain ⟨v3, vs3, d3, ds3, p3, q3, rfl, rfl, rfl, h3, r3⟩ := trodAll_cons r2
  obtain ⟨rfl, rfl, rfl⟩ := trodAll_nil r3
  obtain rfl : args = #[v0, v1, v2, v3] := by cases args; simp_all
  obtain ⟨rfl, rfl⟩ := trodVars_none hV
  obtain ⟨va0, len0, cap0, rfl⟩ := okWide_slice Try.underlying27 (hval 0 27 v0 rfl rfl)
  have k0 := h0
  have lt0 : ∀ x ∈ p0, x.block < W.heap.size := by obtain ⟨m, hm⟩ := k0; exact DataW.trod_lt m _ _ _ hm
  obtain ⟨fu0, hf0⟩ := h0
  obtain ⟨l0, ⟨A0, c0, e0, hl0, hr0⟩, G0⟩ := (opens_slice (e := 31) Try.underlying27 (by kernel_rfl) (by kernel_rfl : Try.prog.bytesOf 31 = 16) op31 31) hf0 (weights_of hsz (j := 0) (t := 27) rfl rfl)
  simp [Value.cells] at e0
  obtain ⟨rfl, rfl, rfl⟩ := e0
  obtain ⟨a1, rfl, rfl, rfl, w1⟩ := open_int Try.underlying3 (hval 1 3 v1 rfl rfl) h1
  have g1 : I64 a1 := bounds_i64 w1
  obtain ⟨a2, rfl, rfl, rfl, w2⟩ := open_int Try.underlying3 (hval 2 3 v2 rfl rfl) h2
  have g2 : I64 a2 := bounds_i64 w2
  obtain ⟨a3, rfl, rfl, rfl, w3⟩ := open_int Try.underlying3 (hval 3 3 v3 rfl rfl) h3
  have g3 : I64 a3 := bounds_i64 w3
  clear hA0 hval0 hsz0 hsz
  obtain ⟨k, hk⟩ := MyClimbThrough.proved _ _ _ _ G0.1 G0.2 g1 g2 g3
  refine (skywaykeep2_ClimbThrough.calls k _ _ l0 a1 a2 a3 true W hr0 hl0 hk).mono fun e W' ⟨he, bel0⟩ => ?_
  have bel : Below W.heap.size W W' := bel0
  subst he
  exact ⟨_, rfl, _, _, _, [], _, [], hW', trodAll_mk1 (shut_bool Try.underlying4 _), (trodAll_cons_mk (Below.trod laidOut (by kernel_rfl) (of_decide_eq_true (by kernel_rfl)) k0 bel lt0) (trodAll_cons_mk (shut_int Try.underlying3 w1) (trodAll_cons_mk (shut_int Try.underlying3 w2) (trodAll_cons_mk (shut_int Try.underlying3 w3) trodAll_mk0)))), rfl, bel.frame _, fun h => by cases h⟩
theorem over : Rows.climbThroughRow.holds Try.pinned (OpenSpec.ofChange Rows.climbThroughSpec) :=
  OpenClaim.holds_of_wide 4 Try.f4 rfl rfl rfl rfl rfl rfl rfl ⟨rfl, rfl, rfl, rfl, rfl⟩ rfl rfl rfl rfl rfl (by kernel_rfl) Try.func4 (by kernel_rfl)
    (of_decide_eq_true (by kernel_rfl)) (by unfold Func.isWrapper; first | (rw [if_pos (by decide +kernel)]; kernel_rfl) | (rw [if_neg (by decide +kernel)]; exact ⟨rfl, rfl⟩))
    (fun os started H enc _ => lifted os started H enc)
theorem proved : Rows.ClimbThroughSaid := over
#print axioms proved
end Go.Proofs.Ytehgapcmngdcnaa.climbThrough
namespace Go.Proofs.Ytehgapcmngdcnaa
/-- The row, under a short name, for the claim. -/
theorem climbThrough_holds : Rows.ClimbThroughSaid := climbThrough.proved
end Go.Proofs.Ytehgapcmngdcnaa
