/- The row of the law ConformSound: whatever its arguments, it returns true, and they read as before. No condition. -/
import Derived.Test.YtehgapcmngdcnaaRows
import Derived.Test.YtehgapcmngdcnaaInConformSound
import Derived.Test.YtehgapcmngdcnaaMyConformSound
import Derived.WalkKit
import Derived.ProofKit
import Derived.OpenShut
import Derived.ShutString
import Derived.ChangeOld
import Derived.Below
import Derived.SizedLaws
import Derived.Carry
import Derived.KernelRfl
namespace Go.Proofs.Ytehgapcmngdcnaa.conformSound
open Go.ChangeShapes Go.WideShapes Go.ChangeAt Go.RowKit
open Go.ChangeMaps (open_string shut_string)
open Go.Proofs.Ytehgapcmngdcnaa.Opens Go.Proofs.Ytehgapcmngdcnaa.MConformSound Go.Proofs.Ytehgapcmngdcnaa.InConformSound Go.Proofs.YtehgapcmngdcnaaW.PrintWords
set_option linter.unusedVariables false
set_option linter.unusedSimpArgs false
theorem op45 : Opens Try.prog 45 k45 good45 := Opens.imp (Opens.iso (opens_struct (t := 45) Try.underlying45 (by kernel_rfl) (by kernel_rfl) (OpensF.cons (opens_i64 Try.underlying3) (OpensF.one (opens_i64 Try.underlying3)))) (fun x : S45 => (x.f0, x.f1)) (fun y => ⟨y.1, y.2⟩) (fun _ => rfl)) (fun _ h => h)
theorem op80 : Opens Try.prog 80 k80 good80 := Opens.imp (Opens.iso (opens_struct (t := 80) Try.underlying80 (by kernel_rfl) (by kernel_rfl) (OpensF.cons (opens_i64 Try.underlying3) (OpensF.cons op45 (OpensF.one (opens_i64 Try.underlying3))))) (fun x : S80 => (x.f0, x.f1, x.f2)) (fun y => ⟨y.1, y.2.1, y.2.2⟩) (fun _ => rfl)) (fun _ h => h)
theorem op82 : Opens Try.prog 82 k82 good82 := Opens.imp (Opens.iso (opens_struct (t := 82) Try.underlying82 (by kernel_rfl) (by kernel_rfl) (OpensF.cons op80 (OpensF.cons (opens_i64 Try.underlying3) (OpensF.one (opens_i64 Try.underlying3))))) (fun x : S82 => (x.f0, x.f1, x.f2)) (fun y => ⟨y.1, y.2.1, y.2.2⟩) (fun _ => rfl)) (fun _ h => h)
theorem own : ownKnob Try.prog.godebug = none := by kernel_rfl
theorem laidOut : laidOutB Try.prog = true := by kernel_rfl
set_option maxRecDepth 100000 in
theorem lifted (os : Os) (started : os.Started) (H : Type) (enc : TypeId × Value → H) :
    ReturnsInHanded {} Try.checked os 13 .any (Rows.conformSoundSpec.pre6 enc Try.prog Try.f13 Rows.conformSoundRow.domain false) (Rows.conformSoundSpec.post enc Try.prog Try.f13 false true false false) := by
  refine returnsInHanded_of_change_sized (C := Try.checked) own started (by kernel_rfl) Try.func13
    (ChangeSpec.witness6 (enc := enc) (C := Try.checked) false ⟨#[], #[.agg #[.int .i64 0, .int .i64 0, .int .i64 0, .int .i64 0, .int .i64 0, .int .i64 0, .int .i64 0, .int .i64 0, .int .i64 0, .int .i64 0, .int .i64 0, .int .i64 0, .int .i64 0], .slice none 0 0, .agg #[.int .i64 0, .int .i64 0], .int .i64 0], []⟩ 8 (by kernel_rfl) (by kernel_rfl) (by kernel_rfl) (by kernel_rfl)) ?_
  intro W base args ds gs before hval0 hW hcnd hsz0 _
  have hsz : (DataW.weightsEach Try.prog (Try.f13.params.toList ++ Rows.conformSoundSpec.plain.varTypes Try.prog) (ds ++ gs)).all (· ≤ reachBytes) = true := hsz0
  have hval : ∀ (j : Nat) t v, Try.f13.params[j]? = some t → args[j]? = some v → Value.okWide Try.prog W .any base t v := hval0
  have hW' := hW
  obtain ⟨p, q, hA0, hV, rfl, hfz, hnd⟩ := hW
  have hA : DataW.TrodAll enc Try.prog W 0 (fun _ => true) true Try.f13.params.toList args.toList ds p := hA0
  rw [Try.params13] at hA hval hsz
  obtain ⟨v0, vs0, d0, ds0, p0, q0, hargs, rfl, rfl, h0, r0⟩ := trodAll_cons hA
  obtain ⟨v1, vs1, d1, ds1, p1, q1, rfl, rfl, rfl, h1, r1⟩ := trodAll_cons r0
  obtain ⟨v2, vs2, d2, ds2, p2, q2, rfl, rfl, rfl, h2, r2⟩ := trodAll_cons r1
  obtain ⟨v3, vs3, d3, ds3, p3, q3, rfl, rfl, rfl, h3, r3⟩ := trodAll_cons r2
  obtain ⟨rfl, rfl, rfl⟩ := trodAll_nil r3
  obtain rfl : args = #[v0, v1, v2, v3] := by cases args; simp_all
  obtain ⟨rfl, rfl⟩ := trodVars_none hV
  obtain ⟨cs0, rfl, ec0⟩ := agg_of Try.underlying47 (hval 0 47 v0 rfl rfl)
  have k0 := h0
  have lt0 : ∀ x ∈ p0, x.block < W.heap.size := by obtain ⟨m, hm⟩ := k0; exact DataW.trod_lt m _ _ _ hm
  obtain ⟨fu0, hf0⟩ := h0
  rw [ec0] at hf0
  obtain ⟨⟨a0_0, a0_1, a0_2, ⟨a0_3, a0_4⟩, ⟨a0_5, a0_6⟩, a0_7, a0_8, a0_9, a0_10, a0_11, a0_12⟩, hK0, ⟨g0_0, g0_1, g0_2, ⟨g0_3, g0_4⟩, ⟨g0_5, g0_6⟩, g0_7, g0_8, g0_9, g0_10, g0_11, g0_12⟩⟩ := (opens_struct (t := 47) Try.underlying47 (by kernel_rfl) (by kernel_rfl) (OpensF.cons (opens_i64 Try.underlying3) (OpensF.cons (opens_i64 Try.underlying3) (OpensF.cons (opens_i64 Try.underlying3) (OpensF.cons (opens_struct (t := 45) Try.underlying45 (by kernel_rfl) (by kernel_rfl) (OpensF.cons (opens_i64 Try.underlying3) (OpensF.one (opens_i64 Try.underlying3)))) (OpensF.cons (opens_struct (t := 45) Try.underlying45 (by kernel_rfl) (by kernel_rfl) (OpensF.cons (opens_i64 Try.underlying3) (OpensF.one (opens_i64 Try.underlying3)))) (OpensF.cons (opens_i64 Try.underlying3) (OpensF.cons (opens_i64 Try.underlying3) (OpensF.cons (opens_i64 Try.underlying3) (OpensF.cons (opens_i64 Try.underlying3) (OpensF.cons (opens_i64 Try.underlying3) (OpensF.one (opens_i64 Try.underlying3))))))))))))) hf0 (weights_of hsz (j := 0) (t := 47) rfl rfl)
  obtain ⟨_, _, rfl, rfl, ⟨_, _, rfl, rfl, ⟨_, _, rfl, rfl, ⟨_, _, rfl, ⟨_, _, rfl, rfl, rfl⟩, ⟨_, _, rfl, ⟨_, _, rfl, rfl, rfl⟩, ⟨_, _, rfl, rfl, ⟨_, _, rfl, rfl, ⟨_, _, rfl, rfl, ⟨_, _, rfl, rfl, ⟨_, _, rfl, rfl, rfl⟩⟩⟩⟩⟩⟩⟩⟩⟩⟩ := hK0
  obtain ⟨va1, len1, cap1, rfl⟩ := okWide_slice Try.underlying72 (hval 1 72 v1 rfl rfl)
  have k1 := h1
  have lt1 : ∀ x ∈ p1, x.block < W.heap.size := by obtain ⟨m, hm⟩ := k1; exact DataW.trod_lt m _ _ _ hm
  obtain ⟨fu1, hf1⟩ := h1
  obtain ⟨l1, ⟨A1, c1, e1, hl1, hr1⟩, G1⟩ := (opens_slice (e := 82) Try.underlying72 (by kernel_rfl) (by kernel_rfl : Try.prog.bytesOf 82 = 48) op82 82) hf1 (weights_of hsz (j := 1) (t := 72) rfl rfl)
  simp [Value.cells] at e1
  obtain ⟨rfl, rfl, rfl⟩ := e1
  obtain ⟨cs2, rfl, ec2⟩ := agg_of Try.underlying45 (hval 2 45 v2 rfl rfl)
  have k2 := h2
  have lt2 : ∀ x ∈ p2, x.block < W.heap.size := by obtain ⟨m, hm⟩ := k2; exact DataW.trod_lt m _ _ _ hm
  obtain ⟨fu2, hf2⟩ := h2
  rw [ec2] at hf2
  obtain ⟨⟨a2_0, a2_1⟩, hK2, ⟨g2_0, g2_1⟩⟩ := (opens_struct (t := 45) Try.underlying45 (by kernel_rfl) (by kernel_rfl) (OpensF.cons (opens_i64 Try.underlying3) (OpensF.one (opens_i64 Try.underlying3)))) hf2 (weights_of hsz (j := 2) (t := 45) rfl rfl)
  obtain ⟨_, _, rfl, rfl, rfl⟩ := hK2
  obtain ⟨a3, rfl, rfl, rfl, w3⟩ := open_int Try.underlying3 (hval 3 3 v3 rfl rfl) h3
  have g3 : I64 a3 := bounds_i64 w3
  clear hA0 hval0 hsz0 hsz
  obtain ⟨k, hk⟩ := MyConformSound.proved _ _ _ _ _ _ _ _ _ _ _ _ _ _ _ _ _ g0_0 g0_1 g0_2 g0_3 g0_4 g0_5 g0_6 g0_7 g0_8 g0_9 g0_10 g0_11 g0_12 G1.1 G1.2 g2_0 g2_1 g3
  refine (skywaykeep2_ConformSound.calls k a0_0 a0_1 a0_2 a0_3 a0_4 a0_5 a0_6 a0_7 a0_8 a0_9 a0_10 a0_11 a0_12 _ _ l1 a2_0 a2_1 a3 true W hr1 hl1 hk).mono fun e W' ⟨he, bel0⟩ => ?_
  have bel : Below W.heap.size W W' := bel0
  subst he
  exact ⟨_, rfl, _, _, _, [], _, [], hW', trodAll_mk1 (shut_bool Try.underlying4 _), (trodAll_cons_mk (Below.trod laidOut (by kernel_rfl) (of_decide_eq_true (by kernel_rfl)) k0 bel lt0) (trodAll_cons_mk (Below.trod laidOut (by kernel_rfl) (of_decide_eq_true (by kernel_rfl)) k1 bel lt1) (trodAll_cons_mk (Below.trod laidOut (by kernel_rfl) (of_decide_eq_true (by kernel_rfl)) k2 bel lt2) (trodAll_cons_mk (shut_int Try.underlying3 w3) trodAll_mk0)))), rfl, bel.frame _, fun h => by cases h⟩
theorem over : Rows.conformSoundRow.holds Try.pinned (OpenSpec.ofChange Rows.conformSoundSpec) :=
  OpenClaim.holds_of_wide 13 Try.f13 rfl rfl rfl rfl rfl rfl rfl ⟨rfl, rfl, rfl, rfl, rfl⟩ rfl rfl rfl rfl rfl (by kernel_rfl) Try.func13 (by kernel_rfl)
    (of_decide_eq_true (by kernel_rfl)) (by unfold Func.isWrapper; first | (rw [if_pos (by decide +kernel)]; kernel_rfl) | (rw [if_neg (by decide +kernel)]; exact ⟨rfl, rfl⟩))
    (fun os started H enc _ => lifted os started H enc)
theorem proved : Rows.ConformSoundSaid := over
#print axioms proved
end Go.Proofs.Ytehgapcmngdcnaa.conformSound
namespace Go.Proofs.Ytehgapcmngdcnaa
/-- The row, under a short name, for the claim. -/
theorem conformSound_holds : Rows.ConformSoundSaid := conformSound.proved
end Go.Proofs.Ytehgapcmngdcnaa
