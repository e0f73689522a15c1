/- The law GrayNear over numbers: the codes of consecutive steps differ in one bit, and a height is in the step of its code. No condition beyond what the types give. -/
import Derived.Test.YtpcmmbbkidojoaaInGrayNear
import Derived.Test.YtpcmmbbkidojoaaLGrayNear
namespace Go.Proofs.Ytpcmmbbkidojoaa.MyGrayNear
open Go.RowKit Go.Proofs.Ytpcmmbbkidojoaa.Opens Go.Proofs.Ytpcmmbbkidojoaa.PGrayNear Go.Proofs.YtpcmmbbkidojoaaW.PrintWords Go.Proofs.YtpcmmbbkidojoaaW.PrintLast Go.Proofs.YtpcmmbbkidojoaaW.PrintMore Go.Proofs.Ytpcmmbbkidojoaa.InGrayNear Go.Proofs.Ytpcmmbbkidojoaa.Base Go.Proofs.Ytpcmmbbkidojoaa.LGrayNear
/-- The code of step n. -/
def code (n : Nat) : Nat := n ^^^ (n / 2)
theorem both {Q : Nat → Prop} (h : ∀ i j : Fin 25, 25 * i.val + j.val < 611 → Q (25 * i.val + j.val)) (n : Nat) (hn : n < 611) : Q n := by
  have := h ⟨n / 25, by omega⟩ ⟨n % 25, by omega⟩
  have e : 25 * (n / 25) + n % 25 = n := by omega
  simp only [e] at this
  exact this hn
theorem code_lt2 : ∀ i j : Fin 25, 25 * i.val + j.val < 611 → code (25 * i.val + j.val) < 4096 := by decide +kernel
theorem code_lt (n : Nat) (hn : n < 611) : code n < 4096 := both (Q := fun n => code n < 4096) code_lt2 n hn
theorem dec_all2 : ∀ i j : Fin 25, 25 * i.val + j.val < 611 → gray_Decode.f 14 ((code (25 * i.val + j.val) : Nat) : Int) = some (-1000 + 100 * ((25 * i.val + j.val : Nat) : Int), 0) := by decide +kernel
theorem dec_all (n : Nat) (hn : n < 611) : gray_Decode.f 14 ((code n : Nat) : Int) = some (-1000 + 100 * (n : Int), 0) := both (Q := fun n => gray_Decode.f 14 ((code n : Nat) : Int) = some (-1000 + 100 * (n : Int), 0)) dec_all2 n hn
theorem one_all2 : ∀ i j : Fin 25, 25 * i.val + j.val < 611 → popc (code (25 * i.val + j.val) ^^^ code (25 * i.val + j.val + 1)) = 1 := by decide +kernel
theorem one_all (n : Nat) (hn : n < 611) : popc (code n ^^^ code (n + 1)) = 1 := both (Q := fun n => popc (code n ^^^ code (n + 1)) = 1) one_all2 n hn
theorem enc_ok {h : Int} (h0 : -1000 ≤ h) (h1 : h ≤ 60000) : gray_Encode.f h = some (((code ((h + 1000) / 100).toNat : Nat) : Int), 0) := by
  unfold gray_Encode.f
  rw [if_neg (by omega), if_neg (by omega)]
  have e1 : wrap64 (h - (-1000)) = h + 1000 := by rw [w64 (by omega) (by omega)]; omega
  have e2 : Int.tdiv (h + 1000) 100 = (h + 1000) / 100 := Int.tdiv_eq_ediv_of_nonneg (by omega)
  rw [e1, e2, w64 (by omega) (by omega)]
  have e3 : (h + 1000) / 100 = (((h + 1000) / 100).toNat : Int) := by omega
  generalize hn : ((h + 1000) / 100).toNat = n at *
  rw [e3]
  have e4 : ((n : Int) / 2) = ((n / 2 : Nat) : Int) := by omega
  rw [e4, xor_i64 n (n / 2) (by omega) (by omega)]
  rfl
theorem enc_bad {h : Int} (hb : h < -1000 ∨ 60000 < h) : gray_Encode.f h = some (0, 4) := by
  unfold gray_Encode.f
  rcases hb with hb | hb
  · rw [if_pos hb]
  · rw [if_neg (by omega), if_pos hb]
theorem proved : Pure := by
  intro h hI
  unfold I64 at hI
  refine Ev.rounds (r := true) ?_
  refine Ev.congr (fun k => by rw [skywaykeep2_GrayNear.f]) ?_
  refine ev_some (enc_ok (h := 0) (by omega) (by omega)) (ev_pos rfl ?_)
  refine Ev.step (fun k => by rw [skywaykeep2_GrayNear.j0]) (ev_neg (by decide) ?_)
  by_cases hr : -1000 ≤ h ∧ h ≤ 60000
  · refine ev_some (enc_ok hr.1 hr.2) (ev_pos rfl ?_)
    generalize hn : ((h + 1000) / 100).toNat = n
    have hn' : n < 611 := by omega
    have hd : Ev (fun k => gray_Decode.f k ((code n : Nat) : Int)) (-1000 + 100 * (n : Int), 0) := Ev.of (fun k => gray_Decode.mono _ k) (dec_all n hn')
    refine Ev.bind hd (ev_pos rfl (ev_neg ?_ ?_))
    · show ¬ (-1000 + 100 * (n : Int) > h)
      omega
    · have hw : wrap64 (h - (-1000 + 100 * (n : Int))) = h - (-1000 + 100 * (n : Int)) := w64 (by omega) (by omega)
      show Ev (fun k => skywaykeep2_GrayNear.j1 k h ((code n : Nat) : Int) (decide (wrap64 (h - (-1000 + 100 * (n : Int))) > 99))) true
      rw [hw, decide_eq_false (by omega)]
      refine Ev.step (fun k => by rw [skywaykeep2_GrayNear.j1]) (ev_neg (by decide) ?_)
      have hw2 : wrap64 (h + 100) = h + 100 := w64 (by omega) (by omega)
      rw [hw2]
      by_cases h2 : h + 100 ≤ 60000
      · have hn2 : ((h + 100 + 1000) / 100).toNat = n + 1 := by omega
        refine ev_some (enc_ok (by omega) h2) ?_
        rw [hn2]
        have hc := change_ev (a := code n) (b := code (n + 1)) (code_lt n hn') (code_lt (n + 1) (by omega))
        refine Ev.bind hc (ev_pos rfl (ev_pos rfl (ev_eq (Ev.now _) ?_)))
        have := one_all n hn'
        show ((popc (code n ^^^ code (n + 1)) : Int) == 1) = true
        have h3 : popc (code n ^^^ code (n + 1)) = 1 := this
        rw [h3]; rfl
      · refine ev_some (enc_bad (by omega)) ?_
        have hc := change_ev (a := code n) (b := 0) (code_lt n hn') (by omega)
        exact Ev.bind hc (ev_neg (by decide) (Ev.now _))
  · refine ev_some (enc_bad (by omega)) (ev_neg (by decide) (Ev.now _))
end Go.Proofs.Ytpcmmbbkidojoaa.MyGrayNear
