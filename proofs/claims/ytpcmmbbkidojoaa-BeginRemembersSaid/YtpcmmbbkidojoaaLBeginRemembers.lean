/- What functions that BeginRemembers reaches compute, over numbers and lists. Their conditions stand in each lemma. -/
import Derived.Test.YtpcmmbbkidojoaaMBeginRemembersx0
import Derived.Test.YtpcmmbbkidojoaaMBeginRemembersx1
import Derived.Test.YtpcmmbbkidojoaaMBeginRemembersx2
import Derived.Test.YtpcmmbbkidojoaaBase
namespace Go.Proofs.Ytpcmmbbkidojoaa.LBeginRemembers
open Go.RowKit Go.Proofs.Ytpcmmbbkidojoaa.Opens Go.Proofs.Ytpcmmbbkidojoaa.MBeginRemembers Go.Proofs.YtpcmmbbkidojoaaW.PrintWords Go.Proofs.YtpcmmbbkidojoaaW.PrintLast Go.Proofs.YtpcmmbbkidojoaaW.PrintMore Go.Proofs.Ytpcmmbbkidojoaa.Base
set_option linter.unusedVariables false
set_option linter.unusedSimpArgs false

theorem shl_one (s : Nat) (hs : s ≤ 16) : shl .i64 1 (s : Int) = ((2 ^ s : Nat) : Int) ∧ 1 ≤ ((2 ^ s : Nat) : Int) ∧ ((2 ^ s : Nat) : Int) ≤ 65536 := by
  have h2 : 2 ^ s ≤ 2 ^ 16 := Nat.pow_le_pow_right (by omega) hs
  have h3 : 1 ≤ 2 ^ s := Nat.one_le_two_pow
  refine ⟨?_, by omega, by omega⟩
  unfold shl
  rw [show min ((s : Int).toNat) (IntKind.bits .i64) = s by simp [IntKind.bits]; omega, i64_w, Int.one_mul]
  have e : (2 : Int) ^ s = ((2 ^ s : Nat) : Int) := by simp
  rw [e]
  exact w64 (by omega) (by omega)
theorem or_one {n : Int} {s : Nat} (h0 : 0 ≤ n) (h1 : n < ((2 ^ s : Nat) : Int)) (s1 : 1 ≤ s) (s2 : s ≤ 16) : 0 ≤ Go.bits .or .i64 n 1 ∧ Go.bits .or .i64 n 1 < ((2 ^ s : Nat) : Int) := by
  have h2 : 2 ^ s ≤ 2 ^ 16 := Nat.pow_le_pow_right (by omega) s2
  have h3 : 2 ^ 1 ≤ 2 ^ s := Nat.pow_le_pow_right (by omega) s1
  have a : (BitVec.ofInt 64 n).toNat = n.toNat := by
    rw [BitVec.toNat_ofInt]
    have : n % ((2 ^ 64 : Nat) : Int) = n := Int.emod_eq_of_lt h0 (by omega)
    rw [this]
  have b : (BitVec.ofInt 64 1).toNat = 1 := by decide
  have key : (BitVec.ofInt 64 n ||| BitVec.ofInt 64 1).toNat = n.toNat ||| 1 := by rw [BitVec.toNat_or, a, b]
  have hlt : n.toNat ||| 1 < 2 ^ s := Nat.or_lt_two_pow (by omega) (by omega)
  have e : Go.bits .or .i64 n 1 = IntKind.i64.wrap (((BitVec.ofInt 64 n ||| BitVec.ofInt 64 1).toNat : Nat) : Int) := rfl
  rw [e, key, IntKind.wrap_i64]
  generalize n.toNat ||| 1 = m at *
  omega
theorem check_in {h : Int} {s : Nat} (hs : s ≤ 16) (h0 : 0 ≤ h) (h1 : h < ((2 ^ s : Nat) : Int)) : Ev (fun k => begin_Check.f k h (s : Int)) 0 := by
  have hp := shl_one s hs
  refine Ev.congr (fun k => by rw [begin_Check.f]) (ev_neg (by omega) ?_)
  refine ev_df (fun k b => begin_Check.j0 k b h (s : Int)) (by omega) ?_
  refine Ev.step (fun k => by rw [begin_Check.j0]) (ev_neg (by decide) (ev_neg (by omega) (ev_pos (by omega) ?_)))
  rw [hp.1]
  exact ev_neg (by omega) (Ev.now _)
theorem ones (a : Int) : ∃ c, bits_OnesCount.f a = some c := by
  unfold bits_OnesCount.f bits_OnesCount64.f
  exact ⟨_, rfl⟩
theorem soon_any (a need of : Int) (o0 : of ≤ 16) : ∀ (d : Nat) (i : Int), i + d = of → 0 ≤ i → ∃ b, Ev (fun k => begin_soon.l0 k a need of i) b
  | 0, i, h, _ => ⟨false, Ev.step (fun k => by rw [begin_soon.l0]) (ev_neg (by omega) (Ev.now _))⟩
  | d + 1, i, h, i0 => by
    obtain ⟨b, hb⟩ := soon_any a need of o0 d (i + 1) (by omega) (by omega)
    have hw : wrap64 (i + 1) = i + 1 := w64 (by omega) (by omega)
    have hw2 : wrap64 (of - i) = of - i := w64 (by omega) (by omega)
    obtain ⟨c, hc⟩ := ones (Go.bits .and .u64 a (IntKind.u64.wrap ((shl .u64 1 (of - i)) - 1)))
    by_cases c0 : c > 0
    · by_cases c1 : wrap64 (c + i) ≥ need
      · refine ⟨true, Ev.step (fun k => by rw [begin_soon.l0]) ?_⟩
        rw [hw, hw2]
        exact ev_pos (by omega) (ev_pos (by omega) (ev_some hc (ev_pos c0 (ev_pos c1 (Ev.now _)))))
      · refine ⟨b, Ev.step (fun k => by rw [begin_soon.l0]) ?_⟩
        rw [hw, hw2]
        exact ev_pos (by omega) (ev_pos (by omega) (ev_some hc (ev_pos c0 (ev_neg c1 hb))))
    · refine ⟨b, Ev.step (fun k => by rw [begin_soon.l0]) ?_⟩
      rw [hw, hw2]
      exact ev_pos (by omega) (ev_pos (by omega) (ev_some hc (ev_neg c0 hb)))
def next (h : Int) (hit : Bool) : Int := if hit = true then Go.bits .or .i64 (Go.bits .and .i64 (wrap64 (h * 2)) 65535) 1 else Go.bits .and .i64 (wrap64 (h * 2)) 65535
theorem next_in {h : Int} {s : Nat} (hs : s ≤ 16) (h0 : 0 ≤ h) (h1 : h < ((2 ^ s : Nat) : Int)) (hit : Bool) : 0 ≤ next h hit ∧ next h hit < ((2 ^ (min (s + 1) 16) : Nat) : Int) := by
  have h2 : 2 ^ s ≤ 2 ^ 16 := Nat.pow_le_pow_right (by omega) hs
  have hb : 0 ≤ Go.bits .and .i64 (wrap64 (h * 2)) 65535 ∧ Go.bits .and .i64 (wrap64 (h * 2)) 65535 < ((2 ^ (min (s + 1) 16) : Nat) : Int) := by
    rw [and65535, w64 (by omega) (by omega)]
    by_cases c : s = 16
    · subst c
      show 0 ≤ _ ∧ _ < (65536 : Int)
      omega
    · have e : min (s + 1) 16 = s + 1 := by omega
      have e2 : 2 ^ (s + 1) = 2 ^ s * 2 := Nat.pow_succ ..
      rw [e, e2]
      omega
  unfold next
  by_cases c : hit = true
  · rw [if_pos c]
    exact or_one hb.1 hb.2 (by omega) (by omega)
  · rw [if_neg c]
    exact hb
theorem step_ev {h : Int} {s : Nat} (hs : s ≤ 16) (h0 : 0 ≤ h) (h1 : h < ((2 ^ s : Nat) : Int)) (hit : Bool) : ∃ w, Ev (fun k => begin_Step.f k h (s : Int) hit 16 16) (next h hit, ((min (s + 1) 16 : Nat) : Int), w, 0) := by
  have hw : wrap64 ((s : Int) + 1) = (s : Int) + 1 := w64 (by omega) (by omega)
  have hm : mn ((s : Int) + 1) 16 = ((min (s + 1) 16 : Nat) : Int) := by unfold mn; split <;> omega
  have hj : ∀ H : Int, ∃ w, Ev (fun k => begin_Step.j0 k 16 16 H (s : Int)) (H, ((min (s + 1) 16 : Nat) : Int), w, 0) := by
    intro H
    obtain ⟨c, hc⟩ := ones (IntKind.u64.wrap (Go.bits .and .i64 H (wrap64 ((shl .i64 1 16) - 1))))
    obtain ⟨b, hb⟩ := soon_any (IntKind.u64.wrap (Go.bits .and .i64 H (wrap64 ((shl .i64 1 16) - 1)))) 16 16 (by omega) 15 1 (by omega) (by omega)
    have hs : Ev (fun k => begin_soon.f k (IntKind.u64.wrap (Go.bits .and .i64 H (wrap64 ((shl .i64 1 16) - 1)))) 16 16) b := Ev.congr (fun k => by rw [begin_soon.f]) hb
    by_cases c0 : c ≥ 16
    · refine ⟨1, Ev.step (fun k => by rw [begin_Step.j0]) ?_⟩
      rw [hw, hm]
      exact ev_pos (by omega) (ev_some hc (ev_pos c0 (Ev.now _)))
    by_cases c1 : ((min (s + 1) 16 : Nat) : Int) ≥ 16
    · by_cases c2 : b = true
      · refine ⟨0, Ev.step (fun k => by rw [begin_Step.j0]) ?_⟩
        rw [hw, hm]
        exact ev_pos (by omega) (ev_some hc (ev_neg c0 (ev_pos c1 (Ev.bind hs (ev_pos c2 (Ev.now _))))))
      · refine ⟨2, Ev.step (fun k => by rw [begin_Step.j0]) ?_⟩
        rw [hw, hm]
        exact ev_pos (by omega) (ev_some hc (ev_neg c0 (ev_pos c1 (Ev.bind hs (ev_neg c2 (Ev.now _))))))
    · refine ⟨0, Ev.step (fun k => by rw [begin_Step.j0]) ?_⟩
      rw [hw, hm]
      exact ev_pos (by omega) (ev_some hc (ev_neg c0 (ev_neg c1 (Ev.now _))))
  obtain ⟨w, hq⟩ := hj (next h hit)
  refine ⟨w, Ev.congr (fun k => by rw [begin_Step.f]) (Ev.bind (check_in hs h0 h1) (ev_pos rfl ?_))⟩
  refine ev_some (a := 0) (by decide) (ev_pos rfl ?_)
  unfold next at hq ⊢
  by_cases c : hit = true
  · rw [if_pos c] at hq ⊢
    exact ev_pos c hq
  · rw [if_neg c] at hq ⊢
    exact ev_neg c hq

end Go.Proofs.Ytpcmmbbkidojoaa.LBeginRemembers
