/- The law GrayChange over numbers: the number of bits in which two codes differ is 0 only for equal codes, symmetric, and satisfies the triangle inequality. No condition beyond what the types give. -/
import Derived.Test.YtpcmmbbkidojoaaInGrayChange
import Derived.Test.YtpcmmbbkidojoaaLGrayChange
namespace Go.Proofs.Ytpcmmbbkidojoaa.MyGrayChange
open Go.RowKit Go.Proofs.Ytpcmmbbkidojoaa.Opens Go.Proofs.Ytpcmmbbkidojoaa.MGrayChange Go.Proofs.YtpcmmbbkidojoaaW.PrintWords Go.Proofs.YtpcmmbbkidojoaaW.PrintLast Go.Proofs.YtpcmmbbkidojoaaW.PrintMore Go.Proofs.Ytpcmmbbkidojoaa.InGrayChange Go.Proofs.Ytpcmmbbkidojoaa.Base Go.Proofs.Ytpcmmbbkidojoaa.LGrayChange
theorem popc_zero2 : ∀ i j : Fin 64, decide (popc (64 * i.val + j.val) = 0) = decide (64 * i.val + j.val = 0) := by decide +kernel
theorem popc_zero (x : Nat) (hx : x < 4096) : (popc x = 0) = (x = 0) := by
  have := popc_zero2 ⟨x / 64, by omega⟩ ⟨x % 64, by omega⟩
  have e : 64 * (x / 64) + x % 64 = x := by omega
  simp only [e] at this
  rw [decide_eq_decide] at this
  exact propext this
theorem popc_le (x : Nat) : popc x ≤ 12 := by
  unfold popc
  have : ∀ b : Bool, b.toNat ≤ 1 := fun b => by cases b <;> decide
  have h0 := this (x.testBit 0); have h1 := this (x.testBit 1); have h2 := this (x.testBit 2); have h3 := this (x.testBit 3); have h4 := this (x.testBit 4); have h5 := this (x.testBit 5)
  have h6 := this (x.testBit 6); have h7 := this (x.testBit 7); have h8 := this (x.testBit 8); have h9 := this (x.testBit 9); have h10 := this (x.testBit 10); have h11 := this (x.testBit 11)
  omega
theorem popc_tri (x y : Nat) : popc (x ^^^ y) ≤ popc x + popc y := by
  unfold popc
  have : ∀ i, ((x ^^^ y).testBit i).toNat ≤ (x.testBit i).toNat + (y.testBit i).toNat := fun i => by
    rw [Nat.testBit_xor]; cases x.testBit i <;> cases y.testBit i <;> decide
  have h0 := this 0; have h1 := this 1; have h2 := this 2; have h3 := this 3; have h4 := this 4; have h5 := this 5
  have h6 := this 6; have h7 := this 7; have h8 := this 8; have h9 := this 9; have h10 := this 10; have h11 := this 11
  omega
def Ok (a : Int) : Prop := 0 ≤ a ∧ a ≤ 4095
theorem any_change (a b : Int) : ∃ p : Int × Int, Ev (fun k => gray_Change.f k a b) p ∧ (Ok a → Ok b → p = ((popc (a.toNat ^^^ b.toNat) : Int), 0)) ∧ (¬ (Ok a ∧ Ok b) → p = (0, 4)) := by
  unfold Ok
  by_cases h : (0 ≤ a ∧ a ≤ 4095) ∧ (0 ≤ b ∧ b ≤ 4095)
  · refine ⟨_, ?_, fun _ _ => rfl, fun h' => absurd h h'⟩
    have := change_ev (a := a.toNat) (b := b.toNat) (by omega) (by omega)
    rw [Int.toNat_of_nonneg (by omega), Int.toNat_of_nonneg (by omega)] at this
    exact this
  · exact ⟨_, change_bad (by omega), fun h1 h2 => absurd ⟨h1, h2⟩ h, fun _ => rfl⟩
theorem proved : Pure := by
  intro a b c _ _ _
  refine Ev.rounds (r := true) ?_
  refine Ev.congr (fun k => by rw [skywaykeep2_GrayChange.f]) ?_
  refine Ev.bind (change_ev (a := 5) (b := 6) (by omega) (by omega)) (ev_pos rfl ?_)
  refine Ev.step (fun k => by rw [skywaykeep2_GrayChange.j0]) (ev_neg (by decide) ?_)
  obtain ⟨p1, e1, o1, n1⟩ := any_change a b
  obtain ⟨p2, e2, o2, n2⟩ := any_change b c
  obtain ⟨p3, e3, o3, n3⟩ := any_change a c
  obtain ⟨p4, e4, o4, n4⟩ := any_change b a
  refine Ev.bind e1 (Ev.bind e2 (Ev.bind e3 (Ev.bind e4 (Ev.bind (fine_ev _ (by simp)) ?_))))
  by_cases ha : Ok a
  · by_cases hb : Ok b
    · by_cases hc : Ok c
      · rw [o1 ha hb, o2 hb hc, o3 ha hc, o4 hb ha]
        unfold Ok at ha hb hc
        refine ev_pos (by rfl) ?_
        have ha' : a.toNat < 4096 := by omega
        have hb' : b.toNat < 4096 := by omega
        have hx : a.toNat ^^^ b.toNat < 4096 := Nat.xor_lt_two_pow (n := 12) ha' hb'
        have hz := popc_zero (a.toNat ^^^ b.toNat) hx
        have hz2 : (popc (a.toNat ^^^ b.toNat) = 0) ↔ (a = b) := by
          rw [hz]
          show a.toNat ^^^ b.toNat = 0 ↔ a = b
          constructor
          · intro h0
            have h1 : (a.toNat ^^^ b.toNat) ^^^ b.toNat = 0 ^^^ b.toNat := by rw [h0]
            rw [Nat.xor_assoc, Nat.xor_self, Nat.xor_zero, Nat.zero_xor] at h1
            omega
          · intro h0
            rw [h0, Nat.xor_self]
        refine ev_pos ?_ (ev_pos ?_ (ev_pos ?_ (ev_eq (Ev.now _) ?_)))
        · show (((popc (a.toNat ^^^ b.toNat) : Int) == 0) == (a == b)) = true
          by_cases hab : a = b
          · have := hz2.2 hab
            rw [this, hab]; simp
          · have : ¬ popc (a.toNat ^^^ b.toNat) = 0 := fun h => hab (hz2.1 h)
            have h2 : ((popc (a.toNat ^^^ b.toNat) : Int) == 0) = false := by simp; omega
            rw [h2]; simp [hab]
        · show (popc (a.toNat ^^^ b.toNat) : Int) = popc (b.toNat ^^^ a.toNat)
          rw [Nat.xor_comm]
        · show (popc (a.toNat ^^^ c.toNat) : Int) ≤ wrap64 ((popc (a.toNat ^^^ b.toNat) : Int) + popc (b.toNat ^^^ c.toNat))
          have h1 := popc_tri (a.toNat ^^^ b.toNat) (b.toNat ^^^ c.toNat)
          have e : (a.toNat ^^^ b.toNat) ^^^ (b.toNat ^^^ c.toNat) = a.toNat ^^^ c.toNat := by
            rw [Nat.xor_assoc, ← Nat.xor_assoc b.toNat, Nat.xor_self, Nat.zero_xor]
          rw [e] at h1
          have h2 := popc_le (a.toNat ^^^ b.toNat)
          have h3 := popc_le (b.toNat ^^^ c.toNat)
          rw [w64 (by omega) (by omega)]
          omega
        · show decide ((popc (a.toNat ^^^ b.toNat) : Int) ≤ 12) = true
          have h2 := popc_le (a.toNat ^^^ b.toNat)
          simp; omega
      · rw [n2 (fun h => hc h.2), n3 (fun h => hc h.2), o1 ha hb, o4 hb ha]
        refine ev_neg (by simp) ?_
        by_cases h0 : (popc (a.toNat ^^^ b.toNat) : Int) = 0
        · exact ev_pos h0 (Ev.now _)
        · exact ev_neg h0 (ev_pos rfl (Ev.now _))
    · rw [n1 (fun h => hb h.2)]
      exact ev_neg (by simp) (ev_pos rfl (Ev.now _))
  · rw [n1 (fun h => ha h.1)]
    exact ev_neg (by simp) (ev_pos rfl (Ev.now _))
end Go.Proofs.Ytpcmmbbkidojoaa.MyGrayChange
