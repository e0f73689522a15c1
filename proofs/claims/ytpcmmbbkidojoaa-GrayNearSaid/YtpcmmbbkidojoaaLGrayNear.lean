/- What functions that GrayNear reaches compute, over numbers and lists. Their conditions stand in each lemma. -/
import Derived.Test.YtpcmmbbkidojoaaPGrayNearx0
import Derived.Test.YtpcmmbbkidojoaaPGrayNearx1
import Derived.Test.YtpcmmbbkidojoaaBase
namespace Go.Proofs.Ytpcmmbbkidojoaa.LGrayNear
open Go.RowKit Go.Proofs.Ytpcmmbbkidojoaa.Opens Go.Proofs.Ytpcmmbbkidojoaa.PGrayNear Go.Proofs.YtpcmmbbkidojoaaW.PrintWords Go.Proofs.YtpcmmbbkidojoaaW.PrintLast Go.Proofs.YtpcmmbbkidojoaaW.PrintMore Go.Proofs.Ytpcmmbbkidojoaa.Base
set_option linter.unusedVariables false
set_option linter.unusedSimpArgs false

/-- How many of the twelve low bits are set. -/
def popc (x : Nat) : Nat := (x.testBit 0).toNat + (x.testBit 1).toNat + (x.testBit 2).toNat + (x.testBit 3).toNat + (x.testBit 4).toNat + (x.testBit 5).toNat + (x.testBit 6).toNat + (x.testBit 7).toNat + (x.testBit 8).toNat + (x.testBit 9).toNat + (x.testBit 10).toNat + (x.testBit 11).toNat
theorem xor_i64 (a b : Nat) (ha : a < 4096) (hb : b < 4096) : Go.bits .xor .i64 (a : Int) (b : Int) = ((a ^^^ b : Nat) : Int) := by
  have ha' : a % 2 ^ 64 = a := Nat.mod_eq_of_lt (by omega)
  have hb' : b % 2 ^ 64 = b := Nat.mod_eq_of_lt (by omega)
  have hx : a ^^^ b < 2 ^ 12 := Nat.xor_lt_two_pow ha hb
  show IntKind.i64.wrap ((BitVec.ofInt 64 a ^^^ BitVec.ofInt 64 b).toNat : Nat) = _
  rw [BitVec.toNat_xor, BitVec.ofInt_natCast, BitVec.ofInt_natCast, BitVec.toNat_ofNat, BitVec.toNat_ofNat, ha', hb', IntKind.wrap_i64]
  omega
theorem count_all2 : ∀ i j : Fin 64, gray_Change.l0 13 0 ((64 * i.val + j.val : Nat) : Int) = some ((popc (64 * i.val + j.val) : Int), 0) := by decide +kernel
theorem count_all (x : Nat) (hx : x < 4096) : gray_Change.l0 13 0 (x : Int) = some ((popc x : Int), 0) := by
  have := count_all2 ⟨x / 64, by omega⟩ ⟨x % 64, by omega⟩
  have e : 64 * (x / 64) + x % 64 = x := by omega
  simp only [e] at this
  exact this
theorem change_ev {a b : Nat} (ha : a < 4096) (hb : b < 4096) : Ev (fun k => gray_Change.f k a b) ((popc (a ^^^ b) : Int), 0) := by
  have hx : a ^^^ b < 4096 := Nat.xor_lt_two_pow (n := 12) ha hb
  have h0 : Ev (fun k => gray_Change.l0 k 0 ((a ^^^ b : Nat) : Int)) ((popc (a ^^^ b) : Int), 0) := Ev.of (fun k => (gray_Change.mono_l k).2 _ _) (count_all (a ^^^ b) hx)
  refine Ev.congr (fun k => by rw [gray_Change.f]) (ev_neg (by omega) (ev_neg (by omega) (ev_neg (by omega) ?_)))
  refine Ev.step (fun k => by rw [gray_Change.j0]) (ev_neg (by simp; omega) ?_)
  rw [xor_i64 a b ha hb]
  exact h0
theorem change_bad {a b : Int} (h : a < 0 ∨ 4095 < a ∨ b < 0 ∨ 4095 < b) : Ev (fun k => gray_Change.f k a b) (0, 4) := by
  have hj : ∀ f, f = true → Ev (fun k => gray_Change.j0 k a b f) (0, 4) := by
    rintro f rfl
    exact Ev.step (fun k => by rw [gray_Change.j0]) (ev_pos rfl (Ev.now _))
  refine Ev.congr (fun k => by rw [gray_Change.f]) ?_
  by_cases h1 : a < 0
  · exact ev_pos h1 (hj _ rfl)
  · refine ev_neg h1 ?_
    by_cases h2 : a > 4095
    · exact ev_pos h2 (hj _ rfl)
    · refine ev_neg h2 ?_
      by_cases h3 : b < 0
      · exact ev_pos h3 (hj _ rfl)
      · exact ev_neg h3 (hj _ (by simp; omega))

end Go.Proofs.Ytpcmmbbkidojoaa.LGrayNear
