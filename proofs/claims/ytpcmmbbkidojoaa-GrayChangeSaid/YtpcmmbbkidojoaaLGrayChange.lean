/- What functions that GrayChange reaches compute, over numbers and lists. Their conditions stand in each lemma. -/
import Derived.Test.YtpcmmbbkidojoaaMGrayChangex0
import Derived.Test.YtpcmmbbkidojoaaMGrayChangex1
import Derived.Test.YtpcmmbbkidojoaaBase
namespace Go.Proofs.Ytpcmmbbkidojoaa.LGrayChange
open Go.RowKit Go.Proofs.Ytpcmmbbkidojoaa.Opens Go.Proofs.Ytpcmmbbkidojoaa.MGrayChange Go.Proofs.YtpcmmbbkidojoaaW.PrintWords Go.Proofs.YtpcmmbbkidojoaaW.PrintLast Go.Proofs.YtpcmmbbkidojoaaW.PrintMore Go.Proofs.Ytpcmmbbkidojoaa.Base
set_option linter.unusedVariables false
set_option linter.unusedSimpArgs false

/-- How many of the twelve low bits are set. -/
def popc (x : Nat) : Nat := (x.testBit 0).toNat + (x.testBit 1).toNat + (x.testBit 2).toNat + (x.testBit 3).toNat + (x.testBit 4).toNat + (x.testBit 5).toNat + (x.testBit 6).toNat + (x.testBit 7).toNat + (x.testBit 8).toNat + (x.testBit 9).toNat + (x.testBit 10).toNat + (x.testBit 11).toNat
theorem xor_i64 (a b : Nat) (ha : a < 4096) (hb : b < 4096) : Go.bits .xor .i64 (a : Int) (b : Int) = ((a ^^^ b : Nat) : Int) := by
  have ha' : a % 2 ^ 64 = a := Nat.mod_eq_of_lt (by omega)
  have hb' : b % 2 ^ 64 = b := Nat.mod_eq_of_lt (by omega)
  have hx : a ^^^ b < 2 ^ 12 := Nat.xor_lt_two_pow ha hb
  show IntKind.i64.wrap ((BitVec.ofInt 64 a ^^^ BitVec.ofInt 64 b).toNat : Nat) = _
  rw [BitVec.toNat_xor, BitVec.ofInt_natCast, BitVec.ofInt_natCast, BitVec.toNat_ofNat, BitVec.toNat_ofNat, ha', hb', IntKind.wrap_i64]
  omega
theorem count_all2 : ∀ i j : Fin 64, gray_Change.l0 13 0 ((64 * i.val + j.val : Nat) : Int) = some ((popc (64 * i.val + j.val) : Int), 0) := by decide +kernel
theorem count_all (x : Nat) (hx : x < 4096) : gray_Change.l0 13 0 (x : Int) = some ((popc x : Int), 0) := by
  have := count_all2 ⟨x / 64, by omega⟩ ⟨x % 64, by omega⟩
  have e : 64 * (x / 64) + x % 64 = x := by omega
  simp only [e] at this
  exact this
theorem change_ev {a b : Nat} (ha : a < 4096) (hb : b < 4096) : Ev (fun k => gray_Change.f k a b) ((popc (a ^^^ b) : Int), 0) := by
  have hx : a ^^^ b < 4096 := Nat.xor_lt_two_pow (n := 12) ha hb
  have h0 : Ev (fun k => gray_Change.l0 k 0 ((a ^^^ b : Nat) : Int)) ((popc (a ^^^ b) : Int), 0) := Ev.of (fun k => (gray_Change.mono_l k).2 _ _) (count_all (a ^^^ b) hx)
  refine Ev.congr (fun k => by rw [gray_Change.f]) (ev_neg (by omega) (ev_neg (by omega) (ev_neg (by omega) ?_)))
  refine Ev.step (fun k => by rw [gray_Change.j0]) (ev_neg (by simp; omega) ?_)
  rw [xor_i64 a b ha hb]
  exact h0
theorem change_bad {a b : Int} (h : a < 0 ∨ 4095 < a ∨ b < 0 ∨ 4095 < b) : Ev (fun k => gray_Change.f k a b) (0, 4) := by
  have hj : ∀ f, f = true → Ev (fun k => gray_Change.j0 k a b f) (0, 4) := by
    rintro f rfl
    exact Ev.step (fun k => by rw [gray_Change.j0]) (ev_pos rfl (Ev.now _))
  refine Ev.congr (fun k => by rw [gray_Change.f]) ?_
  by_cases h1 : a < 0
  · exact ev_pos h1 (hj _ rfl)
  · refine ev_neg h1 ?_
    by_cases h2 : a > 4095
    · exact ev_pos h2 (hj _ rfl)
    · refine ev_neg h2 ?_
      by_cases h3 : b < 0
      · exact ev_pos h3 (hj _ rfl)
      · exact ev_neg h3 (hj _ (by simp; omega))

theorem idx_ev (l : List Int) (hl : l.length ≤ 1000000) : ∀ (d i : Nat), i + d = l.length → ∃ r : Int, Ev (fun k => api_Errno_76_fn47.l0 k l (l.length : Int) (i : Int)) r ∧ decide (r ≥ 0) = (l.drop i).any (· != 0)
  | 0, i, h => by
    refine ⟨-1, Ev.step (fun k => by rw [api_Errno_76_fn47.l0]) (ev_neg (by omega) (Ev.now _)), ?_⟩
    rw [List.drop_eq_nil_of_le (by omega)]; rfl
  | d + 1, i, h => by
    obtain ⟨r, hr, hd⟩ := idx_ev l hl d (i + 1) (by omega)
    have hi : i < l.length := by omega
    have hrd : rd l (i : Int) = l[i] := by unfold rd; simp [hi]
    have hdrop : l.drop i = l[i] :: l.drop (i + 1) := List.drop_eq_getElem_cons hi
    have hstep : ∀ b, (l[i] != 0) = b → Ev (fun k => if b = true then some (i : Int) else api_Errno_76_fn47.l0 k l (l.length : Int) (wrap64 ((i : Int) + 1))) (if b = true then (i : Int) else r) → Ev (fun k => api_Errno_76_fn47.l0 k l (l.length : Int) (i : Int)) (if b = true then (i : Int) else r) := by
      intro b hb h'
      refine Ev.step (fun k => by rw [api_Errno_76_fn47.l0]) ?_
      refine ev_pos (by omega) (ev_pos (by omega) (ev_pos (by omega) ?_))
      refine ev_some (a := b) (by unfold skywaykeep2_fine_1.f; rw [hrd, hb]) h'
    by_cases hz : (l[i] != 0) = true
    · refine ⟨i, by have := hstep true hz (ev_pos rfl (Ev.now _)); simpa using this, ?_⟩
      rw [hdrop, List.any_cons, hz]; simp
    · refine ⟨r, by have := hstep false (by simpa using hz) (ev_neg (by decide) (by rw [w64 (by omega) (by omega)]; exact hr)); simpa using this, ?_⟩
      rw [hdrop, List.any_cons, hd]; simp at hz; simp [hz]
theorem fine_ev (l : List Int) (hl : l.length ≤ 1000000) : Ev (fun k => skywaykeep2_fine.f k l) (!(l.any (· != 0))) := by
  obtain ⟨r, hr, hd⟩ := idx_ev l hl l.length 0 (by omega)
  refine Ev.congr (fun k => by rw [skywaykeep2_fine.f]) (Ev.bind (a := l.any (· != 0)) ?_ (Ev.now _))
  refine Ev.congr (fun k => by rw [api_Errno_46_fn47.f]) (Ev.bind (a := r) ?_ (ev_eq (Ev.now _) (by rw [hd]; rfl)))
  refine Ev.congr (fun k => by rw [api_Errno_76_fn47.f]) ?_
  exact hr

end Go.Proofs.Ytpcmmbbkidojoaa.LGrayChange
