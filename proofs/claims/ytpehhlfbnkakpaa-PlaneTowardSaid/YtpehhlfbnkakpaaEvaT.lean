/- Rows of one-celled things that the running function owns: reading, writing, what stays. Conditions stand in each lemma. -/
import Derived.Test.YtpehhlfbnkakpaaEvaZ
namespace Go.Proofs.Ytpehhlfbnkakpaa.Eva
open Go
set_option linter.unusedVariables false
set_option linter.unusedSimpArgs false

def gI (x : Int) : AV := .int .i64 x
def gB (b : Bool) : AV := .bool b
class Sc {α : Type} (g : α → AV) : Prop where
  sc : ∀ x, (g x).scalar = true
instance : Sc gI := ⟨fun _ => rfl⟩
instance : Sc gB := ⟨fun _ => rfl⟩
theorem sc_cells {v : AV} (h : v.scalar = true) : cellsOf v = [v] ∧ v.isTup = false := by cases v <;> simp [AV.scalar] at h <;> exact ⟨rfl, rfl⟩

/-- v is the whole of an object from n0 on, whose cells are xs. -/
def Arr {α : Type} (n0 : Nat) (h : List Ob) (v : AV) (g : α → AV) (xs : List α) : Prop :=
  ∃ id ep, v = .sl false id ep 1 0 xs.length ∧ rdObj h id ep = some ⟨xs.map g, ep, 1, true, true⟩ ∧ n0 ≤ id
section
variable {α : Type} {n0 : Nat} {h : List Ob} {v : AV} {g : α → AV} {xs : List α}

theorem Arr.len (A : Arr n0 h v g xs) : lenvA false v = some (.int .i64 xs.length) := by
  obtain ⟨id, ep, rfl, h2, h3⟩ := A; rfl
theorem Arr.ok (A : Arr n0 h v g xs) {kk : IntKind} {i : Int} (h0 : 0 ≤ i) (h1 : i < xs.length) : idxOk 1 v (.int kk i) := by
  obtain ⟨id, ep, rfl, h2, h3⟩ := A; exact ⟨h0, h1, rfl, rfl⟩
theorem Arr.ld (A : Arr n0 h v g xs) {kk : IntKind} {i : Int} {x : α} (h0 : 0 ≤ i) (hx : xs[i.toNat]? = some x) : ld1A h (idxV 1 v (.int kk i)) = some (g x) := by
  obtain ⟨id, ep, rfl, h2, h3⟩ := A
  rw [idxV_sl, ld1A_ptr, h2]
  simp only [Option.bind_some, getC, Nat.zero_add, Nat.mul_one, List.getElem?_map, hx, Option.map_some]
theorem Arr.keep (A : Arr n0 h v g xs) (o : List Ob) : Arr n0 (h ++ o) v g xs := by
  obtain ⟨id, ep, h1, h2, h3⟩ := A; exact ⟨id, ep, h1, rd_keep h2, h3⟩
theorem Arr.keep2 {H y : List Ob} (A : Arr n0 (H ++ y) v g xs) (o : List Ob) : Arr n0 (H ++ (y ++ o)) v g xs := by
  rw [← List.append_assoc]; exact A.keep o
theorem Arr.mono {h' : List Ob} (A : Arr n0 h v g xs) (hm : ∀ id ep o, idOf v id → rdObj h id ep = some o → rdObj h' id ep = some o) : Arr n0 h' v g xs := by
  obtain ⟨id, ep, rfl, h2, h3⟩ := A; exact ⟨id, ep, rfl, hm _ _ _ ⟨rfl, rfl⟩ h2, h3⟩
theorem Arr.lt (A : Arr n0 h v g xs) {id : Nat} (hid : idOf v id) : id < h.length := by
  obtain ⟨id', ep, rfl, h2, h3⟩ := A; obtain ⟨_, rfl⟩ := hid; exact rd_lt h2
theorem Arr.ge (A : Arr n0 h v g xs) {id : Nat} (hid : idOf v id) : n0 ≤ id := by
  obtain ⟨id', ep, rfl, h2, h3⟩ := A; obtain ⟨_, rfl⟩ := hid; exact h3
theorem Arr.stOk [Sc g] (A : Arr n0 h v g xs) {kk : IntKind} {i : Int} (y : α) (h0 : 0 ≤ i) (h1 : i < xs.length) : stOk n0 1 h (idxV 1 v (.int kk i)) (g y) := by
  obtain ⟨id, ep, rfl, h2, h3⟩ := A
  rw [idxV_sl, stOk_ptr, h2]
  have := sc_cells (Sc.sc (g := g) y)
  show (cellsOf (g y)).length = 1 ∧ 0 + i.toNat * 1 + 1 ≤ (xs.map g).length ∧ (g y).isTup = false ∧ true = true ∧ n0 ≤ id
  rw [this.1, this.2, List.length_map]
  exact ⟨rfl, by omega, rfl, rfl, h3⟩
theorem Arr.stH [Sc g] (A : Arr n0 h v g xs) {kk : IntKind} {i : Int} (y : α) (h0 : 0 ≤ i) (h1 : i < xs.length) :
    Arr n0 (stH h (idxV 1 v (.int kk i)) (g y)) v g (xs.set i.toNat y) ∧
    (∀ id ep o, ¬ idOf v id → rdObj h id ep = some o → rdObj (stH h (idxV 1 v (.int kk i)) (g y)) id ep = some o) ∧
    (stH h (idxV 1 v (.int kk i)) (g y)).length = h.length := by
  obtain ⟨id, ep, rfl, h2, h3⟩ := A
  have hlt := rd_lt h2
  have e : Eva.stH h (idxV 1 (.sl false id ep 1 0 xs.length) (.int kk i)) (g y) = h.set id ⟨(xs.set i.toNat y).map g, ep, 1, true, true⟩ := by
    rw [idxV_sl, stH_ptr, h2]
    have hs := Sc.sc (g := g) y
    have := sc_cells hs
    have hw : wr (xs.map g) (0 + i.toNat * 1) [g y] = (xs.set i.toNat y).map g := by
      rw [Nat.zero_add, Nat.mul_one, List.map_set]
      have hi : i.toNat < (xs.map g).length := by simp; omega
      unfold wr
      split
      · rename_i hl
        have h9 : (xs.map g).length = 1 := by simpa using hl.symm
        have h10 : i.toNat = 0 := by omega
        rw [h10]
        match hm : xs.map g, h9 with
        | [a], _ => rfl
      · rw [List.set_eq_take_append_cons_drop, if_pos hi]
        simp
    simp only [putObj, this.1, hw, List.all_cons, List.all_nil, hs, Bool.and_true]
  rw [e]
  refine ⟨⟨id, ep, by simp, rd_set_same (o := ⟨(xs.set i.toNat y).map g, ep, 1, true, true⟩) hlt, h3⟩, fun id' ep' o hne ho => ?_, by simp⟩
  rw [rd_set_ne (fun e => hne ⟨rfl, e⟩)]; exact ho
/-- A built slice that is not nil. -/
theorem Arr.of_isl {k : Nat} (A : IsL n0 h v 1 true (xs.map g) k) (hk : k = xs.length) (h0 : k ≠ 0) : Arr n0 h v g xs := by
  rcases A with ⟨_, _, h1⟩ | ⟨id, ep, rfl, h2, h3, _⟩
  · exact absurd h1 h0
  · subst hk; exact ⟨id, ep, rfl, h2, h3⟩
theorem Arr.isl (A : Arr n0 h v g xs) (h0 : xs.length ≠ 0) : IsL n0 h v 1 true (xs.map g) xs.length := by
  obtain ⟨id, ep, rfl, h2, h3⟩ := A
  exact Or.inr ⟨id, ep, rfl, h2, h3, h0⟩
theorem Arr.cells (A : Arr n0 h v g xs) : cellsOf v = [v] := by obtain ⟨id, ep, rfl, _⟩ := A; rfl
theorem Arr.isTup (A : Arr n0 h v g xs) : v.isTup = false := by obtain ⟨id, ep, rfl, _⟩ := A; rfl
theorem Arr.new {H : List Ob} (hn : n0 ≤ H.length) (hg : xs.all (fun x => (g x).scalar) = true) (o : List Ob) : Arr n0 (H ++ (⟨xs.map g, 0, 1, true, true⟩ :: o)) (.sl false H.length 0 1 0 xs.length) g xs :=
  ⟨_, 0, rfl, by simp [rdObj], hn⟩
end
/-- Going round once more. -/
theorem W_once {E : Nat → Option CF} {n0 n : Nat} {x : CC} {Q : Ex → Fr → List Ob → Prop} {f : Fr} {h : List Ob} (hn : n0 ≤ h.length) (hw : wc E n0 n x (thenQ (W E n0 n (.loop x) Q) Q) f h) : W E n0 n (.loop x) Q f h := by
  obtain ⟨e, f2, h2, k1, k2, k3, k4⟩ := wc_sound x _ f h hn hw
  cases e with
  | nrm =>
    obtain ⟨e3, f3, h3, g1, g2, g3, g4⟩ := k4
    exact ⟨e3, f3, h3, by rw [ecode_loop, k1]; exact g1, g2, g3.trans k3, g4⟩
  | rt => exact ⟨_, f2, h2, by rw [ecode_loop, k1]; rfl, k2, k3, k4⟩
  | ex i => exact ⟨_, f2, h2, by rw [ecode_loop, k1]; rfl, k2, k3, k4⟩
/-- A call that returns a slice it has built, of which only a property is known. -/
theorem call_list1_ex {E : Nat → Option CF} {g : Nat} {cf : CF} {P : List AV → Prop} (hE : E g = some cf) {args : List AV} (hn : args.length = cf.np) (hnt : args.length ≤ cf.nt) {h : List Ob} {sz k : Nat}
    (hw : wc E h.length cf.nt cf.code (fun e f h' => exOk e = true ∧ ∃ v, rvq cf.nt f h' cf.res = some [v] ∧ ∃ cs, IsL h.length h' v sz true cs k ∧ P cs) (ofL args) h) :
    ∃ cs, P cs ∧ ecall E g args h = some (outV h.length sz k, h ++ outO sz k cs, h.length, h.length) := by
  obtain ⟨e, f', h', k1, k2, ⟨k3, v, k4, cs, k5, hP⟩, k6⟩ := call_wc hE hn hnt hw
  refine ⟨cs, hP, ?_⟩
  rw [k6 _ k3 k4]
  have : fin h.length v (stt cf.nt f' h' h.length h.length) = (outV h.length sz k, h'.take h.length ++ outO sz k cs, h.length, h.length) := by
    rcases k5 with ⟨rfl, rfl, rfl⟩ | ⟨id, ep, rfl, h2, h3, h4⟩
    · simp only [fin, Nat.lt_irrefl, if_false, refs, refsL, true_or, if_true, List.append_nil, dd, pickObjs, ren, renL, outV, outO]
    · have h5 : ¬ id < h.length := by omega
      have h6 : ¬ (False ∨ id < h.length) := by simp [h5]
      simp only [fin, Nat.lt_irrefl, if_false, refs, refsL, Bool.false_eq_true, if_neg h6, List.append_nil, dd, List.contains_nil, pickObjs, h2, if_true, ren, renL, outV, outO, if_neg h4]
      simp [List.idxOf, h5]
  simp only [mkRes, this, k2]
theorem and_ffff (a : Int) : abin .and (.int .i64 a) (.int .i64 65535) = some (.int .i64 (a % 65536)) := by
  have e : (BitVec.ofInt IntKind.i64.bits a &&& BitVec.ofInt IntKind.i64.bits 65535).toNat = (a % 65536).toNat := by
    rw [BitVec.toNat_and, BitVec.toNat_ofInt, BitVec.toNat_ofInt]
    show (a % ((2 ^ 64 : Nat) : Int)).toNat &&& ((65535 : Int) % ((2 ^ 64 : Nat) : Int)).toNat = _
    have h2 : ((65535 : Int) % ((2 ^ 64 : Nat) : Int)).toNat = 2 ^ 16 - 1 := by decide
    rw [h2, Nat.and_two_pow_sub_one_eq_mod]
    omega
  simp only [abin, if_true, e]
  rw [wrap64 (by omega) (by omega)]
  simp only [Option.some.injEq, AV.int.injEq, true_and]
  omega
end Go.Proofs.Ytpehhlfbnkakpaa.Eva
