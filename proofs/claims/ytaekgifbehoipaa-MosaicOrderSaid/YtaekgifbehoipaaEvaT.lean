/- Rows of one-celled things that the running function owns: reading, writing, what stays. Conditions stand in each lemma. -/
import Derived.Test.YtaekgifbehoipaaEvaZ
namespace Go.Proofs.Ytaekgifbehoipaa.Eva
open Go
set_option linter.unusedVariables false
set_option linter.unusedSimpArgs false

def gI (x : Int) : AV := .int .i64 x
def gB (b : Bool) : AV := .bool b
class Sc {α : Type} (g : α → AV) : Prop where
  sc : ∀ x, (g x).scalar = true
instance : Sc gI := ⟨fun _ => rfl⟩
instance : Sc gB := ⟨fun _ => rfl⟩
theorem sc_cells {v : AV} (h : v.scalar = true) : cellsOf v = [v] ∧ v.isTup = false := by cases v <;> simp [AV.scalar] at h <;> exact ⟨rfl, rfl⟩

/-- v is the whole of an object from n0 on, whose cells are xs. -/
def Arr {α : Type} (n0 : Nat) (h : List Ob) (v : AV) (g : α → AV) (xs : List α) : Prop :=
  ∃ id ep, v = .sl false id ep 1 0 xs.length ∧ rdObj h id ep = some ⟨xs.map g, ep, 1, true, true⟩ ∧ n0 ≤ id
section
variable {α : Type} {n0 : Nat} {h : List Ob} {v : AV} {g : α → AV} {xs : List α}

theorem Arr.len (A : Arr n0 h v g xs) : lenvA false v = some (.int .i64 xs.length) := by
  obtain ⟨id, ep, rfl, h2, h3⟩ := A; rfl
theorem Arr.ok (A : Arr n0 h v g xs) {kk : IntKind} {i : Int} (h0 : 0 ≤ i) (h1 : i < xs.length) : idxOk 1 v (.int kk i) := by
  obtain ⟨id, ep, rfl, h2, h3⟩ := A; exact ⟨h0, h1, rfl, rfl⟩
theorem Arr.ld (A : Arr n0 h v g xs) {kk : IntKind} {i : Int} {x : α} (h0 : 0 ≤ i) (hx : xs[i.toNat]? = some x) : ld1A h (idxV 1 v (.int kk i)) = some (g x) := by
  obtain ⟨id, ep, rfl, h2, h3⟩ := A
  rw [idxV_sl, ld1A_ptr, h2]
  simp only [Option.bind_some, getC, Nat.zero_add, Nat.mul_one, List.getElem?_map, hx, Option.map_some]
theorem Arr.keep (A : Arr n0 h v g xs) (o : List Ob) : Arr n0 (h ++ o) v g xs := by
  obtain ⟨id, ep, h1, h2, h3⟩ := A; exact ⟨id, ep, h1, rd_keep h2, h3⟩
theorem Arr.keep2 {H y : List Ob} (A : Arr n0 (H ++ y) v g xs) (o : List Ob) : Arr n0 (H ++ (y ++ o)) v g xs := by
  rw [← List.append_assoc]; exact A.keep o
theorem Arr.mono {h' : List Ob} (A : Arr n0 h v g xs) (hm : ∀ id ep o, idOf v id → rdObj h id ep = some o → rdObj h' id ep = some o) : Arr n0 h' v g xs := by
  obtain ⟨id, ep, rfl, h2, h3⟩ := A; exact ⟨id, ep, rfl, hm _ _ _ ⟨rfl, rfl⟩ h2, h3⟩
theorem Arr.lt (A : Arr n0 h v g xs) {id : Nat} (hid : idOf v id) : id < h.length := by
  obtain ⟨id', ep, rfl, h2, h3⟩ := A; obtain ⟨_, rfl⟩ := hid; exact rd_lt h2
theorem Arr.ge (A : Arr n0 h v g xs) {id : Nat} (hid : idOf v id) : n0 ≤ id := by
  obtain ⟨id', ep, rfl, h2, h3⟩ := A; obtain ⟨_, rfl⟩ := hid; exact h3
theorem Arr.stOk [Sc g] (A : Arr n0 h v g xs) {kk : IntKind} {i : Int} (y : α) (h0 : 0 ≤ i) (h1 : i < xs.length) : stOk n0 1 h (idxV 1 v (.int kk i)) (g y) := by
  obtain ⟨id, ep, rfl, h2, h3⟩ := A
  rw [idxV_sl, stOk_ptr, h2]
  have := sc_cells (Sc.sc (g := g) y)
  show (cellsOf (g y)).length = 1 ∧ 0 + i.toNat * 1 + 1 ≤ (xs.map g).length ∧ (g y).isTup = false ∧ true = true ∧ n0 ≤ id
  rw [this.1, this.2, List.length_map]
  exact ⟨rfl, by omega, rfl, rfl, h3⟩
theorem Arr.stH [Sc g] (A : Arr n0 h v g xs) {kk : IntKind} {i : Int} (y : α) (h0 : 0 ≤ i) (h1 : i < xs.length) :
    Arr n0 (stH h (idxV 1 v (.int kk i)) (g y)) v g (xs.set i.toNat y) ∧
    (∀ id ep o, ¬ idOf v id → rdObj h id ep = some o → rdObj (stH h (idxV 1 v (.int kk i)) (g y)) id ep = some o) ∧
    (stH h (idxV 1 v (.int kk i)) (g y)).length = h.length := by
  obtain ⟨id, ep, rfl, h2, h3⟩ := A
  have hlt := rd_lt h2
  have e : Eva.stH h (idxV 1 (.sl false id ep 1 0 xs.length) (.int kk i)) (g y) = h.set id ⟨(xs.set i.toNat y).map g, ep, 1, true, true⟩ := by
    rw [idxV_sl, stH_ptr, h2]
    have hs := Sc.sc (g := g) y
    have := sc_cells hs
    have hw : wr (xs.map g) (0 + i.toNat * 1) [g y] = (xs.set i.toNat y).map g := by
      rw [Nat.zero_add, Nat.mul_one, List.map_set]
      have hi : i.toNat < (xs.map g).length := by simp; omega
      unfold wr
      split
      · rename_i hl
        have h9 : (xs.map g).length = 1 := by simpa using hl.symm
        have h10 : i.toNat = 0 := by omega
        rw [h10]
        match hm : xs.map g, h9 with
        | [a], _ => rfl
      · rw [List.set_eq_take_append_cons_drop, if_pos hi]
        simp
    simp only [putObj, this.1, hw, List.all_cons, List.all_nil, hs, Bool.and_true]
  rw [e]
  refine ⟨⟨id, ep, by simp, rd_set_same (o := ⟨(xs.set i.toNat y).map g, ep, 1, true, true⟩) hlt, h3⟩, fun id' ep' o hne ho => ?_, by simp⟩
  rw [rd_set_ne (fun e => hne ⟨rfl, e⟩)]; exact ho
/-- A built slice that is not nil. -/
theorem Arr.of_isl {k : Nat} (A : IsL n0 h v 1 true (xs.map g) k) (hk : k = xs.length) (h0 : k ≠ 0) : Arr n0 h v g xs := by
  rcases A with ⟨_, _, h1⟩ | ⟨id, ep, rfl, h2, h3, _⟩
  · exact absurd h1 h0
  · subst hk; exact ⟨id, ep, rfl, h2, h3⟩
theorem Arr.isl (A : Arr n0 h v g xs) (h0 : xs.length ≠ 0) : IsL n0 h v 1 true (xs.map g) xs.length := by
  obtain ⟨id, ep, rfl, h2, h3⟩ := A
  exact Or.inr ⟨id, ep, rfl, h2, h3, h0⟩
theorem Arr.cells (A : Arr n0 h v g xs) : cellsOf v = [v] := by obtain ⟨id, ep, rfl, _⟩ := A; rfl
theorem Arr.isTup (A : Arr n0 h v g xs) : v.isTup = false := by obtain ⟨id, ep, rfl, _⟩ := A; rfl
theorem Arr.new {H : List Ob} (hn : n0 ≤ H.length) (hg : xs.all (fun x => (g x).scalar) = true) (o : List Ob) : Arr n0 (H ++ (⟨xs.map g, 0, 1, true, true⟩ :: o)) (.sl false H.length 0 1 0 xs.length) g xs :=
  ⟨_, 0, rfl, by simp [rdObj], hn⟩
end
/-- Going round once more. -/
theorem W_once {E : Nat → Option CF} {n0 n : Nat} {x : CC} {Q : Ex → Fr → List Ob → Prop} {f : Fr} {h : List Ob} (hn : n0 ≤ h.length) (hw : wc E n0 n x (thenQ (W E n0 n (.loop x) Q) Q) f h) : W E n0 n (.loop x) Q f h := by
  obtain ⟨e, f2, h2, k1, k2, k3, k4⟩ := wc_sound x _ f h hn hw
  cases e with
  | nrm =>
    obtain ⟨e3, f3, h3, g1, g2, g3, g4⟩ := k4
    exact ⟨e3, f3, h3, by rw [ecode_loop, k1]; exact g1, g2, g3.trans k3, g4⟩
  | rt => exact ⟨_, f2, h2, by rw [ecode_loop, k1]; rfl, k2, k3, k4⟩
  | ex i => exact ⟨_, f2, h2, by rw [ecode_loop, k1]; rfl, k2, k3, k4⟩
/-- A call that returns a slice it has built, of which only a property is known. -/
theorem call_list1_ex {E : Nat → Option CF} {g : Nat} {cf : CF} {P : List AV → Prop} (hE : E g = some cf) {args : List AV} (hn : args.length = cf.np) (hnt : args.length ≤ cf.nt) {h : List Ob} {sz k : Nat}
    (hw : wc E h.length cf.nt cf.code (fun e f h' => exOk e = true ∧ ∃ v, rvq cf.nt f h' cf.res = some [v] ∧ ∃ cs, IsL h.length h' v sz true cs k ∧ P cs) (ofL args) h) :
    ∃ cs, P cs ∧ ecall E g args h = some (outV h.length sz k, h ++ outO sz k cs, h.length, h.length) := by
  obtain ⟨e, f', h', k1, k2, ⟨k3, v, k4, cs, k5, hP⟩, k6⟩ := call_wc hE hn hnt hw
  refine ⟨cs, hP, ?_⟩
  rw [k6 _ k3 k4]
  have : fin h.length v (stt cf.nt f' h' h.length h.length) = (outV h.length sz k, h'.take h.length ++ outO sz k cs, h.length, h.length) := by
    rcases k5 with ⟨rfl, rfl, rfl⟩ | ⟨id, ep, rfl, h2, h3, h4⟩
    · simp only [fin, Nat.lt_irrefl, if_false, refs, refsL, true_or, if_true, List.append_nil, dd, pickObjs, ren, renL, outV, outO]
    · have h5 : ¬ id < h.length := by omega
      have h6 : ¬ (False ∨ id < h.length) := by simp [h5]
      simp only [fin, Nat.lt_irrefl, if_false, refs, refsL, Bool.false_eq_true, if_neg h6, List.append_nil, dd, List.contains_nil, pickObjs, h2, if_true, ren, renL, outV, outO, if_neg h4]
      simp [List.idxOf, h5]
  simp only [mkRes, this, k2]
/-! ### Pieces of code of which only the sound form is known -/
section
variable {E : Nat → Option CF} {n0 n : Nat} {f : Fr} {h : List Ob}
theorem W_seqI {a b : CC} {Q : Ex → Fr → List Ob → Prop} (hw : W E n0 n a (thenQ (W E n0 n b Q) Q) f h) : W E n0 n (.seq a b) Q f h := by
  obtain ⟨e, f1, h1, k1, k2, k3, k4⟩ := hw
  cases e with
  | nrm =>
    obtain ⟨e2, f2, h2, g1, g2, g3, g4⟩ := k4
    exact ⟨e2, f2, h2, by rw [ecode_seq, k1]; exact g1, g2, g3.trans k3, g4⟩
  | ex i => exact ⟨.ex i, f1, h1, by rw [ecode_seq, k1]; rfl, k2, k3, k4⟩
  | rt => exact ⟨.rt, f1, h1, by rw [ecode_seq, k1]; rfl, k2, k3, k4⟩
theorem W_blkI {id : Nat} {x : CC} {Q : Ex → Fr → List Ob → Prop} (hw : W E n0 n x (leaveQ id Q) f h) : W E n0 n (.blk id x) Q f h := by
  obtain ⟨e, f1, h1, k1, k2, k3, k4⟩ := hw
  cases e with
  | nrm => exact ⟨.nrm, f1, h1, by rw [ecode_blk, k1]; rfl, k2, k3, k4⟩
  | rt => exact ⟨.rt, f1, h1, by rw [ecode_blk, k1]; rfl, k2, k3, k4⟩
  | ex j =>
    simp only [leaveQ] at k4
    by_cases hj : j = id
    · rw [if_pos hj] at k4
      exact ⟨.nrm, f1, h1, by rw [ecode_blk, k1]; simp [leave, hj], k2, k3, k4⟩
    · rw [if_neg hj] at k4
      exact ⟨.ex j, f1, h1, by rw [ecode_blk, k1]; simp [leave, hj], k2, k3, k4⟩
theorem W_regI {l : List Ins} {Q : Ex → Fr → List Ob → Prop} (hr : RG E n0 n l (Q .nrm) f h) : W E n0 n (.reg l) Q f h := by
  obtain ⟨f', h', h1, h2, h3, h4⟩ := hr
  exact ⟨.nrm, f', h', by rw [ec_reg, h1]; rfl, h2, h3, h4⟩
theorem RG_of {l : List Ins} {K : Fr → List Ob → Prop} (hn : n0 ≤ h.length) (hr : rg E n0 n l K f h) : RG E n0 n l K f h := rg_sound l K f h hn hr
theorem aReg_app (call : CallF) : ∀ (l1 l2 : List Ins) (s : St), aReg call (l1 ++ l2) s = (aReg call l1 s).bind (aReg call l2)
  | [], l2, s => by simp [aReg]
  | i :: l1, l2, s => by
    simp only [List.cons_append, aReg]
    cases aIns call i s with
    | none => rfl
    | some s1 => simpa using aReg_app call l1 l2 s1
theorem RG_split {l1 l2 : List Ins} {K1 K : Fr → List Ob → Prop} (h1 : RG E n0 n l1 K1 f h) (h2 : ∀ f' h', n0 ≤ h'.length → h'.take n0 = h.take n0 → K1 f' h' → RG E n0 n l2 K f' h') : RG E n0 n (l1 ++ l2) K f h := by
  obtain ⟨f1, g1, k1, k2, k3, k4⟩ := h1
  obtain ⟨f2, g2, m1, m2, m3, m4⟩ := h2 f1 g1 k2 k3 k4
  exact ⟨f2, g2, by rw [aReg_app, k1]; exact m1, m2, m3.trans k3, m4⟩
theorem RG_guard_t {d : Option Nat} {op : I} {av : List Opd} {q want : Bool} {s : Nat} {l : List Ins} {K : Fr → List Ob → Prop} (hc : wnt (ev n f (.t s)) want = true) (hr : RG E n0 n (⟨d, op, none, av, q⟩ :: l) K f h) : RG E n0 n (⟨d, op, some (s, want), av, q⟩ :: l) K f h := by
  obtain ⟨f1, g1, k1, k2, k3, k4⟩ := hr
  refine ⟨f1, g1, ?_, k2, k3, k4⟩
  rw [aReg_cons] at k1 ⊢
  rw [ins_guard, if_pos hc]; exact k1
theorem RG_cut (k : Nat) {l : List Ins} {K1 K : Fr → List Ob → Prop} (h1 : RG E n0 n (l.take k) K1 f h) (h2 : ∀ f' h', n0 ≤ h'.length → h'.take n0 = h.take n0 → K1 f' h' → RG E n0 n (l.drop k) K f' h') : RG E n0 n l K f h := by
  have := RG_split h1 h2
  rwa [List.take_append_drop] at this
theorem rg_mksg {d : Option Nat} {zs : List AV} {sz len s : Nat} {want : Bool} {ps : List (Nat × Nat × Opd)} {av : List Opd} {q : Bool} {l : List Ins} {K : Fr → List Ob → Prop} : rg E n0 n (⟨d, .mks zs sz len ps, some (s, want), av, q⟩ :: l) K f h =
    ((wnt (ev n f (.t s)) want = true → (lay (ev n f) zs ps).isSome = true ∧ rg E n0 n l K (updO f d (.sl false h.length 0 sz 0 len)) (h ++ [⟨(lay (ev n f) zs ps).getD [], 0, sz, true, ((lay (ev n f) zs ps).getD []).all AV.scalar⟩])) ∧ (wnt (ev n f (.t s)) want = false → rg E n0 n l K (updO f d und) h)) := Eq.trans rfl rfl
/-- A loop whose round is known in the sound form. -/
theorem W_loopW {x : CC} {Q : Ex → Fr → List Ob → Prop} (I : Nat → Fr → List Ob → Prop) (hn : n0 ≤ h.length) (k : Nat) (hI : I k f h)
    (hstep : ∀ k f1 h1, n0 ≤ h1.length → h1.take n0 = h.take n0 → I k f1 h1 → W E n0 n x (thenQ (fun f2 h2 => ∃ j, j < k ∧ I j f2 h2) Q) f1 h1) : W E n0 n (.loop x) Q f h := by
  have key : ∀ k f1 h1, n0 ≤ h1.length → h1.take n0 = h.take n0 → I k f1 h1 → W E n0 n (.loop x) Q f1 h1 := by
    intro k
    induction k using Nat.strongRecOn with
    | _ k ih =>
      intro f1 h1 hn1 ht1 hI1
      obtain ⟨e, f2, h2, k1, k2, k3, k4⟩ := hstep k f1 h1 hn1 ht1 hI1
      cases e with
      | nrm =>
        obtain ⟨j, hj, hIj⟩ := k4
        obtain ⟨e3, f3, h3, g1, g2, g3, g4⟩ := ih j hj f2 h2 k2 (k3.trans ht1) hIj
        exact ⟨e3, f3, h3, by rw [ecode_loop, k1]; exact g1, g2, g3.trans k3, g4⟩
      | ex i => exact ⟨.ex i, f2, h2, by rw [ecode_loop, k1]; rfl, k2, k3, k4⟩
      | rt => exact ⟨.rt, f2, h2, by rw [ecode_loop, k1]; rfl, k2, k3, k4⟩
  exact key k f h hn rfl hI
/-- A string becomes a slice of bytes, and what comes after. -/
def csbK (h : List Ob) (K : AV → List Ob → Prop) : AV → Prop
  | .str b => K (.sl false h.length 0 1 0 b.size) (h ++ [csbO b])
  | _ => False
theorem csbK_str (h : List Ob) (K : AV → List Ob → Prop) (b : ByteArray) : csbK h K (.str b) = K (.sl false h.length 0 1 0 b.size) (h ++ [csbO b]) := Eq.trans rfl rfl
theorem rg_csb {d : Option Nat} {x : Opd} {av : List Opd} {q : Bool} {l : List Ins} {K : Fr → List Ob → Prop} : rg E n0 n (⟨d, .csb x, none, av, q⟩ :: l) K f h = csbK h (fun v h' => rg E n0 n l K (updO f d v) h') (ev n f x) := by
  have : rg E n0 n (⟨d, .csb x, none, av, q⟩ :: l) K f h = ∃ b, ev n f x = .str b ∧ rg E n0 n l K (updO f d (.sl false h.length 0 1 0 b.size)) (h ++ [csbO b]) := Eq.trans rfl rfl
  rw [this]
  apply propext
  constructor
  · rintro ⟨b, h1, h2⟩; rw [h1]; exact h2
  · intro hk
    unfold csbK at hk
    split at hk
    · rename_i b hb; exact ⟨b, hb, hk⟩
    · cases hk
/-- A slice of bytes that a constant string has given. -/
def cscK (n0 : Nat) (h : List Ob) (v : AV) : Prop := ∃ id ep sz off len o, v = .sl false id ep sz off len ∧ rdObj h id ep = some o ∧ o.rw = true ∧ len ≠ 0 ∧ n0 ≤ id
theorem rg_clr {d : Option Nat} {zs : List AV} {x : Opd} {av : List Opd} {q : Bool} {l : List Ins} {K : Fr → List Ob → Prop} : rg E n0 n (⟨d, .clr zs x, none, av, q⟩ :: l) K f h = (avoids (ev n f) (.clr zs x) av = true ∧ clrK n0 zs h (ev n f x) (fun h' => rg E n0 n l K (updO f d und) h')) := Eq.trans rfl rfl
theorem rg_csc {d : Option Nat} {x : Opd} {av : List Opd} {q : Bool} {l : List Ins} {K : Fr → List Ob → Prop} : rg E n0 n (⟨d, .csc x, none, av, q⟩ :: l) K f h = (cscK n0 h (ev n f x) ∧ rg E n0 n l K (updO f d (ev n f x)) h) := Eq.trans rfl rfl
/-- A slice of bytes read as a string. -/
def cbsA (h : List Ob) (v : AV) : Option AV := acbs ⟨h, 0, 0⟩ v
theorem rg_cbs {d : Option Nat} {x : Opd} {av : List Opd} {q : Bool} {l : List Ins} {K : Fr → List Ob → Prop} : rg E n0 n (⟨d, .cbs x, none, av, q⟩ :: l) K f h = ((cbsA h (ev n f x)).isSome = true ∧ rg E n0 n l K (updO f d ((cbsA h (ev n f x)).getD und)) h) := by
  have : rg E n0 n (⟨d, .cbs x, none, av, q⟩ :: l) K f h = ∃ v, acbs ⟨h, n0, n0⟩ (ev n f x) = some v ∧ rg E n0 n l K (updO f d v) h := Eq.trans rfl rfl
  rw [this]
  have e : acbs ⟨h, n0, n0⟩ (ev n f x) = cbsA h (ev n f x) := by unfold cbsA; cases ev n f x <;> rfl
  rw [e]
  cases cbsA h (ev n f x) with
  | none => simp
  | some v => simp
theorem rg_appz {d : Option Nat} {zs : List AV} {bytes : Nat} {x y : Opd} {av : List Opd} {q : Bool} {l : List Ins} {K : Fr → List Ob → Prop} : rg E n0 n (⟨d, .appz zs bytes x y, none, av, q⟩ :: l) K f h =
    ∃ v o, aappz zs bytes ⟨h, n0, n0⟩ (ev n f x) (ev n f y) = some (v, ⟨h ++ o, n0, n0⟩) ∧ rg E n0 n l K (updO f d v) (h ++ o) := Eq.trans rfl rfl
end
theorem aappz_nil {n0 : Nat} {h : List Ob} {zs : List AV} {bytes k : Nat} {id ep sz off : Nat} (hk : 0 < k) (hb : k * bytes ≤ appLim) :
    aappz zs bytes ⟨h, n0, n0⟩ (.sl true id ep sz off 0) (.int .i64 (k : Int)) = some (.sl false h.length 0 zs.length 0 k, ⟨h ++ [⟨zrep k zs, 0, zs.length, true, zs.all AV.scalar⟩], n0, n0⟩) := by
  have h0 : (k : Int).toNat = k := by simp
  simp only [aappz, h0]
  rw [if_pos ⟨by omega, hb⟩, if_neg (by omega)]
  rfl
def capA : AV → Option AV
  | .sl true _ _ _ _ _ => some (.int .i64 0)
  | .s0 _ => some (.int .i64 0)
  | _ => none
theorem kq_capv {ρ : Opd → AV} {h : List Ob} (x : Opd) : kq ρ h (.capv x) = (capA (ρ x)).isSome := by
  simp only [kq, aop, capA]; cases ρ x <;> try rfl
  rename_i nl _ _ _ _ _; cases nl <;> rfl
theorem vq_capv {ρ : Opd → AV} {h : List Ob} (x : Opd) : vq ρ h (.capv x) = (capA (ρ x)).getD und := by
  simp only [vq, aop, capA]; cases ρ x <;> try rfl
  rename_i nl _ _ _ _ _; cases nl <;> rfl
theorem cells_fn (g : Nat) (cs : List AV) : cellsOf (.fn g cs) = [.fn g cs] := Eq.trans rfl rfl
theorem isTup_fn (g : Nat) (cs : List AV) : (AV.fn g cs).isTup = false := Eq.trans rfl rfl
theorem sc_fn (g : Nat) (cs : List AV) : (AV.fn g cs).scalar = false := Eq.trans rfl rfl
theorem capA_nil (id ep sz off len : Nat) : capA (.sl true id ep sz off len) = some (.int .i64 0) := Eq.trans rfl rfl
/-! ### Slices whose object holds plain values; appending them -/
def FgL (h : List Ob) (v : AV) : Prop := ∀ id ep o, idOf v id → rdObj h id ep = some o → o.fl = true
theorem rd_inv {h y : List Ob} {id ep : Nat} {o : Ob} (hlt : id < h.length) (e : rdObj (h ++ y) id ep = some o) : rdObj h id ep = some o := by
  unfold rdObj at e ⊢
  rwa [List.getElem?_append_left hlt] at e
theorem FgL.keep {α : Type} {c : α → List AV} {sz : Nat} {h : List Ob} {v : AV} {xs : List α} (hf : FgL h v) (hs : SlL h v c sz xs) (o : List Ob) : FgL (h ++ o) v :=
  fun id ep ob hid ho => hf id ep ob hid (rd_inv (hs.idlt hid) ho)
theorem cont_sl {α : Type} {c : α → List AV} {sz a b : Nat} {h : List Ob} {v : AV} {xs : List α} (hs : SlL h v c sz xs) (hf : FgL h v) : content sz ⟨h, a, b⟩ v = some (flat c xs, xs.length, true) := by
  obtain ⟨hc, h0, hcs, ⟨hk, ⟨nl, rfl⟩ | rfl⟩ | ⟨id, ep, off, o, rfl, k2, k3, k4⟩⟩ := hs
  · have : xs = [] := List.length_eq_zero_iff.1 hk
    subst this; rfl
  · have : xs = [] := List.length_eq_zero_iff.1 hk
    subst this; rfl
  · have hfl := hf id ep o ⟨rfl, rfl⟩ k2
    by_cases hz : xs.length = 0
    · have : xs = [] := List.length_eq_zero_iff.1 hz
      subst this; rfl
    · simp only [content, if_neg hz, Bool.false_eq_true, if_false, if_true, k2, if_pos k3, k4, hfl]
theorem fin_ob {n0 : Nat} {h : List Ob} {id ep sz k n : Nat} {cs : List AV} {f : Fr} (h2 : rdObj h id ep = some ⟨cs, ep, sz, true, true⟩) (h3 : n0 ≤ id) :
    fin n0 (.sl false id ep sz 0 k) (stt n f h n0 n0) = (.sl false n0 0 sz 0 k, h.take n0 ++ [⟨cs, 0, sz, true, true⟩], n0, n0) := by
  have h5 : ¬ id < n0 := by omega
  have h6 : ¬ (False ∨ id < n0) := by simp [h5]
  simp only [fin, Nat.lt_irrefl, if_false, refs, refsL, Bool.false_eq_true, if_neg h6, List.append_nil, dd, List.contains_nil, pickObjs, h2, if_true, ren, renL]
  simp [List.idxOf, h5]
theorem fin_ni {n0 : Nat} {h : List Ob} {n : Nat} {f : Fr} : fin n0 (.sl true 0 0 0 0 0) (stt n f h n0 n0) = (.sl true 0 0 0 0 0, h.take n0, n0, n0) := by
  simp only [fin, Nat.lt_irrefl, if_false, refs, true_or, if_true, List.append_nil, dd, pickObjs, ren]
/-- A slice that grows: nil, or the beginning of an object from n0 on, whose rest is not read. -/
def Bu (n0 : Nat) (h : List Ob) (v : AV) (sz : Nat) (cs : List AV) (k : Nat) : Prop :=
  cs.length = k * sz ∧ ((v = .sl true 0 0 0 0 0 ∧ k = 0) ∨ ∃ id ep cs', v = .sl false id ep sz 0 k ∧ rdObj h id ep = some ⟨cs', ep, sz, true, true⟩ ∧ n0 ≤ id ∧ (k = 0 ∨ cs' = cs))
theorem Bu.isl {n0 : Nat} {h : List Ob} {v : AV} {sz k : Nat} {cs : List AV} (B : Bu n0 h v sz cs k) (hk : k ≠ 0) : IsL n0 h v sz true cs k := by
  obtain ⟨hl, ⟨rfl, h0⟩ | ⟨id, ep, cs', rfl, h2, h3, h4⟩⟩ := B
  · exact absurd h0 hk
  · rcases h4 with h4 | rfl
    · exact absurd h4 hk
    · exact Or.inr ⟨id, ep, rfl, h2, h3, hk⟩
theorem bu_app {α : Type} {c : α → List AV} {n0 sz bytes k : Nat} {h : List Ob} {v y : AV} {cs : List AV} {ys : List α} {P : AV → List Ob → Prop} (B : Bu n0 h v sz cs k) (hs : SlL h y c sz ys) (hf : FgL h y) (hb : (k + ys.length) * bytes ≤ appLim) (hn : n0 ≤ h.length)
    (hK : ∀ v' h', Bu n0 h' v' sz (cs ++ flat c ys) (k + ys.length) → (∀ id ep o, rdObj h id ep = some o → ¬ idOf v id → rdObj h' id ep = some o) → h.length ≤ h'.length → (idOf v' h.length ∨ ∀ id, idOf v' id → idOf v id) → (ys.length = 0 → v' = v) → P v' h') :
    appK n0 sz bytes h v y P := by
  have hcont := fun a b => cont_sl (a := a) (b := b) hs hf
  have hfl : (flat c ys).length = ys.length * sz := flat_len hs.1 ys
  obtain ⟨hcl, hB⟩ := B
  unfold appK
  by_cases hz : ys.length = 0
  · have hx : ys = [] := List.length_eq_zero_iff.1 hz
    subst hx
    have ha : aapp sz bytes ⟨h, n0, n0⟩ v y = some (v, ⟨h, n0, n0⟩) := by
      rcases hB with ⟨rfl, h0⟩ | ⟨id, ep, cs', rfl, h2, h3, h4⟩ <;> simp only [aapp, hcont, Option.bind_some, List.length_nil, if_true]
    simp only [appOk, appV, appH, ha]
    refine ⟨⟨trivial, trivial, trivial, hn⟩, hK _ _ ⟨by simp [flat, hcl], ?_⟩ (fun _ _ _ ho _ => ho) (Nat.le_refl _) (Or.inr fun _ hx => hx) (fun _ => rfl)⟩
    rcases hB with ⟨rfl, h0⟩ | ⟨id, ep, cs', rfl, h2, h3, h4⟩
    · exact Or.inl ⟨rfl, by simpa using h0⟩
    · refine Or.inr ⟨id, ep, cs', by simp, h2, h3, ?_⟩
      simpa [flat] using h4
  · rcases hB with ⟨rfl, h0⟩ | ⟨id, ep, cs', rfl, h2, h3, h4⟩
    · subst h0
      have hce : cs = [] := List.length_eq_zero_iff.1 (by simpa using hcl)
      subst hce
      rw [Nat.zero_add] at hb
      have ha : aapp sz bytes ⟨h, n0, n0⟩ (.sl true 0 0 0 0 0) y = some (.sl false h.length 0 sz 0 ys.length, ⟨h ++ [⟨flat c ys, 0, sz, true, true⟩], n0, n0⟩) := by
        simp only [aapp, hcont, Option.bind_some, if_neg hz, if_pos hb]; rfl
      simp only [appOk, appV, appH, ha]
      refine ⟨⟨trivial, trivial, take_app hn, by simp; omega⟩, hK _ _ ⟨by simp [hfl], Or.inr ⟨h.length, 0, flat c ys, by simp, rd_last (o := ⟨flat c ys, 0, sz, true, true⟩), hn, Or.inr (by simp)⟩⟩ (fun _ _ _ ho _ => rd_keep ho) (by simp) (Or.inl ⟨rfl, rfl⟩) (fun h9 => absurd h9 hz)⟩
    · have hlt := rd_lt h2
      have hfit : 0 + k * sz ≤ cs'.length := by
        rcases h4 with h4 | rfl
        · subst h4; simp
        · omega
      have ht : (cs'.drop 0).take (k * sz) = cs := by
        rcases h4 with h4 | rfl
        · subst h4
          have hce : cs = [] := List.length_eq_zero_iff.1 (by simpa using hcl)
          simp [hce]
        · rw [List.drop_zero, ← hcl, List.take_length]
      have ha : aapp sz bytes ⟨h, n0, n0⟩ (.sl false id ep sz 0 k) y = some (.sl false id (ep + 1) sz 0 (k + ys.length), ⟨h.set id ⟨cs ++ flat c ys, ep + 1, sz, true, true⟩, n0, n0⟩) := by
        simp only [aapp, hcont, Option.bind_some, if_neg hz, h2]
        rw [if_pos ⟨trivial, hb⟩, if_pos ⟨trivial, hfit⟩, ht, Nat.min_eq_left h3]
        rfl
      simp only [appOk, appV, appH, ha]
      refine ⟨⟨trivial, trivial, List.take_set_of_le h3, by simp; omega⟩, hK _ _ ⟨by simp [hcl, hfl, Nat.add_mul], Or.inr ⟨id, ep + 1, cs ++ flat c ys, rfl, rd_set_same (o := ⟨cs ++ flat c ys, ep + 1, sz, true, true⟩) hlt, h3, Or.inr rfl⟩⟩ (fun id' ep' o ho hne => ?_) (by simp) (Or.inr fun _ hx => hx) (fun h9 => absurd h9 hz)⟩
      rw [rd_set_ne (fun e => hne ⟨rfl, e⟩)]; exact ho
theorem flat_sc {α : Type} {c : α → List AV} (hsc : ∀ x, (c x).all AV.scalar = true) : ∀ xs : List α, (flat c xs).all AV.scalar = true
  | [] => rfl
  | x :: xs => by
    have := flat_sc hsc xs
    simp only [flat, List.map_cons, List.flatten_cons, List.all_append, hsc x, Bool.true_and] at this ⊢
    exact this
theorem in_slf {α : Type} {c : α → List AV} {P : α → Prop} {e : AT} {B : Nat} (hd : ∀ d, goodD e d → ∃ x, P x ∧ ∀ n, layD n e d = (c x, [])) (hsz : ∀ x, (c x).length = e.sz) (h0 : 0 < e.sz) {d : DV} (h : goodD (.sl e B) d) (hsc : ∀ x, (c x).all AV.scalar = true := by intro x; rfl) :
    ∃ xs : List α, (∀ x ∈ xs, P x) ∧ xs.length * B ≤ lim ∧ ∀ n, ∃ v o, layD n (.sl e B) d = ([v], o) ∧ ∀ h h' : List Ob, h.length = n → SlL (h ++ (o ++ h')) v c e.sz xs ∧ FgL (h ++ (o ++ h')) v := by
  obtain ⟨sh, l, rfl, h1, h2, h3, h4⟩ := good_sl h
  obtain ⟨xs, k1, k2, k3⟩ := lay_list hd l h4
  refine ⟨xs, k2, by rw [k1]; exact h3, fun n => ?_⟩
  by_cases s0 : sh = 0
  · have hl := h2 (by omega)
    subst hl
    have : xs = [] := List.length_eq_zero_iff.1 k1
    subst this
    exact ⟨.sl true 0 0 0 0 0, [], by simp only [layD, if_pos s0], fun h h' _ => ⟨⟨hsz, h0, by simp [flat], Or.inl ⟨rfl, by simp⟩⟩, fun id ep o hid _ => nomatch hid.1⟩⟩
  · by_cases s1 : sh = 1
    · have hl := h2 (by omega)
      subst hl
      have : xs = [] := List.length_eq_zero_iff.1 k1
      subst this
      exact ⟨.s0 false, [], by simp only [layD, if_neg s0, if_pos s1], fun h h' _ => ⟨⟨hsz, h0, by simp [flat], Or.inl ⟨rfl, by simp⟩⟩, fun id ep o hid _ => nomatch hid⟩⟩
    · refine ⟨.sl false n 0 e.sz 0 l.length, [⟨flat c xs, 0, e.sz, false, (flat c xs).all AV.scalar⟩], by simp only [layD, if_neg s0, if_neg s1, k3, List.length_nil, Nat.add_zero, List.nil_append], fun h h' hn => ⟨⟨hsz, h0, flat_len hsz xs, Or.inr ⟨n, 0, 0, ⟨flat c xs, 0, e.sz, false, (flat c xs).all AV.scalar⟩, by simp [k1], ?_, ?_, ?_⟩⟩, ?_⟩⟩
      · subst hn; unfold rdObj; simp
      · simp [flat_len hsz]
      · rw [List.drop_zero, ← flat_len hsz xs, List.take_length]
      · rintro id ep o ⟨_, rfl⟩ ho
        subst hn
        unfold rdObj at ho
        simp at ho
        obtain ⟨_, rfl⟩ := ho
        exact flat_sc hsc xs
theorem and_ffff (a : Int) : abin .and (.int .i64 a) (.int .i64 65535) = some (.int .i64 (a % 65536)) := by
  have e : (BitVec.ofInt IntKind.i64.bits a &&& BitVec.ofInt IntKind.i64.bits 65535).toNat = (a % 65536).toNat := by
    rw [BitVec.toNat_and, BitVec.toNat_ofInt, BitVec.toNat_ofInt]
    show (a % ((2 ^ 64 : Nat) : Int)).toNat &&& ((65535 : Int) % ((2 ^ 64 : Nat) : Int)).toNat = _
    have h2 : ((65535 : Int) % ((2 ^ 64 : Nat) : Int)).toNat = 2 ^ 16 - 1 := by decide
    rw [h2, Nat.and_two_pow_sub_one_eq_mod]
    omega
  simp only [abin, if_true, e]
  rw [wrap64 (by omega) (by omega)]
  simp only [Option.some.injEq, AV.int.injEq, true_and]
  omega
end Go.Proofs.Ytaekgifbehoipaa.Eva
