/- What must hold ahead of each operation, in equations for simp. Conditions stand in each lemma. -/
import Derived.Test.YtaekgifbehoipaaEvaU
namespace Go.Proofs.Ytaekgifbehoipaa.Eva
open Go
set_option linter.unusedVariables false
set_option linter.unusedSimpArgs false

section
variable {E : Nat → Option CF} {n0 n : Nat} {f : Fr} {h : List Ob} {l : List Ins} {K : Fr → List Ob → Prop} {d : Option Nat} {av : List Opd} {q : Bool}

theorem updO_some (f : Fr) (d : Nat) (v : AV) : updO f (some d) v = upd f d v := Eq.trans rfl rfl
theorem updO_none (f : Fr) (v : AV) : updO f none v = f := Eq.trans rfl rfl
theorem ev_t (n : Nat) (f : Fr) (i : Nat) : ev n f (.t i) = if i < n then f i else und := Eq.trans rfl rfl
theorem ev_k (n : Nat) (f : Fr) (v : AV) : ev n f (.k v) = v := Eq.trans rfl rfl
theorem upd_at (f : Fr) (d : Nat) (v : AV) (i : Nat) : upd f d v i = if i = d then v else f i := Eq.trans rfl rfl

theorem rg_nil : rg E n0 n [] K f h = K f h := Eq.trans rfl rfl
theorem rg_q {op : I} (hq : op.quiet = true) : rg E n0 n (⟨d, op, none, av, q⟩ :: l) K f h = (kq (ev n f) h op = true ∧ rg E n0 n l K (updO f d (vq (ev n f) h op)) h) := by
  show rgN E n0 n d op av q f h (rg E n0 n l K) = _
  cases op <;> simp [I.quiet, I.loud, I.isN, I.isC] at hq <;> simp only [rgN, hq, if_true] <;> rfl
theorem rg_qg {op : I} {s : Nat} {want : Bool} (hq : op.quiet = true) : rg E n0 n (⟨d, op, some (s, want), av, q⟩ :: l) K f h =
    (im (wnt (ev n f (.t s)) want) (kq (ev n f) h op) = true ∧ rg E n0 n l K (updO f d (gv (wnt (ev n f (.t s)) want) (vq (ev n f) h op))) h) := by
  show (rgG E n0 n _ d op av f h (rg E n0 n l K)) = _
  cases op <;> simp [I.quiet, I.loud, I.isN, I.isC] at hq <;> simp only [rgG, hq, if_true] <;> rfl
theorem rg_new {zs : List AV} : rg E n0 n (⟨d, .new zs, none, av, q⟩ :: l) K f h = rg E n0 n l K (updO f d (.ptr h.length 0 0)) (h ++ [⟨zs, 0, 0, true, zs.all AV.scalar⟩]) := Eq.trans rfl rfl
theorem rg_box {x : Opd} : rg E n0 n (⟨d, .box x, none, av, q⟩ :: l) K f h = ((ev n f x).isTup = false ∧ rg E n0 n l K (updO f d (.ptr h.length 0 0)) (h ++ [obOf (ev n f x)])) := Eq.trans rfl rfl
theorem rg_mks {zs : List AV} {sz len : Nat} {ps : List (Nat × Nat × Opd)} : rg E n0 n (⟨d, .mks zs sz len ps, none, av, q⟩ :: l) K f h =
    ((lay (ev n f) zs ps).isSome = true ∧ rg E n0 n l K (updO f d (.sl false h.length 0 sz 0 len)) (h ++ [⟨(lay (ev n f) zs ps).getD [], 0, sz, true, ((lay (ev n f) zs ps).getD []).all AV.scalar⟩])) := Eq.trans rfl rfl
theorem rg_mksl {zs : List AV} {bytes : Nat} {a c : Opd} : rg E n0 n (⟨d, .mksl zs bytes a c, none, av, q⟩ :: l) K f h =
    ∃ x b, ev n f a = .int .i64 x ∧ ev n f c = .int .i64 b ∧ 0 ≤ x ∧ x ≤ b ∧ b.toNat * bytes ≤ appLim ∧ bytes ≠ 0 ∧ zs ≠ [] ∧ rg E n0 n l K (updO f d (.sl false h.length 0 zs.length 0 x.toNat)) (h ++ [⟨zrep x.toNat zs, 0, zs.length, true, zs.all AV.scalar⟩]) := Eq.trans rfl rfl
theorem rg_st {k : Nat} {a x : Opd} : rg E n0 n (⟨d, .st k a x, none, av, q⟩ :: l) K f h = (stOk n0 k h (ev n f a) (ev n f x) ∧ avoids (ev n f) (.st k a x) av = true ∧ rg E n0 n l K (updO f d und) (stH h (ev n f a) (ev n f x))) := Eq.trans rfl rfl
theorem rg_app {sz bytes : Nat} {x y : Opd} : rg E n0 n (⟨d, .app sz bytes x y, none, av, q⟩ :: l) K f h =
    (appOk n0 sz bytes h (ev n f x) (ev n f y) ∧ avoids (ev n f) (.app sz bytes x y) av = true ∧ rg E n0 n l K (updO f d (appV n0 sz bytes h (ev n f x) (ev n f y))) (appH n0 sz bytes h (ev n f x) (ev n f y))) := Eq.trans rfl rfl
theorem rg_cpy {sz : Nat} {x y : Opd} : rg E n0 n (⟨d, .cpy sz x y, none, av, q⟩ :: l) K f h =
    ∃ v h', aop (ev n f) ⟨h, n0, n0⟩ (.cpy sz x y) = some (v, ⟨h', n0, n0⟩) ∧ avoids (ev n f) (.cpy sz x y) av = true ∧ h'.take n0 = h.take n0 ∧ n0 ≤ h'.length ∧ rg E n0 n l K (updO f d v) h' := Eq.trans rfl rfl
theorem rg_call {g : Opd} {xs : List Opd} : rg E n0 n (⟨d, .call g xs, none, av, q⟩ :: l) K f h =
    ∃ k caps, ev n f g = .fn k caps ∧ ∃ v h2 wl wa, ecall E k (xs.map (ev n f) ++ caps) h = some (v, h2, wl, wa) ∧ n0 ≤ wl ∧ n0 ≤ wa ∧ (q = true → h.length ≤ wl) ∧ n0 ≤ h2.length ∧ h2.take n0 = h.take n0 ∧ rg E n0 n l K (updO f d v) h2 := Eq.trans rfl rfl
theorem rg_gcall {g : Opd} {xs : List Opd} {s : Nat} {want : Bool} : rg E n0 n (⟨d, .call g xs, some (s, want), av, q⟩ :: l) K f h =
    (im (wnt (ev n f (.t s)) want) (pcallV E (ev n f g) (xs.map (ev n f)) h).isSome = true ∧ rg E n0 n l K (updO f d (gv (wnt (ev n f (.t s)) want) ((pcallV E (ev n f g) (xs.map (ev n f)) h).getD und))) h) := Eq.trans rfl rfl
theorem pcallV_fn (k : Nat) (caps args : List AV) (h : List Ob) : pcallV E (.fn k caps) args h = pcall E k (args ++ caps) h := Eq.trans rfl rfl
theorem im_pcf {c : Bool} (g : AV) (args : List AV) (h : List Ob) : im c (pcallV E (gv c g) args h).isSome = im c (pcallV E g args h).isSome := by cases c <;> rfl
theorem gv_pcf {c : Bool} (g : AV) (args : List AV) (h : List Ob) : gv c ((pcallV E (gv c g) args h).getD und) = gv c ((pcallV E g args h).getD und) := by cases c <;> rfl
theorem im_pc10 {c : Bool} (k : Nat) (h : List Ob) (x1 : AV) : im c (pcall E k [gv c x1] h).isSome = im c (pcall E k [x1] h).isSome := by cases c <;> rfl
theorem gv_pc10 {c : Bool} (k : Nat) (h : List Ob) (x1 : AV) : gv c ((pcall E k [gv c x1] h).getD und) = gv c ((pcall E k [x1] h).getD und) := by cases c <;> rfl
theorem im_pc20 {c : Bool} (k : Nat) (h : List Ob) (x1 x2 : AV) : im c (pcall E k [gv c x1, x2] h).isSome = im c (pcall E k [x1, x2] h).isSome := by cases c <;> rfl
theorem gv_pc20 {c : Bool} (k : Nat) (h : List Ob) (x1 x2 : AV) : gv c ((pcall E k [gv c x1, x2] h).getD und) = gv c ((pcall E k [x1, x2] h).getD und) := by cases c <;> rfl
theorem im_pc21 {c : Bool} (k : Nat) (h : List Ob) (x1 x2 : AV) : im c (pcall E k [x1, gv c x2] h).isSome = im c (pcall E k [x1, x2] h).isSome := by cases c <;> rfl
theorem gv_pc21 {c : Bool} (k : Nat) (h : List Ob) (x1 x2 : AV) : gv c ((pcall E k [x1, gv c x2] h).getD und) = gv c ((pcall E k [x1, x2] h).getD und) := by cases c <;> rfl
theorem im_pc30 {c : Bool} (k : Nat) (h : List Ob) (x1 x2 x3 : AV) : im c (pcall E k [gv c x1, x2, x3] h).isSome = im c (pcall E k [x1, x2, x3] h).isSome := by cases c <;> rfl
theorem gv_pc30 {c : Bool} (k : Nat) (h : List Ob) (x1 x2 x3 : AV) : gv c ((pcall E k [gv c x1, x2, x3] h).getD und) = gv c ((pcall E k [x1, x2, x3] h).getD und) := by cases c <;> rfl
theorem im_pc31 {c : Bool} (k : Nat) (h : List Ob) (x1 x2 x3 : AV) : im c (pcall E k [x1, gv c x2, x3] h).isSome = im c (pcall E k [x1, x2, x3] h).isSome := by cases c <;> rfl
theorem gv_pc31 {c : Bool} (k : Nat) (h : List Ob) (x1 x2 x3 : AV) : gv c ((pcall E k [x1, gv c x2, x3] h).getD und) = gv c ((pcall E k [x1, x2, x3] h).getD und) := by cases c <;> rfl
theorem im_pc32 {c : Bool} (k : Nat) (h : List Ob) (x1 x2 x3 : AV) : im c (pcall E k [x1, x2, gv c x3] h).isSome = im c (pcall E k [x1, x2, x3] h).isSome := by cases c <;> rfl
theorem gv_pc32 {c : Bool} (k : Nat) (h : List Ob) (x1 x2 x3 : AV) : gv c ((pcall E k [x1, x2, gv c x3] h).getD und) = gv c ((pcall E k [x1, x2, x3] h).getD und) := by cases c <;> rfl
theorem im_pc40 {c : Bool} (k : Nat) (h : List Ob) (x1 x2 x3 x4 : AV) : im c (pcall E k [gv c x1, x2, x3, x4] h).isSome = im c (pcall E k [x1, x2, x3, x4] h).isSome := by cases c <;> rfl
theorem gv_pc40 {c : Bool} (k : Nat) (h : List Ob) (x1 x2 x3 x4 : AV) : gv c ((pcall E k [gv c x1, x2, x3, x4] h).getD und) = gv c ((pcall E k [x1, x2, x3, x4] h).getD und) := by cases c <;> rfl
theorem im_pc41 {c : Bool} (k : Nat) (h : List Ob) (x1 x2 x3 x4 : AV) : im c (pcall E k [x1, gv c x2, x3, x4] h).isSome = im c (pcall E k [x1, x2, x3, x4] h).isSome := by cases c <;> rfl
theorem gv_pc41 {c : Bool} (k : Nat) (h : List Ob) (x1 x2 x3 x4 : AV) : gv c ((pcall E k [x1, gv c x2, x3, x4] h).getD und) = gv c ((pcall E k [x1, x2, x3, x4] h).getD und) := by cases c <;> rfl
theorem im_pc42 {c : Bool} (k : Nat) (h : List Ob) (x1 x2 x3 x4 : AV) : im c (pcall E k [x1, x2, gv c x3, x4] h).isSome = im c (pcall E k [x1, x2, x3, x4] h).isSome := by cases c <;> rfl
theorem gv_pc42 {c : Bool} (k : Nat) (h : List Ob) (x1 x2 x3 x4 : AV) : gv c ((pcall E k [x1, x2, gv c x3, x4] h).getD und) = gv c ((pcall E k [x1, x2, x3, x4] h).getD und) := by cases c <;> rfl
theorem im_pc43 {c : Bool} (k : Nat) (h : List Ob) (x1 x2 x3 x4 : AV) : im c (pcall E k [x1, x2, x3, gv c x4] h).isSome = im c (pcall E k [x1, x2, x3, x4] h).isSome := by cases c <;> rfl
theorem gv_pc43 {c : Bool} (k : Nat) (h : List Ob) (x1 x2 x3 x4 : AV) : gv c ((pcall E k [x1, x2, x3, gv c x4] h).getD und) = gv c ((pcall E k [x1, x2, x3, x4] h).getD und) := by cases c <;> rfl
theorem im_pc50 {c : Bool} (k : Nat) (h : List Ob) (x1 x2 x3 x4 x5 : AV) : im c (pcall E k [gv c x1, x2, x3, x4, x5] h).isSome = im c (pcall E k [x1, x2, x3, x4, x5] h).isSome := by cases c <;> rfl
theorem gv_pc50 {c : Bool} (k : Nat) (h : List Ob) (x1 x2 x3 x4 x5 : AV) : gv c ((pcall E k [gv c x1, x2, x3, x4, x5] h).getD und) = gv c ((pcall E k [x1, x2, x3, x4, x5] h).getD und) := by cases c <;> rfl
theorem im_pc51 {c : Bool} (k : Nat) (h : List Ob) (x1 x2 x3 x4 x5 : AV) : im c (pcall E k [x1, gv c x2, x3, x4, x5] h).isSome = im c (pcall E k [x1, x2, x3, x4, x5] h).isSome := by cases c <;> rfl
theorem gv_pc51 {c : Bool} (k : Nat) (h : List Ob) (x1 x2 x3 x4 x5 : AV) : gv c ((pcall E k [x1, gv c x2, x3, x4, x5] h).getD und) = gv c ((pcall E k [x1, x2, x3, x4, x5] h).getD und) := by cases c <;> rfl
theorem im_pc52 {c : Bool} (k : Nat) (h : List Ob) (x1 x2 x3 x4 x5 : AV) : im c (pcall E k [x1, x2, gv c x3, x4, x5] h).isSome = im c (pcall E k [x1, x2, x3, x4, x5] h).isSome := by cases c <;> rfl
theorem gv_pc52 {c : Bool} (k : Nat) (h : List Ob) (x1 x2 x3 x4 x5 : AV) : gv c ((pcall E k [x1, x2, gv c x3, x4, x5] h).getD und) = gv c ((pcall E k [x1, x2, x3, x4, x5] h).getD und) := by cases c <;> rfl
theorem im_pc53 {c : Bool} (k : Nat) (h : List Ob) (x1 x2 x3 x4 x5 : AV) : im c (pcall E k [x1, x2, x3, gv c x4, x5] h).isSome = im c (pcall E k [x1, x2, x3, x4, x5] h).isSome := by cases c <;> rfl
theorem gv_pc53 {c : Bool} (k : Nat) (h : List Ob) (x1 x2 x3 x4 x5 : AV) : gv c ((pcall E k [x1, x2, x3, gv c x4, x5] h).getD und) = gv c ((pcall E k [x1, x2, x3, x4, x5] h).getD und) := by cases c <;> rfl
theorem im_pc54 {c : Bool} (k : Nat) (h : List Ob) (x1 x2 x3 x4 x5 : AV) : im c (pcall E k [x1, x2, x3, x4, gv c x5] h).isSome = im c (pcall E k [x1, x2, x3, x4, x5] h).isSome := by cases c <;> rfl
theorem gv_pc54 {c : Bool} (k : Nat) (h : List Ob) (x1 x2 x3 x4 x5 : AV) : gv c ((pcall E k [x1, x2, x3, x4, gv c x5] h).getD und) = gv c ((pcall E k [x1, x2, x3, x4, x5] h).getD und) := by cases c <;> rfl

/-- A call of a known function, by what is known of it. -/
theorem rg_call_of {k : Nat} {caps : List AV} {xs : List Opd} {v : AV} (hc : ecall E k (xs.map (ev n f) ++ caps) h = some (v, h, h.length, h.length)) (hn : n0 ≤ h.length) (hr : rg E n0 n l K (updO f d v) h) :
    rg E n0 n (⟨d, .call (.k (.fn k caps)) xs, none, av, q⟩ :: l) K f h := by
  rw [rg_call]
  exact ⟨k, caps, rfl, v, h, h.length, h.length, hc, hn, hn, fun _ => Nat.le_refl _, hn, rfl, hr⟩

/-- A call that leaves the objects as they are, by its value. -/
theorem rg_callp {g : Opd} {xs : List Opd} (hp : (pcallV E (ev n f g) (xs.map (ev n f)) h).isSome = true) : rg E n0 n (⟨d, .call g xs, none, av, q⟩ :: l) K f h = (n0 ≤ h.length ∧ rg E n0 n l K (updO f d ((pcallV E (ev n f g) (xs.map (ev n f)) h).getD und)) h) := by
  obtain ⟨v, hv⟩ := Option.isSome_iff_exists.1 hp
  rw [hv]
  obtain ⟨⟨k, caps⟩, hg, hc⟩ := Option.bind_eq_some_iff.1 hv
  have hg' : ev n f g = .fn k caps := by
    cases hx : ev n f g <;> rw [hx] at hg <;> simp [fnOf] at hg
    rw [hg.1, hg.2]
  have hc' := pcall_some.1 hc
  rw [rg_call, hg']
  simp only [Option.getD_some]
  apply propext
  constructor
  · rintro ⟨k', caps', e, v', hh, wl, wa, e1, h1, h2, h3, h5, h6, h4⟩
    simp only [AV.fn.injEq] at e
    obtain ⟨rfl, rfl⟩ := e
    rw [hc'] at e1
    simp only [Option.some.injEq, Prod.mk.injEq] at e1
    obtain ⟨rfl, rfl, rfl, rfl⟩ := e1
    exact ⟨h1, h4⟩
  · rintro ⟨h1, h4⟩
    exact ⟨k, caps, rfl, v, h, h.length, h.length, hc', h1, h1, fun _ => Nat.le_refl _, h1, rfl, h4⟩
theorem avoids_nil (ρ : Opd → AV) (op : I) : avoids ρ op [] = true := by unfold avoids; split <;> rfl
def tgtA : AV → Option Nat
  | .ptr id _ _ => some id
  | .sl false id _ _ _ _ => some id
  | _ => none
def apart : Option Nat → AV → Bool
  | some id, .ptr id' _ _ => decide (id' ≠ id)
  | _, _ => true
theorem tgt_st {ρ : Opd → AV} (k : Nat) (a x : Opd) (av : List Opd) : avoids ρ (.st k a x) av = true ↔ ∀ y ∈ av, apart (match ρ a with | .ptr id _ _ => some id | _ => none) (ρ y) = true := by
  simp only [avoids, tgt]
  cases ρ a <;> simp only [apart, implies_true]
  simp only [List.all_eq_true]
  refine forall_congr' fun y => forall_congr' fun _ => ?_
  cases ρ y <;> simp [apart]
def ptrId : AV → Option Nat
  | .ptr id _ _ => some id
  | _ => none
theorem avoids_st {ρ : Opd → AV} (k : Nat) (a x y : Opd) (av : List Opd) : avoids ρ (.st k a x) (y :: av) = (apart (ptrId (ρ a)) (ρ y) && avoids ρ (.st k a x) av) := by
  simp only [avoids, tgt]
  cases ρ a <;> simp only [ptrId, apart, Bool.true_and]
  simp only [List.all_cons]
  cases ρ y <;> simp only [apart]
  rename_i i1 _ _ i2 _ _
  by_cases hi : i2 = i1 <;> simp [hi]
theorem ptrId_ptr (id ep off : Nat) : ptrId (.ptr id ep off) = some id := Eq.trans rfl rfl
theorem apart_ptr (i id ep off : Nat) : apart (some i) (.ptr id ep off) = decide (id ≠ i) := Eq.trans rfl rfl
theorem upd_self {f : Fr} {i : Nat} {v : AV} (hv : f i = v) : upd f i v = f := by
  funext j
  simp only [upd]
  split
  · rename_i e; rw [e, hv]
  · rfl
theorem wc_cond_t (i : Nat) (x y : CC) (Q : Ex → Fr → List Ob → Prop) (hi : i < n) : wc E n0 n (.cond (.t i) x y) Q f h = (isBool (f i) = true ∧ (bv (f i) = true → wc E n0 n x Q (upd f i (.bool true)) h) ∧ (bv (f i) = false → wc E n0 n y Q (upd f i (.bool false)) h)) := by
  show (isBool (ev n f (.t i)) = true ∧ (bv (ev n f (.t i)) = true → wc E n0 n x Q f h) ∧ (bv (ev n f (.t i)) = false → wc E n0 n y Q f h)) = _
  have e : ev n f (.t i) = f i := by simp only [ev]; rw [if_pos hi]
  rw [e]
  cases hf : f i <;> simp only [isBool, Bool.false_eq_true, false_and]
  rename_i b
  cases b
  · rw [upd_self hf]; simp [bv]
  · rw [upd_self hf]; simp [bv]
theorem wc_cond_k (v : AV) (x y : CC) (Q : Ex → Fr → List Ob → Prop) : wc E n0 n (.cond (.k v) x y) Q f h = (isBool v = true ∧ (bv v = true → wc E n0 n x Q f h) ∧ (bv v = false → wc E n0 n y Q f h)) := Eq.trans rfl rfl
theorem wc_skip (Q : Ex → Fr → List Ob → Prop) : wc E n0 n .skip Q f h = Q .nrm f h := Eq.trans rfl rfl
theorem wc_reg (Q : Ex → Fr → List Ob → Prop) : wc E n0 n (.reg l) Q f h = rg E n0 n l (Q .nrm) f h := Eq.trans rfl rfl
theorem wc_seq (a b : CC) (Q : Ex → Fr → List Ob → Prop) : wc E n0 n (.seq a b) Q f h = wc E n0 n a (thenQ (wc E n0 n b Q) Q) f h := Eq.trans rfl rfl
theorem wc_cond (c : Opd) (x y : CC) (Q : Ex → Fr → List Ob → Prop) : wc E n0 n (.cond c x y) Q f h = (isBool (ev n f c) = true ∧ (bv (ev n f c) = true → wc E n0 n x Q f h) ∧ (bv (ev n f c) = false → wc E n0 n y Q f h)) := Eq.trans rfl rfl
theorem wc_blk (id : Nat) (x : CC) (Q : Ex → Fr → List Ob → Prop) : wc E n0 n (.blk id x) Q f h = wc E n0 n x (leaveQ id Q) f h := Eq.trans rfl rfl
theorem wc_loop (x : CC) (Q : Ex → Fr → List Ob → Prop) : wc E n0 n (.loop x) Q f h = W E n0 n (.loop x) Q f h := Eq.trans rfl rfl
theorem wc_exit (id : Nat) (Q : Ex → Fr → List Ob → Prop) : wc E n0 n (.exit id) Q f h = Q (.ex id) f h := Eq.trans rfl rfl
theorem wc_ret (Q : Ex → Fr → List Ob → Prop) : wc E n0 n .ret Q f h = Q .rt f h := Eq.trans rfl rfl
theorem thenQ_n (k : Fr → List Ob → Prop) (Q : Ex → Fr → List Ob → Prop) : thenQ k Q .nrm f h = k f h := Eq.trans rfl rfl
theorem thenQ_e (k : Fr → List Ob → Prop) (Q : Ex → Fr → List Ob → Prop) (i : Nat) : thenQ k Q (.ex i) f h = Q (.ex i) f h := Eq.trans rfl rfl
theorem thenQ_r (k : Fr → List Ob → Prop) (Q : Ex → Fr → List Ob → Prop) : thenQ k Q .rt f h = Q .rt f h := Eq.trans rfl rfl
theorem leaveQ_n (id : Nat) (Q : Ex → Fr → List Ob → Prop) : leaveQ id Q .nrm f h = Q .nrm f h := Eq.trans rfl rfl
theorem leaveQ_e (id i : Nat) (Q : Ex → Fr → List Ob → Prop) : leaveQ id Q (.ex i) f h = if i = id then Q .nrm f h else Q (.ex i) f h := Eq.trans rfl rfl
theorem leaveQ_r (id : Nat) (Q : Ex → Fr → List Ob → Prop) : leaveQ id Q .rt f h = Q .rt f h := Eq.trans rfl rfl
theorem exOk_n : exOk .nrm = true := Eq.trans rfl rfl
theorem exOk_r : exOk .rt = true := Eq.trans rfl rfl
theorem rvq_nil : rvq n f h [] = some [] := Eq.trans rfl rfl
theorem rvq_t (i : Nat) (r : List RV) : rvq n f h (.t i :: r) = (rvq n f h r).map fun vs => ev n f (.t i) :: vs := Eq.trans rfl rfl
theorem rvq_c1 (i : Nat) (r : List RV) : rvq n f h (.c1 i :: r) = (ld1A h (ev n f (.t i))).bind fun v => (rvq n f h r).map fun vs => v :: vs := Eq.trans rfl rfl
theorem rvq_cn (k i : Nat) (r : List RV) : rvq n f h (.cn k i :: r) = (ldnA k h (ev n f (.t i))).bind fun v => (rvq n f h r).map fun vs => v :: vs := Eq.trans rfl rfl
theorem mkRes1 (v : AV) : mkRes [v] = v := Eq.trans rfl rfl
theorem mkRes2 (v w : AV) : mkRes [v, w] = .tup [v, w] := Eq.trans rfl rfl
theorem mkRes3 (v w x : AV) : mkRes [v, w, x] = .tup [v, w, x] := Eq.trans rfl rfl

/-! ### Values of the quiet operations, the others -/
variable {ρ : Opd → AV}
def nchkA : AV → Option AV
  | .ptr id ep off => some (.ptr id ep off)
  | .fn g cap => some (.fn g cap)
  | _ => none
theorem kq_nchk (x : Opd) : kq ρ h (.nchk x) = (nchkA (ρ x)).isSome := by simp only [kq, aop]; cases ρ x <;> rfl
theorem vq_nchk (x : Opd) : vq ρ h (.nchk x) = (nchkA (ρ x)).getD und := by simp only [vq, aop]; cases ρ x <;> rfl
theorem nchkA_ptr (id ep off : Nat) : nchkA (.ptr id ep off) = some (.ptr id ep off) := Eq.trans rfl rfl
theorem nchkA_fn (g : Nat) (c : List AV) : nchkA (.fn g c) = some (.fn g c) := Eq.trans rfl rfl
theorem kq_mk (zs : List AV) (ps : List (Nat × Nat × Opd)) : kq ρ h (.mk zs ps) = (lay ρ zs ps).isSome := by simp only [kq, aop]; cases lay ρ zs ps <;> rfl
theorem vq_mk (zs : List AV) (ps : List (Nat × Nat × Opd)) : vq ρ h (.mk zs ps) = match lay ρ zs ps with | some cs => .agg cs | none => und := by simp only [vq, aop]; cases lay ρ zs ps <;> rfl
theorem lay_nil (cs : List AV) : lay ρ cs [] = some cs := Eq.trans rfl rfl
theorem lay_cons (cs : List AV) (off k : Nat) (x : Opd) (r : List (Nat × Nat × Opd)) : lay ρ cs ((off, k, x) :: r) = if (cellsOf (ρ x)).length = k ∧ off + k ≤ cs.length ∧ (ρ x).isTup = false then lay ρ (wr cs off (cellsOf (ρ x))) r else none := Eq.trans rfl rfl
theorem wr_def (cs : List AV) (off : Nat) (new : List AV) : wr cs off new = if new.length = cs.length then new else cs.take off ++ new ++ cs.drop (off + new.length) := Eq.trans rfl rfl
def eqbA (neg : Bool) : AV → AV → Option AV
  | .bool a, .bool b => some (.bool (xor neg (a == b)))
  | _, _ => none
theorem kq_eqb (neg : Bool) (x y : Opd) : kq ρ h (.eqs neg none x y) = (eqbA neg (ρ x) (ρ y)).isSome := by simp only [kq, aop]; cases ρ x <;> cases ρ y <;> rfl
theorem vq_eqb (neg : Bool) (x y : Opd) : vq ρ h (.eqs neg none x y) = (eqbA neg (ρ x) (ρ y)).getD und := by simp only [vq, aop]; cases ρ x <;> cases ρ y <;> rfl
theorem eqbA_b (neg a b : Bool) : eqbA neg (.bool a) (.bool b) = some (.bool (xor neg (a == b))) := Eq.trans rfl rfl
def eqsA (neg : Bool) (ks : List PK) : AV → AV → Option AV
  | .agg xs, .agg ys => (aeqs ks xs ys).map fun b => .bool (xor neg b)
  | _, _ => none
theorem kq_eqs (neg : Bool) (ks : List PK) (x y : Opd) : kq ρ h (.eqs neg (some ks) x y) = (eqsA neg ks (ρ x) (ρ y)).isSome := by
  simp only [kq, aop]; cases ρ x <;> cases ρ y <;> simp only [eqsA] <;> (try rfl)
  simp
theorem vq_eqs (neg : Bool) (ks : List PK) (x y : Opd) : vq ρ h (.eqs neg (some ks) x y) = (eqsA neg ks (ρ x) (ρ y)).getD und := by
  simp only [vq, aop]; cases ρ x <;> cases ρ y <;> simp only [eqsA] <;> (try rfl)
  simp only [Option.map_map]; rfl
theorem eqsA_agg (neg : Bool) (ks : List PK) (xs ys : List AV) : eqsA neg ks (.agg xs) (.agg ys) = (aeqs ks xs ys).map fun b => .bool (xor neg b) := Eq.trans rfl rfl
theorem aeqs_nil : aeqs [] [] [] = some true := Eq.trans rfl rfl
theorem aeqs_i (ks : List PK) (k : IntKind) (a b : Int) (xs ys : List AV) : aeqs (.i :: ks) (.int k a :: xs) (.int k b :: ys) = (aeqs ks xs ys).map fun c => (a == b) && c := by
  simp only [aeqs, aeq1, if_true]; cases aeqs ks xs ys <;> rfl
theorem aeqs_b (ks : List PK) (a b : Bool) (xs ys : List AV) : aeqs (.b :: ks) (.bool a :: xs) (.bool b :: ys) = (aeqs ks xs ys).map fun c => (a == b) && c := by
  simp only [aeqs, aeq1]; cases aeqs ks xs ys <;> rfl
theorem aeqs_s (ks : List PK) (a b : ByteArray) (xs ys : List AV) : aeqs (.s :: ks) (.str a :: xs) (.str b :: ys) = (aeqs ks xs ys).map fun c => (a == b) && c := by
  simp only [aeqs, aeq1]; cases aeqs ks xs ys <;> rfl
def eqnA (neg : Bool) : Nat → AV → Option AV
  | 0, .sl nl _ _ _ _ _ => some (.bool (xor neg nl))
  | 0, .s0 nl => some (.bool (xor neg nl))
  | 1, .ptr _ _ _ => some (.bool neg)
  | 1, .np => some (.bool (!neg))
  | 2, .fn _ _ => some (.bool neg)
  | 2, .nf => some (.bool (!neg))
  | _, _ => none
theorem aop_eqn (s : Mem) (neg : Bool) (k : Nat) (x : Opd) : aop ρ s (.eqn neg k x) = (eqnA neg k (ρ x)).map fun v => (v, s) := by
  rcases k with _ | _ | _ | k <;> simp only [aop] <;> cases ρ x <;> rfl
theorem kq_eqn (neg : Bool) (k : Nat) (x : Opd) : kq ρ h (.eqn neg k x) = (eqnA neg k (ρ x)).isSome := by
  simp only [kq, aop_eqn]; cases eqnA neg k (ρ x) <;> rfl
theorem vq_eqn (neg : Bool) (k : Nat) (x : Opd) : vq ρ h (.eqn neg k x) = (eqnA neg k (ρ x)).getD und := by
  simp only [vq, aop_eqn]; cases eqnA neg k (ρ x) <;> rfl
theorem eqnA_sl (neg nl : Bool) (id ep sz off len : Nat) : eqnA neg 0 (.sl nl id ep sz off len) = some (.bool (xor neg nl)) := Eq.trans rfl rfl
theorem eqnA_s0 (neg nl : Bool) : eqnA neg 0 (.s0 nl) = some (.bool (xor neg nl)) := Eq.trans rfl rfl
def cviA (k : IntKind) : AV → Option AV
  | .int _ a => some (.int k (k.wrap a))
  | _ => none
theorem kq_cvi (k : IntKind) (x : Opd) : kq ρ h (.cvi k x) = (cviA k (ρ x)).isSome := by simp only [kq, aop]; cases ρ x <;> rfl
theorem vq_cvi (k : IntKind) (x : Opd) : vq ρ h (.cvi k x) = (cviA k (ρ x)).getD und := by simp only [vq, aop]; cases ρ x <;> rfl
theorem cviA_i (k k' : IntKind) (a : Int) : cviA k (.int k' a) = some (.int k (k.wrap a)) := Eq.trans rfl rfl
theorem kq_mkf (g : Nat) (cs : List Opd) : kq ρ h (.mkf g cs) = true := Eq.trans rfl rfl
theorem vq_mkf (g : Nat) (cs : List Opd) : vq ρ h (.mkf g cs) = .fn g (cs.map ρ) := Eq.trans rfl rfl
def slcA (sz : Nat) (lo hi : Option Int) : AV → Option AV
  | .sl nl id ep sz' off len =>
    if 0 ≤ lo.getD 0 ∧ lo.getD 0 ≤ hi.getD len ∧ hi.getD len ≤ len ∧ (nl = true ∨ sz' = sz) then some (.sl nl id ep sz' (off + (lo.getD 0).toNat * sz) ((hi.getD len).toNat - (lo.getD 0).toNat)) else none
  | .s0 nl => if lo.getD 0 = 0 ∧ hi.getD 0 = 0 then some (.s0 nl) else none
  | _ => none
def obd (ρ : Opd → AV) : Option Opd → Option (Option Int)
  | none => some none
  | some x => match ρ x with
    | .int _ a => some (some a)
    | _ => none
theorem bound_obd (k : Nat) (o : Option Opd) : bound ρ k o = (obd ρ o).map fun x => x.getD k := by
  cases o with
  | none => rfl
  | some x => simp only [bound, obd]; cases ρ x <;> rfl
theorem aop_slc (s : Mem) (sz : Nat) (x : Opd) (lo hi : Option Opd) : aop ρ s (.slc sz x lo hi) = (obd ρ lo).bind fun a => (obd ρ hi).bind fun b => (slcA sz a b (ρ x)).map fun v => (v, s) := by
  simp only [aop, bound_obd]
  cases ρ x <;> simp only [slcA, Option.map_none] <;> cases obd ρ lo <;> (try rfl) <;> cases obd ρ hi <;> (try rfl) <;> simp only [Option.map_some, Option.bind_some, apply_ite (Option.map fun v => (v, s)), Option.map_none] <;> rfl
theorem kq_slc (sz : Nat) (x : Opd) (lo hi : Option Opd) : kq ρ h (.slc sz x lo hi) = ((obd ρ lo).bind fun a => (obd ρ hi).bind fun b => slcA sz a b (ρ x)).isSome := by
  simp only [kq, aop_slc]; cases obd ρ lo <;> (try rfl); cases obd ρ hi <;> (try rfl); simp only [Option.bind_some]; cases slcA sz _ _ (ρ x) <;> rfl
theorem vq_slc (sz : Nat) (x : Opd) (lo hi : Option Opd) : vq ρ h (.slc sz x lo hi) = ((obd ρ lo).bind fun a => (obd ρ hi).bind fun b => slcA sz a b (ρ x)).getD und := by
  simp only [vq, aop_slc]; cases obd ρ lo <;> (try rfl); cases obd ρ hi <;> (try rfl); simp only [Option.bind_some]; cases slcA sz _ _ (ρ x) <;> rfl
theorem obd_none : obd ρ none = some none := Eq.trans rfl rfl
theorem obd_some {x : Opd} : obd ρ (some x) = (toI (ρ x)).map some := by simp only [obd, toI]; cases ρ x <;> rfl
theorem toI_int (k : IntKind) (a : Int) : toI (.int k a) = some a := Eq.trans rfl rfl
def fld1A (off : Nat) : AV → Option AV
  | .agg cs => getC cs off
  | _ => none
theorem kq_fld1 (off : Nat) (x : Opd) : kq ρ h (.fld1 off x) = (fld1A off (ρ x)).isSome := by
  simp only [kq, aop]; cases ρ x <;> simp only [fld1A] <;> (try rfl)
  rename_i cs; simp only [getC]; cases cs[off]? <;> rfl
theorem vq_fld1 (off : Nat) (x : Opd) : vq ρ h (.fld1 off x) = (fld1A off (ρ x)).getD und := by
  simp only [vq, aop]; cases ρ x <;> simp only [fld1A] <;> (try rfl)
  rename_i cs; simp only [getC]; cases cs[off]? <;> rfl
theorem fld1A_agg (off : Nat) (cs : List AV) : fld1A off (.agg cs) = getC cs off := Eq.trans rfl rfl
def fldnA (off k : Nat) : AV → Option AV
  | .agg cs => some (.agg ((cs.drop off).take k))
  | _ => none
theorem kq_fldn (off k : Nat) (x : Opd) : kq ρ h (.fldn off k x) = (fldnA off k (ρ x)).isSome := by simp only [kq, aop]; cases ρ x <;> rfl
theorem vq_fldn (off k : Nat) (x : Opd) : vq ρ h (.fldn off k x) = (fldnA off k (ρ x)).getD und := by simp only [vq, aop]; cases ρ x <;> rfl
theorem fldnA_agg (off k : Nat) (cs : List AV) : fldnA off k (.agg cs) = some (.agg ((cs.drop off).take k)) := Eq.trans rfl rfl
def lenvA : Bool → AV → Option AV
  | false, .sl _ _ _ _ _ len => some (.int .i64 len)
  | false, .s0 _ => some (.int .i64 0)
  | true, .str b => some (.int .i64 b.size)
  | _, _ => none
theorem kq_lenv (s : Bool) (x : Opd) : kq ρ h (.lenv s x) = (lenvA s (ρ x)).isSome := by simp only [kq, aop]; cases s <;> cases ρ x <;> rfl
theorem vq_lenv (s : Bool) (x : Opd) : vq ρ h (.lenv s x) = (lenvA s (ρ x)).getD und := by simp only [vq, aop]; cases s <;> cases ρ x <;> rfl
theorem lenvA_sl (nl : Bool) (id ep sz off len : Nat) : lenvA false (.sl nl id ep sz off len) = some (.int .i64 len) := Eq.trans rfl rfl
theorem lenvA_s0 (nl : Bool) : lenvA false (.s0 nl) = some (.int .i64 0) := Eq.trans rfl rfl
theorem lenvA_str (b : ByteArray) : lenvA true (.str b) = some (.int .i64 b.size) := Eq.trans rfl rfl
theorem kq_lenc (k : Nat) : kq ρ h (.lenc k) = true := Eq.trans rfl rfl
theorem vq_lenc (k : Nat) : vq ρ h (.lenc k) = .int .i64 k := Eq.trans rfl rfl
theorem kq_mnx (mx : Bool) (x : Opd) (xs : List Opd) : kq ρ h (.mnx mx x xs) = (amn mx (ρ x) (xs.map ρ)).isSome := by simp only [kq, aop]; cases amn mx (ρ x) (xs.map ρ) <;> rfl
theorem vq_mnx (mx : Bool) (x : Opd) (xs : List Opd) : vq ρ h (.mnx mx x xs) = (amn mx (ρ x) (xs.map ρ)).getD und := by simp only [vq, aop]; cases amn mx (ρ x) (xs.map ρ) <;> rfl
theorem amn_nil (mx : Bool) (v : AV) : amn mx v [] = some v := Eq.trans rfl rfl
theorem amn_max (k : IntKind) (a b : Int) (r : List AV) : amn true (.int k a) (.int k b :: r) = amn true (.int k (max a b)) r := by
  simp only [amn, amn2, if_true, Option.bind_some]
  have : (if b > a then b else a) = max a b := by omega
  rw [this]
theorem amn_min (k : IntKind) (a b : Int) (r : List AV) : amn false (.int k a) (.int k b :: r) = amn false (.int k (min a b)) r := by
  simp only [amn, amn2, Bool.false_eq_true, if_false, Option.bind_some]
  have : (if b < a then b else a) = min a b := by omega
  rw [this]
/-- An index into a slice. -/
def idxOk (sz : Nat) : AV → AV → Prop
  | .sl nl _ _ sz' _ len, .int _ i => 0 ≤ i ∧ i < len ∧ nl = false ∧ sz' = sz
  | _, _ => False
def idxV (sz : Nat) : AV → AV → AV
  | .sl _ id ep _ off _, .int _ i => .ptr id ep (off + i.toNat * sz)
  | _, _ => und
theorem iad_eq (sz : Nat) (x i : Opd) (P : AV → Prop) : (kq ρ h (.iad sz x i) = true ∧ P (vq ρ h (.iad sz x i))) = (idxOk sz (ρ x) (ρ i) ∧ P (idxV sz (ρ x) (ρ i))) := by
  simp only [kq, vq, aop]
  cases ρ x <;> cases ρ i <;> simp only [idxOk, idxV, Option.isSome_none, Option.map_none, Option.getD_none, Bool.false_eq_true, false_and]
  rename_i nl id ep sz' off len k i
  by_cases hc : 0 ≤ i ∧ i < len ∧ nl = false ∧ sz' = sz
  · rw [if_pos hc]; simp [hc]
  · rw [if_neg hc]; simp only [Option.isSome_none, Bool.false_eq_true, false_and, hc]
theorem rg_iad {sz : Nat} {x i : Opd} : rg E n0 n (⟨d, .iad sz x i, none, av, q⟩ :: l) K f h = (idxOk sz (ev n f x) (ev n f i) ∧ rg E n0 n l K (updO f d (idxV sz (ev n f x) (ev n f i))) h) := by
  rw [rg_q (qt_iad sz x i)]
  exact iad_eq sz x i fun v => rg E n0 n l K (updO f d v) h
theorem idxOk_sl (sz : Nat) (nl : Bool) (id ep sz' off len : Nat) (k : IntKind) (i : Int) : idxOk sz (.sl nl id ep sz' off len) (.int k i) = (0 ≤ i ∧ i < len ∧ nl = false ∧ sz' = sz) := Eq.trans rfl rfl
theorem idxV_sl (sz : Nat) (nl : Bool) (id ep sz' off len : Nat) (k : IntKind) (i : Int) : idxV sz (.sl nl id ep sz' off len) (.int k i) = .ptr id ep (off + i.toNat * sz) := Eq.trans rfl rfl
/-- Under a guard: the index must be good where it is wanted. -/
theorem rg_iadg {sz s : Nat} {want : Bool} {x i : Opd} : rg E n0 n (⟨d, .iad sz x i, some (s, want), av, q⟩ :: l) K f h =
    ((wnt (ev n f (.t s)) want = true → idxOk sz (ev n f x) (ev n f i)) ∧ rg E n0 n l K (updO f d (gv (wnt (ev n f (.t s)) want) (idxV sz (ev n f x) (ev n f i)))) h) := by
  rw [rg_qg (qt_iad sz x i)]
  generalize wnt (ev n f (.t s)) want = c
  cases c with
  | false => simp [im, gv]
  | true =>
    have := iad_eq (ρ := ev n f) (h := h) sz x i fun v => rg E n0 n l K (updO f d v) h
    simp only [im, gv, Bool.not_true, Bool.false_or, if_true, true_implies]
    rw [this]
theorem abin_quo (k : IntKind) (a b : Int) (hb : b ≠ 0) : abin .quo (.int k a) (.int k b) = some (.int k (k.wrap (a.tdiv b))) := by simp [abin, hb]
theorem abin_rem (k : IntKind) (a b : Int) (hb : b ≠ 0) : abin .rem (.int k a) (.int k b) = some (.int k (a.tmod b)) := by simp [abin, hb]
theorem abin_seql (a b : ByteArray) : abin .eql (.str a) (.str b) = some (.bool (a.toList == b.toList)) := Eq.trans rfl rfl
theorem abin_sneq (a b : ByteArray) : abin .neq (.str a) (.str b) = some (.bool !(a.toList == b.toList)) := Eq.trans rfl rfl
theorem aun_neg (k : IntKind) (a : Int) : aun .neg (.int k a) = some (.int k (k.wrap (0 - a))) := Eq.trans rfl rfl
theorem aun_not (b : Bool) : aun .not (.bool b) = some (.bool !b) := Eq.trans rfl rfl
theorem aext_tup (vs : List AV) (i : Nat) : aext (.tup vs) i = getC vs i := Eq.trans rfl rfl
theorem isTup_bool (b : Bool) : (AV.bool b).isTup = false := Eq.trans rfl rfl
theorem isTup_str (b : ByteArray) : (AV.str b).isTup = false := Eq.trans rfl rfl
theorem isTup_sl (nl : Bool) (id ep sz off len : Nat) : (AV.sl nl id ep sz off len).isTup = false := Eq.trans rfl rfl
theorem isTup_ptr (id ep off : Nat) : (AV.ptr id ep off).isTup = false := Eq.trans rfl rfl
theorem cells_int (k : IntKind) (a : Int) : cellsOf (.int k a) = [.int k a] := Eq.trans rfl rfl
theorem cells_bool (b : Bool) : cellsOf (.bool b) = [.bool b] := Eq.trans rfl rfl
theorem cells_str (b : ByteArray) : cellsOf (.str b) = [.str b] := Eq.trans rfl rfl
theorem cells_sl (nl : Bool) (id ep sz off len : Nat) : cellsOf (.sl nl id ep sz off len) = [.sl nl id ep sz off len] := Eq.trans rfl rfl
theorem cells_ptr (id ep off : Nat) : cellsOf (.ptr id ep off) = [.ptr id ep off] := Eq.trans rfl rfl

/-! ### Memory -/
theorem stOk_ptr (k : Nat) (h : List Ob) (id ep off : Nat) (x : AV) : stOk n0 k h (.ptr id ep off) x = match rdObj h id ep with
    | some o => (cellsOf x).length = k ∧ off + k ≤ o.cs.length ∧ x.isTup = false ∧ o.rw = true ∧ n0 ≤ id
    | none => False := Eq.trans rfl rfl
theorem stH_ptr (h : List Ob) (id ep off : Nat) (x : AV) : stH h (.ptr id ep off) x = match rdObj h id ep with
    | some o => putObj h id off (cellsOf x) o
    | none => h := Eq.trans rfl rfl
/-- An object that is there stays where more are added. -/
theorem rd_keep {h l : List Ob} {id ep : Nat} {o : Ob} (e : rdObj h id ep = some o) : rdObj (h ++ l) id ep = some o := by
  unfold rdObj at e ⊢
  cases hh : h[id]? with
  | none => rw [hh] at e; cases e
  | some x =>
    rw [List.getElem?_append_left (List.getElem?_eq_some_iff.1 hh).1, hh]
    rw [hh] at e; exact e
theorem rd_lt {h : List Ob} {id ep : Nat} {o : Ob} (e : rdObj h id ep = some o) : id < h.length := by
  unfold rdObj at e
  cases hh : h[id]? with
  | none => rw [hh] at e; cases e
  | some x => exact (List.getElem?_eq_some_iff.1 hh).1
theorem put_new {H l : List Ob} (j off : Nat) (new : List AV) (o : Ob) : putObj (H ++ l) (H.length + j) off new o = H ++ putObj l j off new o := by
  unfold putObj; rw [List.set_append_right _ _ (by omega), Nat.add_sub_cancel_left]
theorem put_new0 {H l : List Ob} (off : Nat) (new : List AV) (o : Ob) : putObj (H ++ l) H.length off new o = H ++ putObj l 0 off new o := put_new 0 off new o
theorem put_0 (x : Ob) (l : List Ob) (off : Nat) (new : List AV) (o : Ob) : putObj (x :: l) 0 off new o = { o with cs := wr o.cs off new, fl := o.fl && new.all AV.scalar } :: l := Eq.trans rfl rfl
theorem put_s (x : Ob) (l : List Ob) (j off : Nat) (new : List AV) (o : Ob) : putObj (x :: l) (j + 1) off new o = x :: putObj l j off new o := Eq.trans rfl rfl
theorem rd_put_ne {h : List Ob} {id id' ep off : Nat} {new : List AV} {o : Ob} (hne : id' ≠ id) : rdObj (putObj h id off new o) id' ep = rdObj h id' ep := by
  unfold rdObj putObj; rw [List.getElem?_set_ne (Ne.symm hne)]
theorem rd_put_same {h : List Ob} {id ep off : Nat} {new : List AV} {o : Ob} (e : rdObj h id ep = some o) : rdObj (putObj h id off new o) id ep = some { o with cs := wr o.cs off new, fl := o.fl && new.all AV.scalar } := by
  have hlt := rd_lt e
  have hep : o.ep = ep := by
    unfold rdObj at e
    cases hh : h[id]? with
    | none => rw [hh] at e; cases e
    | some x =>
      rw [hh] at e
      simp only at e
      split at e
      · simp only [Option.some.injEq] at e; subst e; assumption
      · cases e
  unfold rdObj putObj
  rw [List.getElem?_set_self hlt]
  simp [hep]
theorem len_put (h : List Ob) (id off : Nat) (new : List AV) (o : Ob) : (putObj h id off new o).length = h.length := by simp [putObj]

/-- Elements, cells after cells. -/
def flat {α : Type} (c : α → List AV) (l : List α) : List AV := (l.map c).flatten
theorem flat_len {α : Type} {c : α → List AV} {k : Nat} (hc : ∀ x, (c x).length = k) : ∀ l : List α, (flat c l).length = l.length * k
  | [] => by simp [flat]
  | x :: l => by
    have := flat_len hc l
    simp only [flat, List.map_cons, List.flatten_cons, List.length_append, hc, List.length_cons, Nat.succ_mul] at this ⊢
    omega
theorem flat_take {α : Type} {c : α → List AV} {k : Nat} (hc : ∀ x, (c x).length = k) : ∀ (l : List α) (i : Nat) (x : α), l[i]? = some x → ((flat c l).drop (i * k)).take k = c x
  | [], i, x, h => by simp at h
  | y :: l, 0, x, h => by
    simp at h; subst h
    simp only [flat, List.map_cons, List.flatten_cons, Nat.zero_mul, List.drop_zero]
    rw [← hc y, List.take_left]
  | y :: l, i + 1, x, h => by
    have := flat_take hc l i x (by simpa using h)
    simp only [flat, List.map_cons, List.flatten_cons, Nat.succ_mul] at this ⊢
    rw [Nat.add_comm, ← List.drop_drop]
    have e : (c y ++ (l.map c).flatten).drop k = (l.map c).flatten := by rw [← hc y, List.drop_left]
    rw [e]; exact this
theorem flat_get {α : Type} {c : α → List AV} {k : Nat} (hc : ∀ x, (c x).length = k) {l : List α} {i j : Nat} {x : α} (h : l[i]? = some x) (hj : j < k) : getC (flat c l) (i * k + j) = getC (c x) j := by
  have := flat_take hc l i x h
  have e : ((flat c l).drop (i * k)).take k = c x := this
  unfold getC
  rw [← e, List.getElem?_take, if_pos hj, List.getElem?_drop]
theorem ldn_flat {α : Type} {c : α → List AV} {k : Nat} (hc : ∀ x, (c x).length = k) {h : List Ob} {id ep : Nat} {o : Ob} {l : List α} {i : Nat} {x : α} (hr : rdObj h id ep = some o) (ho : o.cs = flat c l) (hx : l[i]? = some x) : ldnA k h (.ptr id ep (i * k)) = some (.agg (c x)) := by
  have hi : i < l.length := (List.getElem?_eq_some_iff.1 hx).1
  have hle : i * k + k ≤ l.length * k := by rw [← Nat.succ_mul]; exact Nat.mul_le_mul_right _ hi
  rw [ldnA_ptr, hr]
  simp only [Option.bind_some, ho, flat_len hc]
  rw [if_pos hle, flat_take hc l i x hx]
theorem ld1_flat {α : Type} {c : α → List AV} {k : Nat} (hc : ∀ x, (c x).length = k) {h : List Ob} {id ep : Nat} {o : Ob} {l : List α} {i j : Nat} {x : α} (hr : rdObj h id ep = some o) (ho : o.cs = flat c l) (hx : l[i]? = some x) (hj : j < k) : ld1A h (.ptr id ep (i * k + j)) = getC (c x) j := by
  rw [ld1A_ptr, hr]
  simp only [Option.bind_some, ho]
  exact flat_get hc hx hj

/-! ### Numbers -/
theorem wrap64 {x : Int} (h1 : -9223372036854775808 ≤ x) (h2 : x ≤ 9223372036854775807) : IntKind.i64.wrap x = x := by
  simp only [IntKind.wrap, IntKind.signed, IntKind.bits, Bool.true_and]
  split <;> rename_i hc <;> simp only [decide_eq_true_eq, ge_iff_le] at hc <;> omega
end
end Go.Proofs.Ytaekgifbehoipaa.Eva
