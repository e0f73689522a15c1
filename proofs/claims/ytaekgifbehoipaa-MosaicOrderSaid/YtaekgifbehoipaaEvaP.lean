/- The abstract machine, step by step, in equations to rewrite with. Conditions stand in each lemma. -/
import Derived.Test.YtaekgifbehoipaaEvaO
namespace Go.Proofs.Ytaekgifbehoipaa.Eva
open Go
set_option linter.unusedVariables false
set_option linter.unusedSimpArgs false

/-- Slots, so many, by a function. -/
def mkE (n : Nat) (f : Nat → AV) : List AV := (List.range n).map f
def upd (f : Nat → AV) (d : Nat) (v : AV) : Nat → AV := fun i => if i = d then v else f i
def ofL (l : List AV) : Nat → AV := fun i => l.getD i und
/-- A value under a guard. -/
def gv (c : Bool) (v : AV) : AV := if c then v else und
def gd (b want : Bool) : Bool := b == want
/-- Under a guard something holds. -/
def im (c k : Bool) : Bool := !c || k
def bv : AV → Bool
  | .bool b => b
  | _ => false
def isBool : AV → Bool
  | .bool _ => true
  | _ => false

theorem mkE_len (n : Nat) (f : Nat → AV) : (mkE n f).length = n := by simp [mkE]
theorem mkE_set (n : Nat) (f : Nat → AV) (d : Nat) (v : AV) : (mkE n f).set d v = mkE n (upd f d v) := by
  apply List.ext_getElem?
  intro i
  simp only [mkE, List.getElem?_set, List.getElem?_map, List.getElem?_range', List.length_map, List.length_range]
  by_cases hd : d = i
  · subst hd
    by_cases hn : d < n
    · simp [hn, upd]
    · simp [hn]
  · have : ¬ i = d := fun h => hd h.symm
    simp only [hd, if_false]
    by_cases hn : i < n
    · simp [hn, upd, this]
    · simp [hn]
theorem mkE_get (n : Nat) (f : Nat → AV) (i : Nat) : (mkE n f).getD i und = if i < n then f i else und := by
  simp only [mkE, List.getD, List.getElem?_map]
  by_cases hn : i < n
  · simp [hn]
  · simp [hn]
theorem init_mkE (args : List AV) (nt : Nat) (h : args.length ≤ nt) : args ++ List.replicate (nt - args.length) und = mkE nt (ofL args) := by
  apply List.ext_getElem?
  intro i
  simp only [mkE, List.getElem?_map]
  by_cases hn : i < nt
  · by_cases ha : i < args.length
    · rw [List.getElem?_append_left ha]
      simp [hn, ofL, ha]
    · rw [List.getElem?_append_right (by omega), List.getElem?_replicate]
      have h1 : i - args.length < nt - args.length := by omega
      have h2 : args[i]? = none := List.getElem?_eq_none (by omega)
      simp [hn, ofL, h1, h2]
  · rw [List.getElem?_append_right (by omega), List.getElem?_replicate]
    have h1 : ¬ i - args.length < nt - args.length := by omega
    simp [hn, h1]

/-- An operand's value. -/
def ev (n : Nat) (f : Nat → AV) : Opd → AV
  | .t i => if i < n then f i else und
  | .k v => v
theorem evO_mkE (n : Nat) (f : Nat → AV) : evO (mkE n f) = ev n f := by
  funext x
  cases x with
  | t i => exact mkE_get n f i
  | k v => rfl

/-- A quiet operation's value, and whether it has one. -/
def vq (ρ : Opd → AV) (h : List Ob) (i : I) : AV := ((aop ρ ⟨h, 0, 0⟩ i).map (·.1)).getD und
def kq (ρ : Opd → AV) (h : List Ob) (i : I) : Bool := (aop ρ ⟨h, 0, 0⟩ i).isSome
def I.quiet (i : I) : Bool := !i.loud && !i.isN && !i.isC && (match i with | .bad => false | _ => true)

theorem rd_mem (s : Mem) (id ep : Nat) : rdObj s.h id ep = rdObj (⟨s.h, 0, 0⟩ : Mem).h id ep := rfl

theorem quiet_aop {ρ : Opd → AV} {i : I} (hq : i.quiet = true) (s : Mem) : aop ρ s i = (aop ρ ⟨s.h, 0, 0⟩ i).map fun r => (r.1, s) := by
  cases i <;> simp [I.quiet, I.loud, I.isN, I.isC] at hq <;> simp only [aop] <;> (try rfl) <;> (repeat' (first | rfl | split)) <;> (try simp [Option.map_map]) <;> (try rfl)

/-- A region's end. -/
def nrmE (r : Option St) : Option (Ex × St) := r.map fun s => (.nrm, s)
/-- The states. -/
abbrev stt (n : Nat) (f : Nat → AV) (h : List Ob) (wl wa : Nat) : St := ⟨mkE n f, h, wl, wa⟩

theorem qt_mv (x : Opd) : (I.mv x).quiet = true := Eq.trans rfl rfl
theorem qt_pick (a : Opd) (b : Opd) (x : Opd) : (I.pick a b x).quiet = true := Eq.trans rfl rfl
theorem qt_mk (zs : List AV) (ps : List (Nat × Nat × Opd)) : (I.mk zs ps).quiet = true := Eq.trans rfl rfl
theorem qt_ld1 (x : Opd) : (I.ld1 x).quiet = true := Eq.trans rfl rfl
theorem qt_ldn (k : Nat) (x : Opd) : (I.ldn k x).quiet = true := Eq.trans rfl rfl
theorem qt_nchk (x : Opd) : (I.nchk x).quiet = true := Eq.trans rfl rfl
theorem qt_bin (op : BinOp) (x : Opd) (y : Opd) : (I.bin op x y).quiet = true := Eq.trans rfl rfl
theorem qt_eqs (ng : Bool) (ks : Option (List PK)) (x : Opd) (y : Opd) : (I.eqs ng ks x y).quiet = true := Eq.trans rfl rfl
theorem qt_eqn (ng : Bool) (k : Nat) (x : Opd) : (I.eqn ng k x).quiet = true := Eq.trans rfl rfl
theorem qt_un (op : UnOp) (x : Opd) : (I.un op x).quiet = true := Eq.trans rfl rfl
theorem qt_cvi (k : IntKind) (x : Opd) : (I.cvi k x).quiet = true := Eq.trans rfl rfl
theorem qt_cvs (x : Opd) : (I.cvs x).quiet = true := Eq.trans rfl rfl
theorem qt_mkf (g : Nat) (cs : List Opd) : (I.mkf g cs).quiet = true := Eq.trans rfl rfl
theorem qt_slc (k : Nat) (x : Opd) (a : Option Opd) (b : Option Opd) : (I.slc k x a b).quiet = true := Eq.trans rfl rfl
theorem qt_slz (x : Opd) (a : Opd) (b : Opd) (y : Opd) : (I.slz x a b y).quiet = true := Eq.trans rfl rfl
theorem qt_sla (k : Nat) (j : Nat) (x : Opd) (a : Option Opd) (b : Option Opd) : (I.sla k j x a b).quiet = true := Eq.trans rfl rfl
theorem qt_sls (x : Opd) (a : Option Opd) (b : Option Opd) : (I.sls x a b).quiet = true := Eq.trans rfl rfl
theorem qt_fad (k : Nat) (x : Opd) : (I.fad k x).quiet = true := Eq.trans rfl rfl
theorem qt_fld1 (k : Nat) (x : Opd) : (I.fld1 k x).quiet = true := Eq.trans rfl rfl
theorem qt_fldn (k : Nat) (j : Nat) (x : Opd) : (I.fldn k j x).quiet = true := Eq.trans rfl rfl
theorem qt_iad (k : Nat) (x : Opd) (y : Opd) : (I.iad k x y).quiet = true := Eq.trans rfl rfl
theorem qt_iaa (k : Nat) (j : Nat) (x : Opd) (y : Opd) : (I.iaa k j x y).quiet = true := Eq.trans rfl rfl
theorem qt_ixa (k : Nat) (j : Nat) (ag : Bool) (x : Opd) (y : Opd) : (I.ixa k j ag x y).quiet = true := Eq.trans rfl rfl
theorem qt_ixs (x : Opd) (y : Opd) : (I.ixs x y).quiet = true := Eq.trans rfl rfl
theorem qt_ext (x : Opd) (k : Nat) : (I.ext x k).quiet = true := Eq.trans rfl rfl
theorem qt_lenv (st : Bool) (x : Opd) : (I.lenv st x).quiet = true := Eq.trans rfl rfl
theorem qt_lenc (k : Nat) : (I.lenc k).quiet = true := Eq.trans rfl rfl
theorem qt_capv (x : Opd) : (I.capv x).quiet = true := Eq.trans rfl rfl
theorem qt_mnx (mx : Bool) (x : Opd) (xs : List Opd) : (I.mnx mx x xs).quiet = true := Eq.trans rfl rfl

section
variable {call : CallF} {n : Nat} {f : Nat → AV} {h : List Ob} {wl wa : Nat} {l : List Ins}

theorem reg_nil (s : St) : aReg call [] s = some s := Eq.trans rfl rfl

theorem step_q {d : Nat} {op : I} {av : List Opd} {q : Bool} (hq : op.quiet = true) (hk : kq (ev n f) h op = true) :
    aReg call (⟨some d, op, none, av, q⟩ :: l) (stt n f h wl wa) = aReg call l (stt n (upd f d (vq (ev n f) h op)) h wl wa) := by
  have htgt : tgt (ev n f) op = none := by cases op <;> simp [I.quiet, I.loud, I.isN, I.isC] at hq <;> rfl
  obtain ⟨r, hr⟩ := Option.isSome_iff_exists.1 hk
  have ha : aop (ev n f) ⟨h, wl, wa⟩ op = some (r.1, ⟨h, wl, wa⟩) := by rw [quiet_aop hq]; simp only; rw [hr]; rfl
  have hv : vq (ev n f) h op = r.1 := by simp [vq, hr]
  have hc : op.isC = false := by cases op <;> simp [I.quiet, I.loud, I.isN, I.isC] at hq <;> rfl
  simp only [aReg, aIns, wantedA, if_true]
  cases op <;> (try (simp [I.isC] at hc; done)) <;> simp only [evO_mkE, avoids, htgt, if_true, ha, Option.map_some, Option.bind_some, putT, mkE_set, hv]

theorem step_g {d g : Nat} {want : Bool} {op : I} {av : List Opd} {q : Bool} (hq : op.quiet = true) (hb : isBool (ev n f (.t g)) = true) (hk : im (gd (bv (ev n f (.t g))) want) (kq (ev n f) h op) = true) :
    aReg call (⟨some d, op, some (g, want), av, q⟩ :: l) (stt n f h wl wa) = aReg call l (stt n (upd f d (gv (gd (bv (ev n f (.t g))) want) (vq (ev n f) h op))) h wl wa) := by
  have hb' : ∃ b, ev n f (.t g) = .bool b := by
    cases hx : ev n f (.t g) <;> simp [hx, isBool] at hb
    exact ⟨_, rfl⟩
  obtain ⟨b, hb'⟩ := hb'
  rw [hb'] at hk ⊢
  simp only [bv, gd] at hk ⊢
  have hw : wantedA (mkE n f) (some (g, want)) = (b == want) := by
    simp only [wantedA]
    have : (mkE n f).getD g und = .bool b := by rw [mkE_get]; exact hb'
    rw [this]
  by_cases hc : (b == want) = true
  · rw [hc] at hk
    have := step_q (call := call) (wl := wl) (wa := wa) (l := l) (d := d) (av := av) (q := q) hq (by simpa [im] using hk)
    rw [hc, gv, if_pos rfl, ← this]
    have hn : wantedA (mkE n f) none = true := rfl
    simp only [aReg, aIns, hw, hc, if_true, hn]
  · have hc' : (b == want) = false := by simpa using hc
    simp only [aReg, aIns, hw, hc', Bool.false_eq_true, if_false, Option.bind_some, putT, mkE_set, gv]

/-! ### Values of the quiet operations -/
section
variable {ρ : Opd → AV} {c : Bool}
theorem kq_mv (x : Opd) : kq ρ h (.mv x) = true := Eq.trans rfl rfl
theorem vq_mv (x : Opd) : vq ρ h (.mv x) = ρ x := Eq.trans rfl rfl
def pickA : AV → AV → AV → AV
  | .bool b, x, y => if b then x else y
  | _, _, _ => und
theorem kq_pick (a x y : Opd) : kq ρ h (.pick a x y) = isBool (ρ a) := by
  simp only [kq, aop]; cases ρ a <;> rfl
theorem vq_pick (a x y : Opd) : vq ρ h (.pick a x y) = pickA (ρ a) (ρ x) (ρ y) := by
  simp only [vq, aop]; cases ρ a <;> rfl
def isPtr : AV → Bool
  | .ptr _ _ _ => true
  | _ => false
def fadA (o : Nat) : AV → AV
  | .ptr id ep off => .ptr id ep (off + o)
  | _ => und
theorem kq_fad (o : Nat) (x : Opd) : kq ρ h (.fad o x) = isPtr (ρ x) := by
  simp only [kq, aop]; cases ρ x <;> rfl
theorem vq_fad (o : Nat) (x : Opd) : vq ρ h (.fad o x) = fadA o (ρ x) := by
  simp only [vq, aop]; cases ρ x <;> rfl
def getC (cs : List AV) (off : Nat) : Option AV := cs[off]?
def ld1A (h : List Ob) : AV → Option AV
  | .ptr id ep off => (rdObj h id ep).bind fun o => getC o.cs off
  | _ => none
theorem kq_ld1 (x : Opd) : kq ρ h (.ld1 x) = (ld1A h (ρ x)).isSome := by
  simp only [kq, aop]; cases ρ x <;> simp only [ld1A] <;> (try rfl)
  rename_i id ep off
  cases rdObj h id ep with
  | none => rfl
  | some o => simp only [Option.bind_some, getC]; cases o.cs[off]? <;> rfl
theorem vq_ld1 (x : Opd) : vq ρ h (.ld1 x) = (ld1A h (ρ x)).getD und := by
  simp only [vq, aop]; cases ρ x <;> simp only [ld1A] <;> (try rfl)
  rename_i id ep off
  cases rdObj h id ep with
  | none => rfl
  | some o => simp only [Option.bind_some, getC]; cases o.cs[off]? <;> rfl
def ldnA (n : Nat) (h : List Ob) : AV → Option AV
  | .ptr id ep off => (rdObj h id ep).bind fun o => if off + n ≤ o.cs.length then some (.agg ((o.cs.drop off).take n)) else none
  | _ => none
theorem kq_ldn (n : Nat) (x : Opd) : kq ρ h (.ldn n x) = (ldnA n h (ρ x)).isSome := by
  simp only [kq, aop]; cases ρ x <;> simp only [ldnA] <;> (try rfl)
  rename_i id ep off
  cases rdObj h id ep with
  | none => rfl
  | some o => simp only [Option.bind_some]; split <;> rfl
theorem vq_ldn (n : Nat) (x : Opd) : vq ρ h (.ldn n x) = (ldnA n h (ρ x)).getD und := by
  simp only [vq, aop]; cases ρ x <;> simp only [ldnA] <;> (try rfl)
  rename_i id ep off
  cases rdObj h id ep with
  | none => rfl
  | some o => simp only [Option.bind_some]; split <;> rfl
theorem kq_bin (op : BinOp) (x y : Opd) : kq ρ h (.bin op x y) = (abin op (ρ x) (ρ y)).isSome := by
  simp only [kq, aop]; cases abin op (ρ x) (ρ y) <;> rfl
theorem vq_bin (op : BinOp) (x y : Opd) : vq ρ h (.bin op x y) = (abin op (ρ x) (ρ y)).getD und := by
  simp only [vq, aop]; cases abin op (ρ x) (ρ y) <;> rfl
theorem kq_un (op : UnOp) (x : Opd) : kq ρ h (.un op x) = (aun op (ρ x)).isSome := by
  simp only [kq, aop]; cases aun op (ρ x) <;> rfl
theorem vq_un (op : UnOp) (x : Opd) : vq ρ h (.un op x) = (aun op (ρ x)).getD und := by
  simp only [vq, aop]; cases aun op (ρ x) <;> rfl
theorem kq_ext (x : Opd) (k : Nat) : kq ρ h (.ext x k) = (aext (ρ x) k).isSome := by
  simp only [kq, aop]; cases aext (ρ x) k <;> rfl
theorem vq_ext (x : Opd) (k : Nat) : vq ρ h (.ext x k) = (aext (ρ x) k).getD und := by
  simp only [vq, aop]; cases aext (ρ x) k <;> rfl

theorem abin_add (k : IntKind) (a b : Int) : abin .add (.int k a) (.int k b) = some (.int k (k.wrap (a + b))) := by simp [abin]
theorem abin_sub (k : IntKind) (a b : Int) : abin .sub (.int k a) (.int k b) = some (.int k (k.wrap (a - b))) := by simp [abin]
theorem abin_mul (k : IntKind) (a b : Int) : abin .mul (.int k a) (.int k b) = some (.int k (k.wrap (a * b))) := by simp [abin]
theorem abin_eql (k : IntKind) (a b : Int) : abin .eql (.int k a) (.int k b) = some (.bool (a == b)) := by simp [abin]
theorem abin_neq (k : IntKind) (a b : Int) : abin .neq (.int k a) (.int k b) = some (.bool (a != b)) := by simp [abin]
theorem abin_lss (k : IntKind) (a b : Int) : abin .lss (.int k a) (.int k b) = some (.bool (decide (a < b))) := by simp [abin]
theorem abin_leq (k : IntKind) (a b : Int) : abin .leq (.int k a) (.int k b) = some (.bool (decide (a ≤ b))) := by simp [abin]
theorem abin_gtr (k : IntKind) (a b : Int) : abin .gtr (.int k a) (.int k b) = some (.bool (decide (b < a))) := by simp [abin]
theorem abin_geq (k : IntKind) (a b : Int) : abin .geq (.int k a) (.int k b) = some (.bool (decide (b ≤ a))) := by simp [abin]

theorem isPtr_ptr (id ep off : Nat) : isPtr (.ptr id ep off) = true := Eq.trans rfl rfl
theorem isBool_bool (b : Bool) : isBool (.bool b) = true := Eq.trans rfl rfl
theorem bv_bool (b : Bool) : bv (.bool b) = b := Eq.trans rfl rfl
theorem fadA_ptr (o id ep off : Nat) : fadA o (.ptr id ep off) = .ptr id ep (off + o) := Eq.trans rfl rfl
theorem ld1A_ptr (h : List Ob) (id ep off : Nat) : ld1A h (.ptr id ep off) = (rdObj h id ep).bind fun o => getC o.cs off := Eq.trans rfl rfl
theorem ldnA_ptr (n : Nat) (h : List Ob) (id ep off : Nat) : ldnA n h (.ptr id ep off) = (rdObj h id ep).bind fun o => if off + n ≤ o.cs.length then some (.agg ((o.cs.drop off).take n)) else none := Eq.trans rfl rfl
theorem getC_zero (v : AV) (l : List AV) : getC (v :: l) 0 = some v := Eq.trans rfl rfl
theorem getC_succ (v : AV) (l : List AV) (k : Nat) : getC (v :: l) (k + 1) = getC l k := Eq.trans rfl rfl
theorem cells_agg (l : List AV) : cellsOf (.agg l) = l := Eq.trans rfl rfl
theorem ofL_zero (v : AV) (l : List AV) : ofL (v :: l) 0 = v := Eq.trans rfl rfl
theorem ofL_succ (v : AV) (l : List AV) (k : Nat) : ofL (v :: l) (k + 1) = ofL l k := Eq.trans rfl rfl
theorem ofL_nil (k : Nat) : ofL [] k = und := Eq.trans rfl rfl
theorem isTup_agg (l : List AV) : (AV.agg l).isTup = false := Eq.trans rfl rfl
theorem isTup_int (k : IntKind) (n : Int) : (AV.int k n).isTup = false := Eq.trans rfl rfl
theorem sc_int (k : IntKind) (n : Int) : (AV.int k n).scalar = true := Eq.trans rfl rfl
theorem sc_bool (b : Bool) : (AV.bool b).scalar = true := Eq.trans rfl rfl
theorem sc_str (b : ByteArray) : (AV.str b).scalar = true := Eq.trans rfl rfl
theorem pick_t (x y : AV) : pickA (.bool true) x y = x := Eq.trans rfl rfl
theorem pick_f (x y : AV) : pickA (.bool false) x y = y := Eq.trans rfl rfl

/-! ### Under a guard -/
theorem im_true : im c true = true := by cases c <;> rfl
theorem im_fad (v : AV) : im c (isPtr (gv c v)) = im c (isPtr v) := by cases c <;> rfl
theorem im_ld1 (v : AV) : im c (ld1A h (gv c v)).isSome = im c (ld1A h v).isSome := by cases c <;> rfl
theorem im_ldn (n : Nat) (v : AV) : im c (ldnA n h (gv c v)).isSome = im c (ldnA n h v).isSome := by cases c <;> rfl
theorem im_binl (op : BinOp) (v w : AV) : im c (abin op (gv c v) w).isSome = im c (abin op v w).isSome := by cases c <;> rfl
theorem im_binr (op : BinOp) (v w : AV) : im c (abin op v (gv c w)).isSome = im c (abin op v w).isSome := by cases c <;> rfl
theorem im_un (op : UnOp) (v : AV) : im c (aun op (gv c v)).isSome = im c (aun op v).isSome := by cases c <;> rfl
theorem im_bool (v : AV) : im c (isBool (gv c v)) = im c (isBool v) := by cases c <;> rfl
theorem im_ext (v : AV) (k : Nat) : im c (aext (gv c v) k).isSome = im c (aext v k).isSome := by cases c <;> rfl
theorem gv_gv (v : AV) : gv c (gv c v) = gv c v := by cases c <;> rfl
theorem gv_fad (o : Nat) (v : AV) : gv c (fadA o (gv c v)) = gv c (fadA o v) := by cases c <;> rfl
theorem gv_ld1 (v : AV) : gv c ((ld1A h (gv c v)).getD und) = gv c ((ld1A h v).getD und) := by cases c <;> rfl
theorem gv_ldn (n : Nat) (v : AV) : gv c ((ldnA n h (gv c v)).getD und) = gv c ((ldnA n h v).getD und) := by cases c <;> rfl
theorem gv_binl (op : BinOp) (v w : AV) : gv c ((abin op (gv c v) w).getD und) = gv c ((abin op v w).getD und) := by cases c <;> rfl
theorem gv_binr (op : BinOp) (v w : AV) : gv c ((abin op v (gv c w)).getD und) = gv c ((abin op v w).getD und) := by cases c <;> rfl
theorem gv_un (op : UnOp) (v : AV) : gv c ((aun op (gv c v)).getD und) = gv c ((aun op v).getD und) := by cases c <;> rfl
theorem gv_ext (v : AV) (k : Nat) : gv c ((aext (gv c v) k).getD und) = gv c ((aext v k).getD und) := by cases c <;> rfl
theorem gv_pick (a x y : AV) : gv c (pickA (gv c a) x y) = gv c (pickA a x y) := by cases c <;> rfl
theorem pick_or (b e : Bool) : pickA (.bool b) (.bool true) (gv (gd b false) (.bool e)) = .bool (b || e) := by cases b <;> simp [pickA, gv, gd]
theorem pick_and (b e : Bool) : pickA (.bool b) (gv (gd b true) (.bool e)) (.bool false) = .bool (b && e) := by cases b <;> simp [pickA, gv, gd]

/-! ### Memory -/
theorem rd_new {H l : List Ob} (j ep : Nat) : rdObj (H ++ l) (H.length + j) ep = rdObj l j ep := by
  unfold rdObj; rw [List.getElem?_append_right (by omega), Nat.add_sub_cancel_left]
theorem rd_new0 {H l : List Ob} (ep : Nat) : rdObj (H ++ l) H.length ep = rdObj l 0 ep := rd_new 0 ep
theorem rd_cons0 {o : Ob} {l : List Ob} (ep : Nat) : rdObj (o :: l) 0 ep = if o.ep = ep then some o else none := Eq.trans rfl rfl
theorem rd_consS {o : Ob} {l : List Ob} (j ep : Nat) : rdObj (o :: l) (j + 1) ep = rdObj l j ep := Eq.trans rfl rfl

theorem avoids_none {ρ : Opd → AV} {op : I} {av : List Opd} (h : tgt ρ op = none) : avoids ρ op av = true := by simp [avoids, h]
def obOf (v : AV) : Ob := ⟨cellsOf v, 0, 0, true, (cellsOf v).all AV.scalar⟩
theorem step_box {d : Nat} {x : Opd} {av : List Opd} {q : Bool} (hx : (ev n f x).isTup = false) :
    aReg call (⟨some d, .box x, none, av, q⟩ :: l) (stt n f h wl wa) = aReg call l (stt n (upd f d (.ptr h.length 0 0)) (h ++ [obOf (ev n f x)]) wl wa) := by
  simp only [aReg, aIns, wantedA, if_true, evO_mkE, avoids, tgt, aop, hx, Bool.false_eq_true, if_false, Option.map_some, Option.bind_some, putT, mkE_set, newObj, obOf]
theorem step_new {d : Nat} {zs : List AV} {av : List Opd} {q : Bool} :
    aReg call (⟨some d, .new zs, none, av, q⟩ :: l) (stt n f h wl wa) = aReg call l (stt n (upd f d (.ptr h.length 0 0)) (h ++ [⟨zs, 0, 0, true, zs.all AV.scalar⟩]) wl wa) := by
  simp only [aReg, aIns, wantedA, if_true, evO_mkE, avoids, tgt, aop, Option.map_some, Option.bind_some, putT, mkE_set, newObj]

/-! ### Code and calls -/
variable {E : Nat → Option CF}
theorem andE_nrm (s : St) (k : St → Option (Ex × St)) : andE (some (.nrm, s)) k = k s := Eq.trans rfl rfl
theorem andE_rt (s : St) (k : St → Option (Ex × St)) : andE (some (.rt, s)) k = some (.rt, s) := Eq.trans rfl rfl
theorem andE_ex (i : Nat) (s : St) (k : St → Option (Ex × St)) : andE (some (.ex i, s)) k = some (.ex i, s) := Eq.trans rfl rfl
theorem andE_none (k : St → Option (Ex × St)) : andE none k = none := Eq.trans rfl rfl
theorem andE_ite (c : Prop) [Decidable c] (a b : Option (Ex × St)) (k : St → Option (Ex × St)) : andE (if c then a else b) k = if c then andE a k else andE b k := by split <;> rfl
theorem ec_cond (c : Opd) (x y : CC) : ecode E (.cond c x y) (stt n f h wl wa) = if isBool (ev n f c) = true then (if bv (ev n f c) = true then ecode E x (stt n f h wl wa) else ecode E y (stt n f h wl wa)) else none := by
  rw [ecode_cond, evO_mkE]
  cases ev n f c <;> rfl
def retE (res : List RV) (n0 : Nat) (r : Option (Ex × St)) : Option CallR :=
  r.bind fun r => if exOk r.1 then (rvs r.2 res).map fun vs => fin n0 (mkRes vs) r.2 else none
theorem ec_call {g : Nat} {cf : CF} (hE : E g = some cf) {args : List AV} (hn : args.length = cf.np) (hnt : args.length ≤ cf.nt) (h : List Ob) :
    ecall E g args h = retE cf.res h.length (ecode E cf.code (stt cf.nt (ofL args) h h.length h.length)) := by
  unfold ecall callBy
  rw [hE]
  simp only
  rw [if_pos hn, init_mkE args cf.nt hnt]
  rfl
theorem ret_ite (res : List RV) (n0 : Nat) (c : Prop) [Decidable c] (a b : Option (Ex × St)) : retE res n0 (if c then a else b) = if c then retE res n0 a else retE res n0 b := by split <;> rfl
theorem ret_none (res : List RV) (n0 : Nat) : retE res n0 none = none := Eq.trans rfl rfl
theorem ret_rt (res : List RV) (n0 : Nat) (s : St) : retE res n0 (some (.rt, s)) = (rvs s res).map fun vs => fin n0 (mkRes vs) s := Eq.trans rfl rfl
theorem ret_nrm (res : List RV) (n0 : Nat) (s : St) : retE res n0 (some (.nrm, s)) = (rvs s res).map fun vs => fin n0 (mkRes vs) s := Eq.trans rfl rfl
theorem ec_reg (l : List Ins) (s : St) : ecode E (.reg l) s = nrmE (aReg (ecall E) l s) := ecode_reg l s
theorem nrmE_some (s : St) : nrmE (some s) = some (.nrm, s) := Eq.trans rfl rfl
theorem nrmE_ite (c : Prop) [Decidable c] (a b : Option St) : nrmE (if c then a else b) = if c then nrmE a else nrmE b := by split <;> rfl
theorem rv_t (i : Nat) : rv1 (stt n f h wl wa) (.t i) = some (ev n f (.t i)) := by
  simp only [rv1]
  rw [mkE_get]; rfl
theorem rv_c1 (i : Nat) : rv1 (stt n f h wl wa) (.c1 i) = ld1A h (ev n f (.t i)) := by
  have h0 := quiet_aop (ρ := ev n f) (i := .ld1 (.t i)) rfl ⟨h, wl, wa⟩
  simp only [rv1, evO_mkE, h0, aop]
  cases ev n f (.t i) <;> simp only [ld1A] <;> (try rfl)
  rename_i id ep off
  cases rdObj h id ep with
  | none => rfl
  | some o => simp only [Option.bind_some, getC]; cases o.cs[off]? <;> rfl
theorem rv_cn (k i : Nat) : rv1 (stt n f h wl wa) (.cn k i) = ldnA k h (ev n f (.t i)) := by
  have h0 := quiet_aop (ρ := ev n f) (i := .ldn k (.t i)) rfl ⟨h, wl, wa⟩
  simp only [rv1, evO_mkE, h0, aop]
  cases ev n f (.t i) <;> simp only [ldnA] <;> (try rfl)
  rename_i id ep off
  cases rdObj h id ep with
  | none => rfl
  | some o => simp only [Option.bind_some]; split <;> rfl
/-- A result without addresses. -/
def plainV : AV → Bool
  | .agg cs => cs.all AV.scalar
  | .tup vs => vs.all plain1
  | v => v.scalar
where plain1 : AV → Bool
  | .agg cs => cs.all AV.scalar
  | v => v.scalar
theorem refs_scalar (n0 : Nat) {v : AV} (hv : v.scalar = true) : refs n0 v = [] := by cases v <;> simp [AV.scalar] at hv <;> rfl
theorem refsL_scalar (n0 : Nat) : ∀ {l : List AV}, l.all AV.scalar = true → refsL n0 l = []
  | [], _ => rfl
  | v :: r, hl => by
    simp only [List.all_cons, Bool.and_eq_true] at hl
    simp only [refsL, refs_scalar n0 hl.1, refsL_scalar n0 hl.2, List.append_nil]
theorem ren_scalar (n0 : Nat) (σ : List (Nat × Nat)) {v : AV} (hv : v.scalar = true) : ren n0 σ v = v := by cases v <;> simp [AV.scalar] at hv <;> rfl
theorem renL_scalar (n0 : Nat) (σ : List (Nat × Nat)) : ∀ {l : List AV}, l.all AV.scalar = true → renL n0 σ l = l
  | [], _ => rfl
  | v :: r, hl => by
    simp only [List.all_cons, Bool.and_eq_true] at hl
    simp only [renL, ren_scalar n0 σ hl.1, renL_scalar n0 σ hl.2]
theorem refs_plain1 (n0 : Nat) {v : AV} (hv : plainV.plain1 v = true) : refs n0 v = [] := by
  cases v <;> first | exact refs_scalar n0 hv | (simp only [refs]; exact refsL_scalar n0 hv)
theorem ren_plain1 (n0 : Nat) (σ : List (Nat × Nat)) {v : AV} (hv : plainV.plain1 v = true) : ren n0 σ v = v := by
  cases v <;> first | exact ren_scalar n0 σ hv | (simp only [ren]; rw [renL_scalar n0 σ hv])
theorem refs_plainL (n0 : Nat) : ∀ {l : List AV}, l.all plainV.plain1 = true → refsL n0 l = []
  | [], _ => rfl
  | v :: r, hl => by
    simp only [List.all_cons, Bool.and_eq_true] at hl
    simp only [refsL, refs_plain1 n0 hl.1, refs_plainL n0 hl.2, List.append_nil]
theorem ren_plainL (n0 : Nat) (σ : List (Nat × Nat)) : ∀ {l : List AV}, l.all plainV.plain1 = true → renL n0 σ l = l
  | [], _ => rfl
  | v :: r, hl => by
    simp only [List.all_cons, Bool.and_eq_true] at hl
    simp only [renL, ren_plain1 n0 σ hl.1, ren_plainL n0 σ hl.2]
theorem refs_plain (n0 : Nat) {v : AV} (hv : plainV v = true) : refs n0 v = [] := by
  cases v <;> first | exact refs_scalar n0 hv | (simp only [refs]; exact refsL_scalar n0 hv) | (simp only [refs]; exact refs_plainL n0 hv)
theorem ren_plain (n0 : Nat) (σ : List (Nat × Nat)) {v : AV} (hv : plainV v = true) : ren n0 σ v = v := by
  cases v <;> first | exact ren_scalar n0 σ hv | (simp only [ren]; rw [renL_scalar n0 σ hv]) | (simp only [ren]; rw [ren_plainL n0 σ hv])
/-- The end of a call whose result has no addresses, and that has written nothing old. -/
theorem fin_plain {H ns : List Ob} {v : AV} (hv : plainV v = true) (ts : List AV) : fin H.length v ⟨ts, H ++ ns, H.length, H.length⟩ = (v, H, H.length, H.length) := by
  unfold fin
  simp only [Nat.lt_irrefl, if_false, refs_plain _ hv, dd, pickObjs, ren_plain _ _ hv, List.append_nil, List.take_left]
theorem fin_plain0 {H : List Ob} {v : AV} (hv : plainV v = true) (ts : List AV) : fin H.length v ⟨ts, H, H.length, H.length⟩ = (v, H, H.length, H.length) := by
  have := fin_plain (H := H) (ns := []) hv ts
  rwa [List.append_nil] at this
end
end
end Go.Proofs.Ytaekgifbehoipaa.Eva
