/- Rows of one-celled things by functions; a matrix that is read. Conditions stand in each lemma. -/
import Derived.Test.YtaekgifbehoipaaZPairUniquea
import Derived.Test.YtaekgifbehoipaaEvaI
import Derived.Test.YtaekgifbehoipaaCodeAll
namespace Go.Proofs.Ytaekgifbehoipaa.Hg
open Go Go.Proofs.Ytaekgifbehoipaa.Eva Go.Proofs.Ytaekgifbehoipaa.CodeAll
set_option linter.unusedVariables false
set_option linter.unusedSimpArgs false

def gN (k : Nat) : AV := .int .i64 (k : Int)
instance : Sc gN := ⟨fun _ => rfl⟩
def arrF {α : Type} (n : Nat) (f : Nat → α) : List α := (List.range n).map f
section
variable {α : Type} {n : Nat} {f : Nat → α}
theorem arrF_len : (arrF n f).length = n := by simp [arrF]
theorem arrF_get {i : Nat} (h : i < n) : (arrF n f)[i]? = some (f i) := by simp [arrF, h]
theorem arrF_ext {g : Nat → α} (h : ∀ i, i < n → f i = g i) : arrF n f = arrF n g := by
  apply List.map_congr_left; intro i hi; exact h i (by simpa using hi)
theorem arrF_set {i : Nat} {x : α} : (arrF n f).set i x = arrF n (upd f i x) := by
  apply List.ext_getElem?
  intro j
  rw [List.getElem?_set]
  by_cases hj : j < n
  · rw [arrF_get hj, arrF_get hj]
    by_cases e : i = j
    · subst e; rw [if_pos rfl, if_pos (by rw [arrF_len]; exact hj), upd_same]
    · rw [if_neg e, upd_ne (fun h => e h.symm)]
  · have h1 : (arrF n f)[j]? = none := List.getElem?_eq_none (by rw [arrF_len]; omega)
    have h2 : (arrF n (upd f i x))[j]? = none := List.getElem?_eq_none (by rw [arrF_len]; omega)
    rw [h1, h2, arrF_len]
    split
    · rw [if_neg (by omega)]
    · rfl
theorem arrF_rep {x : α} : List.replicate n x = arrF n (fun _ => x) := by
  apply List.ext_getElem?
  intro j
  by_cases hj : j < n
  · rw [arrF_get hj, List.getElem?_replicate, if_pos hj]
  · rw [List.getElem?_eq_none (by simp; omega), List.getElem?_eq_none (by rw [arrF_len]; omega)]
end
/-- v is the whole of an object from n0 on, whose cells are f 0, f 1, .. -/
def FA {α : Type} (n0 : Nat) (h : List Ob) (v : AV) (g : α → AV) (n : Nat) (f : Nat → α) : Prop := Arr n0 h v g (arrF n f)
section
variable {α : Type} {n0 : Nat} {h : List Ob} {v : AV} {g : α → AV} {n : Nat} {f : Nat → α}
theorem FA.len (A : FA n0 h v g n f) : lenvA false v = some (.int .i64 n) := by have := Arr.len A; rwa [arrF_len] at this
theorem FA.ok (A : FA n0 h v g n f) {i : Nat} (hi : i < n) : idxOk 1 v (.int .i64 (i : Int)) := Arr.ok A (by omega) (by rw [arrF_len]; omega)
theorem FA.ld (A : FA n0 h v g n f) {i : Nat} (hi : i < n) : ld1A h (idxV 1 v (.int .i64 (i : Int))) = some (g (f i)) := Arr.ld A (by omega) (by rw [Int.toNat_natCast]; exact arrF_get hi)
theorem FA.mono {h' : List Ob} (A : FA n0 h v g n f) (hm : ∀ id ep o, idOf v id → rdObj h id ep = some o → rdObj h' id ep = some o) : FA n0 h' v g n f := Arr.mono A hm
theorem FA.stOk [Sc g] (A : FA n0 h v g n f) {i : Nat} (hi : i < n) (y : α) : stOk n0 1 h (idxV 1 v (.int .i64 (i : Int))) (g y) := Arr.stOk A y (by omega) (by rw [arrF_len]; omega)
theorem FA.st [Sc g] (A : FA n0 h v g n f) {i : Nat} (hi : i < n) (y : α) :
    FA n0 (stH h (idxV 1 v (.int .i64 (i : Int))) (g y)) v g n (upd f i y) ∧
    (∀ id ep o, ¬ idOf v id → rdObj h id ep = some o → rdObj (stH h (idxV 1 v (.int .i64 (i : Int))) (g y)) id ep = some o) ∧
    (stH h (idxV 1 v (.int .i64 (i : Int))) (g y)).length = h.length := by
  obtain ⟨h1, h2, h3⟩ := Arr.stH (kk := .i64) (i := (i : Int)) A y (by omega) (by rw [arrF_len]; omega)
  rw [Int.toNat_natCast, arrF_set] at h1
  refine ⟨?_, h2, h3⟩
  unfold FA
  exact h1
theorem FA.stTake [Sc g] (A : FA n0 h v g n f) (i : Nat) (y : α) : (stH h (idxV 1 v (.int .i64 (i : Int))) (g y)).take n0 = h.take n0 := by
  obtain ⟨id, ep, rfl, h2, h3⟩ := A
  rw [idxV_sl, stH_ptr, h2]
  simp only [putObj]
  exact List.take_set_of_le h3
theorem FA.tail {id ep : Nat} (A : FA n0 h (.sl false id ep 1 0 (n + 1)) g (n + 1) f) {k : Nat} (hk : k < n) : idxOk 1 (.sl false id ep 1 1 n) (.int .i64 (k : Int)) ∧ ld1A h (idxV 1 (.sl false id ep 1 1 n) (.int .i64 (k : Int))) = some (g (f (k + 1))) := by
  obtain ⟨id', ep', e, h2, h3⟩ := A
  simp only [AV.sl.injEq, true_and] at e
  obtain ⟨rfl, rfl, -⟩ := e
  refine ⟨⟨by omega, by omega, rfl, rfl⟩, ?_⟩
  rw [idxV_sl, ld1A_ptr, h2]
  have h4 : (arrF (n + 1) f)[1 + k]? = some (f (1 + k)) := arrF_get (by omega)
  simp only [Option.bind_some, getC, Nat.mul_one, Int.toNat_natCast, List.getElem?_map, h4, Option.map_some]
  rw [Nat.add_comm]
theorem FA.ext {f' : Nat → α} (A : FA n0 h v g n f) (he : ∀ i, i < n → f i = f' i) : FA n0 h v g n f' := by
  unfold FA at *; rw [← arrF_ext he]; exact A
theorem FA.ge (A : FA n0 h v g n f) {id : Nat} (hid : idOf v id) : n0 ≤ id := Arr.ge A hid
theorem FA.lt (A : FA n0 h v g n f) {id : Nat} (hid : idOf v id) : id < h.length := Arr.lt A hid
end
/-- A matrix that is read: R rows of C. -/
structure Mx (H : List Ob) (vc : AV) (rw : Nat → AV) (R C : Nat) (M : Nat → Nat → Int) : Prop where
  len : lenvA false vc = some (.int .i64 (R : Int))
  cells : cellsOf vc = [vc]
  tup : vc.isTup = false
  ok : ∀ i : Nat, i < R → idxOk 1 vc (.int .i64 (i : Int))
  ld : ∀ y (i : Nat), i < R → ld1A (H ++ y) (idxV 1 vc (.int .i64 (i : Int))) = some (rw i)
  rlen : ∀ i : Nat, i < R → lenvA false (rw i) = some (.int .i64 (C : Int))
  rok : ∀ i k : Nat, i < R → k < C → idxOk 1 (rw i) (.int .i64 (k : Int))
  rld : ∀ y (i k : Nat), i < R → k < C → ld1A (H ++ y) (idxV 1 (rw i) (.int .i64 (k : Int))) = some (.int .i64 (M i k))

/-- The objects of the solver. -/
structure Hs (n0 : Nat) (h : List Ob) (sid : Nat) (vc vr vk vo : AV) (R C : Nat) (u v : Nat → Int) (fo : Nat → Nat) : Prop where
  s : rdObj h sid 0 = some ⟨[vc, vr, vk, vo], 0, 0, true, false⟩
  rows : FA n0 h vr gI (R + 1) u
  cols : FA n0 h vk gI (C + 1) v
  off : FA n0 h vo gN (C + 1) fo
/-- And those of a phase. -/
structure Hp (n0 : Nat) (h : List Ob) (sid : Nat) (vc vr vk vo vl vw vd : AV) (R C : Nat) (u v : Nat → Int) (fo : Nat → Nat) (least : Nat → Int) (way : Nat → Nat) (done : Nat → Bool) : Prop where
  hs : Hs n0 h sid vc vr vk vo R C u v fo
  lst : FA n0 h vl gI (C + 1) least
  wy : FA n0 h vw gN (C + 1) way
  don : FA n0 h vd gB (C + 1) done
/-- They are different. -/
structure Sp (n0 : Nat) (cl : Nat → Nat) (sid : Nat) (vr vk vo vl vw vd : AV) : Prop where
  s : cl sid = 0
  r : ∀ id, idOf vr id → cl id = 1
  k : ∀ id, idOf vk id → cl id = 2
  o : ∀ id, idOf vo id → cl id = 3
  l : ∀ id, idOf vl id → cl id = 4
  w : ∀ id, idOf vw id → cl id = 5
  d : ∀ id, idOf vd id → cl id = 6
section
variable {n0 : Nat} {h : List Ob} {cl : Nat → Nat} {sid : Nat} {vc vr vk vo vl vw vd : AV} {R C : Nat} {u v : Nat → Int} {fo : Nat → Nat} {least : Nat → Int} {way : Nat → Nat} {done : Nat → Bool}
theorem Hs.mono {h' : List Ob} (A : Hs n0 h sid vc vr vk vo R C u v fo) (hm : ∀ id ep o, rdObj h id ep = some o → rdObj h' id ep = some o) : Hs n0 h' sid vc vr vk vo R C u v fo :=
  ⟨hm _ _ _ A.s, A.rows.mono fun _ _ _ _ => hm _ _ _, A.cols.mono fun _ _ _ _ => hm _ _ _, A.off.mono fun _ _ _ _ => hm _ _ _⟩
theorem Hp.stRows (A : Hp n0 h sid vc vr vk vo vl vw vd R C u v fo least way done) (S : Sp n0 cl sid vr vk vo vl vw vd) {i : Nat} (hi : i < R + 1) (y : Int) :
    Hp n0 (stH h (idxV 1 vr (.int .i64 (i : Int))) (.int .i64 y)) sid vc vr vk vo vl vw vd R C (upd u i y) v fo least way done ∧ (stH h (idxV 1 vr (.int .i64 (i : Int))) (.int .i64 y)).length = h.length ∧ (stH h (idxV 1 vr (.int .i64 (i : Int))) (.int .i64 y)).take n0 = h.take n0 := by
  obtain ⟨a, b, c⟩ := A.hs.rows.st hi y
  have S1 := S.s; have S2 := S.r
  exact ⟨⟨⟨b _ _ _ (fun hx => by have := S.r _ hx; omega) A.hs.s, a, A.hs.cols.mono fun id ep o hid ho => b id ep o (fun hx => by have := S.r _ hx; have := S.k _ hid; omega) ho, A.hs.off.mono fun id ep o hid ho => b id ep o (fun hx => by have := S.r _ hx; have := S.o _ hid; omega) ho⟩,
    A.lst.mono fun id ep o hid ho => b id ep o (fun hx => by have := S.r _ hx; have := S.l _ hid; omega) ho, A.wy.mono fun id ep o hid ho => b id ep o (fun hx => by have := S.r _ hx; have := S.w _ hid; omega) ho, A.don.mono fun id ep o hid ho => b id ep o (fun hx => by have := S.r _ hx; have := S.d _ hid; omega) ho⟩, c, A.hs.rows.stTake i y⟩
theorem Hp.stCols (A : Hp n0 h sid vc vr vk vo vl vw vd R C u v fo least way done) (S : Sp n0 cl sid vr vk vo vl vw vd) {i : Nat} (hi : i < C + 1) (y : Int) :
    Hp n0 (stH h (idxV 1 vk (.int .i64 (i : Int))) (.int .i64 y)) sid vc vr vk vo vl vw vd R C u (upd v i y) fo least way done ∧ (stH h (idxV 1 vk (.int .i64 (i : Int))) (.int .i64 y)).length = h.length ∧ (stH h (idxV 1 vk (.int .i64 (i : Int))) (.int .i64 y)).take n0 = h.take n0 := by
  obtain ⟨a, b, c⟩ := A.hs.cols.st hi y
  have S1 := S.s
  exact ⟨⟨⟨b _ _ _ (fun hx => by have := S.k _ hx; omega) A.hs.s, A.hs.rows.mono fun id ep o hid ho => b id ep o (fun hx => by have := S.k _ hx; have := S.r _ hid; omega) ho, a, A.hs.off.mono fun id ep o hid ho => b id ep o (fun hx => by have := S.k _ hx; have := S.o _ hid; omega) ho⟩,
    A.lst.mono fun id ep o hid ho => b id ep o (fun hx => by have := S.k _ hx; have := S.l _ hid; omega) ho, A.wy.mono fun id ep o hid ho => b id ep o (fun hx => by have := S.k _ hx; have := S.w _ hid; omega) ho, A.don.mono fun id ep o hid ho => b id ep o (fun hx => by have := S.k _ hx; have := S.d _ hid; omega) ho⟩, c, A.hs.cols.stTake i y⟩
theorem Hp.stOf (A : Hp n0 h sid vc vr vk vo vl vw vd R C u v fo least way done) (S : Sp n0 cl sid vr vk vo vl vw vd) {i : Nat} (hi : i < C + 1) (y : Nat) :
    Hp n0 (stH h (idxV 1 vo (.int .i64 (i : Int))) (.int .i64 (y : Int))) sid vc vr vk vo vl vw vd R C u v (upd fo i y) least way done ∧ (stH h (idxV 1 vo (.int .i64 (i : Int))) (.int .i64 (y : Int))).length = h.length ∧ (stH h (idxV 1 vo (.int .i64 (i : Int))) (.int .i64 (y : Int))).take n0 = h.take n0 := by
  obtain ⟨a, b, c⟩ := A.hs.off.st hi y
  have S1 := S.s
  exact ⟨⟨⟨b _ _ _ (fun hx => by have := S.o _ hx; omega) A.hs.s, A.hs.rows.mono fun id ep o hid ho => b id ep o (fun hx => by have := S.o _ hx; have := S.r _ hid; omega) ho, A.hs.cols.mono fun id ep o hid ho => b id ep o (fun hx => by have := S.o _ hx; have := S.k _ hid; omega) ho, a⟩,
    A.lst.mono fun id ep o hid ho => b id ep o (fun hx => by have := S.o _ hx; have := S.l _ hid; omega) ho, A.wy.mono fun id ep o hid ho => b id ep o (fun hx => by have := S.o _ hx; have := S.w _ hid; omega) ho, A.don.mono fun id ep o hid ho => b id ep o (fun hx => by have := S.o _ hx; have := S.d _ hid; omega) ho⟩, c, A.hs.off.stTake i y⟩
theorem Hp.stLst (A : Hp n0 h sid vc vr vk vo vl vw vd R C u v fo least way done) (S : Sp n0 cl sid vr vk vo vl vw vd) {i : Nat} (hi : i < C + 1) (y : Int) :
    Hp n0 (stH h (idxV 1 vl (.int .i64 (i : Int))) (.int .i64 y)) sid vc vr vk vo vl vw vd R C u v fo (upd least i y) way done ∧ (stH h (idxV 1 vl (.int .i64 (i : Int))) (.int .i64 y)).length = h.length ∧ (stH h (idxV 1 vl (.int .i64 (i : Int))) (.int .i64 y)).take n0 = h.take n0 := by
  obtain ⟨a, b, c⟩ := A.lst.st hi y
  have S1 := S.s
  exact ⟨⟨⟨b _ _ _ (fun hx => by have := S.l _ hx; omega) A.hs.s, A.hs.rows.mono fun id ep o hid ho => b id ep o (fun hx => by have := S.l _ hx; have := S.r _ hid; omega) ho, A.hs.cols.mono fun id ep o hid ho => b id ep o (fun hx => by have := S.l _ hx; have := S.k _ hid; omega) ho, A.hs.off.mono fun id ep o hid ho => b id ep o (fun hx => by have := S.l _ hx; have := S.o _ hid; omega) ho⟩,
    a, A.wy.mono fun id ep o hid ho => b id ep o (fun hx => by have := S.l _ hx; have := S.w _ hid; omega) ho, A.don.mono fun id ep o hid ho => b id ep o (fun hx => by have := S.l _ hx; have := S.d _ hid; omega) ho⟩, c, A.lst.stTake i y⟩
theorem Hp.stWay (A : Hp n0 h sid vc vr vk vo vl vw vd R C u v fo least way done) (S : Sp n0 cl sid vr vk vo vl vw vd) {i : Nat} (hi : i < C + 1) (y : Nat) :
    Hp n0 (stH h (idxV 1 vw (.int .i64 (i : Int))) (.int .i64 (y : Int))) sid vc vr vk vo vl vw vd R C u v fo least (upd way i y) done ∧ (stH h (idxV 1 vw (.int .i64 (i : Int))) (.int .i64 (y : Int))).length = h.length ∧ (stH h (idxV 1 vw (.int .i64 (i : Int))) (.int .i64 (y : Int))).take n0 = h.take n0 := by
  obtain ⟨a, b, c⟩ := A.wy.st hi y
  have S1 := S.s
  exact ⟨⟨⟨b _ _ _ (fun hx => by have := S.w _ hx; omega) A.hs.s, A.hs.rows.mono fun id ep o hid ho => b id ep o (fun hx => by have := S.w _ hx; have := S.r _ hid; omega) ho, A.hs.cols.mono fun id ep o hid ho => b id ep o (fun hx => by have := S.w _ hx; have := S.k _ hid; omega) ho, A.hs.off.mono fun id ep o hid ho => b id ep o (fun hx => by have := S.w _ hx; have := S.o _ hid; omega) ho⟩,
    A.lst.mono fun id ep o hid ho => b id ep o (fun hx => by have := S.w _ hx; have := S.l _ hid; omega) ho, a, A.don.mono fun id ep o hid ho => b id ep o (fun hx => by have := S.w _ hx; have := S.d _ hid; omega) ho⟩, c, A.wy.stTake i y⟩
theorem Hp.stDon (A : Hp n0 h sid vc vr vk vo vl vw vd R C u v fo least way done) (S : Sp n0 cl sid vr vk vo vl vw vd) {i : Nat} (hi : i < C + 1) (y : Bool) :
    Hp n0 (stH h (idxV 1 vd (.int .i64 (i : Int))) (.bool y)) sid vc vr vk vo vl vw vd R C u v fo least way (upd done i y) ∧ (stH h (idxV 1 vd (.int .i64 (i : Int))) (.bool y)).length = h.length ∧ (stH h (idxV 1 vd (.int .i64 (i : Int))) (.bool y)).take n0 = h.take n0 := by
  obtain ⟨a, b, c⟩ := A.don.st hi y
  have S1 := S.s
  exact ⟨⟨⟨b _ _ _ (fun hx => by have := S.d _ hx; omega) A.hs.s, A.hs.rows.mono fun id ep o hid ho => b id ep o (fun hx => by have := S.d _ hx; have := S.r _ hid; omega) ho, A.hs.cols.mono fun id ep o hid ho => b id ep o (fun hx => by have := S.d _ hx; have := S.k _ hid; omega) ho, A.hs.off.mono fun id ep o hid ho => b id ep o (fun hx => by have := S.d _ hx; have := S.o _ hid; omega) ho⟩,
    A.lst.mono fun id ep o hid ho => b id ep o (fun hx => by have := S.d _ hx; have := S.l _ hid; omega) ho, A.wy.mono fun id ep o hid ho => b id ep o (fun hx => by have := S.d _ hx; have := S.w _ hid; omega) ho, a⟩, c, A.don.stTake i y⟩
end
end Go.Proofs.Ytaekgifbehoipaa.Hg
/- One more row is assigned: what add of the solver does. Conditions stand in each lemma. -/
namespace Go.Proofs.Ytaekgifbehoipaa.Hg
open Go Go.Proofs.Ytaekgifbehoipaa.Eva Go.Proofs.Ytaekgifbehoipaa.CodeAll
set_option linter.unusedVariables false
set_option linter.unusedSimpArgs false
set_option maxRecDepth 10000
set_option maxHeartbeats 4000000

/-- How many columns are not done. -/
def cnt (done : Nat → Bool) : Nat → Nat
  | 0 => 0
  | n + 1 => cnt done n + (if done n then 0 else 1)
theorem cnt_upd {done : Nat → Bool} {a : Nat} (h : done a = false) : ∀ {n : Nat}, a < n → cnt (upd done a true) n + 1 = cnt done n
  | 0, hn => by omega
  | n + 1, hn => by
    simp only [cnt]
    by_cases e : a = n
    · subst e
      have : ∀ m, m ≤ a → cnt (upd done a true) m = cnt done m := by
        intro m
        induction m with
        | zero => intro _; rfl
        | succ m ih => intro hm; simp only [cnt]; rw [ih (by omega), upd_ne (by omega)]
      rw [this a (Nat.le_refl _), upd_same, h]; rfl
    · have := cnt_upd h (n := n) (by omega)
      rw [upd_ne (fun h => e h.symm)]; omega
theorem FA.new {α : Type} {g : α → AV} [Sc g] {n0 n : Nat} {H : List Ob} {z : α} (hn : n0 ≤ H.length) (o : List Ob) : FA n0 (H ++ (⟨zrep n [g z], 0, 1, true, [g z].all AV.scalar⟩ :: o)) (.sl false H.length 0 1 0 n) g n (fun _ => z) := by
  refine ⟨H.length, 0, by rw [arrF_len], ?_, hn⟩
  have : (g z).scalar = true := Sc.sc z
  simp [rdObj, zrep, ← arrF_rep, this]
theorem add_mut {H x : List Ob} {sid : Nat} {cl0 : Nat → Nat} {vc vr vk vo : AV} {rw : Nat → AV} {R C r : Nat} {M : Nat → Nat → Int} {u v : Nat → Int} {fo : Nat → Nat} (hM : ∀ i k, 0 ≤ M i k ∧ M i k ≤ 1125899906842624) (mx : Mx H vc rw R C M) (hr : r < R) (hRC : R ≤ C) (hC : C ≤ 64)
    (B : Base M C r u v fo) (A : Hs H.length (H ++ x) sid vc vr vk vo R C u v fo) (cs0 : cl0 sid = 0) (c1 : ∀ id, idOf vr id → cl0 id = 1) (c2 : ∀ id, idOf vk id → cl0 id = 2) (c3 : ∀ id, idOf vo id → cl0 id = 3) :
    ∃ h2 wl wa, ecall E 88 [.ptr sid 0 0, .int .i64 ((r + 1 : Nat) : Int)] (H ++ x) = some (.tup [], h2, wl, wa) ∧ H.length ≤ wl ∧ H.length ≤ wa ∧ h2.take H.length = H ∧ (H ++ x).length ≤ h2.length ∧ ∃ u' v' fo', Base M C (r + 1) u' v' fo' ∧ Hs H.length h2 sid vc vr vk vo R C u' v' fo' := by
  have key : wc E H.length c88.nt c88.code (fun e f h' => exOk e = true ∧ (rvq c88.nt f h' c88.res).map mkRes = some (.tup []) ∧ (H ++ x).length ≤ h'.length ∧ ∃ u' v' fo', Base M C (r + 1) u' v' fo' ∧ Hs H.length h' sid vc vr vk vo R C u' v' fo') (ofL [.ptr sid 0 0, .int .i64 ((r + 1 : Nat) : Int)]) (H ++ x) := by
    have hlk := A.cols.len
    have hs := A.s
    have hsl := rd_lt hs
    simp (config := {maxSteps := 8000000}) only [c88, hs, hlk, Int.toNat_natCast, SS, bne_self_eq_false, wr_def, obOf, List.all_cons, List.all_nil, List.map_cons, List.map_nil, List.length_cons, List.length_nil, List.take_zero, List.take_succ_cons, List.take_nil, List.drop_zero, List.drop_succ_cons, List.drop_nil, Nat.reduceAdd, Nat.reduceMul, Nat.reduceSub, if_true, Nat.reduceLT, Nat.reduceLeDiff, ite_true, ite_false, Nat.reduceEqDiff, if_false, reduceCtorEq, ne_eq, List.getD, List.getElem?_cons_zero, List.getElem?_cons_succ, Option.getD_some, Option.bind_some, Option.map_some, Option.isSome_some, reduceIte, List.length_append, List.append_assoc, List.cons_append, List.nil_append, Option.some.injEq, forall_const, implies_true, Int.reduceNeg, eq_self, Prod.mk.injEq, List.self_eq_append_right, List.append_nil, exists_eq_left, exists_eq_left', exists_and_left, exists_eq_right, exists_and_right]
    have hap : ∀ b, b ≤ 8 → (C + 1) * b ≤ appLim := fun b hb => by
      have : (C + 1) * b ≤ 65 * 8 := Nat.mul_le_mul (by omega) hb
      unfold appLim; omega
    refine ⟨by omega, by omega, hap 8 (by omega), by omega, by omega, hap 8 (by omega), by omega, by omega, hap 1 (by omega), ?_⟩
    -- the three new objects
    have hp0 : Hp H.length (H ++ (x ++ [⟨zrep (C + 1) [.int .i64 0], 0, 1, true, true⟩, ⟨zrep (C + 1) [.int .i64 0], 0, 1, true, true⟩, ⟨zrep (C + 1) [.bool false], 0, 1, true, true⟩])) sid vc vr vk vo (.sl false (H.length + x.length) 0 1 0 (C + 1)) (.sl false (H.length + (x.length + 1)) 0 1 0 (C + 1)) (.sl false (H.length + (x.length + 1) + 1) 0 1 0 (C + 1)) R C u v fo (fun _ => 0) (fun _ => 0) (fun _ => false) := by
      refine ⟨?_, ?_, ?_, ?_⟩
      · rw [← List.append_assoc]; exact A.mono fun id ep o ho => rd_keep ho
      · have := FA.new (g := gI) (n0 := H.length) (n := C + 1) (H := H ++ x) (z := (0 : Int)) (by simp) [⟨zrep (C + 1) [.int .i64 0], 0, 1, true, true⟩, ⟨zrep (C + 1) [.bool false], 0, 1, true, true⟩]
        rw [List.append_assoc, List.length_append] at this
        exact this
      · have := FA.new (g := gN) (n0 := H.length) (n := C + 1) (H := H ++ (x ++ [⟨zrep (C + 1) [.int .i64 0], 0, 1, true, true⟩])) (z := (0 : Nat)) (by simp) [⟨zrep (C + 1) [.bool false], 0, 1, true, true⟩]
        rw [List.append_assoc, List.append_assoc, List.length_append, List.length_append] at this
        exact this
      · have := FA.new (g := gB) (n0 := H.length) (n := C + 1) (H := H ++ (x ++ [⟨zrep (C + 1) [.int .i64 0], 0, 1, true, true⟩, ⟨zrep (C + 1) [.int .i64 0], 0, 1, true, true⟩])) (z := false) (by simp) []
        rw [List.append_assoc, List.append_assoc, List.length_append, List.length_append] at this
        exact this
    have hS : ∃ cl, Sp H.length cl sid vr vk vo (.sl false (H.length + x.length) 0 1 0 (C + 1)) (.sl false (H.length + (x.length + 1)) 0 1 0 (C + 1)) (.sl false (H.length + (x.length + 1) + 1) 0 1 0 (C + 1)) := by
      rw [List.length_append] at hsl
      refine ⟨fun id => if id < H.length + x.length then cl0 id else 4 + (id - (H.length + x.length)), ?_, fun id hi => ?_, fun id hi => ?_, fun id hi => ?_, fun id hi => ?_, fun id hi => ?_, fun id hi => ?_⟩
      · rw [if_pos hsl]; exact cs0
      · have := A.rows.lt hi; rw [List.length_append] at this; rw [if_pos this]; exact c1 _ hi
      · have := A.cols.lt hi; rw [List.length_append] at this; rw [if_pos this]; exact c2 _ hi
      · have := A.off.lt hi; rw [List.length_append] at this; rw [if_pos this]; exact c3 _ hi
      · obtain ⟨_, rfl⟩ := hi; rw [if_neg (by omega)]; omega
      · obtain ⟨_, rfl⟩ := hi; rw [if_neg (by omega)]; omega
      · obtain ⟨_, rfl⟩ := hi; rw [if_neg (by omega)]; omega
    obtain ⟨cl, S⟩ := hS
    generalize AV.sl false (H.length + x.length) 0 1 0 (C + 1) = vl at *
    generalize AV.sl false (H.length + (x.length + 1)) 0 1 0 (C + 1) = vw at *
    generalize AV.sl false (H.length + (x.length + 1) + 1) 0 1 0 (C + 1) = vd at *
    have h0 : ∃ z, x ++ [⟨zrep (C + 1) [.int .i64 0], 0, 1, true, true⟩, ⟨zrep (C + 1) [.int .i64 0], 0, 1, true, true⟩, ⟨zrep (C + 1) [.bool false], 0, 1, true, true⟩] = z ∧ x.length ≤ z.length := ⟨_, rfl, by simp⟩
    obtain ⟨z, hz, hzl⟩ := h0
    rw [hz] at hp0
    have hll := hp0.lst.len
    simp (config := {maxSteps := 8000000}) only [hz, hll, SS, bne_self_eq_false, wr_def, obOf, List.all_cons, List.all_nil, List.map_cons, List.map_nil, List.length_cons, List.length_nil, List.take_zero, List.take_succ_cons, List.take_nil, List.drop_zero, List.drop_succ_cons, List.drop_nil, Nat.reduceAdd, Nat.reduceMul, Nat.reduceSub, if_true, Nat.reduceLT, Nat.reduceLeDiff, ite_true, ite_false, Nat.reduceEqDiff, if_false, reduceCtorEq, ne_eq, List.getD, List.getElem?_cons_zero, List.getElem?_cons_succ, Option.getD_some, Option.bind_some, Option.map_some, Option.isSome_some, reduceIte, List.length_append, List.append_assoc, List.cons_append, List.nil_append, Option.some.injEq, forall_const, implies_true, Int.reduceNeg, eq_self, Prod.mk.injEq, List.self_eq_append_right, List.append_nil, exists_eq_left, exists_eq_left', exists_and_left, exists_eq_right, exists_and_right]
    clear hlk hs hsl hll hap A
    -- the first loop
    refine W.mono (Q := fun e f1 h1 => e = .ex 0 ∧ f1 0 = .ptr sid 0 0 ∧ f1 1 = .int .i64 ((r + 1 : Nat) : Int) ∧ f1 4 = .int .i64 ((C + 1 : Nat) : Int) ∧ f1 5 = vl ∧ f1 6 = vw ∧ f1 7 = vd ∧ H.length + x.length ≤ h1.length ∧ ∃ least, (∀ k, k < C + 1 → least k = 4503599627370496) ∧ Hp H.length h1 sid vc vr vk vo vl vw vd R C u v fo least (fun _ => 0) (fun _ => false))
      (W_loop (fun q f1 h1 => ∃ m : Nat, q = C + 1 - m ∧ m ≤ C + 1 ∧ f1 0 = .ptr sid 0 0 ∧ f1 1 = .int .i64 ((r + 1 : Nat) : Int) ∧ f1 4 = .int .i64 ((C + 1 : Nat) : Int) ∧ f1 5 = vl ∧ f1 6 = vw ∧ f1 7 = vd ∧ f1 28 = .int .i64 ((C + 1 : Nat) : Int) ∧ f1 29 = .int .i64 (m : Int) ∧ H.length + x.length ≤ h1.length ∧ ∃ least, (∀ k, k < m → least k = 4503599627370496) ∧ Hp H.length h1 sid vc vr vk vo vl vw vd R C u v fo least (fun _ => 0) (fun _ => false)) (by simp) (C + 1)
        ⟨0, rfl, by omega, rfl, rfl, rfl, rfl, rfl, rfl, rfl, rfl, by simp; omega, _, fun k hk => by omega, hp0⟩ ?_) ?_
    · rintro q f1 h1 hn1 ht ⟨m, rfl, hm, e0, e1, e4, e5, e6, e7, e28, e29, hln, least, hl, hp⟩
      by_cases hmc : m < C + 1
      · have hc : decide ((m : Int) < ((C + 1 : Nat) : Int)) = true := decide_eq_true (by omega)
        have hw1 : IntKind.i64.wrap ((m : Int) + 1) = ((m + 1 : Nat) : Int) := by rw [wrap64 (by omega) (by omega)]; omega
        have o1 := hp.lst.ok hmc
        have s1 := hp.lst.stOk hmc (4503599627370496 : Int)
        obtain ⟨p1, p2, -⟩ := hp.stLst S hmc (4503599627370496 : Int)
        simp only [gI] at s1
        simp (config := {maxSteps := 8000000}) only [e0, e1, e4, e5, e6, e7, e28, e29, hc, hw1, o1, isPtr_idx o1, s1, SS, bne_self_eq_false, wr_def, obOf, List.all_cons, List.all_nil, List.map_cons, List.map_nil, List.length_cons, List.length_nil, List.take_zero, List.take_succ_cons, List.take_nil, List.drop_zero, List.drop_succ_cons, List.drop_nil, Nat.reduceAdd, Nat.reduceMul, Nat.reduceSub, if_true, Nat.reduceLT, Nat.reduceLeDiff, ite_true, ite_false, Nat.reduceEqDiff, if_false, reduceCtorEq, ne_eq, List.getD, List.getElem?_cons_zero, List.getElem?_cons_succ, Option.getD_some, Option.bind_some, Option.map_some, Option.isSome_some, reduceIte, List.length_append, List.append_assoc, List.cons_append, List.nil_append, Option.some.injEq, forall_const, implies_true, Int.reduceNeg, eq_self, Prod.mk.injEq, List.self_eq_append_right, List.append_nil, exists_eq_left, exists_eq_left', exists_and_left, exists_eq_right, exists_and_right]
        refine ⟨_, by omega, m + 1, rfl, by omega, rfl, by rw [p2]; exact hln, _, fun k hk => ?_, p1⟩
        by_cases e : k = m
        · subst e; exact upd_same
        · rw [upd_ne e]; exact hl k (by omega)
      · have hc : decide ((m : Int) < ((C + 1 : Nat) : Int)) = false := decide_eq_false (by omega)
        simp (config := {maxSteps := 8000000}) only [e0, e1, e4, e5, e6, e7, e28, e29, hc, SS, bne_self_eq_false, wr_def, obOf, List.all_cons, List.all_nil, List.map_cons, List.map_nil, List.length_cons, List.length_nil, List.take_zero, List.take_succ_cons, List.take_nil, List.drop_zero, List.drop_succ_cons, List.drop_nil, Nat.reduceAdd, Nat.reduceMul, Nat.reduceSub, if_true, Nat.reduceLT, Nat.reduceLeDiff, ite_true, ite_false, Nat.reduceEqDiff, if_false, reduceCtorEq, ne_eq, List.getD, List.getElem?_cons_zero, List.getElem?_cons_succ, Option.getD_some, Option.bind_some, Option.map_some, Option.isSome_some, reduceIte, List.length_append, List.append_assoc, List.cons_append, List.nil_append, Option.some.injEq, forall_const, implies_true, Int.reduceNeg, eq_self, Prod.mk.injEq, List.self_eq_append_right, List.append_nil, exists_eq_left, exists_eq_left', exists_and_left, exists_eq_right, exists_and_right]
        exact ⟨hln, least, fun k hk => hl k (by omega), hp⟩
    clear hp0 hz hzl
    rintro e f1 h1 hn1 ht ⟨rfl, e0, e1, e4, e5, e6, e7, hln, least, hl, hp⟩
    have o1 : idxOk 1 vo (.int .i64 0) := hp.hs.off.ok (i := 0) (by omega)
    have s1 : stOk H.length 1 h1 (idxV 1 vo (.int .i64 0)) (.int .i64 ((r + 1 : Nat) : Int)) := hp.hs.off.stOk (i := 0) (by omega) (r + 1)
    obtain ⟨p1, p2, p5⟩ := hp.stOf S (i := 0) (by omega) (r + 1)
    have hs := hp.hs.s
    simp (config := {maxSteps := 8000000}) only [e0, e1, e4, e5, e6, e7, hs, o1, isPtr_idx o1, s1, SS, bne_self_eq_false, wr_def, obOf, List.all_cons, List.all_nil, List.map_cons, List.map_nil, List.length_cons, List.length_nil, List.take_zero, List.take_succ_cons, List.take_nil, List.drop_zero, List.drop_succ_cons, List.drop_nil, Nat.reduceAdd, Nat.reduceMul, Nat.reduceSub, if_true, Nat.reduceLT, Nat.reduceLeDiff, ite_true, ite_false, Nat.reduceEqDiff, if_false, reduceCtorEq, ne_eq, List.getD, List.getElem?_cons_zero, List.getElem?_cons_succ, Option.getD_some, Option.bind_some, Option.map_some, Option.isSome_some, reduceIte, List.length_append, List.append_assoc, List.cons_append, List.nil_append, Option.some.injEq, forall_const, implies_true, Int.reduceNeg, eq_self, Prod.mk.injEq, List.self_eq_append_right, List.append_nil, exists_eq_left, exists_eq_left', exists_and_left, exists_eq_right, exists_and_right]
    have hph0 : Ph M C r u v (upd fo 0 (r + 1)) least (fun _ => 0) (fun _ => false) 0 [] := B.start hM (upd fo 0 (r + 1)) upd_same (fun k hk => upd_ne (by omega)) least (fun k _ h => hl k (by omega)) _ _ (fun _ => rfl)
    have hlen1 : H.length + x.length ≤ (stH h1 (idxV 1 vo (.int .i64 0)) (.int .i64 ((r + 1 : Nat) : Int))).length := by
      have p2' : (stH h1 (idxV 1 vo (.int .i64 0)) (.int .i64 ((r + 1 : Nat) : Int))).length = h1.length := p2
      omega
    have p1' : Hp H.length (stH h1 (idxV 1 vo (.int .i64 0)) (.int .i64 ((r + 1 : Nat) : Int))) sid vc vr vk vo vl vw vd R C u v (upd fo 0 (r + 1)) least (fun _ => 0) (fun _ => false) := p1
    have hAt : (stH h1 (idxV 1 vo (.int .i64 0)) (.int .i64 ((r + 1 : Nat) : Int))).take H.length = H := p5.trans (ht.trans (by simp))
    clear p1 p2 p5 hp hl
    generalize hh1 : stH h1 (idxV 1 vo (.int .i64 0)) (.int .i64 ((r + 1 : Nat) : Int)) = hA at *
    have hrC : r < C := by omega
    clear o1 s1 hs
    refine W.mono (Q := fun e f1 h1 => e = .ex 2 ∧ ∃ a : Nat, f1 0 = .ptr sid 0 0 ∧ f1 6 = vw ∧ f1 9 = .int .i64 (a : Int) ∧ H.length + x.length ≤ h1.length ∧ ∃ u v fo least way done l, Ph M C r u v fo least way done a l ∧ fo a = 0 ∧ Hp H.length h1 sid vc vr vk vo vl vw vd R C u v fo least way done)
      (W_loop (fun q f1 h1 => ∃ a : Nat, f1 0 = .ptr sid 0 0 ∧ f1 4 = .int .i64 ((C + 1 : Nat) : Int) ∧ f1 5 = vl ∧ f1 6 = vw ∧ f1 7 = vd ∧ f1 9 = .int .i64 (a : Int) ∧ H.length + x.length ≤ h1.length ∧ ∃ u v fo least way done l, q = cnt done (C + 1) ∧ Ph M C r u v fo least way done a l ∧ fo a ≠ 0 ∧ Hp H.length h1 sid vc vr vk vo vl vw vd R C u v fo least way done) (by omega) (cnt (fun _ => false) (C + 1))
        ⟨0, by simp only [e0, SS, bne_self_eq_false, wr_def, obOf, List.all_cons, List.all_nil, List.map_cons, List.map_nil, List.length_cons, List.length_nil, List.take_zero, List.take_succ_cons, List.take_nil, List.drop_zero, List.drop_succ_cons, List.drop_nil, Nat.reduceAdd, Nat.reduceMul, Nat.reduceSub, if_true, Nat.reduceLT, Nat.reduceLeDiff, ite_true, ite_false, Nat.reduceEqDiff, if_false, reduceCtorEq, ne_eq, List.getD, List.getElem?_cons_zero, List.getElem?_cons_succ, Option.getD_some, Option.bind_some, Option.map_some, Option.isSome_some, reduceIte, List.length_append, List.append_assoc, List.cons_append, List.nil_append, Option.some.injEq, forall_const, implies_true, Int.reduceNeg, eq_self, Prod.mk.injEq, List.self_eq_append_right, List.append_nil, exists_eq_left, exists_eq_left', exists_and_left, exists_eq_right, exists_and_right], by simp only [e4, SS, bne_self_eq_false, wr_def, obOf, List.all_cons, List.all_nil, List.map_cons, List.map_nil, List.length_cons, List.length_nil, List.take_zero, List.take_succ_cons, List.take_nil, List.drop_zero, List.drop_succ_cons, List.drop_nil, Nat.reduceAdd, Nat.reduceMul, Nat.reduceSub, if_true, Nat.reduceLT, Nat.reduceLeDiff, ite_true, ite_false, Nat.reduceEqDiff, if_false, reduceCtorEq, ne_eq, List.getD, List.getElem?_cons_zero, List.getElem?_cons_succ, Option.getD_some, Option.bind_some, Option.map_some, Option.isSome_some, reduceIte, List.length_append, List.append_assoc, List.cons_append, List.nil_append, Option.some.injEq, forall_const, implies_true, Int.reduceNeg, eq_self, Prod.mk.injEq, List.self_eq_append_right, List.append_nil, exists_eq_left, exists_eq_left', exists_and_left, exists_eq_right, exists_and_right], by simp only [e5, SS, bne_self_eq_false, wr_def, obOf, List.all_cons, List.all_nil, List.map_cons, List.map_nil, List.length_cons, List.length_nil, List.take_zero, List.take_succ_cons, List.take_nil, List.drop_zero, List.drop_succ_cons, List.drop_nil, Nat.reduceAdd, Nat.reduceMul, Nat.reduceSub, if_true, Nat.reduceLT, Nat.reduceLeDiff, ite_true, ite_false, Nat.reduceEqDiff, if_false, reduceCtorEq, ne_eq, List.getD, List.getElem?_cons_zero, List.getElem?_cons_succ, Option.getD_some, Option.bind_some, Option.map_some, Option.isSome_some, reduceIte, List.length_append, List.append_assoc, List.cons_append, List.nil_append, Option.some.injEq, forall_const, implies_true, Int.reduceNeg, eq_self, Prod.mk.injEq, List.self_eq_append_right, List.append_nil, exists_eq_left, exists_eq_left', exists_and_left, exists_eq_right, exists_and_right], by simp only [e6, SS, bne_self_eq_false, wr_def, obOf, List.all_cons, List.all_nil, List.map_cons, List.map_nil, List.length_cons, List.length_nil, List.take_zero, List.take_succ_cons, List.take_nil, List.drop_zero, List.drop_succ_cons, List.drop_nil, Nat.reduceAdd, Nat.reduceMul, Nat.reduceSub, if_true, Nat.reduceLT, Nat.reduceLeDiff, ite_true, ite_false, Nat.reduceEqDiff, if_false, reduceCtorEq, ne_eq, List.getD, List.getElem?_cons_zero, List.getElem?_cons_succ, Option.getD_some, Option.bind_some, Option.map_some, Option.isSome_some, reduceIte, List.length_append, List.append_assoc, List.cons_append, List.nil_append, Option.some.injEq, forall_const, implies_true, Int.reduceNeg, eq_self, Prod.mk.injEq, List.self_eq_append_right, List.append_nil, exists_eq_left, exists_eq_left', exists_and_left, exists_eq_right, exists_and_right], by simp only [e7, SS, bne_self_eq_false, wr_def, obOf, List.all_cons, List.all_nil, List.map_cons, List.map_nil, List.length_cons, List.length_nil, List.take_zero, List.take_succ_cons, List.take_nil, List.drop_zero, List.drop_succ_cons, List.drop_nil, Nat.reduceAdd, Nat.reduceMul, Nat.reduceSub, if_true, Nat.reduceLT, Nat.reduceLeDiff, ite_true, ite_false, Nat.reduceEqDiff, if_false, reduceCtorEq, ne_eq, List.getD, List.getElem?_cons_zero, List.getElem?_cons_succ, Option.getD_some, Option.bind_some, Option.map_some, Option.isSome_some, reduceIte, List.length_append, List.append_assoc, List.cons_append, List.nil_append, Option.some.injEq, forall_const, implies_true, Int.reduceNeg, eq_self, Prod.mk.injEq, List.self_eq_append_right, List.append_nil, exists_eq_left, exists_eq_left', exists_and_left, exists_eq_right, exists_and_right], rfl, hlen1, u, v, upd fo 0 (r + 1), least, fun _ => 0, fun _ => false, [], rfl, hph0, by rw [upd_same]; omega, p1'⟩ ?_) ?_
    · clear hph0 p1' hlen1 hh1 e0 e1 e4 e5 e6 e7 hln B
      clear u v fo least
      rintro q f1 h1 hn1 ht ⟨a, e0, e4, e5, e6, e7, e9, hln, u, v, fo, least, way, done, l, rfl, P, ha, hp⟩
      have haC : a ≤ C := P.inC a (by simp)
      have hda : done a = false := by
        have := P.trl.head_not
        rw [← P.dn] at this; simpa using this
      have hcnt := cnt_upd hda (n := C + 1) (by omega)
      have o1 := hp.don.ok (i := a) (by omega)
      have s1 := hp.don.stOk (i := a) (by omega) true
      obtain ⟨p1, p2, p5⟩ := hp.stDon S (i := a) (by omega) true
      have hBt := p5.trans (ht.trans hAt)
      have hs := p1.hs.s
      have o2 := hp.hs.off.ok (i := a) (by omega)
      have d2 := p1.hs.off.ld (i := a) (by omega)
      simp only [gN] at d2
      simp only [gB] at s1
      simp (config := {maxSteps := 8000000}) only [e0, e4, e5, e6, e7, e9, o1, isPtr_idx o1, s1, hs, o2, isPtr_idx o2, d2, SS, bne_self_eq_false, wr_def, obOf, List.all_cons, List.all_nil, List.map_cons, List.map_nil, List.length_cons, List.length_nil, List.take_zero, List.take_succ_cons, List.take_nil, List.drop_zero, List.drop_succ_cons, List.drop_nil, Nat.reduceAdd, Nat.reduceMul, Nat.reduceSub, if_true, Nat.reduceLT, Nat.reduceLeDiff, ite_true, ite_false, Nat.reduceEqDiff, if_false, reduceCtorEq, ne_eq, List.getD, List.getElem?_cons_zero, List.getElem?_cons_succ, Option.getD_some, Option.bind_some, Option.map_some, Option.isSome_some, reduceIte, List.length_append, List.append_assoc, List.cons_append, List.nil_append, Option.some.injEq, forall_const, implies_true, Int.reduceNeg, eq_self, Prod.mk.injEq, List.self_eq_append_right, List.append_nil, exists_eq_left, exists_eq_left', exists_and_left, exists_eq_right, exists_and_right]
      clear hp hs d2 s1
      have hln2 : H.length + x.length ≤ (stH h1 (idxV 1 vd (.int .i64 (a : Int))) (.bool true)).length := by rw [p2]; exact hln
      clear p2 p5 hln
      generalize stH h1 (idxV 1 vd (.int .i64 (a : Int))) (.bool true) = hB at *
      -- the search
      refine W.mono (Q := fun e f1 h1 => e = .ex 4 ∧ ∃ (δ : Int) (nx : Nat), f1 0 = .ptr sid 0 0 ∧ f1 4 = .int .i64 ((C + 1 : Nat) : Int) ∧ f1 5 = vl ∧ f1 6 = vw ∧ f1 7 = vd ∧ f1 11 = .int .i64 δ ∧ f1 12 = .int .i64 (nx : Int) ∧ H.length + x.length ≤ h1.length ∧ ∃ least' way', Scn M u v least way (upd done a true) (fo a) a (C + 1) least' way' δ nx ∧ Hp H.length h1 sid vc vr vk vo vl vw vd R C u v fo least' way' (upd done a true))
        (W_loop (fun q f1 h1 => ∃ (m : Nat) (δ : Int) (nx : Nat), q = C + 1 - m ∧ 1 ≤ m ∧ m ≤ C + 1 ∧ f1 0 = .ptr sid 0 0 ∧ f1 4 = .int .i64 ((C + 1 : Nat) : Int) ∧ f1 5 = vl ∧ f1 6 = vw ∧ f1 7 = vd ∧ f1 9 = .int .i64 (a : Int) ∧ f1 10 = .int .i64 (fo a : Int) ∧ f1 11 = .int .i64 δ ∧ f1 12 = .int .i64 (nx : Int) ∧ f1 13 = .int .i64 (m : Int) ∧ H.length + x.length ≤ h1.length ∧ ∃ least' way', Scn M u v least way (upd done a true) (fo a) a m least' way' δ nx ∧ Hp H.length h1 sid vc vr vk vo vl vw vd R C u v fo least' way' (upd done a true)) (by omega) C
          ⟨1, _, 0, by omega, by omega, by omega, by simp only [e0, SS, bne_self_eq_false, wr_def, obOf, List.all_cons, List.all_nil, List.map_cons, List.map_nil, List.length_cons, List.length_nil, List.take_zero, List.take_succ_cons, List.take_nil, List.drop_zero, List.drop_succ_cons, List.drop_nil, Nat.reduceAdd, Nat.reduceMul, Nat.reduceSub, if_true, Nat.reduceLT, Nat.reduceLeDiff, ite_true, ite_false, Nat.reduceEqDiff, if_false, reduceCtorEq, ne_eq, List.getD, List.getElem?_cons_zero, List.getElem?_cons_succ, Option.getD_some, Option.bind_some, Option.map_some, Option.isSome_some, reduceIte, List.length_append, List.append_assoc, List.cons_append, List.nil_append, Option.some.injEq, forall_const, implies_true, Int.reduceNeg, eq_self, Prod.mk.injEq, List.self_eq_append_right, List.append_nil, exists_eq_left, exists_eq_left', exists_and_left, exists_eq_right, exists_and_right], by simp only [e4, SS, bne_self_eq_false, wr_def, obOf, List.all_cons, List.all_nil, List.map_cons, List.map_nil, List.length_cons, List.length_nil, List.take_zero, List.take_succ_cons, List.take_nil, List.drop_zero, List.drop_succ_cons, List.drop_nil, Nat.reduceAdd, Nat.reduceMul, Nat.reduceSub, if_true, Nat.reduceLT, Nat.reduceLeDiff, ite_true, ite_false, Nat.reduceEqDiff, if_false, reduceCtorEq, ne_eq, List.getD, List.getElem?_cons_zero, List.getElem?_cons_succ, Option.getD_some, Option.bind_some, Option.map_some, Option.isSome_some, reduceIte, List.length_append, List.append_assoc, List.cons_append, List.nil_append, Option.some.injEq, forall_const, implies_true, Int.reduceNeg, eq_self, Prod.mk.injEq, List.self_eq_append_right, List.append_nil, exists_eq_left, exists_eq_left', exists_and_left, exists_eq_right, exists_and_right], by simp only [e5, SS, bne_self_eq_false, wr_def, obOf, List.all_cons, List.all_nil, List.map_cons, List.map_nil, List.length_cons, List.length_nil, List.take_zero, List.take_succ_cons, List.take_nil, List.drop_zero, List.drop_succ_cons, List.drop_nil, Nat.reduceAdd, Nat.reduceMul, Nat.reduceSub, if_true, Nat.reduceLT, Nat.reduceLeDiff, ite_true, ite_false, Nat.reduceEqDiff, if_false, reduceCtorEq, ne_eq, List.getD, List.getElem?_cons_zero, List.getElem?_cons_succ, Option.getD_some, Option.bind_some, Option.map_some, Option.isSome_some, reduceIte, List.length_append, List.append_assoc, List.cons_append, List.nil_append, Option.some.injEq, forall_const, implies_true, Int.reduceNeg, eq_self, Prod.mk.injEq, List.self_eq_append_right, List.append_nil, exists_eq_left, exists_eq_left', exists_and_left, exists_eq_right, exists_and_right], by simp only [e6, SS, bne_self_eq_false, wr_def, obOf, List.all_cons, List.all_nil, List.map_cons, List.map_nil, List.length_cons, List.length_nil, List.take_zero, List.take_succ_cons, List.take_nil, List.drop_zero, List.drop_succ_cons, List.drop_nil, Nat.reduceAdd, Nat.reduceMul, Nat.reduceSub, if_true, Nat.reduceLT, Nat.reduceLeDiff, ite_true, ite_false, Nat.reduceEqDiff, if_false, reduceCtorEq, ne_eq, List.getD, List.getElem?_cons_zero, List.getElem?_cons_succ, Option.getD_some, Option.bind_some, Option.map_some, Option.isSome_some, reduceIte, List.length_append, List.append_assoc, List.cons_append, List.nil_append, Option.some.injEq, forall_const, implies_true, Int.reduceNeg, eq_self, Prod.mk.injEq, List.self_eq_append_right, List.append_nil, exists_eq_left, exists_eq_left', exists_and_left, exists_eq_right, exists_and_right], by simp only [e7, SS, bne_self_eq_false, wr_def, obOf, List.all_cons, List.all_nil, List.map_cons, List.map_nil, List.length_cons, List.length_nil, List.take_zero, List.take_succ_cons, List.take_nil, List.drop_zero, List.drop_succ_cons, List.drop_nil, Nat.reduceAdd, Nat.reduceMul, Nat.reduceSub, if_true, Nat.reduceLT, Nat.reduceLeDiff, ite_true, ite_false, Nat.reduceEqDiff, if_false, reduceCtorEq, ne_eq, List.getD, List.getElem?_cons_zero, List.getElem?_cons_succ, Option.getD_some, Option.bind_some, Option.map_some, Option.isSome_some, reduceIte, List.length_append, List.append_assoc, List.cons_append, List.nil_append, Option.some.injEq, forall_const, implies_true, Int.reduceNeg, eq_self, Prod.mk.injEq, List.self_eq_append_right, List.append_nil, exists_eq_left, exists_eq_left', exists_and_left, exists_eq_right, exists_and_right], by simp only [e9, SS, bne_self_eq_false, wr_def, obOf, List.all_cons, List.all_nil, List.map_cons, List.map_nil, List.length_cons, List.length_nil, List.take_zero, List.take_succ_cons, List.take_nil, List.drop_zero, List.drop_succ_cons, List.drop_nil, Nat.reduceAdd, Nat.reduceMul, Nat.reduceSub, if_true, Nat.reduceLT, Nat.reduceLeDiff, ite_true, ite_false, Nat.reduceEqDiff, if_false, reduceCtorEq, ne_eq, List.getD, List.getElem?_cons_zero, List.getElem?_cons_succ, Option.getD_some, Option.bind_some, Option.map_some, Option.isSome_some, reduceIte, List.length_append, List.append_assoc, List.cons_append, List.nil_append, Option.some.injEq, forall_const, implies_true, Int.reduceNeg, eq_self, Prod.mk.injEq, List.self_eq_append_right, List.append_nil, exists_eq_left, exists_eq_left', exists_and_left, exists_eq_right, exists_and_right], rfl, rfl, rfl, rfl, hln2, least, way, Scn.init, p1⟩ ?_) ?_
      · clear p1 hln2 e0 e4 e5 e6 e7 e9 o1 o2
        rintro q f1 h1 hn1 ht1 ⟨m, δ, nx, rfl, hm1, hm, e0, e4, e5, e6, e7, e9, e10, e11, e12, e13, hln, least', way', Sc, hp⟩
        have htH : h1.take H.length = H := by
          rw [ht1]; exact hBt
        have hH := take_eq htH
        generalize h1.drop H.length = z at hH
        subst hH
        rw [List.length_append] at hln
        have hw1 : IntKind.i64.wrap ((m : Int) + 1) = ((m + 1 : Nat) : Int) := by rw [wrap64 (by omega) (by omega)]; omega
        by_cases hmc : m < C + 1
        · have hc : decide ((m : Int) < ((C + 1 : Nat) : Int)) = true := decide_eq_true (by omega)
          have o1 := hp.don.ok hmc
          have d1 := hp.don.ld hmc
          simp only [gB] at d1
          cases hSm : upd done a true m
          · rw [hSm] at d1
            -- not done
            have hs := hp.hs.s
            have hR : fo a ≤ R := by have := P.ofN a haC; omega
            have oc := mx.ok (fo a - 1) (by omega)
            have dc := mx.ld z (fo a - 1) (by omega)
            have or := mx.rok (fo a - 1) (m - 1) (by omega) (by omega)
            have dr := mx.rld z (fo a - 1) (m - 1) (by omega) (by omega)
            have ou := hp.hs.rows.ok (i := fo a) (by omega)
            have du := hp.hs.rows.ld (i := fo a) (by omega)
            have ov := hp.hs.cols.ok hmc
            have dv := hp.hs.cols.ld hmc
            have ol := hp.lst.ok hmc
            have dl := hp.lst.ld hmc
            have ow := hp.wy.ok hmc
            have wi : IntKind.i64.wrap ((fo a : Int) - 1) = ((fo a - 1 : Nat) : Int) := by rw [wrap64 (by omega) (by omega)]; omega
            have wm : IntKind.i64.wrap ((m : Int) - 1) = ((m - 1 : Nat) : Int) := by rw [wrap64 (by omega) (by omega)]; omega
            have bM := hM (fo a - 1) (m - 1)
            have bu := P.uN hrC hM (fo a)
            have bu0 := P.upos (fo a)
            have bv := P.vN hrC hM m hm1 (by omega)
            have bv0 := P.vneg m hm1 (by omega)
            have w1 : IntKind.i64.wrap (M (fo a - 1) (m - 1) - u (fo a)) = M (fo a - 1) (m - 1) - u (fo a) := wrap64 (by omega) (by omega)
            have w2 : IntKind.i64.wrap (M (fo a - 1) (m - 1) - u (fo a) - v m) = sl M u v (fo a) m := wrap64 (by omega) (by omega)
            simp only [gI] at du dv dl
            by_cases hc1 : sl M u v (fo a) m < least' m
            · have hd1 : decide (sl M u v (fo a) m < least' m) = true := decide_eq_true hc1
              have s1 := hp.lst.stOk hmc (sl M u v (fo a) m)
              obtain ⟨p1, p2, -⟩ := hp.stLst S hmc (sl M u v (fo a) m)
              have s2 := p1.wy.stOk hmc a
              obtain ⟨p3, p4, -⟩ := p1.stWay S hmc a
              have dl2 := p3.lst.ld hmc
              rw [upd_same] at dl2
              simp only [gI, gN] at s1 s2 dl2
              by_cases hc2 : sl M u v (fo a) m < δ
              · have hd2 : decide (sl M u v (fo a) m < δ) = true := decide_eq_true hc2
                simp (config := {maxSteps := 8000000}) only [e0, e4, e5, e6, e7, e9, e10, e11, e12, e13, hc, hw1, o1, isPtr_idx o1, d1, hs, oc, isPtr_idx oc, dc, or, isPtr_idx or, dr, ou, isPtr_idx ou, du, ov, isPtr_idx ov, dv, ol, isPtr_idx ol, dl, ow, isPtr_idx ow, wi, wm, w1, w2, hd1, s1, s2, dl2, hd2, SS, bne_self_eq_false, wr_def, obOf, List.all_cons, List.all_nil, List.map_cons, List.map_nil, List.length_cons, List.length_nil, List.take_zero, List.take_succ_cons, List.take_nil, List.drop_zero, List.drop_succ_cons, List.drop_nil, Nat.reduceAdd, Nat.reduceMul, Nat.reduceSub, if_true, Nat.reduceLT, Nat.reduceLeDiff, ite_true, ite_false, Nat.reduceEqDiff, if_false, reduceCtorEq, ne_eq, List.getD, List.getElem?_cons_zero, List.getElem?_cons_succ, Option.getD_some, Option.bind_some, Option.map_some, Option.isSome_some, reduceIte, List.length_append, List.append_assoc, List.cons_append, List.nil_append, Option.some.injEq, forall_const, implies_true, Int.reduceNeg, eq_self, Prod.mk.injEq, List.self_eq_append_right, List.append_nil, exists_eq_left, exists_eq_left', exists_and_left, exists_eq_right, exists_and_right]
                exact ⟨_, by omega, m + 1, rfl, by omega, by omega, _, rfl, m, rfl, rfl, by rw [p4, p2, List.length_append]; exact hln, _, _, Sc.step hm1 hSm (Or.inl ⟨hc1, rfl, rfl⟩) (Or.inl ⟨by rw [upd_same]; exact hc2, upd_same.symm, rfl⟩), p3⟩
              · have hd2 : decide (sl M u v (fo a) m < δ) = false := decide_eq_false hc2
                simp (config := {maxSteps := 8000000}) only [e0, e4, e5, e6, e7, e9, e10, e11, e12, e13, hc, hw1, o1, isPtr_idx o1, d1, hs, oc, isPtr_idx oc, dc, or, isPtr_idx or, dr, ou, isPtr_idx ou, du, ov, isPtr_idx ov, dv, ol, isPtr_idx ol, dl, ow, isPtr_idx ow, wi, wm, w1, w2, hd1, s1, s2, dl2, hd2, SS, bne_self_eq_false, wr_def, obOf, List.all_cons, List.all_nil, List.map_cons, List.map_nil, List.length_cons, List.length_nil, List.take_zero, List.take_succ_cons, List.take_nil, List.drop_zero, List.drop_succ_cons, List.drop_nil, Nat.reduceAdd, Nat.reduceMul, Nat.reduceSub, if_true, Nat.reduceLT, Nat.reduceLeDiff, ite_true, ite_false, Nat.reduceEqDiff, if_false, reduceCtorEq, ne_eq, List.getD, List.getElem?_cons_zero, List.getElem?_cons_succ, Option.getD_some, Option.bind_some, Option.map_some, Option.isSome_some, reduceIte, List.length_append, List.append_assoc, List.cons_append, List.nil_append, Option.some.injEq, forall_const, implies_true, Int.reduceNeg, eq_self, Prod.mk.injEq, List.self_eq_append_right, List.append_nil, exists_eq_left, exists_eq_left', exists_and_left, exists_eq_right, exists_and_right]
                exact ⟨_, by omega, m + 1, rfl, by omega, by omega, _, rfl, nx, rfl, rfl, by rw [p4, p2, List.length_append]; exact hln, _, _, Sc.step hm1 hSm (Or.inl ⟨hc1, rfl, rfl⟩) (Or.inr ⟨by rw [upd_same]; omega, rfl, rfl⟩), p3⟩
            · have hd1 : decide (sl M u v (fo a) m < least' m) = false := decide_eq_false hc1
              by_cases hc2 : least' m < δ
              · have hd2 : decide (least' m < δ) = true := decide_eq_true hc2
                simp (config := {maxSteps := 8000000}) only [e0, e4, e5, e6, e7, e9, e10, e11, e12, e13, hc, hw1, o1, isPtr_idx o1, d1, hs, oc, isPtr_idx oc, dc, or, isPtr_idx or, dr, ou, isPtr_idx ou, du, ov, isPtr_idx ov, dv, ol, isPtr_idx ol, dl, ow, isPtr_idx ow, wi, wm, w1, w2, hd1, hd2, SS, bne_self_eq_false, wr_def, obOf, List.all_cons, List.all_nil, List.map_cons, List.map_nil, List.length_cons, List.length_nil, List.take_zero, List.take_succ_cons, List.take_nil, List.drop_zero, List.drop_succ_cons, List.drop_nil, Nat.reduceAdd, Nat.reduceMul, Nat.reduceSub, if_true, Nat.reduceLT, Nat.reduceLeDiff, ite_true, ite_false, Nat.reduceEqDiff, if_false, reduceCtorEq, ne_eq, List.getD, List.getElem?_cons_zero, List.getElem?_cons_succ, Option.getD_some, Option.bind_some, Option.map_some, Option.isSome_some, reduceIte, List.length_append, List.append_assoc, List.cons_append, List.nil_append, Option.some.injEq, forall_const, implies_true, Int.reduceNeg, eq_self, Prod.mk.injEq, List.self_eq_append_right, List.append_nil, exists_eq_left, exists_eq_left', exists_and_left, exists_eq_right, exists_and_right]
                exact ⟨_, by omega, m + 1, rfl, by omega, by omega, _, rfl, m, rfl, rfl, hln, _, _, Sc.step hm1 hSm (Or.inr ⟨by omega, rfl, rfl⟩) (Or.inl ⟨hc2, rfl, rfl⟩), hp⟩
              · have hd2 : decide (least' m < δ) = false := decide_eq_false hc2
                simp (config := {maxSteps := 8000000}) only [e0, e4, e5, e6, e7, e9, e10, e11, e12, e13, hc, hw1, o1, isPtr_idx o1, d1, hs, oc, isPtr_idx oc, dc, or, isPtr_idx or, dr, ou, isPtr_idx ou, du, ov, isPtr_idx ov, dv, ol, isPtr_idx ol, dl, ow, isPtr_idx ow, wi, wm, w1, w2, hd1, hd2, SS, bne_self_eq_false, wr_def, obOf, List.all_cons, List.all_nil, List.map_cons, List.map_nil, List.length_cons, List.length_nil, List.take_zero, List.take_succ_cons, List.take_nil, List.drop_zero, List.drop_succ_cons, List.drop_nil, Nat.reduceAdd, Nat.reduceMul, Nat.reduceSub, if_true, Nat.reduceLT, Nat.reduceLeDiff, ite_true, ite_false, Nat.reduceEqDiff, if_false, reduceCtorEq, ne_eq, List.getD, List.getElem?_cons_zero, List.getElem?_cons_succ, Option.getD_some, Option.bind_some, Option.map_some, Option.isSome_some, reduceIte, List.length_append, List.append_assoc, List.cons_append, List.nil_append, Option.some.injEq, forall_const, implies_true, Int.reduceNeg, eq_self, Prod.mk.injEq, List.self_eq_append_right, List.append_nil, exists_eq_left, exists_eq_left', exists_and_left, exists_eq_right, exists_and_right]
                exact ⟨_, by omega, m + 1, rfl, by omega, by omega, _, rfl, nx, rfl, rfl, hln, _, _, Sc.step hm1 hSm (Or.inr ⟨by omega, rfl, rfl⟩) (Or.inr ⟨by omega, rfl, rfl⟩), hp⟩
          · rw [hSm] at d1
            simp (config := {maxSteps := 8000000}) only [e0, e4, e5, e6, e7, e9, e10, e11, e12, e13, hc, hw1, o1, isPtr_idx o1, d1, SS, bne_self_eq_false, wr_def, obOf, List.all_cons, List.all_nil, List.map_cons, List.map_nil, List.length_cons, List.length_nil, List.take_zero, List.take_succ_cons, List.take_nil, List.drop_zero, List.drop_succ_cons, List.drop_nil, Nat.reduceAdd, Nat.reduceMul, Nat.reduceSub, if_true, Nat.reduceLT, Nat.reduceLeDiff, ite_true, ite_false, Nat.reduceEqDiff, if_false, reduceCtorEq, ne_eq, List.getD, List.getElem?_cons_zero, List.getElem?_cons_succ, Option.getD_some, Option.bind_some, Option.map_some, Option.isSome_some, reduceIte, List.length_append, List.append_assoc, List.cons_append, List.nil_append, Option.some.injEq, forall_const, implies_true, Int.reduceNeg, eq_self, Prod.mk.injEq, List.self_eq_append_right, List.append_nil, exists_eq_left, exists_eq_left', exists_and_left, exists_eq_right, exists_and_right]
            exact ⟨_, by omega, m + 1, rfl, by omega, by omega, _, rfl, nx, rfl, rfl, hln, _, _, Sc.skip hSm, hp⟩
        · have hc : decide ((m : Int) < ((C + 1 : Nat) : Int)) = false := decide_eq_false (by omega)
          simp (config := {maxSteps := 8000000}) only [e0, e4, e5, e6, e7, e9, e10, e11, e12, e13, hc, SS, bne_self_eq_false, wr_def, obOf, List.all_cons, List.all_nil, List.map_cons, List.map_nil, List.length_cons, List.length_nil, List.take_zero, List.take_succ_cons, List.take_nil, List.drop_zero, List.drop_succ_cons, List.drop_nil, Nat.reduceAdd, Nat.reduceMul, Nat.reduceSub, if_true, Nat.reduceLT, Nat.reduceLeDiff, ite_true, ite_false, Nat.reduceEqDiff, if_false, reduceCtorEq, ne_eq, List.getD, List.getElem?_cons_zero, List.getElem?_cons_succ, Option.getD_some, Option.bind_some, Option.map_some, Option.isSome_some, reduceIte, List.length_append, List.append_assoc, List.cons_append, List.nil_append, Option.some.injEq, forall_const, implies_true, Int.reduceNeg, eq_self, Prod.mk.injEq, List.self_eq_append_right, List.append_nil, exists_eq_left, exists_eq_left', exists_and_left, exists_eq_right, exists_and_right]
          have : m = C + 1 := by omega
          subst this
          exact ⟨_, rfl, nx, rfl, hln, _, _, Sc, hp⟩
      · clear p1 hln2 e0 e4 e5 e6 e7 e9 o1 o2
        rintro e f1 h1 hn1 ht1 ⟨rfl, δ, nx, e0, e4, e5, e6, e7, e11, e12, hln, least', way', Sc, hp⟩
        obtain ⟨n1, n2, n3, n4, n5, n6⟩ := P.next hrC hM ha Sc
        have hv0 := P.v0
        have hr64 : (r : Int) * 1125899906842624 ≤ 64 * 1125899906842624 := Int.mul_le_mul_of_nonneg_right (by omega) (by omega)
        have h1t : h1.take H.length = H := ht1.trans hBt
        clear ht1 hBt
        simp (config := {maxSteps := 8000000}) only [e0, e4, e5, e6, e7, e11, e12, SS, bne_self_eq_false, wr_def, obOf, List.all_cons, List.all_nil, List.map_cons, List.map_nil, List.length_cons, List.length_nil, List.take_zero, List.take_succ_cons, List.take_nil, List.drop_zero, List.drop_succ_cons, List.drop_nil, Nat.reduceAdd, Nat.reduceMul, Nat.reduceSub, if_true, Nat.reduceLT, Nat.reduceLeDiff, ite_true, ite_false, Nat.reduceEqDiff, if_false, reduceCtorEq, ne_eq, List.getD, List.getElem?_cons_zero, List.getElem?_cons_succ, Option.getD_some, Option.bind_some, Option.map_some, Option.isSome_some, reduceIte, List.length_append, List.append_assoc, List.cons_append, List.nil_append, Option.some.injEq, forall_const, implies_true, Int.reduceNeg, eq_self, Prod.mk.injEq, List.self_eq_append_right, List.append_nil, exists_eq_left, exists_eq_left', exists_and_left, exists_eq_right, exists_and_right]
        refine W.mono (Q := fun e f1 h1 => e = .ex 6 ∧ f1 0 = .ptr sid 0 0 ∧ f1 4 = .int .i64 ((C + 1 : Nat) : Int) ∧ f1 5 = vl ∧ f1 6 = vw ∧ f1 7 = vd ∧ f1 12 = .int .i64 (nx : Int) ∧ H.length + x.length ≤ h1.length ∧ ∃ u' v' least'', Shf (upd done a true) fo δ u v least' (C + 1) u' v' least'' ∧ Hp H.length h1 sid vc vr vk vo vl vw vd R C u' v' fo least'' way' (upd done a true))
          (W_loop (fun q f1 h1 => ∃ m : Nat, q = C + 1 - m ∧ m ≤ C + 1 ∧ f1 0 = .ptr sid 0 0 ∧ f1 4 = .int .i64 ((C + 1 : Nat) : Int) ∧ f1 5 = vl ∧ f1 6 = vw ∧ f1 7 = vd ∧ f1 11 = .int .i64 δ ∧ f1 12 = .int .i64 (nx : Int) ∧ f1 114 = .int .i64 ((C + 1 : Nat) : Int) ∧ f1 115 = .int .i64 (m : Int) ∧ H.length + x.length ≤ h1.length ∧ ∃ u' v' least'', Shf (upd done a true) fo δ u v least' m u' v' least'' ∧ Hp H.length h1 sid vc vr vk vo vl vw vd R C u' v' fo least'' way' (upd done a true)) (by omega) (C + 1)
            ⟨0, by omega, by omega, by simp only [e0, SS, bne_self_eq_false, wr_def, obOf, List.all_cons, List.all_nil, List.map_cons, List.map_nil, List.length_cons, List.length_nil, List.take_zero, List.take_succ_cons, List.take_nil, List.drop_zero, List.drop_succ_cons, List.drop_nil, Nat.reduceAdd, Nat.reduceMul, Nat.reduceSub, if_true, Nat.reduceLT, Nat.reduceLeDiff, ite_true, ite_false, Nat.reduceEqDiff, if_false, reduceCtorEq, ne_eq, List.getD, List.getElem?_cons_zero, List.getElem?_cons_succ, Option.getD_some, Option.bind_some, Option.map_some, Option.isSome_some, reduceIte, List.length_append, List.append_assoc, List.cons_append, List.nil_append, Option.some.injEq, forall_const, implies_true, Int.reduceNeg, eq_self, Prod.mk.injEq, List.self_eq_append_right, List.append_nil, exists_eq_left, exists_eq_left', exists_and_left, exists_eq_right, exists_and_right], by simp only [e4, SS, bne_self_eq_false, wr_def, obOf, List.all_cons, List.all_nil, List.map_cons, List.map_nil, List.length_cons, List.length_nil, List.take_zero, List.take_succ_cons, List.take_nil, List.drop_zero, List.drop_succ_cons, List.drop_nil, Nat.reduceAdd, Nat.reduceMul, Nat.reduceSub, if_true, Nat.reduceLT, Nat.reduceLeDiff, ite_true, ite_false, Nat.reduceEqDiff, if_false, reduceCtorEq, ne_eq, List.getD, List.getElem?_cons_zero, List.getElem?_cons_succ, Option.getD_some, Option.bind_some, Option.map_some, Option.isSome_some, reduceIte, List.length_append, List.append_assoc, List.cons_append, List.nil_append, Option.some.injEq, forall_const, implies_true, Int.reduceNeg, eq_self, Prod.mk.injEq, List.self_eq_append_right, List.append_nil, exists_eq_left, exists_eq_left', exists_and_left, exists_eq_right, exists_and_right], by simp only [e5, SS, bne_self_eq_false, wr_def, obOf, List.all_cons, List.all_nil, List.map_cons, List.map_nil, List.length_cons, List.length_nil, List.take_zero, List.take_succ_cons, List.take_nil, List.drop_zero, List.drop_succ_cons, List.drop_nil, Nat.reduceAdd, Nat.reduceMul, Nat.reduceSub, if_true, Nat.reduceLT, Nat.reduceLeDiff, ite_true, ite_false, Nat.reduceEqDiff, if_false, reduceCtorEq, ne_eq, List.getD, List.getElem?_cons_zero, List.getElem?_cons_succ, Option.getD_some, Option.bind_some, Option.map_some, Option.isSome_some, reduceIte, List.length_append, List.append_assoc, List.cons_append, List.nil_append, Option.some.injEq, forall_const, implies_true, Int.reduceNeg, eq_self, Prod.mk.injEq, List.self_eq_append_right, List.append_nil, exists_eq_left, exists_eq_left', exists_and_left, exists_eq_right, exists_and_right], by simp only [e6, SS, bne_self_eq_false, wr_def, obOf, List.all_cons, List.all_nil, List.map_cons, List.map_nil, List.length_cons, List.length_nil, List.take_zero, List.take_succ_cons, List.take_nil, List.drop_zero, List.drop_succ_cons, List.drop_nil, Nat.reduceAdd, Nat.reduceMul, Nat.reduceSub, if_true, Nat.reduceLT, Nat.reduceLeDiff, ite_true, ite_false, Nat.reduceEqDiff, if_false, reduceCtorEq, ne_eq, List.getD, List.getElem?_cons_zero, List.getElem?_cons_succ, Option.getD_some, Option.bind_some, Option.map_some, Option.isSome_some, reduceIte, List.length_append, List.append_assoc, List.cons_append, List.nil_append, Option.some.injEq, forall_const, implies_true, Int.reduceNeg, eq_self, Prod.mk.injEq, List.self_eq_append_right, List.append_nil, exists_eq_left, exists_eq_left', exists_and_left, exists_eq_right, exists_and_right], by simp only [e7, SS, bne_self_eq_false, wr_def, obOf, List.all_cons, List.all_nil, List.map_cons, List.map_nil, List.length_cons, List.length_nil, List.take_zero, List.take_succ_cons, List.take_nil, List.drop_zero, List.drop_succ_cons, List.drop_nil, Nat.reduceAdd, Nat.reduceMul, Nat.reduceSub, if_true, Nat.reduceLT, Nat.reduceLeDiff, ite_true, ite_false, Nat.reduceEqDiff, if_false, reduceCtorEq, ne_eq, List.getD, List.getElem?_cons_zero, List.getElem?_cons_succ, Option.getD_some, Option.bind_some, Option.map_some, Option.isSome_some, reduceIte, List.length_append, List.append_assoc, List.cons_append, List.nil_append, Option.some.injEq, forall_const, implies_true, Int.reduceNeg, eq_self, Prod.mk.injEq, List.self_eq_append_right, List.append_nil, exists_eq_left, exists_eq_left', exists_and_left, exists_eq_right, exists_and_right], by simp only [e11, SS, bne_self_eq_false, wr_def, obOf, List.all_cons, List.all_nil, List.map_cons, List.map_nil, List.length_cons, List.length_nil, List.take_zero, List.take_succ_cons, List.take_nil, List.drop_zero, List.drop_succ_cons, List.drop_nil, Nat.reduceAdd, Nat.reduceMul, Nat.reduceSub, if_true, Nat.reduceLT, Nat.reduceLeDiff, ite_true, ite_false, Nat.reduceEqDiff, if_false, reduceCtorEq, ne_eq, List.getD, List.getElem?_cons_zero, List.getElem?_cons_succ, Option.getD_some, Option.bind_some, Option.map_some, Option.isSome_some, reduceIte, List.length_append, List.append_assoc, List.cons_append, List.nil_append, Option.some.injEq, forall_const, implies_true, Int.reduceNeg, eq_self, Prod.mk.injEq, List.self_eq_append_right, List.append_nil, exists_eq_left, exists_eq_left', exists_and_left, exists_eq_right, exists_and_right], by simp only [e12, SS, bne_self_eq_false, wr_def, obOf, List.all_cons, List.all_nil, List.map_cons, List.map_nil, List.length_cons, List.length_nil, List.take_zero, List.take_succ_cons, List.take_nil, List.drop_zero, List.drop_succ_cons, List.drop_nil, Nat.reduceAdd, Nat.reduceMul, Nat.reduceSub, if_true, Nat.reduceLT, Nat.reduceLeDiff, ite_true, ite_false, Nat.reduceEqDiff, if_false, reduceCtorEq, ne_eq, List.getD, List.getElem?_cons_zero, List.getElem?_cons_succ, Option.getD_some, Option.bind_some, Option.map_some, Option.isSome_some, reduceIte, List.length_append, List.append_assoc, List.cons_append, List.nil_append, Option.some.injEq, forall_const, implies_true, Int.reduceNeg, eq_self, Prod.mk.injEq, List.self_eq_append_right, List.append_nil, exists_eq_left, exists_eq_left', exists_and_left, exists_eq_right, exists_and_right], rfl, rfl, hln, u, v, least', Shf.init, hp⟩ ?_) ?_
        · clear hp e0 e4 e5 e6 e7 e11 e12 hln
          rintro q f1 h2 hn2 ht2 ⟨m, rfl, hm, e0, e4, e5, e6, e7, e11, e12, e114, e115, hln, u', v', least'', Sh, hp⟩
          have hw1 : IntKind.i64.wrap ((m : Int) + 1) = ((m + 1 : Nat) : Int) := by rw [wrap64 (by omega) (by omega)]; omega
          by_cases hmc : m < C + 1
          · have hc : decide ((m : Int) < ((C + 1 : Nat) : Int)) = true := decide_eq_true (by omega)
            have o1 := hp.don.ok hmc
            have d1 := hp.don.ld hmc
            simp only [gB] at d1
            cases hSm : upd done a true m
            · rw [hSm] at d1
              have hmn := (P.nmem m).1 hSm
              have hm0 : m ≠ 0 := fun e => hmn (by rw [e]; exact P.trl.zero)
              obtain ⟨g1, g2, g3⟩ := P.found hrC hM Sc m (by omega) (by omega) hmn
              have g4 := P.slN hrC hM (fo (way' m)) m (by omega) (by omega)
              have g5 := Sc.mn m (by omega) hmc hSm
              have ol := hp.lst.ok hmc
              have dl := hp.lst.ld hmc
              have el := Sh.l2 m (Or.inl (Nat.le_refl _))
              have w1 : IntKind.i64.wrap (least'' m - δ) = least'' m - δ := wrap64 (by omega) (by omega)
              have s1 := hp.lst.stOk hmc (least'' m - δ)
              obtain ⟨p1, p2, -⟩ := hp.stLst S hmc (least'' m - δ)
              simp only [gI] at dl s1
              simp (config := {maxSteps := 8000000}) only [e0, e4, e5, e6, e7, e11, e12, e114, e115, hc, hw1, o1, isPtr_idx o1, d1, ol, isPtr_idx ol, dl, w1, s1, SS, bne_self_eq_false, wr_def, obOf, List.all_cons, List.all_nil, List.map_cons, List.map_nil, List.length_cons, List.length_nil, List.take_zero, List.take_succ_cons, List.take_nil, List.drop_zero, List.drop_succ_cons, List.drop_nil, Nat.reduceAdd, Nat.reduceMul, Nat.reduceSub, if_true, Nat.reduceLT, Nat.reduceLeDiff, ite_true, ite_false, Nat.reduceEqDiff, if_false, reduceCtorEq, ne_eq, List.getD, List.getElem?_cons_zero, List.getElem?_cons_succ, Option.getD_some, Option.bind_some, Option.map_some, Option.isSome_some, reduceIte, List.length_append, List.append_assoc, List.cons_append, List.nil_append, Option.some.injEq, forall_const, implies_true, Int.reduceNeg, eq_self, Prod.mk.injEq, List.self_eq_append_right, List.append_nil, exists_eq_left, exists_eq_left', exists_and_left, exists_eq_right, exists_and_right]
              exact ⟨_, by omega, m + 1, rfl, by omega, rfl, by rw [p2]; exact hln, _, _, _, Sh.out hSm, p1⟩
            · rw [hSm] at d1
              have hmn := (P.mem m).1 hSm
              have hs := hp.hs.s
              have hfm := P.ofN m (by omega)
              have hf0 := P.occ' ha m hmn
              have oo := hp.hs.off.ok hmc
              have do' := hp.hs.off.ld hmc
              have ou := hp.hs.rows.ok (i := fo m) (by omega)
              have du := hp.hs.rows.ld (i := fo m) (by omega)
              have hi : ∀ k, k < m → upd done a true k = true → fo k ≠ fo m := fun k hk hSk e => by
                have := P.inj0 k m (by omega) (by omega) e (P.occ' ha k ((P.mem k).1 hSk)); omega
              have eu := Sh.u2 (fo m) hi
              have ev' := Sh.v2 m (Or.inl (Nat.le_refl _))
              have bu := P.uN hrC hM (fo m)
              have bu0 := P.upos (fo m)
              have bu1 := P.upos (r + 1)
              have bu2 := P.uN hrC hM (r + 1)
              have bv : -(66 * 1125899906842624) ≤ v m ∧ v m ≤ 0 := by
                by_cases h0 : m = 0
                · subst h0; omega
                · have := P.vN hrC hM m (by omega) (by omega); have := P.vneg m (by omega) (by omega); omega
              have w1 : IntKind.i64.wrap (u' (fo m) + δ) = u' (fo m) + δ := wrap64 (by omega) (by omega)
              have w2 : IntKind.i64.wrap (v' m - δ) = v' m - δ := wrap64 (by omega) (by omega)
              have s1 := hp.hs.rows.stOk (i := fo m) (by omega) (u' (fo m) + δ)
              obtain ⟨p1, p2, -⟩ := hp.stRows S (i := fo m) (by omega) (u' (fo m) + δ)
              have hs2 := p1.hs.s
              have ov := p1.hs.cols.ok hmc
              have dv := p1.hs.cols.ld hmc
              have s2 := p1.hs.cols.stOk hmc (v' m - δ)
              obtain ⟨p3, p4, -⟩ := p1.stCols S hmc (v' m - δ)
              simp only [gI, gN] at do' du s1 dv s2
              simp (config := {maxSteps := 8000000}) only [e0, e4, e5, e6, e7, e11, e12, e114, e115, hc, hw1, o1, isPtr_idx o1, d1, hs, oo, isPtr_idx oo, do', ou, isPtr_idx ou, du, w1, s1, hs2, ov, isPtr_idx ov, dv, w2, s2, SS, bne_self_eq_false, wr_def, obOf, List.all_cons, List.all_nil, List.map_cons, List.map_nil, List.length_cons, List.length_nil, List.take_zero, List.take_succ_cons, List.take_nil, List.drop_zero, List.drop_succ_cons, List.drop_nil, Nat.reduceAdd, Nat.reduceMul, Nat.reduceSub, if_true, Nat.reduceLT, Nat.reduceLeDiff, ite_true, ite_false, Nat.reduceEqDiff, if_false, reduceCtorEq, ne_eq, List.getD, List.getElem?_cons_zero, List.getElem?_cons_succ, Option.getD_some, Option.bind_some, Option.map_some, Option.isSome_some, reduceIte, List.length_append, List.append_assoc, List.cons_append, List.nil_append, Option.some.injEq, forall_const, implies_true, Int.reduceNeg, eq_self, Prod.mk.injEq, List.self_eq_append_right, List.append_nil, exists_eq_left, exists_eq_left', exists_and_left, exists_eq_right, exists_and_right]
              exact ⟨_, by omega, m + 1, rfl, by omega, rfl, by rw [p4, p2]; exact hln, _, _, _, Sh.inn hSm hi, p3⟩
          · have hc : decide ((m : Int) < ((C + 1 : Nat) : Int)) = false := decide_eq_false (by omega)
            simp (config := {maxSteps := 8000000}) only [e0, e4, e5, e6, e7, e11, e12, e114, e115, hc, SS, bne_self_eq_false, wr_def, obOf, List.all_cons, List.all_nil, List.map_cons, List.map_nil, List.length_cons, List.length_nil, List.take_zero, List.take_succ_cons, List.take_nil, List.drop_zero, List.drop_succ_cons, List.drop_nil, Nat.reduceAdd, Nat.reduceMul, Nat.reduceSub, if_true, Nat.reduceLT, Nat.reduceLeDiff, ite_true, ite_false, Nat.reduceEqDiff, if_false, reduceCtorEq, ne_eq, List.getD, List.getElem?_cons_zero, List.getElem?_cons_succ, Option.getD_some, Option.bind_some, Option.map_some, Option.isSome_some, reduceIte, List.length_append, List.append_assoc, List.cons_append, List.nil_append, Option.some.injEq, forall_const, implies_true, Int.reduceNeg, eq_self, Prod.mk.injEq, List.self_eq_append_right, List.append_nil, exists_eq_left, exists_eq_left', exists_and_left, exists_eq_right, exists_and_right]
            have : m = C + 1 := by omega
            subst this
            exact ⟨hln, _, _, _, Sh, hp⟩
        · clear hp e0 e4 e5 e6 e7 e11 e12 hln
          rintro e f1 h2 hn2 ht2 ⟨rfl, e0, e4, e5, e6, e7, e12, hln, u', v', least'', Sh, hp⟩
          have P' := P.step hrC hM ha Sc Sh
          have hs := hp.hs.s
          have oo := hp.hs.off.ok (i := nx) (by omega)
          have do' := hp.hs.off.ld (i := nx) (by omega)
          simp only [gN] at do'
          by_cases hz : fo nx = 0
          · have hc : ((fo nx : Int) == 0) = true := by rw [hz]; rfl
            simp (config := {maxSteps := 8000000}) only [e0, e4, e5, e6, e7, e12, hs, oo, isPtr_idx oo, do', hc, SS, bne_self_eq_false, wr_def, obOf, List.all_cons, List.all_nil, List.map_cons, List.map_nil, List.length_cons, List.length_nil, List.take_zero, List.take_succ_cons, List.take_nil, List.drop_zero, List.drop_succ_cons, List.drop_nil, Nat.reduceAdd, Nat.reduceMul, Nat.reduceSub, if_true, Nat.reduceLT, Nat.reduceLeDiff, ite_true, ite_false, Nat.reduceEqDiff, if_false, reduceCtorEq, ne_eq, List.getD, List.getElem?_cons_zero, List.getElem?_cons_succ, Option.getD_some, Option.bind_some, Option.map_some, Option.isSome_some, reduceIte, List.length_append, List.append_assoc, List.cons_append, List.nil_append, Option.some.injEq, forall_const, implies_true, Int.reduceNeg, eq_self, Prod.mk.injEq, List.self_eq_append_right, List.append_nil, exists_eq_left, exists_eq_left', exists_and_left, exists_eq_right, exists_and_right]
            exact ⟨nx, rfl, hln, _, _, _, _, _, _, ⟨_, P'⟩, hz, hp⟩
          · have hc : ((fo nx : Int) == 0) = false := by
              rw [beq_eq_false_iff_ne]; omega
            simp (config := {maxSteps := 8000000}) only [e0, e4, e5, e6, e7, e12, hs, oo, isPtr_idx oo, do', hc, SS, bne_self_eq_false, wr_def, obOf, List.all_cons, List.all_nil, List.map_cons, List.map_nil, List.length_cons, List.length_nil, List.take_zero, List.take_succ_cons, List.take_nil, List.drop_zero, List.drop_succ_cons, List.drop_nil, Nat.reduceAdd, Nat.reduceMul, Nat.reduceSub, if_true, Nat.reduceLT, Nat.reduceLeDiff, ite_true, ite_false, Nat.reduceEqDiff, if_false, reduceCtorEq, ne_eq, List.getD, List.getElem?_cons_zero, List.getElem?_cons_succ, Option.getD_some, Option.bind_some, Option.map_some, Option.isSome_some, reduceIte, List.length_append, List.append_assoc, List.cons_append, List.nil_append, Option.some.injEq, forall_const, implies_true, Int.reduceNeg, eq_self, Prod.mk.injEq, List.self_eq_append_right, List.append_nil, exists_eq_left, exists_eq_left', exists_and_left, exists_eq_right, exists_and_right]
            exact ⟨_, by omega, nx, rfl, hln, _, _, _, _, _, _, rfl, ⟨_, P'⟩, hz, hp⟩
    · clear hph0 p1' hlen1 hh1 e0 e1 e4 e5 e6 e7 hln
      clear hAt hn1 B
      clear u v fo least
      rintro e f1 h1 hn1 ht ⟨rfl, a, e0, e6, e9, hln, u, v, fo, least, way, done, l, P, ha, hp⟩
      have K0 := P.back ha
      simp (config := {maxSteps := 8000000}) only [e0, e6, e9, SS, bne_self_eq_false, wr_def, obOf, List.all_cons, List.all_nil, List.map_cons, List.map_nil, List.length_cons, List.length_nil, List.take_zero, List.take_succ_cons, List.take_nil, List.drop_zero, List.drop_succ_cons, List.drop_nil, Nat.reduceAdd, Nat.reduceMul, Nat.reduceSub, if_true, Nat.reduceLT, Nat.reduceLeDiff, ite_true, ite_false, Nat.reduceEqDiff, if_false, reduceCtorEq, ne_eq, List.getD, List.getElem?_cons_zero, List.getElem?_cons_succ, Option.getD_some, Option.bind_some, Option.map_some, Option.isSome_some, reduceIte, List.length_append, List.append_assoc, List.cons_append, List.nil_append, Option.some.injEq, forall_const, implies_true, Int.reduceNeg, eq_self, Prod.mk.injEq, List.self_eq_append_right, List.append_nil, exists_eq_left, exists_eq_left', exists_and_left, exists_eq_right, exists_and_right]
      refine W_loop (fun q f1 h1 => ∃ a : Nat, f1 0 = .ptr sid 0 0 ∧ f1 6 = vw ∧ f1 9 = .int .i64 (a : Int) ∧ H.length + x.length ≤ h1.length ∧ ∃ b fo', q = b.length ∧ Bk M C r u v way fo' a b ∧ Hp H.length h1 sid vc vr vk vo vl vw vd R C u v fo' least way done) (by omega) l.length ⟨a, by simp only [e0, SS, bne_self_eq_false, wr_def, obOf, List.all_cons, List.all_nil, List.map_cons, List.map_nil, List.length_cons, List.length_nil, List.take_zero, List.take_succ_cons, List.take_nil, List.drop_zero, List.drop_succ_cons, List.drop_nil, Nat.reduceAdd, Nat.reduceMul, Nat.reduceSub, if_true, Nat.reduceLT, Nat.reduceLeDiff, ite_true, ite_false, Nat.reduceEqDiff, if_false, reduceCtorEq, ne_eq, List.getD, List.getElem?_cons_zero, List.getElem?_cons_succ, Option.getD_some, Option.bind_some, Option.map_some, Option.isSome_some, reduceIte, List.length_append, List.append_assoc, List.cons_append, List.nil_append, Option.some.injEq, forall_const, implies_true, Int.reduceNeg, eq_self, Prod.mk.injEq, List.self_eq_append_right, List.append_nil, exists_eq_left, exists_eq_left', exists_and_left, exists_eq_right, exists_and_right], by simp only [e6, SS, bne_self_eq_false, wr_def, obOf, List.all_cons, List.all_nil, List.map_cons, List.map_nil, List.length_cons, List.length_nil, List.take_zero, List.take_succ_cons, List.take_nil, List.drop_zero, List.drop_succ_cons, List.drop_nil, Nat.reduceAdd, Nat.reduceMul, Nat.reduceSub, if_true, Nat.reduceLT, Nat.reduceLeDiff, ite_true, ite_false, Nat.reduceEqDiff, if_false, reduceCtorEq, ne_eq, List.getD, List.getElem?_cons_zero, List.getElem?_cons_succ, Option.getD_some, Option.bind_some, Option.map_some, Option.isSome_some, reduceIte, List.length_append, List.append_assoc, List.cons_append, List.nil_append, Option.some.injEq, forall_const, implies_true, Int.reduceNeg, eq_self, Prod.mk.injEq, List.self_eq_append_right, List.append_nil, exists_eq_left, exists_eq_left', exists_and_left, exists_eq_right, exists_and_right], by simp only [e9, SS, bne_self_eq_false, wr_def, obOf, List.all_cons, List.all_nil, List.map_cons, List.map_nil, List.length_cons, List.length_nil, List.take_zero, List.take_succ_cons, List.take_nil, List.drop_zero, List.drop_succ_cons, List.drop_nil, Nat.reduceAdd, Nat.reduceMul, Nat.reduceSub, if_true, Nat.reduceLT, Nat.reduceLeDiff, ite_true, ite_false, Nat.reduceEqDiff, if_false, reduceCtorEq, ne_eq, List.getD, List.getElem?_cons_zero, List.getElem?_cons_succ, Option.getD_some, Option.bind_some, Option.map_some, Option.isSome_some, reduceIte, List.length_append, List.append_assoc, List.cons_append, List.nil_append, Option.some.injEq, forall_const, implies_true, Int.reduceNeg, eq_self, Prod.mk.injEq, List.self_eq_append_right, List.append_nil, exists_eq_left, exists_eq_left', exists_and_left, exists_eq_right, exists_and_right], hln, l, fo, rfl, K0, hp⟩ ?_
      clear hp e0 e6 e9 hln K0
      rintro q f1 h2 hn2 ht2 ⟨a', e0, e6, e9, hln, b, fo', rfl, K, hp⟩
      by_cases ha0 : a' = 0
      · subst ha0
        have hc : (((0 : Nat) : Int) != 0) = false := rfl
        have KB := K.fin P hrC hM
        simp (config := {maxSteps := 8000000}) only [e0, e6, e9, hc, SS, bne_self_eq_false, wr_def, obOf, List.all_cons, List.all_nil, List.map_cons, List.map_nil, List.length_cons, List.length_nil, List.take_zero, List.take_succ_cons, List.take_nil, List.drop_zero, List.drop_succ_cons, List.drop_nil, Nat.reduceAdd, Nat.reduceMul, Nat.reduceSub, if_true, Nat.reduceLT, Nat.reduceLeDiff, ite_true, ite_false, Nat.reduceEqDiff, if_false, reduceCtorEq, ne_eq, List.getD, List.getElem?_cons_zero, List.getElem?_cons_succ, Option.getD_some, Option.bind_some, Option.map_some, Option.isSome_some, reduceIte, List.length_append, List.append_assoc, List.cons_append, List.nil_append, Option.some.injEq, forall_const, implies_true, Int.reduceNeg, eq_self, Prod.mk.injEq, List.self_eq_append_right, List.append_nil, exists_eq_left, exists_eq_left', exists_and_left, exists_eq_right, exists_and_right]
        exact ⟨rfl, hln, _, _, _, KB, hp.hs⟩
      · have hc : ((a' : Int) != 0) = true := by rw [bne_iff_ne]; omega
        have haC := K.inC a' (by simp)
        have hwC := K.inC (way a') (List.mem_cons_of_mem _ (K.tr.head_way ha0))
        obtain ⟨b', hlt, K'⟩ := K.step ha0
        have hs := hp.hs.s
        have oo := hp.hs.off.ok (i := a') (by omega)
        have ow := hp.wy.ok (i := a') (by omega)
        have dw := hp.wy.ld (i := a') (by omega)
        have oo2 := hp.hs.off.ok (i := way a') (by omega)
        have do2 := hp.hs.off.ld (i := way a') (by omega)
        have s1 := hp.hs.off.stOk (i := a') (by omega) (fo' (way a'))
        obtain ⟨p1, p2, -⟩ := hp.stOf S (i := a') (by omega) (fo' (way a'))
        have dw2 := p1.wy.ld (i := a') (by omega)
        simp only [gN] at dw do2 s1 dw2
        simp (config := {maxSteps := 8000000}) only [e0, e6, e9, hc, hs, oo, isPtr_idx oo, ow, isPtr_idx ow, dw, oo2, isPtr_idx oo2, do2, s1, dw2, SS, bne_self_eq_false, wr_def, obOf, List.all_cons, List.all_nil, List.map_cons, List.map_nil, List.length_cons, List.length_nil, List.take_zero, List.take_succ_cons, List.take_nil, List.drop_zero, List.drop_succ_cons, List.drop_nil, Nat.reduceAdd, Nat.reduceMul, Nat.reduceSub, if_true, Nat.reduceLT, Nat.reduceLeDiff, ite_true, ite_false, Nat.reduceEqDiff, if_false, reduceCtorEq, ne_eq, List.getD, List.getElem?_cons_zero, List.getElem?_cons_succ, Option.getD_some, Option.bind_some, Option.map_some, Option.isSome_some, reduceIte, List.length_append, List.append_assoc, List.cons_append, List.nil_append, Option.some.injEq, forall_const, implies_true, Int.reduceNeg, eq_self, Prod.mk.injEq, List.self_eq_append_right, List.append_nil, exists_eq_left, exists_eq_left', exists_and_left, exists_eq_right, exists_and_right]
        exact ⟨_, hlt, way a', rfl, by rw [p2]; exact hln, b', rfl, _, K', p1⟩
  obtain ⟨h', h2, wl, wa, k1, k2, k3, k4, k5, k6, u', v', fo', B', A'⟩ := call_mut (P := fun h' => ∃ u' v' fo', Base M C (r + 1) u' v' fo' ∧ Hs H.length h' sid vc vr vk vo R C u' v' fo') (v := .tup []) e88 rfl (Nat.le_of_ble_eq_true rfl) rfl (by simp) key
  refine ⟨h2, wl, wa, k1, k2, k3, by rw [k4]; simp, k5, u', v', fo', B', ?_⟩
  have hm : ∀ id ep o, id < (H ++ x).length → rdObj h' id ep = some o → rdObj h2 id ep = some o := fun id ep o hid ho => rd_take k6 hid ho
  exact ⟨hm _ _ _ (rd_lt A.s) A'.s, A'.rows.mono fun id ep o hid => hm id ep o (A.rows.lt hid), A'.cols.mono fun id ep o hid => hm id ep o (A.cols.lt hid), A'.off.mono fun id ep o hid => hm id ep o (A.off.lt hid)⟩
end Go.Proofs.Ytaekgifbehoipaa.Hg
/- The least sum: what total of the package assign answers. Conditions stand in each lemma. -/
namespace Go.Proofs.Ytaekgifbehoipaa.Hg
open Go Go.Proofs.Ytaekgifbehoipaa.Eva Go.Proofs.Ytaekgifbehoipaa.CodeAll
set_option linter.unusedVariables false
set_option linter.unusedSimpArgs false
set_option maxRecDepth 10000
set_option maxHeartbeats 4000000

theorem call_exP {E : Nat → Option CF} {g : Nat} {cf : CF} (hE : E g = some cf) {args : List AV} (hn : args.length = cf.np) (hnt : args.length ≤ cf.nt) {h : List Ob} {P : AV → Prop} (hp : ∀ v, P v → plainV v = true)
    (hw : wc E h.length cf.nt cf.code (fun e f h' => exOk e = true ∧ ∃ v, (rvq cf.nt f h' cf.res).map mkRes = some v ∧ P v) (ofL args) h) : ∃ v, P v ∧ ecall E g args h = some (v, h, h.length, h.length) := by
  obtain ⟨e, f', h', k1, k2, ⟨k3, v, k4, k5⟩, k6⟩ := call_wc hE hn hnt hw
  obtain ⟨vs, hv, rfl⟩ := Option.map_eq_some_iff.1 k4
  refine ⟨_, k5, ?_⟩
  rw [k6 vs k3 hv]
  have hp := hp _ k5
  unfold fin
  simp only [Nat.lt_irrefl, if_false, refs_plain _ hp, dd, pickObjs, ren_plain _ _ hp, List.append_nil, k2]
theorem sc_sl (nl : Bool) (id ep sz off len : Nat) : (AV.sl nl id ep sz off len).scalar = false := Eq.trans rfl rfl
theorem least0 {M : Nat → Nat → Int} {C : Nat} : Least M 0 C 0 := ⟨⟨fun _ => 0, ⟨fun i h => by omega, fun i j h => by omega⟩, rfl⟩, fun _ _ => Int.le_refl _⟩
theorem total_ex {H : List Ob} {vc : AV} {rw : Nat → AV} {R C : Nat} {M : Nat → Nat → Int} (hM : ∀ i k, 0 ≤ M i k ∧ M i k ≤ 1125899906842624) (mx : Mx H vc rw R C M) (hRC : R ≤ C) (hC : C ≤ 64) :
    ∃ T, Least M R C T ∧ ecall E 48 [vc] H = some (.int .i64 T, H, H.length, H.length) := by
  have key : ∃ v, (∃ T, Least M R C T ∧ v = .int .i64 T) ∧ ecall E 48 [vc] H = some (v, H, H.length, H.length) := by
    refine call_exP e48 rfl (Nat.le_of_ble_eq_true rfl) (by rintro v ⟨T, -, rfl⟩; rfl) ?_
    have hlen := mx.len
    by_cases hR0 : R = 0
    · subst hR0
      have hc : (((0 : Nat) : Int) == 0) = true := rfl
      simp (config := {maxSteps := 8000000}) only [c48, hlen, hc, SS, bne_self_eq_false, wr_def, obOf, List.all_cons, List.all_nil, List.map_cons, List.map_nil, List.length_cons, List.length_nil, List.take_zero, List.take_succ_cons, List.take_nil, List.drop_zero, List.drop_succ_cons, List.drop_nil, Nat.reduceAdd, Nat.reduceMul, Nat.reduceSub, if_true, Nat.reduceLT, Nat.reduceLeDiff, ite_true, ite_false, Nat.reduceEqDiff, if_false, reduceCtorEq, ne_eq, List.getD, List.getElem?_cons_zero, List.getElem?_cons_succ, Option.getD_some, Option.bind_some, Option.map_some, Option.isSome_some, reduceIte, List.length_append, List.append_assoc, List.cons_append, List.nil_append, Option.some.injEq, forall_const, implies_true, Int.reduceNeg, eq_self, Prod.mk.injEq, List.self_eq_append_right, List.append_nil, exists_eq_left, exists_eq_left', exists_and_left, exists_eq_right, exists_and_right]
      exact ⟨0, least0, rfl⟩
    have hc : ((R : Int) == 0) = false := by rw [beq_eq_false_iff_ne]; omega
    have o1 : idxOk 1 vc (.int .i64 0) := mx.ok 0 (by omega)
    have d1 : ∀ y, ld1A (H ++ y) (idxV 1 vc (.int .i64 0)) = some (rw 0) := fun y => mx.ld y 0 (by omega)
    have l1 := mx.rlen 0 (by omega)
    have w1 : IntKind.i64.wrap ((R : Int) + 1) = ((R + 1 : Nat) : Int) := by rw [wrap64 (by omega) (by omega)]; omega
    have w2 : IntKind.i64.wrap ((C : Int) + 1) = ((C + 1 : Nat) : Int) := by rw [wrap64 (by omega) (by omega)]; omega
    have hcel := mx.cells
    have htup := mx.tup
    simp (config := {maxSteps := 8000000}) only [c48, hlen, hc, o1, isPtr_idx o1, d1, l1, w1, w2, hcel, htup, sc_sl, Int.toNat_natCast, SS, bne_self_eq_false, wr_def, obOf, List.all_cons, List.all_nil, List.map_cons, List.map_nil, List.length_cons, List.length_nil, List.take_zero, List.take_succ_cons, List.take_nil, List.drop_zero, List.drop_succ_cons, List.drop_nil, Nat.reduceAdd, Nat.reduceMul, Nat.reduceSub, if_true, Nat.reduceLT, Nat.reduceLeDiff, ite_true, ite_false, Nat.reduceEqDiff, if_false, reduceCtorEq, ne_eq, List.getD, List.getElem?_cons_zero, List.getElem?_cons_succ, Option.getD_some, Option.bind_some, Option.map_some, Option.isSome_some, reduceIte, List.length_append, List.append_assoc, List.cons_append, List.nil_append, Option.some.injEq, forall_const, implies_true, Int.reduceNeg, eq_self, Prod.mk.injEq, List.self_eq_append_right, List.append_nil, exists_eq_left, exists_eq_left', exists_and_left, exists_eq_right, exists_and_right]
    have hap : ∀ b n, b ≤ 8 → n ≤ 64 → (n + 1) * b ≤ appLim := fun b n hb hn => by
      have : (n + 1) * b ≤ 65 * 8 := Nat.mul_le_mul (by omega) hb
      unfold appLim; omega
    refine ⟨by omega, by omega, hap 8 R (by omega) (by omega), by omega, by omega, hap 8 C (by omega) hC, by omega, by omega, hap 8 C (by omega) hC, ?_⟩
    have hs0 : Hs H.length (H ++ [⟨zrep (R + 1) [.int .i64 0], 0, 1, true, true⟩, ⟨zrep (C + 1) [.int .i64 0], 0, 1, true, true⟩, ⟨zrep (C + 1) [.int .i64 0], 0, 1, true, true⟩, ⟨[vc, .sl false H.length 0 1 0 (R + 1), .sl false (H.length + 1) 0 1 0 (C + 1), .sl false (H.length + 2) 0 1 0 (C + 1)], 0, 0, true, false⟩]) (H.length + 3) vc (.sl false H.length 0 1 0 (R + 1)) (.sl false (H.length + 1) 0 1 0 (C + 1)) (.sl false (H.length + 2) 0 1 0 (C + 1)) R C (fun _ => 0) (fun _ => 0) (fun _ => 0) := by
      refine ⟨by simp [rdObj], ?_, ?_, ?_⟩
      · exact FA.new (g := gI) (n0 := H.length) (n := R + 1) (H := H) (z := (0 : Int)) (Nat.le_refl _) _
      · have := FA.new (g := gI) (n0 := H.length) (n := C + 1) (H := H ++ [⟨zrep (R + 1) [.int .i64 0], 0, 1, true, true⟩]) (z := (0 : Int)) (by simp) [⟨zrep (C + 1) [.int .i64 0], 0, 1, true, true⟩, ⟨[vc, .sl false H.length 0 1 0 (R + 1), .sl false (H.length + 1) 0 1 0 (C + 1), .sl false (H.length + 2) 0 1 0 (C + 1)], 0, 0, true, false⟩]
        rw [List.append_assoc, List.length_append] at this
        exact this
      · have := FA.new (g := gN) (n0 := H.length) (n := C + 1) (H := H ++ [⟨zrep (R + 1) [.int .i64 0], 0, 1, true, true⟩, ⟨zrep (C + 1) [.int .i64 0], 0, 1, true, true⟩]) (z := (0 : Nat)) (by simp) [⟨[vc, .sl false H.length 0 1 0 (R + 1), .sl false (H.length + 1) 0 1 0 (C + 1), .sl false (H.length + 2) 0 1 0 (C + 1)], 0, 0, true, false⟩]
        rw [List.append_assoc, List.length_append] at this
        exact this
    obtain ⟨cl0, cs0, c1, c2, c3⟩ : ∃ cl0 : Nat → Nat, cl0 (H.length + 3) = 0 ∧ (∀ id, idOf (.sl false H.length 0 1 0 (R + 1)) id → cl0 id = 1) ∧ (∀ id, idOf (.sl false (H.length + 1) 0 1 0 (C + 1)) id → cl0 id = 2) ∧ (∀ id, idOf (.sl false (H.length + 2) 0 1 0 (C + 1)) id → cl0 id = 3) := by
      refine ⟨fun id => if id = H.length + 3 then 0 else id - H.length + 1, by simp, ?_, ?_, ?_⟩ <;> rintro id ⟨_, rfl⟩ <;> dsimp only <;> rw [if_neg (by omega)] <;> omega
    have hoff : ∃ oid, H.length + 2 = oid := ⟨_, rfl⟩
    obtain ⟨oid, hoid⟩ := hoff
    rw [hoid] at hs0 c3
    rw [hoid]
    generalize AV.sl false H.length 0 1 0 (R + 1) = vr at *
    generalize AV.sl false (H.length + 1) 0 1 0 (C + 1) = vk at *
    generalize hsid : H.length + 3 = sid at *
    have hlen0 : H.length ≤ (H ++ [(⟨zrep (R + 1) [.int .i64 0], 0, 1, true, true⟩ : Ob), ⟨zrep (C + 1) [.int .i64 0], 0, 1, true, true⟩, ⟨zrep (C + 1) [.int .i64 0], 0, 1, true, true⟩, ⟨[vc, vr, vk, .sl false oid 0 1 0 (C + 1)], 0, 0, true, false⟩]).length := by simp
    generalize [(⟨zrep (R + 1) [.int .i64 0], 0, 1, true, true⟩ : Ob), ⟨zrep (C + 1) [.int .i64 0], 0, 1, true, true⟩, ⟨zrep (C + 1) [.int .i64 0], 0, 1, true, true⟩, ⟨[vc, vr, vk, .sl false oid 0 1 0 (C + 1)], 0, 0, true, false⟩] = y0 at *
    -- the rows are added
    refine W.mono (Q := fun e f1 h1 => e = .ex 0 ∧ f1 0 = vc ∧ f1 3 = .ptr sid 0 0 ∧ ∃ u v fo, Base M C R u v fo ∧ Hs H.length h1 sid vc vr vk (.sl false oid 0 1 0 (C + 1)) R C u v fo)
      (W_loopW (fun q f1 h1 => ∃ i : Nat, q = R - i ∧ i ≤ R ∧ f1 0 = vc ∧ f1 3 = .ptr sid 0 0 ∧ f1 31 = .int .i64 (R : Int) ∧ f1 32 = .int .i64 (i : Int) ∧ ∃ u v fo, Base M C i u v fo ∧ Hs H.length h1 sid vc vr vk (.sl false oid 0 1 0 (C + 1)) R C u v fo) hlen0 R
        ⟨0, rfl, by omega, rfl, rfl, rfl, rfl, _, _, _, Base.init, hs0⟩ ?_) ?_
    · clear hs0 hlen0
      rintro q f1 h1 hn1 ht ⟨i, rfl, hi, e0, e3, e31, e32, u, v, fo, B, A⟩
      have hw1 : IntKind.i64.wrap ((i : Int) + 1) = ((i + 1 : Nat) : Int) := by rw [wrap64 (by omega) (by omega)]; omega
      by_cases hiR : i < R
      · have hc : decide ((i : Int) < (R : Int)) = true := decide_eq_true (by omega)
        rw [List.take_left] at ht
        have hH := take_eq ht
        generalize h1.drop H.length = x at hH
        subst hH
        obtain ⟨h2, wl, wa, k1, k2, k3, k4, k5, u', v', fo', B', A'⟩ := add_mut hM mx hiR hRC hC B A cs0 c1 c2 c3
        refine W_seqI (wc_sound _ _ _ _ hn1 ?_)
        simp (config := {maxSteps := 8000000}) only [e0, e3, e31, e32, hc, SS, bne_self_eq_false, wr_def, obOf, List.all_cons, List.all_nil, List.map_cons, List.map_nil, List.length_cons, List.length_nil, List.take_zero, List.take_succ_cons, List.take_nil, List.drop_zero, List.drop_succ_cons, List.drop_nil, Nat.reduceAdd, Nat.reduceMul, Nat.reduceSub, if_true, Nat.reduceLT, Nat.reduceLeDiff, ite_true, ite_false, Nat.reduceEqDiff, if_false, reduceCtorEq, ne_eq, List.getD, List.getElem?_cons_zero, List.getElem?_cons_succ, Option.getD_some, Option.bind_some, Option.map_some, Option.isSome_some, reduceIte, List.length_append, List.append_assoc, List.cons_append, List.nil_append, Option.some.injEq, forall_const, implies_true, Int.reduceNeg, eq_self, Prod.mk.injEq, List.self_eq_append_right, List.append_nil, exists_eq_left, exists_eq_left', exists_and_left, exists_eq_right, exists_and_right]
        refine W_seqI (wc_sound _ _ _ _ hn1 ?_)
        simp (config := {maxSteps := 8000000}) only [e0, e3, e31, e32, hc, SS, bne_self_eq_false, wr_def, obOf, List.all_cons, List.all_nil, List.map_cons, List.map_nil, List.length_cons, List.length_nil, List.take_zero, List.take_succ_cons, List.take_nil, List.drop_zero, List.drop_succ_cons, List.drop_nil, Nat.reduceAdd, Nat.reduceMul, Nat.reduceSub, if_true, Nat.reduceLT, Nat.reduceLeDiff, ite_true, ite_false, Nat.reduceEqDiff, if_false, reduceCtorEq, ne_eq, List.getD, List.getElem?_cons_zero, List.getElem?_cons_succ, Option.getD_some, Option.bind_some, Option.map_some, Option.isSome_some, reduceIte, List.length_append, List.append_assoc, List.cons_append, List.nil_append, Option.some.injEq, forall_const, implies_true, Int.reduceNeg, eq_self, Prod.mk.injEq, List.self_eq_append_right, List.append_nil, exists_eq_left, exists_eq_left', exists_and_left, exists_eq_right, exists_and_right]
        refine W_seqI (W_blkI (W_seqI (wc_sound _ _ _ _ hn1 ?_)))
        simp (config := {maxSteps := 8000000}) only [e0, e3, e31, e32, hc, SS, bne_self_eq_false, wr_def, obOf, List.all_cons, List.all_nil, List.map_cons, List.map_nil, List.length_cons, List.length_nil, List.take_zero, List.take_succ_cons, List.take_nil, List.drop_zero, List.drop_succ_cons, List.drop_nil, Nat.reduceAdd, Nat.reduceMul, Nat.reduceSub, if_true, Nat.reduceLT, Nat.reduceLeDiff, ite_true, ite_false, Nat.reduceEqDiff, if_false, reduceCtorEq, ne_eq, List.getD, List.getElem?_cons_zero, List.getElem?_cons_succ, Option.getD_some, Option.bind_some, Option.map_some, Option.isSome_some, reduceIte, List.length_append, List.append_assoc, List.cons_append, List.nil_append, Option.some.injEq, forall_const, implies_true, Int.reduceNeg, eq_self, Prod.mk.injEq, List.self_eq_append_right, List.append_nil, exists_eq_left, exists_eq_left', exists_and_left, exists_eq_right, exists_and_right]
        refine W_regI (RG_cut (K1 := fun f' h' => f' 0 = vc ∧ f' 3 = .ptr sid 0 0 ∧ f' 31 = .int .i64 (R : Int) ∧ f' 32 = .int .i64 (i : Int) ∧ f' 35 = .ptr sid 0 0 ∧ f' 37 = .int .i64 ((i + 1 : Nat) : Int) ∧ h' = H ++ x) 3 (RG_of hn1 ?_) ?_)
        · simp (config := {maxSteps := 8000000}) only [e0, e3, e31, e32, hw1, SS, bne_self_eq_false, wr_def, obOf, List.all_cons, List.all_nil, List.map_cons, List.map_nil, List.length_cons, List.length_nil, List.take_zero, List.take_succ_cons, List.take_nil, List.drop_zero, List.drop_succ_cons, List.drop_nil, Nat.reduceAdd, Nat.reduceMul, Nat.reduceSub, if_true, Nat.reduceLT, Nat.reduceLeDiff, ite_true, ite_false, Nat.reduceEqDiff, if_false, reduceCtorEq, ne_eq, List.getD, List.getElem?_cons_zero, List.getElem?_cons_succ, Option.getD_some, Option.bind_some, Option.map_some, Option.isSome_some, reduceIte, List.length_append, List.append_assoc, List.cons_append, List.nil_append, Option.some.injEq, forall_const, implies_true, Int.reduceNeg, eq_self, Prod.mk.injEq, List.self_eq_append_right, List.append_nil, exists_eq_left, exists_eq_left', exists_and_left, exists_eq_right, exists_and_right]
        rintro f3 h3 hn3 ht3 ⟨e0, e3, e31, e32, e35, e37, rfl⟩
        simp (config := {maxSteps := 8000000}) only [SS, bne_self_eq_false, wr_def, obOf, List.all_cons, List.all_nil, List.map_cons, List.map_nil, List.length_cons, List.length_nil, List.take_zero, List.take_succ_cons, List.take_nil, List.drop_zero, List.drop_succ_cons, List.drop_nil, Nat.reduceAdd, Nat.reduceMul, Nat.reduceSub, if_true, Nat.reduceLT, Nat.reduceLeDiff, ite_true, ite_false, Nat.reduceEqDiff, if_false, reduceCtorEq, ne_eq, List.getD, List.getElem?_cons_zero, List.getElem?_cons_succ, Option.getD_some, Option.bind_some, Option.map_some, Option.isSome_some, reduceIte, List.length_append, List.append_assoc, List.cons_append, List.nil_append, Option.some.injEq, forall_const, implies_true, Int.reduceNeg, eq_self, Prod.mk.injEq, List.self_eq_append_right, List.append_nil, exists_eq_left, exists_eq_left', exists_and_left, exists_eq_right, exists_and_right]
        have hn2 : H.length ≤ h2.length := by simp at k5; omega
        have hargs : List.map (ev 65 f3) [.t 35, .t 37] ++ [] = [.ptr sid 0 0, .int .i64 ((i + 1 : Nat) : Int)] := by
          simp only [e35, e37, SS, bne_self_eq_false, wr_def, obOf, List.all_cons, List.all_nil, List.map_cons, List.map_nil, List.length_cons, List.length_nil, List.take_zero, List.take_succ_cons, List.take_nil, List.drop_zero, List.drop_succ_cons, List.drop_nil, Nat.reduceAdd, Nat.reduceMul, Nat.reduceSub, if_true, Nat.reduceLT, Nat.reduceLeDiff, ite_true, ite_false, Nat.reduceEqDiff, if_false, reduceCtorEq, ne_eq, List.getD, List.getElem?_cons_zero, List.getElem?_cons_succ, Option.getD_some, Option.bind_some, Option.map_some, Option.isSome_some, reduceIte, List.length_append, List.append_assoc, List.cons_append, List.nil_append, Option.some.injEq, forall_const, implies_true, Int.reduceNeg, eq_self, Prod.mk.injEq, List.self_eq_append_right, List.append_nil, exists_eq_left, exists_eq_left', exists_and_left, exists_eq_right, exists_and_right]
        refine RG_call (n := 65) (k := 88) (caps := []) (v := .tup []) (h2 := h2) (wl := wl) (wa := wa) (by simp only [SS, bne_self_eq_false, wr_def, obOf, List.all_cons, List.all_nil, List.map_cons, List.map_nil, List.length_cons, List.length_nil, List.take_zero, List.take_succ_cons, List.take_nil, List.drop_zero, List.drop_succ_cons, List.drop_nil, Nat.reduceAdd, Nat.reduceMul, Nat.reduceSub, if_true, Nat.reduceLT, Nat.reduceLeDiff, ite_true, ite_false, Nat.reduceEqDiff, if_false, reduceCtorEq, ne_eq, List.getD, List.getElem?_cons_zero, List.getElem?_cons_succ, Option.getD_some, Option.bind_some, Option.map_some, Option.isSome_some, reduceIte, List.length_append, List.append_assoc, List.cons_append, List.nil_append, Option.some.injEq, forall_const, implies_true, Int.reduceNeg, eq_self, Prod.mk.injEq, List.self_eq_append_right, List.append_nil, exists_eq_left, exists_eq_left', exists_and_left, exists_eq_right, exists_and_right]) (by rw [hargs]; exact k1) k2 k3 hn2 (by rw [k4]; simp) (fun h => by cases h) (RG_of hn2 ?_)
        simp (config := {maxSteps := 8000000}) only [e0, e3, e31, e32, e35, e37, SS, bne_self_eq_false, wr_def, obOf, List.all_cons, List.all_nil, List.map_cons, List.map_nil, List.length_cons, List.length_nil, List.take_zero, List.take_succ_cons, List.take_nil, List.drop_zero, List.drop_succ_cons, List.drop_nil, Nat.reduceAdd, Nat.reduceMul, Nat.reduceSub, if_true, Nat.reduceLT, Nat.reduceLeDiff, ite_true, ite_false, Nat.reduceEqDiff, if_false, reduceCtorEq, ne_eq, List.getD, List.getElem?_cons_zero, List.getElem?_cons_succ, Option.getD_some, Option.bind_some, Option.map_some, Option.isSome_some, reduceIte, List.length_append, List.append_assoc, List.cons_append, List.nil_append, Option.some.injEq, forall_const, implies_true, Int.reduceNeg, eq_self, Prod.mk.injEq, List.self_eq_append_right, List.append_nil, exists_eq_left, exists_eq_left', exists_and_left, exists_eq_right, exists_and_right]
        refine wc_sound _ _ _ _ hn2 ?_
        simp (config := {maxSteps := 8000000}) only [e0, e3, e31, e32, e35, e37, hw1, SS, bne_self_eq_false, wr_def, obOf, List.all_cons, List.all_nil, List.map_cons, List.map_nil, List.length_cons, List.length_nil, List.take_zero, List.take_succ_cons, List.take_nil, List.drop_zero, List.drop_succ_cons, List.drop_nil, Nat.reduceAdd, Nat.reduceMul, Nat.reduceSub, if_true, Nat.reduceLT, Nat.reduceLeDiff, ite_true, ite_false, Nat.reduceEqDiff, if_false, reduceCtorEq, ne_eq, List.getD, List.getElem?_cons_zero, List.getElem?_cons_succ, Option.getD_some, Option.bind_some, Option.map_some, Option.isSome_some, reduceIte, List.length_append, List.append_assoc, List.cons_append, List.nil_append, Option.some.injEq, forall_const, implies_true, Int.reduceNeg, eq_self, Prod.mk.injEq, List.self_eq_append_right, List.append_nil, exists_eq_left, exists_eq_left', exists_and_left, exists_eq_right, exists_and_right]
        exact ⟨_, by omega, i + 1, rfl, by omega, rfl, _, _, _, B', A'⟩
      · have hc : decide ((i : Int) < (R : Int)) = false := decide_eq_false (by omega)
        refine wc_sound _ _ _ _ hn1 ?_
        simp (config := {maxSteps := 8000000}) only [e0, e3, e31, e32, hc, SS, bne_self_eq_false, wr_def, obOf, List.all_cons, List.all_nil, List.map_cons, List.map_nil, List.length_cons, List.length_nil, List.take_zero, List.take_succ_cons, List.take_nil, List.drop_zero, List.drop_succ_cons, List.drop_nil, Nat.reduceAdd, Nat.reduceMul, Nat.reduceSub, if_true, Nat.reduceLT, Nat.reduceLeDiff, ite_true, ite_false, Nat.reduceEqDiff, if_false, reduceCtorEq, ne_eq, List.getD, List.getElem?_cons_zero, List.getElem?_cons_succ, Option.getD_some, Option.bind_some, Option.map_some, Option.isSome_some, reduceIte, List.length_append, List.append_assoc, List.cons_append, List.nil_append, Option.some.injEq, forall_const, implies_true, Int.reduceNeg, eq_self, Prod.mk.injEq, List.self_eq_append_right, List.append_nil, exists_eq_left, exists_eq_left', exists_and_left, exists_eq_right, exists_and_right]
        have : i = R := by omega
        subst this
        exact ⟨_, _, _, B, A⟩
    rintro e f1 h1 hn1 ht ⟨rfl, e0, e3, u, v, fo, B, A⟩
    have hLeast := B.least
    have hs := A.s
    have hsl : slcA 1 (some 1) none (.sl false oid 0 1 0 (C + 1)) = some (.sl false oid 0 1 1 C) := by
      simp only [slcA, Option.getD_some, Option.getD_none]
      rw [if_pos ⟨by omega, by omega, by omega, Or.inr trivial⟩]
      simp
    have hln : lenvA false (.sl false oid 0 1 1 C) = some (.int .i64 (C : Int)) := rfl
    simp (config := {maxSteps := 8000000}) only [e0, e3, hs, hsl, hln, SS, bne_self_eq_false, wr_def, obOf, List.all_cons, List.all_nil, List.map_cons, List.map_nil, List.length_cons, List.length_nil, List.take_zero, List.take_succ_cons, List.take_nil, List.drop_zero, List.drop_succ_cons, List.drop_nil, Nat.reduceAdd, Nat.reduceMul, Nat.reduceSub, if_true, Nat.reduceLT, Nat.reduceLeDiff, ite_true, ite_false, Nat.reduceEqDiff, if_false, reduceCtorEq, ne_eq, List.getD, List.getElem?_cons_zero, List.getElem?_cons_succ, Option.getD_some, Option.bind_some, Option.map_some, Option.isSome_some, reduceIte, List.length_append, List.append_assoc, List.cons_append, List.nil_append, Option.some.injEq, forall_const, implies_true, Int.reduceNeg, eq_self, Prod.mk.injEq, List.self_eq_append_right, List.append_nil, exists_eq_left, exists_eq_left', exists_and_left, exists_eq_right, exists_and_right]
    have htl := fun {k : Nat} (hk : k < C) => A.off.tail hk
    generalize AV.sl false oid 0 1 1 C = vt at *
    refine W_loop (fun q f1 h1 => ∃ k : Nat, q = C - k ∧ k ≤ C ∧ f1 0 = vc ∧ f1 44 = vt ∧ f1 45 = .int .i64 (C : Int) ∧ f1 46 = .int .i64 (k : Int) ∧ (∀ {k : Nat}, k < C → idxOk 1 vt (.int .i64 (k : Int)) ∧ ld1A h1 (idxV 1 vt (.int .i64 (k : Int))) = some (gN (fo (k + 1)))) ∧ ∃ s : Int, f1 5 = .int .i64 s ∧ 0 ≤ s ∧ s ≤ (k : Int) * 1125899906842624 ∧ s = sumN k (fun k => if 0 < fo (k + 1) then M (fo (k + 1) - 1) k else 0)) hn1 C
      ⟨0, rfl, by omega, by simp only [e0, SS, bne_self_eq_false, wr_def, obOf, List.all_cons, List.all_nil, List.map_cons, List.map_nil, List.length_cons, List.length_nil, List.take_zero, List.take_succ_cons, List.take_nil, List.drop_zero, List.drop_succ_cons, List.drop_nil, Nat.reduceAdd, Nat.reduceMul, Nat.reduceSub, if_true, Nat.reduceLT, Nat.reduceLeDiff, ite_true, ite_false, Nat.reduceEqDiff, if_false, reduceCtorEq, ne_eq, List.getD, List.getElem?_cons_zero, List.getElem?_cons_succ, Option.getD_some, Option.bind_some, Option.map_some, Option.isSome_some, reduceIte, List.length_append, List.append_assoc, List.cons_append, List.nil_append, Option.some.injEq, forall_const, implies_true, Int.reduceNeg, eq_self, Prod.mk.injEq, List.self_eq_append_right, List.append_nil, exists_eq_left, exists_eq_left', exists_and_left, exists_eq_right, exists_and_right], by simp only [SS, bne_self_eq_false, wr_def, obOf, List.all_cons, List.all_nil, List.map_cons, List.map_nil, List.length_cons, List.length_nil, List.take_zero, List.take_succ_cons, List.take_nil, List.drop_zero, List.drop_succ_cons, List.drop_nil, Nat.reduceAdd, Nat.reduceMul, Nat.reduceSub, if_true, Nat.reduceLT, Nat.reduceLeDiff, ite_true, ite_false, Nat.reduceEqDiff, if_false, reduceCtorEq, ne_eq, List.getD, List.getElem?_cons_zero, List.getElem?_cons_succ, Option.getD_some, Option.bind_some, Option.map_some, Option.isSome_some, reduceIte, List.length_append, List.append_assoc, List.cons_append, List.nil_append, Option.some.injEq, forall_const, implies_true, Int.reduceNeg, eq_self, Prod.mk.injEq, List.self_eq_append_right, List.append_nil, exists_eq_left, exists_eq_left', exists_and_left, exists_eq_right, exists_and_right], by simp only [SS, bne_self_eq_false, wr_def, obOf, List.all_cons, List.all_nil, List.map_cons, List.map_nil, List.length_cons, List.length_nil, List.take_zero, List.take_succ_cons, List.take_nil, List.drop_zero, List.drop_succ_cons, List.drop_nil, Nat.reduceAdd, Nat.reduceMul, Nat.reduceSub, if_true, Nat.reduceLT, Nat.reduceLeDiff, ite_true, ite_false, Nat.reduceEqDiff, if_false, reduceCtorEq, ne_eq, List.getD, List.getElem?_cons_zero, List.getElem?_cons_succ, Option.getD_some, Option.bind_some, Option.map_some, Option.isSome_some, reduceIte, List.length_append, List.append_assoc, List.cons_append, List.nil_append, Option.some.injEq, forall_const, implies_true, Int.reduceNeg, eq_self, Prod.mk.injEq, List.self_eq_append_right, List.append_nil, exists_eq_left, exists_eq_left', exists_and_left, exists_eq_right, exists_and_right], rfl, htl, 0, by simp only [SS, bne_self_eq_false, wr_def, obOf, List.all_cons, List.all_nil, List.map_cons, List.map_nil, List.length_cons, List.length_nil, List.take_zero, List.take_succ_cons, List.take_nil, List.drop_zero, List.drop_succ_cons, List.drop_nil, Nat.reduceAdd, Nat.reduceMul, Nat.reduceSub, if_true, Nat.reduceLT, Nat.reduceLeDiff, ite_true, ite_false, Nat.reduceEqDiff, if_false, reduceCtorEq, ne_eq, List.getD, List.getElem?_cons_zero, List.getElem?_cons_succ, Option.getD_some, Option.bind_some, Option.map_some, Option.isSome_some, reduceIte, List.length_append, List.append_assoc, List.cons_append, List.nil_append, Option.some.injEq, forall_const, implies_true, Int.reduceNeg, eq_self, Prod.mk.injEq, List.self_eq_append_right, List.append_nil, exists_eq_left, exists_eq_left', exists_and_left, exists_eq_right, exists_and_right], by omega, by omega, rfl⟩ ?_
    clear e0 e3 hs htl
    rintro q f2 h2 hn2 ht2 ⟨k, rfl, hk, e0, e44, e45, e46, htl, s, e5, s0, s1, hsum⟩
    have hw1 : IntKind.i64.wrap ((k : Int) + 1) = ((k + 1 : Nat) : Int) := by rw [wrap64 (by omega) (by omega)]; omega
    by_cases hkC : k < C
    · have hc : decide ((k : Int) < (C : Int)) = true := decide_eq_true (by omega)
      obtain ⟨o1, d1⟩ := htl hkC
      simp only [gN] at d1
      have hS : sumN (k + 1) (fun k => if 0 < fo (k + 1) then M (fo (k + 1) - 1) k else 0) = s + (if 0 < fo (k + 1) then M (fo (k + 1) - 1) k else 0) := by simp only [sumN]; rw [hsum]
      have hfr := B.ofr (k + 1) (by omega) (by omega)
      have hb := hM (fo (k + 1) - 1) k
      by_cases hp : 0 < fo (k + 1)
      · rw [if_pos hp] at hS
        have hc2 : decide ((0 : Int) < (fo (k + 1) : Int)) = true := decide_eq_true (by omega)
        have hH2 : h2 = H ++ h2.drop H.length := take_eq (by rw [ht2, ht]; simp)
        generalize h2.drop H.length = z at hH2
        subst hH2
        have oc := mx.ok (fo (k + 1) - 1) (by omega)
        have dc := mx.ld z (fo (k + 1) - 1) (by omega)
        have or := mx.rok (fo (k + 1) - 1) k (by omega) hkC
        have dr := mx.rld z (fo (k + 1) - 1) k (by omega) hkC
        have wi : IntKind.i64.wrap ((fo (k + 1) : Int) - 1) = ((fo (k + 1) - 1 : Nat) : Int) := by rw [wrap64 (by omega) (by omega)]; omega
        have ws : IntKind.i64.wrap (s + M (fo (k + 1) - 1) k) = s + M (fo (k + 1) - 1) k := wrap64 (by omega) (by omega)
        simp (config := {maxSteps := 8000000}) only [e0, e44, e45, e46, e5, hc, hw1, o1, isPtr_idx o1, d1, hc2, oc, isPtr_idx oc, dc, or, isPtr_idx or, dr, wi, ws, SS, bne_self_eq_false, wr_def, obOf, List.all_cons, List.all_nil, List.map_cons, List.map_nil, List.length_cons, List.length_nil, List.take_zero, List.take_succ_cons, List.take_nil, List.drop_zero, List.drop_succ_cons, List.drop_nil, Nat.reduceAdd, Nat.reduceMul, Nat.reduceSub, if_true, Nat.reduceLT, Nat.reduceLeDiff, ite_true, ite_false, Nat.reduceEqDiff, if_false, reduceCtorEq, ne_eq, List.getD, List.getElem?_cons_zero, List.getElem?_cons_succ, Option.getD_some, Option.bind_some, Option.map_some, Option.isSome_some, reduceIte, List.length_append, List.append_assoc, List.cons_append, List.nil_append, Option.some.injEq, forall_const, implies_true, Int.reduceNeg, eq_self, Prod.mk.injEq, List.self_eq_append_right, List.append_nil, exists_eq_left, exists_eq_left', exists_and_left, exists_eq_right, exists_and_right]
        exact ⟨_, by omega, k + 1, rfl, by omega, rfl, htl, _, rfl, by omega, by omega, hS.symm⟩
      · rw [if_neg hp] at hS
        have hc2 : decide ((0 : Int) < (fo (k + 1) : Int)) = false := decide_eq_false (by omega)
        simp (config := {maxSteps := 8000000}) only [e0, e44, e45, e46, e5, hc, hw1, o1, isPtr_idx o1, d1, hc2, SS, bne_self_eq_false, wr_def, obOf, List.all_cons, List.all_nil, List.map_cons, List.map_nil, List.length_cons, List.length_nil, List.take_zero, List.take_succ_cons, List.take_nil, List.drop_zero, List.drop_succ_cons, List.drop_nil, Nat.reduceAdd, Nat.reduceMul, Nat.reduceSub, if_true, Nat.reduceLT, Nat.reduceLeDiff, ite_true, ite_false, Nat.reduceEqDiff, if_false, reduceCtorEq, ne_eq, List.getD, List.getElem?_cons_zero, List.getElem?_cons_succ, Option.getD_some, Option.bind_some, Option.map_some, Option.isSome_some, reduceIte, List.length_append, List.append_assoc, List.cons_append, List.nil_append, Option.some.injEq, forall_const, implies_true, Int.reduceNeg, eq_self, Prod.mk.injEq, List.self_eq_append_right, List.append_nil, exists_eq_left, exists_eq_left', exists_and_left, exists_eq_right, exists_and_right]
        exact ⟨_, by omega, k + 1, rfl, by omega, rfl, htl, s, rfl, by omega, by omega, by rw [hS]; omega⟩
    · have hc : decide ((k : Int) < (C : Int)) = false := decide_eq_false (by omega)
      have : k = C := by omega
      subst this
      rw [← hsum] at hLeast
      simp (config := {maxSteps := 8000000}) only [e0, e44, e45, e46, e5, hc, SS, bne_self_eq_false, wr_def, obOf, List.all_cons, List.all_nil, List.map_cons, List.map_nil, List.length_cons, List.length_nil, List.take_zero, List.take_succ_cons, List.take_nil, List.drop_zero, List.drop_succ_cons, List.drop_nil, Nat.reduceAdd, Nat.reduceMul, Nat.reduceSub, if_true, Nat.reduceLT, Nat.reduceLeDiff, ite_true, ite_false, Nat.reduceEqDiff, if_false, reduceCtorEq, ne_eq, List.getD, List.getElem?_cons_zero, List.getElem?_cons_succ, Option.getD_some, Option.bind_some, Option.map_some, Option.isSome_some, reduceIte, List.length_append, List.append_assoc, List.cons_append, List.nil_append, Option.some.injEq, forall_const, implies_true, Int.reduceNeg, eq_self, Prod.mk.injEq, List.self_eq_append_right, List.append_nil, exists_eq_left, exists_eq_left', exists_and_left, exists_eq_right, exists_and_right]
      exact ⟨s, hLeast, rfl⟩
  obtain ⟨v, ⟨T, hT, rfl⟩, hv⟩ := key
  exact ⟨T, hT, hv⟩
end Go.Proofs.Ytaekgifbehoipaa.Hg
