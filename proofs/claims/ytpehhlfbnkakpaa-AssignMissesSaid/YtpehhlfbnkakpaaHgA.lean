/- Rows of one-celled things by functions; a matrix that is read. Conditions stand in each lemma. -/
import Derived.Test.YtpehhlfbnkakpaaHgQ
import Derived.Test.YtpehhlfbnkakpaaEvaI
import Derived.Test.YtpehhlfbnkakpaaCodeAll
namespace Go.Proofs.Ytpehhlfbnkakpaa.Hg
open Go Go.Proofs.Ytpehhlfbnkakpaa.Eva Go.Proofs.Ytpehhlfbnkakpaa.CodeAll
set_option linter.unusedVariables false
set_option linter.unusedSimpArgs false

def gN (k : Nat) : AV := .int .i64 (k : Int)
instance : Sc gN := ⟨fun _ => rfl⟩
def arrF {α : Type} (n : Nat) (f : Nat → α) : List α := (List.range n).map f
section
variable {α : Type} {n : Nat} {f : Nat → α}
theorem arrF_len : (arrF n f).length = n := by simp [arrF]
theorem arrF_get {i : Nat} (h : i < n) : (arrF n f)[i]? = some (f i) := by simp [arrF, h]
theorem arrF_ext {g : Nat → α} (h : ∀ i, i < n → f i = g i) : arrF n f = arrF n g := by
  apply List.map_congr_left; intro i hi; exact h i (by simpa using hi)
theorem arrF_set {i : Nat} {x : α} : (arrF n f).set i x = arrF n (upd f i x) := by
  apply List.ext_getElem?
  intro j
  rw [List.getElem?_set]
  by_cases hj : j < n
  · rw [arrF_get hj, arrF_get hj]
    by_cases e : i = j
    · subst e; rw [if_pos rfl, if_pos (by rw [arrF_len]; exact hj), upd_same]
    · rw [if_neg e, upd_ne (fun h => e h.symm)]
  · have h1 : (arrF n f)[j]? = none := List.getElem?_eq_none (by rw [arrF_len]; omega)
    have h2 : (arrF n (upd f i x))[j]? = none := List.getElem?_eq_none (by rw [arrF_len]; omega)
    rw [h1, h2, arrF_len]
    split
    · rw [if_neg (by omega)]
    · rfl
theorem arrF_rep {x : α} : List.replicate n x = arrF n (fun _ => x) := by
  apply List.ext_getElem?
  intro j
  by_cases hj : j < n
  · rw [arrF_get hj, List.getElem?_replicate, if_pos hj]
  · rw [List.getElem?_eq_none (by simp; omega), List.getElem?_eq_none (by rw [arrF_len]; omega)]
end
/-- v is the whole of an object from n0 on, whose cells are f 0, f 1, .. -/
def FA {α : Type} (n0 : Nat) (h : List Ob) (v : AV) (g : α → AV) (n : Nat) (f : Nat → α) : Prop := Arr n0 h v g (arrF n f)
section
variable {α : Type} {n0 : Nat} {h : List Ob} {v : AV} {g : α → AV} {n : Nat} {f : Nat → α}
theorem FA.len (A : FA n0 h v g n f) : lenvA false v = some (.int .i64 n) := by have := Arr.len A; rwa [arrF_len] at this
theorem FA.ok (A : FA n0 h v g n f) {i : Nat} (hi : i < n) : idxOk 1 v (.int .i64 (i : Int)) := Arr.ok A (by omega) (by rw [arrF_len]; omega)
theorem FA.ld (A : FA n0 h v g n f) {i : Nat} (hi : i < n) : ld1A h (idxV 1 v (.int .i64 (i : Int))) = some (g (f i)) := Arr.ld A (by omega) (by rw [Int.toNat_natCast]; exact arrF_get hi)
theorem FA.mono {h' : List Ob} (A : FA n0 h v g n f) (hm : ∀ id ep o, idOf v id → rdObj h id ep = some o → rdObj h' id ep = some o) : FA n0 h' v g n f := Arr.mono A hm
theorem FA.stOk [Sc g] (A : FA n0 h v g n f) {i : Nat} (hi : i < n) (y : α) : stOk n0 1 h (idxV 1 v (.int .i64 (i : Int))) (g y) := Arr.stOk A y (by omega) (by rw [arrF_len]; omega)
theorem FA.st [Sc g] (A : FA n0 h v g n f) {i : Nat} (hi : i < n) (y : α) :
    FA n0 (stH h (idxV 1 v (.int .i64 (i : Int))) (g y)) v g n (upd f i y) ∧
    (∀ id ep o, ¬ idOf v id → rdObj h id ep = some o → rdObj (stH h (idxV 1 v (.int .i64 (i : Int))) (g y)) id ep = some o) ∧
    (stH h (idxV 1 v (.int .i64 (i : Int))) (g y)).length = h.length := by
  obtain ⟨h1, h2, h3⟩ := Arr.stH (kk := .i64) (i := (i : Int)) A y (by omega) (by rw [arrF_len]; omega)
  rw [Int.toNat_natCast, arrF_set] at h1
  refine ⟨?_, h2, h3⟩
  unfold FA
  exact h1
theorem FA.stTake [Sc g] (A : FA n0 h v g n f) (i : Nat) (y : α) : (stH h (idxV 1 v (.int .i64 (i : Int))) (g y)).take n0 = h.take n0 := by
  obtain ⟨id, ep, rfl, h2, h3⟩ := A
  rw [idxV_sl, stH_ptr, h2]
  simp only [putObj]
  exact List.take_set_of_le h3
theorem FA.tail {id ep : Nat} (A : FA n0 h (.sl false id ep 1 0 (n + 1)) g (n + 1) f) {k : Nat} (hk : k < n) : idxOk 1 (.sl false id ep 1 1 n) (.int .i64 (k : Int)) ∧ ld1A h (idxV 1 (.sl false id ep 1 1 n) (.int .i64 (k : Int))) = some (g (f (k + 1))) := by
  obtain ⟨id', ep', e, h2, h3⟩ := A
  simp only [AV.sl.injEq, true_and] at e
  obtain ⟨rfl, rfl, -⟩ := e
  refine ⟨⟨by omega, by omega, rfl, rfl⟩, ?_⟩
  rw [idxV_sl, ld1A_ptr, h2]
  have h4 : (arrF (n + 1) f)[1 + k]? = some (f (1 + k)) := arrF_get (by omega)
  simp only [Option.bind_some, getC, Nat.mul_one, Int.toNat_natCast, List.getElem?_map, h4, Option.map_some]
  rw [Nat.add_comm]
theorem FA.ext {f' : Nat → α} (A : FA n0 h v g n f) (he : ∀ i, i < n → f i = f' i) : FA n0 h v g n f' := by
  unfold FA at *; rw [← arrF_ext he]; exact A
theorem FA.ge (A : FA n0 h v g n f) {id : Nat} (hid : idOf v id) : n0 ≤ id := Arr.ge A hid
theorem FA.lt (A : FA n0 h v g n f) {id : Nat} (hid : idOf v id) : id < h.length := Arr.lt A hid
end
/-- A matrix that is read: R rows of C. -/
structure Mx (H : List Ob) (vc : AV) (rw : Nat → AV) (R C : Nat) (M : Nat → Nat → Int) : Prop where
  len : lenvA false vc = some (.int .i64 (R : Int))
  cells : cellsOf vc = [vc]
  tup : vc.isTup = false
  ok : ∀ i : Nat, i < R → idxOk 1 vc (.int .i64 (i : Int))
  ld : ∀ y (i : Nat), i < R → ld1A (H ++ y) (idxV 1 vc (.int .i64 (i : Int))) = some (rw i)
  rlen : ∀ i : Nat, i < R → lenvA false (rw i) = some (.int .i64 (C : Int))
  rok : ∀ i k : Nat, i < R → k < C → idxOk 1 (rw i) (.int .i64 (k : Int))
  rld : ∀ y (i k : Nat), i < R → k < C → ld1A (H ++ y) (idxV 1 (rw i) (.int .i64 (k : Int))) = some (.int .i64 (M i k))

/-- The objects of the solver. -/
structure Hs (n0 : Nat) (h : List Ob) (sid : Nat) (vc vr vk vo : AV) (R C : Nat) (u v : Nat → Int) (fo : Nat → Nat) : Prop where
  s : rdObj h sid 0 = some ⟨[vc, vr, vk, vo], 0, 0, true, false⟩
  rows : FA n0 h vr gI (R + 1) u
  cols : FA n0 h vk gI (C + 1) v
  off : FA n0 h vo gN (C + 1) fo
/-- And those of a phase. -/
structure Hp (n0 : Nat) (h : List Ob) (sid : Nat) (vc vr vk vo vl vw vd : AV) (R C : Nat) (u v : Nat → Int) (fo : Nat → Nat) (least : Nat → Int) (way : Nat → Nat) (done : Nat → Bool) : Prop where
  hs : Hs n0 h sid vc vr vk vo R C u v fo
  lst : FA n0 h vl gI (C + 1) least
  wy : FA n0 h vw gN (C + 1) way
  don : FA n0 h vd gB (C + 1) done
/-- They are different. -/
structure Sp (n0 : Nat) (cl : Nat → Nat) (sid : Nat) (vr vk vo vl vw vd : AV) : Prop where
  s : cl sid = 0
  r : ∀ id, idOf vr id → cl id = 1
  k : ∀ id, idOf vk id → cl id = 2
  o : ∀ id, idOf vo id → cl id = 3
  l : ∀ id, idOf vl id → cl id = 4
  w : ∀ id, idOf vw id → cl id = 5
  d : ∀ id, idOf vd id → cl id = 6
section
variable {n0 : Nat} {h : List Ob} {cl : Nat → Nat} {sid : Nat} {vc vr vk vo vl vw vd : AV} {R C : Nat} {u v : Nat → Int} {fo : Nat → Nat} {least : Nat → Int} {way : Nat → Nat} {done : Nat → Bool}
theorem Hs.mono {h' : List Ob} (A : Hs n0 h sid vc vr vk vo R C u v fo) (hm : ∀ id ep o, rdObj h id ep = some o → rdObj h' id ep = some o) : Hs n0 h' sid vc vr vk vo R C u v fo :=
  ⟨hm _ _ _ A.s, A.rows.mono fun _ _ _ _ => hm _ _ _, A.cols.mono fun _ _ _ _ => hm _ _ _, A.off.mono fun _ _ _ _ => hm _ _ _⟩
theorem Hp.stRows (A : Hp n0 h sid vc vr vk vo vl vw vd R C u v fo least way done) (S : Sp n0 cl sid vr vk vo vl vw vd) {i : Nat} (hi : i < R + 1) (y : Int) :
    Hp n0 (stH h (idxV 1 vr (.int .i64 (i : Int))) (.int .i64 y)) sid vc vr vk vo vl vw vd R C (upd u i y) v fo least way done ∧ (stH h (idxV 1 vr (.int .i64 (i : Int))) (.int .i64 y)).length = h.length ∧ (stH h (idxV 1 vr (.int .i64 (i : Int))) (.int .i64 y)).take n0 = h.take n0 := by
  obtain ⟨a, b, c⟩ := A.hs.rows.st hi y
  have S1 := S.s; have S2 := S.r
  exact ⟨⟨⟨b _ _ _ (fun hx => by have := S.r _ hx; omega) A.hs.s, a, A.hs.cols.mono fun id ep o hid ho => b id ep o (fun hx => by have := S.r _ hx; have := S.k _ hid; omega) ho, A.hs.off.mono fun id ep o hid ho => b id ep o (fun hx => by have := S.r _ hx; have := S.o _ hid; omega) ho⟩,
    A.lst.mono fun id ep o hid ho => b id ep o (fun hx => by have := S.r _ hx; have := S.l _ hid; omega) ho, A.wy.mono fun id ep o hid ho => b id ep o (fun hx => by have := S.r _ hx; have := S.w _ hid; omega) ho, A.don.mono fun id ep o hid ho => b id ep o (fun hx => by have := S.r _ hx; have := S.d _ hid; omega) ho⟩, c, A.hs.rows.stTake i y⟩
theorem Hp.stCols (A : Hp n0 h sid vc vr vk vo vl vw vd R C u v fo least way done) (S : Sp n0 cl sid vr vk vo vl vw vd) {i : Nat} (hi : i < C + 1) (y : Int) :
    Hp n0 (stH h (idxV 1 vk (.int .i64 (i : Int))) (.int .i64 y)) sid vc vr vk vo vl vw vd R C u (upd v i y) fo least way done ∧ (stH h (idxV 1 vk (.int .i64 (i : Int))) (.int .i64 y)).length = h.length ∧ (stH h (idxV 1 vk (.int .i64 (i : Int))) (.int .i64 y)).take n0 = h.take n0 := by
  obtain ⟨a, b, c⟩ := A.hs.cols.st hi y
  have S1 := S.s
  exact ⟨⟨⟨b _ _ _ (fun hx => by have := S.k _ hx; omega) A.hs.s, A.hs.rows.mono fun id ep o hid ho => b id ep o (fun hx => by have := S.k _ hx; have := S.r _ hid; omega) ho, a, A.hs.off.mono fun id ep o hid ho => b id ep o (fun hx => by have := S.k _ hx; have := S.o _ hid; omega) ho⟩,
    A.lst.mono fun id ep o hid ho => b id ep o (fun hx => by have := S.k _ hx; have := S.l _ hid; omega) ho, A.wy.mono fun id ep o hid ho => b id ep o (fun hx => by have := S.k _ hx; have := S.w _ hid; omega) ho, A.don.mono fun id ep o hid ho => b id ep o (fun hx => by have := S.k _ hx; have := S.d _ hid; omega) ho⟩, c, A.hs.cols.stTake i y⟩
theorem Hp.stOf (A : Hp n0 h sid vc vr vk vo vl vw vd R C u v fo least way done) (S : Sp n0 cl sid vr vk vo vl vw vd) {i : Nat} (hi : i < C + 1) (y : Nat) :
    Hp n0 (stH h (idxV 1 vo (.int .i64 (i : Int))) (.int .i64 (y : Int))) sid vc vr vk vo vl vw vd R C u v (upd fo i y) least way done ∧ (stH h (idxV 1 vo (.int .i64 (i : Int))) (.int .i64 (y : Int))).length = h.length ∧ (stH h (idxV 1 vo (.int .i64 (i : Int))) (.int .i64 (y : Int))).take n0 = h.take n0 := by
  obtain ⟨a, b, c⟩ := A.hs.off.st hi y
  have S1 := S.s
  exact ⟨⟨⟨b _ _ _ (fun hx => by have := S.o _ hx; omega) A.hs.s, A.hs.rows.mono fun id ep o hid ho => b id ep o (fun hx => by have := S.o _ hx; have := S.r _ hid; omega) ho, A.hs.cols.mono fun id ep o hid ho => b id ep o (fun hx => by have := S.o _ hx; have := S.k _ hid; omega) ho, a⟩,
    A.lst.mono fun id ep o hid ho => b id ep o (fun hx => by have := S.o _ hx; have := S.l _ hid; omega) ho, A.wy.mono fun id ep o hid ho => b id ep o (fun hx => by have := S.o _ hx; have := S.w _ hid; omega) ho, A.don.mono fun id ep o hid ho => b id ep o (fun hx => by have := S.o _ hx; have := S.d _ hid; omega) ho⟩, c, A.hs.off.stTake i y⟩
theorem Hp.stLst (A : Hp n0 h sid vc vr vk vo vl vw vd R C u v fo least way done) (S : Sp n0 cl sid vr vk vo vl vw vd) {i : Nat} (hi : i < C + 1) (y : Int) :
    Hp n0 (stH h (idxV 1 vl (.int .i64 (i : Int))) (.int .i64 y)) sid vc vr vk vo vl vw vd R C u v fo (upd least i y) way done ∧ (stH h (idxV 1 vl (.int .i64 (i : Int))) (.int .i64 y)).length = h.length ∧ (stH h (idxV 1 vl (.int .i64 (i : Int))) (.int .i64 y)).take n0 = h.take n0 := by
  obtain ⟨a, b, c⟩ := A.lst.st hi y
  have S1 := S.s
  exact ⟨⟨⟨b _ _ _ (fun hx => by have := S.l _ hx; omega) A.hs.s, A.hs.rows.mono fun id ep o hid ho => b id ep o (fun hx => by have := S.l _ hx; have := S.r _ hid; omega) ho, A.hs.cols.mono fun id ep o hid ho => b id ep o (fun hx => by have := S.l _ hx; have := S.k _ hid; omega) ho, A.hs.off.mono fun id ep o hid ho => b id ep o (fun hx => by have := S.l _ hx; have := S.o _ hid; omega) ho⟩,
    a, A.wy.mono fun id ep o hid ho => b id ep o (fun hx => by have := S.l _ hx; have := S.w _ hid; omega) ho, A.don.mono fun id ep o hid ho => b id ep o (fun hx => by have := S.l _ hx; have := S.d _ hid; omega) ho⟩, c, A.lst.stTake i y⟩
theorem Hp.stWay (A : Hp n0 h sid vc vr vk vo vl vw vd R C u v fo least way done) (S : Sp n0 cl sid vr vk vo vl vw vd) {i : Nat} (hi : i < C + 1) (y : Nat) :
    Hp n0 (stH h (idxV 1 vw (.int .i64 (i : Int))) (.int .i64 (y : Int))) sid vc vr vk vo vl vw vd R C u v fo least (upd way i y) done ∧ (stH h (idxV 1 vw (.int .i64 (i : Int))) (.int .i64 (y : Int))).length = h.length ∧ (stH h (idxV 1 vw (.int .i64 (i : Int))) (.int .i64 (y : Int))).take n0 = h.take n0 := by
  obtain ⟨a, b, c⟩ := A.wy.st hi y
  have S1 := S.s
  exact ⟨⟨⟨b _ _ _ (fun hx => by have := S.w _ hx; omega) A.hs.s, A.hs.rows.mono fun id ep o hid ho => b id ep o (fun hx => by have := S.w _ hx; have := S.r _ hid; omega) ho, A.hs.cols.mono fun id ep o hid ho => b id ep o (fun hx => by have := S.w _ hx; have := S.k _ hid; omega) ho, A.hs.off.mono fun id ep o hid ho => b id ep o (fun hx => by have := S.w _ hx; have := S.o _ hid; omega) ho⟩,
    A.lst.mono fun id ep o hid ho => b id ep o (fun hx => by have := S.w _ hx; have := S.l _ hid; omega) ho, a, A.don.mono fun id ep o hid ho => b id ep o (fun hx => by have := S.w _ hx; have := S.d _ hid; omega) ho⟩, c, A.wy.stTake i y⟩
theorem Hp.stDon (A : Hp n0 h sid vc vr vk vo vl vw vd R C u v fo least way done) (S : Sp n0 cl sid vr vk vo vl vw vd) {i : Nat} (hi : i < C + 1) (y : Bool) :
    Hp n0 (stH h (idxV 1 vd (.int .i64 (i : Int))) (.bool y)) sid vc vr vk vo vl vw vd R C u v fo least way (upd done i y) ∧ (stH h (idxV 1 vd (.int .i64 (i : Int))) (.bool y)).length = h.length ∧ (stH h (idxV 1 vd (.int .i64 (i : Int))) (.bool y)).take n0 = h.take n0 := by
  obtain ⟨a, b, c⟩ := A.don.st hi y
  have S1 := S.s
  exact ⟨⟨⟨b _ _ _ (fun hx => by have := S.d _ hx; omega) A.hs.s, A.hs.rows.mono fun id ep o hid ho => b id ep o (fun hx => by have := S.d _ hx; have := S.r _ hid; omega) ho, A.hs.cols.mono fun id ep o hid ho => b id ep o (fun hx => by have := S.d _ hx; have := S.k _ hid; omega) ho, A.hs.off.mono fun id ep o hid ho => b id ep o (fun hx => by have := S.d _ hx; have := S.o _ hid; omega) ho⟩,
    A.lst.mono fun id ep o hid ho => b id ep o (fun hx => by have := S.d _ hx; have := S.l _ hid; omega) ho, A.wy.mono fun id ep o hid ho => b id ep o (fun hx => by have := S.d _ hx; have := S.w _ hid; omega) ho, a⟩, c, A.don.stTake i y⟩
end
end Go.Proofs.Ytpehhlfbnkakpaa.Hg
