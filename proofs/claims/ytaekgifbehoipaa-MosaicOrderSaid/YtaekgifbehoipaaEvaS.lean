/- A row from the abstract machine: whatever the arguments, it returns true, and they read as before. Conditions stand in each lemma. -/
import Derived.Test.YtaekgifbehoipaaEvaR
import Derived.Carry
import Derived.ChangeOld
import Derived.ChangeShapes
namespace Go.Proofs.Ytaekgifbehoipaa.Eva
open Go Go.RowKit Go.ChangeShapes Go.WideShapes
set_option linter.unusedVariables false
set_option linter.unusedSimpArgs false

def argA : AT → List AV → AV
  | .st _, cs => .agg cs
  | _, cs => cs.headD und
/-- The arguments, and the objects that they point to. -/
def layA (n : Nat) : List AT → List DV → List AV × List Ob
  | a :: as, d :: ds =>
    let x := layD n a d
    let y := layA (n + x.2.length) as ds
    (argA a x.1 :: y.1, x.2 ++ y.2)
  | _, _ => ([], [])

section
variable {P : Program} {H : Type} {enc : TypeId × Value → H} {w : World} {held : Bool}

theorem arg_val {a : AT} {t : TypeId} (hf : fits P a t = true) {r : Reach} {base : Nat} {v : Value} (hv : Value.okWide P w r base t v) {n : Nat} {cs : List AV} {m : Mp} (hc : VReps m cs v.cells.toList) (h1 : ∀ u ∈ v.cells.toList, u.oneCell' = true) : VRep m (argA a cs) v := by
  have one : ∀ {x : List AV}, v.cells = #[v] → VReps m x v.cells.toList → VRep m (x.headD und) v := by
    intro x hv hx
    rw [hv] at hx
    cases x with
    | nil => simp [VReps] at hx
    | cons y l => exact (vreps_cons.1 hx).1
  cases a with
  | st fs =>
    simp only [fits] at hf
    split at hf
    · rename_i fl hu
      simp only [Value.okWide, hu] at hv
      obtain ⟨b, rfl, _⟩ := hv
      simp only [argA, VRep]
      exact ⟨b, rfl, hc, h1⟩
    · cases hf
  | int k =>
    simp only [fits, Bool.and_eq_true] at hf
    have hf2 := hf.2
    split at hf2
    · rename_i k' hu
      obtain ⟨n, rfl⟩ := okWide_int hu hv
      exact one rfl hc
    · cases hf2
  | bool =>
    simp only [fits, Bool.and_eq_true] at hf
    have hf2 := hf.2
    split at hf2
    · rename_i hu
      have : ∃ b, v = .bool b := by
        simp only [Value.okWide, hu, Cell.okWide] at hv
        cases v <;> simp_all [Cell.ok]
      obtain ⟨b, rfl⟩ := this
      exact one rfl hc
    · cases hf2
  | str =>
    simp only [fits, Bool.and_eq_true] at hf
    have hf2 := hf.2
    split at hf2
    · rename_i hu
      obtain ⟨s, rfl⟩ := okWide_string hu hv
      exact one rfl hc
    · cases hf2
  | sl e B =>
    simp only [fits, Bool.and_eq_true] at hf
    have hf2 := hf.2
    split at hf2
    · rename_i et hu
      obtain ⟨a, l, c, rfl⟩ := okWide_slice hu hv
      exact one rfl hc
    · cases hf2

theorem args_in {base : Nat} {r : Reach} : ∀ (as : List AT) (ts : List TypeId) (vs : List Value) (ds : List (DataW H)) (ps : List MemPlace), fitsL P as ts = true → DataW.TrodAll enc P w 0 (fun _ => true) held ts vs ds ps →
    (∀ (j : Nat) t v, ts[j]? = some t → vs[j]? = some v → Value.okWide P w r base t v) → (∀ n ∈ DataW.weightsEach P ts ds, n ≤ lim) →
    ∃ xs, goodL as xs ∧ ∀ (m : Mp) (h : List Ob), HRel m (lk h) w → RO h → ∃ m', m.le m' ∧ HRel m' (lk (h ++ (layA h.length as xs).2)) w ∧ RO (h ++ (layA h.length as xs).2) ∧ VReps m' (layA h.length as xs).1 vs
  | [], [], vs, ds, ps, _, hA, _, _ => by
    obtain ⟨rfl, rfl, rfl⟩ := trodAll_nil hA
    exact ⟨[], trivial, fun m h HH R => ⟨m, Mp.le.refl m, by simpa [layA] using HH, by simpa [layA] using R, by simpa [layA] using vreps_nil⟩⟩
  | [], _ :: _, _, _, _, h, _, _, _ => by simp [fitsL] at h
  | _ :: _, [], _, _, _, h, _, _, _ => by simp [fitsL] at h
  | a :: as, t :: ts, vs, ds, ps, h, hA, hok, hz => by
    simp only [fitsL, Bool.and_eq_true] at h
    obtain ⟨v, vs', d, ds', p, q, rfl, rfl, rfl, h0, h1⟩ := trodAll_cons hA
    obtain ⟨fuel, hx⟩ := h0
    obtain ⟨x, g1, g2, _⟩ := lay_trod a t h.1 hx (fun n hn => hz n (by simp [DataW.weightsEach, hn]))
    obtain ⟨xs, k1, k2⟩ := args_in as ts vs' ds' q h.2 h1 (fun j t' v' hj hv => hok (j + 1) t' v' (by simpa using hj) (by simpa using hv)) (fun n hn => hz n (by simp only [DataW.weightsEach, List.mem_append]; exact Or.inr hn))
    refine ⟨x :: xs, ⟨g1, k1⟩, fun m hp HH R => ?_⟩
    obtain ⟨m1, e1, H1, R1, v1⟩ := g2.2 m hp HH R
    obtain ⟨m2, e2, H2, R2, v2⟩ := k2 m1 _ H1 R1
    rw [List.length_append] at H2 R2 v2
    rw [List.append_assoc] at H2 R2
    refine ⟨m2, e1.trans e2, H2, R2, vreps_cons.2 ⟨?_, v2⟩⟩
    exact arg_val (n := 0) h.1 (hok 0 t v rfl rfl) (v1.mono e2) g2.1

theorem trodAll_below (hl : laidOutB P = true) {W W' : World} (hb : Below W.heap.size W W') : ∀ (ts : List TypeId) (vs : List Value) (ds : List (DataW H)) (ps : List MemPlace), (ts.all fun t => P.readableRec t && decide (t < P.types.size)) = true →
    DataW.TrodAll enc P W 0 (fun _ => true) true ts vs ds ps → DataW.TrodAll enc P W' 0 (fun b => decide (b < W.heap.size)) true ts vs ds ps
  | [], vs, ds, ps, _, hA => by
    obtain ⟨rfl, rfl, rfl⟩ := trodAll_nil hA
    exact trodAll_mk0
  | t :: ts, vs, ds, ps, h, hA => by
    simp only [List.all_cons, Bool.and_eq_true, decide_eq_true_eq] at h
    obtain ⟨v, vs', d, ds', p, q, rfl, rfl, rfl, h0, h1⟩ := trodAll_cons hA
    have hlt : ∀ x ∈ p, x.block < W.heap.size := by obtain ⟨m, hm⟩ := h0; exact DataW.trod_lt m _ _ _ hm
    exact trodAll_cons_mk (Below.trod hl h.1.1 h.1.2 h0 hb hlt) (trodAll_below hl hb ts vs' ds' q h.2 h1)

theorem trodAll_len {spare : Nat → Bool} : ∀ {ts : List TypeId} {vs : List Value} {ds : List (DataW H)} {ps : List MemPlace}, DataW.TrodAll enc P w 0 spare held ts vs ds ps → ds.length = ts.length
  | [], vs, ds, ps, hA => by
    obtain ⟨rfl, rfl, rfl⟩ := trodAll_nil hA
    rfl
  | t :: ts, vs, ds, ps, hA => by
    obtain ⟨v, vs', d, ds', p, q, rfl, rfl, rfl, h0, h1⟩ := trodAll_cons hA
    simp [trodAll_len h1]

theorem goodL_cons {a : AT} {as : List AT} {ds : List DV} (h : goodL (a :: as) ds) : ∃ d r, ds = d :: r ∧ goodD a d ∧ goodL as r := by
  cases ds with
  | nil => simp [goodL] at h
  | cons d r => exact ⟨d, r, rfl, by simpa only [goodL] using h⟩
theorem goodL_nil {ds : List DV} (h : goodL [] ds) : ds = [] := by
  cases ds with
  | nil => rfl
  | cons d r => simp [goodL] at h
theorem good_st {fs : List AT} {d : DV} (h : goodD (.st fs) d) : ∃ l, d = .st l ∧ goodL fs l := by
  cases d <;> simp only [goodD] at h
  exact ⟨_, rfl, h⟩
theorem good_int {k : IntKind} {d : DV} (h : goodD (.int k) d) : ∃ n, d = .i n ∧ k.min ≤ n ∧ n ≤ k.max := by
  cases d <;> simp only [goodD] at h
  exact ⟨_, rfl, h⟩
theorem good_i64 {d : DV} (h : goodD (.int .i64) d) : ∃ n, d = .i n ∧ -9223372036854775808 ≤ n ∧ n ≤ 9223372036854775807 := by
  obtain ⟨n, rfl, h1, h2⟩ := good_int h
  have e1 : IntKind.i64.min = -9223372036854775808 := by decide
  have e2 : IntKind.i64.max = 9223372036854775807 := by decide
  exact ⟨n, rfl, e1 ▸ h1, e2 ▸ h2⟩
theorem good_bool {d : DV} (h : goodD .bool d) : ∃ b, d = .b b := by
  cases d <;> simp only [goodD] at h
  exact ⟨_, rfl⟩
theorem good_str {d : DV} (h : goodD .str d) : ∃ b, d = .s b ∧ b.size ≤ lim := by
  cases d <;> simp only [goodD] at h
  exact ⟨_, rfl, h⟩
theorem good_sl {e : AT} {B : Nat} {d : DV} (h : goodD (.sl e B) d) : ∃ sh l, d = .sl sh l ∧ sh ≤ 2 ∧ (sh ≠ 2 → l = []) ∧ l.length * B ≤ lim ∧ ∀ d ∈ l, goodD e d := by
  cases d <;> simp only [goodD] at h
  exact ⟨_, _, rfl, h⟩

/-- The law: whatever comes in, true comes back. -/
def Law (E : Nat → Option CF) (f : Nat) (as : List AT) : Prop :=
  ∀ xs, goodL as xs → ∃ r, ecall E f (layA 0 as xs).1 (layA 0 as xs).2 = some (.bool true, r)

theorem row_of {E : Nat → Option CF} (hE : EnvOK P E) (hl : laidOutB P = true) {f : Nat} {as : List AT} {ts : List TypeId} (hL : Law E f as) (hf : fitsL P as ts = true) (hr : (ts.all fun t => P.readableRec t && decide (t < P.types.size)) = true)
    {W : World} {args : Array Value} {ds : List (DataW H)} {ps : List MemPlace} {base : Nat} {r : Reach} (hA : DataW.TrodAll enc P W 0 (fun _ => true) true ts args.toList ds ps)
    (hok : ∀ (j : Nat) t v, ts[j]? = some t → args[j]? = some v → Value.okWide P W r base t v) (hz : ((DataW.weightsEach P ts ds).all (· ≤ reachBytes)) = true) :
    Calls P f args W fun e W' => e = .returned (.bool true) ∧ Below W.heap.size W W' ∧ DataW.TrodAll enc P W' 0 (fun b => decide (b < W.heap.size)) true ts args.toList ds ps := by
  obtain ⟨xs, hg, hlay⟩ := args_in as ts args.toList ds ps hf hA (fun j t v hj hv => hok j t v hj (by simpa using hv)) (fun n hn => by
    have := List.all_eq_true.1 hz n hn
    have h2 : n ≤ reachBytes := of_decide_eq_true this
    unfold reachBytes at h2
    exact h2)
  obtain ⟨q, hq⟩ := hL xs hg
  have H0 : HRel (fun _ _ => none) (lk []) W := by
    refine ⟨fun id o l _ h => ?_, fun id o l id' o' l' _ h => ?_, fun id ep l h => ?_, fun id o h => ?_⟩
    · cases h
    · cases h
    · cases h
    · simp [lk] at h
  obtain ⟨m, _, H1, R1, v1⟩ := hlay _ [] H0 (by intro o h; cases h)
  simp only [List.nil_append, List.length_nil] at H1 R1 v1
  refine (ecall_sound hE f _ _ _ hq m W args H1 v1).2.mono fun e W' hleft => ?_
  obtain ⟨m', v, rfl, hv, H', T, _, _, _⟩ := hleft
  have hb : Below W.heap.size W W' := ⟨T.env.1, T.env.2.1, T.env.2.2, T.wsz, fun k hk => T.blk k hk fun id o l _ ho hrw _ => by
    have := R1 o (List.mem_of_getElem? ho)
    rw [this] at hrw; cases hrw⟩
  refine ⟨?_, hb, trodAll_below hl hb ts _ ds ps hr hA⟩
  simp only [VRep] at hv
  rw [hv]
end
end Go.Proofs.Ytaekgifbehoipaa.Eva
