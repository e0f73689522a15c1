/- Plain facts of digits with base 65536. Conditions stand in each lemma. -/
import Derived.Test.YtpehhlfbnkakpaaEvaT
namespace Go.Proofs.Ytpehhlfbnkakpaa.Dg
set_option linter.unusedVariables false
set_option maxRecDepth 10000

def dval : List Int → Int
  | [] => 0
  | d :: r => d + 65536 * dval r
def dpw : Nat → Int
  | 0 => 1
  | k + 1 => 65536 * dpw k
theorem dpw_pos : ∀ k, 0 < dpw k
  | 0 => by decide
  | k + 1 => by have := dpw_pos k; simp only [dpw]; omega
theorem dval_set : ∀ {l : List Int} {j : Nat} {d : Int} (x : Int), l[j]? = some d → dval (l.set j x) = dval l + (x - d) * dpw j
  | [], j, d, x, h => by simp at h
  | a :: r, 0, d, x, h => by simp at h; subst h; simp only [List.set_cons_zero, dval, dpw]; omega
  | a :: r, j + 1, d, x, h => by
    have := dval_set (l := r) (j := j) (d := d) x (by simpa using h)
    simp only [List.set_cons_succ, dval, dpw, this]
    generalize dval r = V
    generalize dpw j = P
    grind
theorem dval_take : ∀ {l : List Int} {k : Nat} {d : Int}, l[k]? = some d → dval (l.take (k + 1)) = dval (l.take k) + d * dpw k
  | [], k, d, h => by simp at h
  | a :: r, 0, d, h => by simp at h; subst h; simp [dval, dpw]
  | a :: r, k + 1, d, h => by
    have := dval_take (l := r) (k := k) (d := d) (by simpa using h)
    simp only [List.take_succ_cons, dval, dpw] at this ⊢
    rw [this]
    generalize dval (r.take k) = V
    generalize dpw k = P
    grind
theorem dval_split : ∀ (l : List Int) (k : Nat), k ≤ l.length → dval l = dval (l.take k) + dpw k * dval (l.drop k)
  | l, 0, _ => by simp [dval, dpw]
  | [], k + 1, h => by simp at h
  | a :: r, k + 1, h => by
    have := dval_split r k (by simpa using h)
    simp only [List.take_succ_cons, List.drop_succ_cons, dval, dpw]
    rw [this]
    generalize dval (r.take k) = V
    generalize dval (r.drop k) = W
    generalize dpw k = P
    grind
theorem dval_bd : ∀ {l : List Int}, (∀ d ∈ l, 0 ≤ d ∧ d ≤ 65535) → 0 ≤ dval l ∧ dval l < dpw l.length
  | [], _ => by simp [dval, dpw]
  | a :: r, h => by
    have h1 := h a (by simp)
    have h2 := dval_bd (l := r) (fun d hd => h d (by simp [hd]))
    simp only [dval, dpw, List.length_cons]
    omega
/-- The digit from which on two rows differ decides. -/
theorem dval_gt {l m : List Int} {k : Nat} {x y : Int} (hl : ∀ d ∈ l, 0 ≤ d ∧ d ≤ 65535) (hm : ∀ d ∈ m, 0 ≤ d ∧ d ≤ 65535) (hx : l[k]? = some x) (hy : m[k]? = some y) (hd : l.drop (k + 1) = m.drop (k + 1)) (h : y < x) : dval m < dval l := by
  have kl : k < l.length := (List.getElem?_eq_some_iff.1 hx).1
  have km : k < m.length := (List.getElem?_eq_some_iff.1 hy).1
  have a := dval_split l (k + 1) (by omega)
  have b := dval_split m (k + 1) (by omega)
  rw [hd] at a
  rw [dval_take hx] at a
  rw [dval_take hy] at b
  have c1 := dval_bd (l := l.take k) (fun d hd => hl d (List.mem_of_mem_take hd))
  have c2 := dval_bd (l := m.take k) (fun d hd => hm d (List.mem_of_mem_take hd))
  rw [List.length_take, Nat.min_eq_left (by omega)] at c1 c2
  have c3 : (y + 1) * dpw k ≤ x * dpw k := Int.mul_le_mul_of_nonneg_right (by omega) (Int.le_of_lt (dpw_pos k))
  rw [Int.add_mul, Int.one_mul] at c3
  omega

/-- The digits of a magnitude. -/
def lmb (n : Int) : List Int := [(n.natAbs : Int) % 65536, (n.natAbs : Int) / 65536 % 65536, (n.natAbs : Int) / 4294967296 % 65536, (n.natAbs : Int) / 281474976710656 % 65536]
theorem lmb_bd (n : Int) : ∀ d ∈ lmb n, 0 ≤ d ∧ d ≤ 65535 := by
  intro d hd
  simp only [lmb, List.mem_cons, List.not_mem_nil, or_false] at hd
  rcases hd with rfl | rfl | rfl | rfl <;> omega
theorem lmb_val {n : Int} (h1 : -9223372036854775808 ≤ n) (h2 : n < 9223372036854775808) : dval (lmb n) = (n.natAbs : Int) := by
  simp only [lmb, dval]
  omega
/-- The digits as the shifts give them. -/
def dg (n : Int) : List Int := [n % 65536, n / 65536 % 65536, n / 4294967296 % 65536, n / 281474976710656 % 65536]
theorem dg_bd (n : Int) : ∀ d ∈ dg n, 0 ≤ d ∧ d ≤ 65535 := by
  intro d hd
  simp only [dg, List.mem_cons, List.not_mem_nil, or_false] at hd
  rcases hd with rfl | rfl | rfl | rfl <;> omega
theorem dg_pos {n : Int} (h : 0 ≤ n) : dg n = lmb n := by
  simp only [dg, lmb]
  have : (n.natAbs : Int) = n := by omega
  rw [this]
theorem dg_get (n : Int) {k : Nat} (hk : k < 4) : (dg n)[k]? = some (n / 2 ^ (16 * k) % 65536) := by
  have : k = 0 ∨ k = 1 ∨ k = 2 ∨ k = 3 := by omega
  rcases this with rfl | rfl | rfl | rfl
  · simp [dg]
  · rfl
  · rfl
  · rfl
def at0 (l : List Int) (k : Nat) : Int := match l[k]? with
  | some x => x
  | none => 0
/-- All bits turned, and one added. -/
def ngl (l : List Int) : Nat → List Int × Int
  | 0 => (l, 1)
  | k + 1 => ((ngl l k).1.set k (((ngl l k).2 + (65535 - at0 (ngl l k).1 k)) % 65536), ((ngl l k).2 + (65535 - at0 (ngl l k).1 k)) / 65536)
theorem ngl_len (l : List Int) : ∀ k, (ngl l k).1.length = l.length
  | 0 => rfl
  | k + 1 => by simp only [ngl, List.length_set, ngl_len l k]
theorem at0_mem {l : List Int} {k : Nat} (hk : k < l.length) : l[k]? = some (at0 l k) ∧ at0 l k ∈ l := by
  have : l[k]? = some l[k] := List.getElem?_eq_getElem hk
  simp only [at0, this]
  exact ⟨trivial, List.getElem_mem hk⟩
theorem ngl_bd {l : List Int} (hl : ∀ d ∈ l, 0 ≤ d ∧ d ≤ 65535) : ∀ k, k ≤ l.length → (∀ d ∈ (ngl l k).1, 0 ≤ d ∧ d ≤ 65535) ∧ 0 ≤ (ngl l k).2 ∧ (ngl l k).2 ≤ 1
  | 0, _ => ⟨hl, by simp [ngl], by simp [ngl]⟩
  | k + 1, hk => by
    obtain ⟨h1, h2, h3⟩ := ngl_bd hl k (by omega)
    have h4 := h1 _ (at0_mem (l := (ngl l k).1) (k := k) (by rw [ngl_len]; omega)).2
    simp only [ngl]
    refine ⟨fun d hd => ?_, by omega, by omega⟩
    rcases List.mem_or_eq_of_mem_set hd with hd | rfl
    · exact h1 d hd
    · omega
theorem ngl_four {n : Int} (h1 : -9223372036854775808 ≤ n) (h2 : n < 0) : (ngl (dg n) 4).1 = lmb n := by
  simp only [ngl, dg, at0, List.set_cons_zero, List.set_cons_succ, List.getElem?_cons_zero, List.getElem?_cons_succ, lmb, List.cons.injEq, and_true]
  have e : (n.natAbs : Int) = -n := by omega
  rw [e]
  refine ⟨?_, ?_, ?_, ?_⟩ <;> omega
theorem dpw_add (i : Nat) : ∀ k, dpw (i + k) = dpw i * dpw k
  | 0 => by simp [dpw]
  | k + 1 => by
    have := dpw_add i k
    rw [show i + (k + 1) = (i + k) + 1 from rfl]
    simp only [dpw, this]
    generalize dpw i = A
    generalize dpw k = C
    grind
theorem part_step {X Y a b o P Q R d T : Int} (hT : T = X * Y + a * P * Q) (h : o = T) : o + (d + a * b - d) * (P * R) = X * Y + a * P * (Q + b * R) := by
  subst h; subst hT; grind
end Go.Proofs.Ytpehhlfbnkakpaa.Dg
