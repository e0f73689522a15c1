/- More equations: floats, functions outside of the program, shifts, bits. Conditions stand in each lemma. -/
import Derived.Test.YtaekgifbehoipaaEvaY
namespace Go.Proofs.Ytaekgifbehoipaa.Eva
open Go
set_option linter.unusedVariables false
set_option linter.unusedSimpArgs false
section
variable {ρ : Opd → AV} {h : List Ob}
def cvfA (k : FloatKind) : AV → Option AV
  | .int _ n => some (.flt k (k.nearest n))
  | _ => none
theorem qt_cvf (k : FloatKind) (x : Opd) : (I.cvf k x).quiet = true := Eq.trans rfl rfl
theorem qt_cfi (k : IntKind) (x : Opd) : (I.cfi k x).quiet = true := Eq.trans rfl rfl
theorem qt_xf (k : Nat) (x : Opd) : (I.xf k x).quiet = true := Eq.trans rfl rfl
theorem kq_cvf (k : FloatKind) (x : Opd) : kq ρ h (.cvf k x) = (cvfA k (ρ x)).isSome := by simp only [kq, aop]; cases ρ x <;> rfl
theorem vq_cvf (k : FloatKind) (x : Opd) : vq ρ h (.cvf k x) = (cvfA k (ρ x)).getD und := by simp only [vq, aop]; cases ρ x <;> rfl
theorem kq_cfi (k : IntKind) (x : Opd) : kq ρ h (.cfi k x) = (acfi k (ρ x)).isSome := by simp only [kq, aop]; cases acfi k (ρ x) <;> rfl
theorem vq_cfi (k : IntKind) (x : Opd) : vq ρ h (.cfi k x) = (acfi k (ρ x)).getD und := by simp only [vq, aop]; cases acfi k (ρ x) <;> rfl
theorem kq_xf (k : Nat) (x : Opd) : kq ρ h (.xf k x) = (axf k (ρ x)).isSome := by simp only [kq, aop]; cases axf k (ρ x) <;> rfl
theorem vq_xf (k : Nat) (x : Opd) : vq ρ h (.xf k x) = (axf k (ρ x)).getD und := by simp only [vq, aop]; cases axf k (ρ x) <;> rfl
theorem kq_sls (x : Opd) (a b : Option Opd) : kq ρ h (.sls x a b) = (aop ρ ⟨h, 0, 0⟩ (.sls x a b)).isSome := Eq.trans rfl rfl
theorem cvfA_i (k : FloatKind) (k' : IntKind) (n : Int) : cvfA k (.int k' n) = some (.flt k (k.nearest n)) := Eq.trans rfl rfl
theorem axf_bits (b : Nat) : axf 1 (.flt .f64 b) = some (.int .u64 b) := Eq.trans rfl rfl
theorem axf_frombits (n : Int) : axf 2 (.int .u64 n) = some (.flt .f64 n.toNat) := Eq.trans rfl rfl
theorem axf_sqrt {x y : Nat} (e : FloatKind.f64.format.sqrt x = some y) : axf 0 (.flt .f64 x) = some (.flt .f64 y) := by simp [axf, e]
theorem im_cvf {c : Bool} (k : FloatKind) (v : AV) : im c (cvfA k (gv c v)).isSome = im c (cvfA k v).isSome := by cases c <;> rfl
theorem gv_cvf {c : Bool} (k : FloatKind) (v : AV) : gv c ((cvfA k (gv c v)).getD und) = gv c ((cvfA k v).getD und) := by cases c <;> rfl
theorem abin_feql (k : FloatKind) (a b : Nat) : abin .eql (.flt k a) (.flt k b) = some (.bool (k.format.order a b == some .eq)) := by simp [abin]
theorem abin_fneq (k : FloatKind) (a b : Nat) : abin .neq (.flt k a) (.flt k b) = some (.bool (k.format.order a b != some .eq)) := by simp [abin]
theorem abin_flss (k : FloatKind) (a b : Nat) : abin .lss (.flt k a) (.flt k b) = some (.bool (k.format.order a b == some .lt)) := by simp [abin]
theorem abin_fgtr (k : FloatKind) (a b : Nat) : abin .gtr (.flt k a) (.flt k b) = some (.bool (k.format.order a b == some .gt)) := by simp [abin]
theorem abin_fmul {k : FloatKind} {a b c : Nat} (e : k.format.mul a b = some c) : abin .mul (.flt k a) (.flt k b) = some (.flt k c) := by simp [abin, e]
theorem isTup_flt (k : FloatKind) (n : Nat) : (AV.flt k n).isTup = false := Eq.trans rfl rfl
theorem sc_flt (k : FloatKind) (n : Nat) : (AV.flt k n).scalar = true := Eq.trans rfl rfl
theorem cells_flt (k : FloatKind) (n : Nat) : cellsOf (.flt k n) = [.flt k n] := Eq.trans rfl rfl
end

/-! ### Numbers of 64 bits without a sign -/
abbrev M64 : Nat := 18446744073709551616
theorem wu64 {x : Int} (h1 : 0 ≤ x) (h2 : x < 18446744073709551616) : IntKind.u64.wrap x = x := by
  have e : x % (2 ^ 64 : Int) = x := Int.emod_eq_of_lt h1 (by omega)
  simp only [IntKind.wrap, IntKind.bits, IntKind.signed]
  simp only [e]
  simp
theorem wu64_mod (x : Int) : IntKind.u64.wrap x = x % 18446744073709551616 := by
  simp only [IntKind.wrap, IntKind.bits, IntKind.signed]
  simp
theorem u_mul (a b : Nat) : IntKind.u64.wrap ((a : Int) * (b : Int)) = ((a * b % M64 : Nat) : Int) := by rw [wu64_mod]; simp
theorem u_add (a b : Nat) : IntKind.u64.wrap ((a : Int) + (b : Int)) = (((a + b) % M64 : Nat) : Int) := by rw [wu64_mod]; simp
theorem u_sub {a b : Nat} (h : b ≤ a) (h2 : a < M64) : IntKind.u64.wrap ((a : Int) - (b : Int)) = ((a - b : Nat) : Int) := by
  rw [wu64 (by omega) (by unfold M64 at h2; omega)]; omega
theorem abin_shl_u {kk : IntKind} (a s : Nat) : abin .shl (.int .u64 (a : Int)) (.int kk (s : Int)) = some (.int .u64 ((a * 2 ^ (min s 64) % M64 : Nat) : Int)) := by
  have h : ¬ ((s : Int) < 0) := by omega
  have e : (a : Int) * 2 ^ (min s 64) = ((a * 2 ^ (min s 64) : Nat) : Int) := by simp
  simp only [abin, if_neg h, Int.toNat_natCast, Option.some.injEq, AV.int.injEq, true_and]
  show IntKind.u64.wrap ((a : Int) * 2 ^ (min s 64)) = _
  rw [e, wu64_mod]; simp
theorem abin_shr_u {kk : IntKind} (a s : Nat) : abin .shr (.int .u64 (a : Int)) (.int kk (s : Int)) = some (.int .u64 ((a / 2 ^ (min s 64) : Nat) : Int)) := by
  have h : ¬ ((s : Int) < 0) := by omega
  simp only [abin, if_neg h, Int.toNat_natCast, Option.some.injEq, AV.int.injEq, true_and]
  show (a : Int).fdiv (2 ^ (min s 64)) = _
  rw [Int.fdiv_eq_ediv_of_nonneg _ (Int.pow_nonneg (by decide))]
  simp
theorem abin_and_u (a b : Nat) (ha : a < M64) (hb : b < M64) : abin .and (.int .u64 (a : Int)) (.int .u64 (b : Int)) = some (.int .u64 ((a &&& b : Nat) : Int)) := by
  have e : (BitVec.ofInt IntKind.u64.bits (a : Int) &&& BitVec.ofInt IntKind.u64.bits (b : Int)).toNat = a &&& b := by
    rw [BitVec.toNat_and, BitVec.toNat_ofInt, BitVec.toNat_ofInt]
    show ((a : Int) % ((2 ^ 64 : Nat) : Int)).toNat &&& ((b : Int) % ((2 ^ 64 : Nat) : Int)).toNat = a &&& b
    have h1 : (((a : Int) % ((2 ^ 64 : Nat) : Int))).toNat = a := by unfold M64 at ha; omega
    have h2 : (((b : Int) % ((2 ^ 64 : Nat) : Int))).toNat = b := by unfold M64 at hb; omega
    rw [h1, h2]
  simp only [abin, if_true, e]
  rw [wu64 (by omega) (by have := Nat.and_le_left (n := a) (m := b); unfold M64 at ha; omega)]
theorem abin_or_u (a b : Nat) (ha : a < M64) (hb : b < M64) : abin .or (.int .u64 (a : Int)) (.int .u64 (b : Int)) = some (.int .u64 ((a ||| b : Nat) : Int)) := by
  have e : (BitVec.ofInt IntKind.u64.bits (a : Int) ||| BitVec.ofInt IntKind.u64.bits (b : Int)).toNat = a ||| b := by
    rw [BitVec.toNat_or, BitVec.toNat_ofInt, BitVec.toNat_ofInt]
    show ((a : Int) % ((2 ^ 64 : Nat) : Int)).toNat ||| ((b : Int) % ((2 ^ 64 : Nat) : Int)).toNat = a ||| b
    have h1 : (((a : Int) % ((2 ^ 64 : Nat) : Int))).toNat = a := by unfold M64 at ha; omega
    have h2 : (((b : Int) % ((2 ^ 64 : Nat) : Int))).toNat = b := by unfold M64 at hb; omega
    rw [h1, h2]
  simp only [abin, if_true, e]
  have := Nat.or_lt_two_pow (n := 64) (show a < 2 ^ 64 from ha) (show b < 2 ^ 64 from hb)
  rw [wu64 (by omega) (by omega)]
theorem abin_quo_u (a b : Nat) (hb : b ≠ 0) (ha : a < M64) : abin .quo (.int .u64 (a : Int)) (.int .u64 (b : Int)) = some (.int .u64 ((a / b : Nat) : Int)) := by
  have h : ¬ ((b : Int) = 0) := by omega
  simp only [abin, if_true, if_neg h]
  have e : (a : Int).tdiv (b : Int) = ((a / b : Nat) : Int) := by rw [Int.ofNat_tdiv]
  rw [e, wu64 (Int.natCast_nonneg _) (by have := Nat.div_le_self a b; generalize a / b = q at *; unfold M64 at ha; omega)]
theorem abin_rem_u (a b : Nat) (hb : b ≠ 0) : abin .rem (.int .u64 (a : Int)) (.int .u64 (b : Int)) = some (.int .u64 ((a % b : Nat) : Int)) := by
  have h : ¬ ((b : Int) = 0) := by omega
  simp only [abin, if_true, if_neg h]
  have e : (a : Int).tmod (b : Int) = ((a % b : Nat) : Int) := by rw [Int.ofNat_tmod]
  rw [e]
theorem u_mul_lt {a b : Nat} (h : a * b < M64) : IntKind.u64.wrap ((a : Int) * (b : Int)) = ((a * b : Nat) : Int) := by rw [u_mul, Nat.mod_eq_of_lt h]
theorem u_add_lt {a b : Nat} (h : a + b < M64) : IntKind.u64.wrap ((a : Int) + (b : Int)) = ((a + b : Nat) : Int) := by rw [u_add, Nat.mod_eq_of_lt h]
theorem and32 (a : Nat) (ha : a < M64) : abin .and (.int .u64 (a : Int)) (.int .u64 4294967295) = some (.int .u64 ((a % 4294967296 : Nat) : Int)) := by
  have := abin_and_u a 4294967295 ha (by decide)
  rw [show (4294967295 : Nat) = 2 ^ 32 - 1 from rfl, Nat.and_two_pow_sub_one_eq_mod] at this
  exact this
theorem shr32 {kk : IntKind} (a : Nat) : abin .shr (.int .u64 (a : Int)) (.int kk 32) = some (.int .u64 ((a / 4294967296 : Nat) : Int)) := abin_shr_u (kk := kk) a 32
theorem shrk {kk : IntKind} (a : Nat) (k : Nat) (c : Int) (hc : c = (k : Int)) (hk : k ≤ 64) : abin .shr (.int .u64 (a : Int)) (.int kk c) = some (.int .u64 ((a / 2 ^ k : Nat) : Int)) := by
  subst hc
  have := abin_shr_u (kk := kk) a k
  rw [Nat.min_eq_left hk] at this
  exact this
theorem cvi_u (k : IntKind) (n : Nat) (h : n < M64) : cviA .u64 (.int k (n : Int)) = some (.int .u64 (n : Int)) := by
  rw [cviA_i, wu64 (by omega) (by unfold M64 at h; omega)]
def ixsA : AV → AV → Option AV
  | .str b, .int _ i => match (if 0 ≤ i then b[i.toNat]? else none) with
    | some x => some (.int .u8 x.toNat)
    | none => none
  | _, _ => none
theorem kq_ixs {ρ : Opd → AV} {h : List Ob} (x i : Opd) : kq ρ h (.ixs x i) = (ixsA (ρ x) (ρ i)).isSome := by
  simp only [kq, aop, ixsA]; cases ρ x <;> try rfl
  cases ρ i <;> try rfl
  rename_i b k n; simp only; split <;> simp_all
theorem vq_ixs {ρ : Opd → AV} {h : List Ob} (x i : Opd) : vq ρ h (.ixs x i) = (ixsA (ρ x) (ρ i)).getD und := by
  simp only [vq, aop, ixsA]; cases ρ x <;> try rfl
  cases ρ i <;> try rfl
  rename_i b k n; simp only; split <;> simp_all
theorem ixsA_i {b : ByteArray} {k : IntKind} {i : Nat} {x : UInt8} (h : b[i]? = some x) : ixsA (.str b) (.int k (i : Int)) = some (.int .u8 x.toNat) := by
  simp [ixsA, h]
theorem shl_i {kk : IntKind} (a s : Nat) (h : a * 2 ^ s < 9223372036854775808) (hs : s ≤ 63) : abin .shl (.int .i64 (a : Int)) (.int kk (s : Int)) = some (.int .i64 ((a * 2 ^ s : Nat) : Int)) := by
  have e : min s 64 = s := by omega
  have h0 : ¬ ((s : Int) < 0) := by omega
  simp only [abin, if_neg h0, Int.toNat_natCast, IntKind.bits, e]
  have e2 : (a : Int) * 2 ^ s = ((a * 2 ^ s : Nat) : Int) := by simp
  rw [e2, wrap64 (by omega) (by omega)]
theorem shr_i {kk : IntKind} (a : Int) (s : Nat) (hs : s ≤ 64) : abin .shr (.int .i64 a) (.int kk (s : Int)) = some (.int .i64 (a / 2 ^ s)) := by
  have e : min s 64 = s := by omega
  have h0 : ¬ ((s : Int) < 0) := by omega
  simp only [abin, if_neg h0, Int.toNat_natCast, IntKind.bits, e]
  rw [Int.fdiv_eq_ediv_of_nonneg _ (Int.pow_nonneg (by decide))]
end Go.Proofs.Ytaekgifbehoipaa.Eva
