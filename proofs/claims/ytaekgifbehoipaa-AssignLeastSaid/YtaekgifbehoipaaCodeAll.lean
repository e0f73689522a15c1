/- The functions that the laws reach, with their code. No condition. -/
import Derived.Test.YtaekgifbehoipaaCodeAllx0
namespace Go.Proofs.Ytaekgifbehoipaa.CodeAll
open Go Go.Proofs.Ytaekgifbehoipaa.Eva
set_option maxRecDepth 100000
def E : Nat → Option CF
  | 46 => some c46
  | 87 => some c87
  | 47 => some c47
  | 88 => some c88
  | 48 => some c48
  | 89 => some c89
  | 49 => some c49
  | 13 => some c13
  | 27 => some c27
  | 12 => some c12
  | 67 => some c67
  | 31 => some c31
  | 14 => some c14
  | 3 => some c3
  | _ => none
theorem e46 : E 46 = some c46 := rfl
theorem e87 : E 87 = some c87 := rfl
theorem e47 : E 47 = some c47 := rfl
theorem e88 : E 88 = some c88 := rfl
theorem e48 : E 48 = some c48 := rfl
theorem e89 : E 89 = some c89 := rfl
theorem e49 : E 49 = some c49 := rfl
theorem e13 : E 13 = some c13 := rfl
theorem e27 : E 27 = some c27 := rfl
theorem e12 : E 12 = some c12 := rfl
theorem e67 : E 67 = some c67 := rfl
theorem e31 : E 31 = some c31 := rfl
theorem e14 : E 14 = some c14 := rfl
theorem e3 : E 3 = some c3 := rfl
theorem env : EnvOK Try.prog E := by
  intro f cf h
  unfold E at h
  split at h
  · simp only [Option.some.injEq] at h; subst h; exact ⟨Try.f46, Try.func46, ok46⟩
  · simp only [Option.some.injEq] at h; subst h; exact ⟨Try.f87, Try.func87, ok87⟩
  · simp only [Option.some.injEq] at h; subst h; exact ⟨Try.f47, Try.func47, ok47⟩
  · simp only [Option.some.injEq] at h; subst h; exact ⟨Try.f88, Try.func88, ok88⟩
  · simp only [Option.some.injEq] at h; subst h; exact ⟨Try.f48, Try.func48, ok48⟩
  · simp only [Option.some.injEq] at h; subst h; exact ⟨Try.f89, Try.func89, ok89⟩
  · simp only [Option.some.injEq] at h; subst h; exact ⟨Try.f49, Try.func49, ok49⟩
  · simp only [Option.some.injEq] at h; subst h; exact ⟨Try.f13, Try.func13, ok13⟩
  · simp only [Option.some.injEq] at h; subst h; exact ⟨Try.f27, Try.func27, ok27⟩
  · simp only [Option.some.injEq] at h; subst h; exact ⟨Try.f12, Try.func12, ok12⟩
  · simp only [Option.some.injEq] at h; subst h; exact ⟨Try.f67, Try.func67, ok67⟩
  · simp only [Option.some.injEq] at h; subst h; exact ⟨Try.f31, Try.func31, ok31⟩
  · simp only [Option.some.injEq] at h; subst h; exact ⟨Try.f14, Try.func14, ok14⟩
  · simp only [Option.some.injEq] at h; subst h; exact ⟨Try.f3, Try.func3, ok3⟩
  · cases h
end Go.Proofs.Ytaekgifbehoipaa.CodeAll
