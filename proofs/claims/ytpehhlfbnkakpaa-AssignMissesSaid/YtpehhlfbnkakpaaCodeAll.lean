/- The functions that the laws reach, with their code. No condition. -/
import Derived.Test.YtpehhlfbnkakpaaCodeAllx0
namespace Go.Proofs.Ytpehhlfbnkakpaa.CodeAll
open Go Go.Proofs.Ytpehhlfbnkakpaa.Eva
set_option maxRecDepth 100000
def E : Nat → Option CF
  | 87 => some c87
  | 49 => some c49
  | 89 => some c89
  | 116 => some c116
  | 88 => some c88
  | 117 => some c117
  | 90 => some c90
  | 50 => some c50
  | 86 => some c86
  | 46 => some c46
  | 47 => some c47
  | 48 => some c48
  | 20 => some c20
  | 13 => some c13
  | 91 => some c91
  | 51 => some c51
  | 52 => some c52
  | 53 => some c53
  | 92 => some c92
  | 54 => some c54
  | 14 => some c14
  | _ => none
theorem e87 : E 87 = some c87 := rfl
theorem e49 : E 49 = some c49 := rfl
theorem e89 : E 89 = some c89 := rfl
theorem e116 : E 116 = some c116 := rfl
theorem e88 : E 88 = some c88 := rfl
theorem e117 : E 117 = some c117 := rfl
theorem e90 : E 90 = some c90 := rfl
theorem e50 : E 50 = some c50 := rfl
theorem e86 : E 86 = some c86 := rfl
theorem e46 : E 46 = some c46 := rfl
theorem e47 : E 47 = some c47 := rfl
theorem e48 : E 48 = some c48 := rfl
theorem e20 : E 20 = some c20 := rfl
theorem e13 : E 13 = some c13 := rfl
theorem e91 : E 91 = some c91 := rfl
theorem e51 : E 51 = some c51 := rfl
theorem e52 : E 52 = some c52 := rfl
theorem e53 : E 53 = some c53 := rfl
theorem e92 : E 92 = some c92 := rfl
theorem e54 : E 54 = some c54 := rfl
theorem e14 : E 14 = some c14 := rfl
theorem env : EnvOK Try.prog E := by
  intro f cf h
  unfold E at h
  split at h
  · simp only [Option.some.injEq] at h; subst h; exact ⟨Try.f87, Try.func87, ok87⟩
  · simp only [Option.some.injEq] at h; subst h; exact ⟨Try.f49, Try.func49, ok49⟩
  · simp only [Option.some.injEq] at h; subst h; exact ⟨Try.f89, Try.func89, ok89⟩
  · simp only [Option.some.injEq] at h; subst h; exact ⟨Try.f116, Try.func116, ok116⟩
  · simp only [Option.some.injEq] at h; subst h; exact ⟨Try.f88, Try.func88, ok88⟩
  · simp only [Option.some.injEq] at h; subst h; exact ⟨Try.f117, Try.func117, ok117⟩
  · simp only [Option.some.injEq] at h; subst h; exact ⟨Try.f90, Try.func90, ok90⟩
  · simp only [Option.some.injEq] at h; subst h; exact ⟨Try.f50, Try.func50, ok50⟩
  · simp only [Option.some.injEq] at h; subst h; exact ⟨Try.f86, Try.func86, ok86⟩
  · simp only [Option.some.injEq] at h; subst h; exact ⟨Try.f46, Try.func46, ok46⟩
  · simp only [Option.some.injEq] at h; subst h; exact ⟨Try.f47, Try.func47, ok47⟩
  · simp only [Option.some.injEq] at h; subst h; exact ⟨Try.f48, Try.func48, ok48⟩
  · simp only [Option.some.injEq] at h; subst h; exact ⟨Try.f20, Try.func20, ok20⟩
  · simp only [Option.some.injEq] at h; subst h; exact ⟨Try.f13, Try.func13, ok13⟩
  · simp only [Option.some.injEq] at h; subst h; exact ⟨Try.f91, Try.func91, ok91⟩
  · simp only [Option.some.injEq] at h; subst h; exact ⟨Try.f51, Try.func51, ok51⟩
  · simp only [Option.some.injEq] at h; subst h; exact ⟨Try.f52, Try.func52, ok52⟩
  · simp only [Option.some.injEq] at h; subst h; exact ⟨Try.f53, Try.func53, ok53⟩
  · simp only [Option.some.injEq] at h; subst h; exact ⟨Try.f92, Try.func92, ok92⟩
  · simp only [Option.some.injEq] at h; subst h; exact ⟨Try.f54, Try.func54, ok54⟩
  · simp only [Option.some.injEq] at h; subst h; exact ⟨Try.f14, Try.func14, ok14⟩
  · cases h
end Go.Proofs.Ytpehhlfbnkakpaa.CodeAll
