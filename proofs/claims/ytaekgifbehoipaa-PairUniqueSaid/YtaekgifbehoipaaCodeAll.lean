/- The functions that the laws reach, with their code. No condition. -/
import Derived.Test.YtaekgifbehoipaaCodeAllx0
namespace Go.Proofs.Ytaekgifbehoipaa.CodeAll
open Go Go.Proofs.Ytaekgifbehoipaa.Eva
set_option maxRecDepth 100000
def E : Nat → Option CF
  | 26 => some c26
  | 53 => some c53
  | 18 => some c18
  | 65 => some c65
  | 63 => some c63
  | 121 => some c121
  | 101 => some c101
  | 102 => some c102
  | 122 => some c122
  | 103 => some c103
  | 66 => some c66
  | 30 => some c30
  | 64 => some c64
  | 28 => some c28
  | 62 => some c62
  | 46 => some c46
  | 87 => some c87
  | 47 => some c47
  | 88 => some c88
  | 48 => some c48
  | 89 => some c89
  | 49 => some c49
  | 13 => some c13
  | 25 => some c25
  | 27 => some c27
  | 29 => some c29
  | 67 => some c67
  | 31 => some c31
  | 104 => some c104
  | 68 => some c68
  | 32 => some c32
  | 8 => some c8
  | _ => none
theorem e26 : E 26 = some c26 := rfl
theorem e53 : E 53 = some c53 := rfl
theorem e18 : E 18 = some c18 := rfl
theorem e65 : E 65 = some c65 := rfl
theorem e63 : E 63 = some c63 := rfl
theorem e121 : E 121 = some c121 := rfl
theorem e101 : E 101 = some c101 := rfl
theorem e102 : E 102 = some c102 := rfl
theorem e122 : E 122 = some c122 := rfl
theorem e103 : E 103 = some c103 := rfl
theorem e66 : E 66 = some c66 := rfl
theorem e30 : E 30 = some c30 := rfl
theorem e64 : E 64 = some c64 := rfl
theorem e28 : E 28 = some c28 := rfl
theorem e62 : E 62 = some c62 := rfl
theorem e46 : E 46 = some c46 := rfl
theorem e87 : E 87 = some c87 := rfl
theorem e47 : E 47 = some c47 := rfl
theorem e88 : E 88 = some c88 := rfl
theorem e48 : E 48 = some c48 := rfl
theorem e89 : E 89 = some c89 := rfl
theorem e49 : E 49 = some c49 := rfl
theorem e13 : E 13 = some c13 := rfl
theorem e25 : E 25 = some c25 := rfl
theorem e27 : E 27 = some c27 := rfl
theorem e29 : E 29 = some c29 := rfl
theorem e67 : E 67 = some c67 := rfl
theorem e31 : E 31 = some c31 := rfl
theorem e104 : E 104 = some c104 := rfl
theorem e68 : E 68 = some c68 := rfl
theorem e32 : E 32 = some c32 := rfl
theorem e8 : E 8 = some c8 := rfl
theorem env : EnvOK Try.prog E := by
  intro f cf h
  unfold E at h
  split at h
  · simp only [Option.some.injEq] at h; subst h; exact ⟨Try.f26, Try.func26, ok26⟩
  · simp only [Option.some.injEq] at h; subst h; exact ⟨Try.f53, Try.func53, ok53⟩
  · simp only [Option.some.injEq] at h; subst h; exact ⟨Try.f18, Try.func18, ok18⟩
  · simp only [Option.some.injEq] at h; subst h; exact ⟨Try.f65, Try.func65, ok65⟩
  · simp only [Option.some.injEq] at h; subst h; exact ⟨Try.f63, Try.func63, ok63⟩
  · simp only [Option.some.injEq] at h; subst h; exact ⟨Try.f121, Try.func121, ok121⟩
  · simp only [Option.some.injEq] at h; subst h; exact ⟨Try.f101, Try.func101, ok101⟩
  · simp only [Option.some.injEq] at h; subst h; exact ⟨Try.f102, Try.func102, ok102⟩
  · simp only [Option.some.injEq] at h; subst h; exact ⟨Try.f122, Try.func122, ok122⟩
  · simp only [Option.some.injEq] at h; subst h; exact ⟨Try.f103, Try.func103, ok103⟩
  · simp only [Option.some.injEq] at h; subst h; exact ⟨Try.f66, Try.func66, ok66⟩
  · simp only [Option.some.injEq] at h; subst h; exact ⟨Try.f30, Try.func30, ok30⟩
  · simp only [Option.some.injEq] at h; subst h; exact ⟨Try.f64, Try.func64, ok64⟩
  · simp only [Option.some.injEq] at h; subst h; exact ⟨Try.f28, Try.func28, ok28⟩
  · simp only [Option.some.injEq] at h; subst h; exact ⟨Try.f62, Try.func62, ok62⟩
  · simp only [Option.some.injEq] at h; subst h; exact ⟨Try.f46, Try.func46, ok46⟩
  · simp only [Option.some.injEq] at h; subst h; exact ⟨Try.f87, Try.func87, ok87⟩
  · simp only [Option.some.injEq] at h; subst h; exact ⟨Try.f47, Try.func47, ok47⟩
  · simp only [Option.some.injEq] at h; subst h; exact ⟨Try.f88, Try.func88, ok88⟩
  · simp only [Option.some.injEq] at h; subst h; exact ⟨Try.f48, Try.func48, ok48⟩
  · simp only [Option.some.injEq] at h; subst h; exact ⟨Try.f89, Try.func89, ok89⟩
  · simp only [Option.some.injEq] at h; subst h; exact ⟨Try.f49, Try.func49, ok49⟩
  · simp only [Option.some.injEq] at h; subst h; exact ⟨Try.f13, Try.func13, ok13⟩
  · simp only [Option.some.injEq] at h; subst h; exact ⟨Try.f25, Try.func25, ok25⟩
  · simp only [Option.some.injEq] at h; subst h; exact ⟨Try.f27, Try.func27, ok27⟩
  · simp only [Option.some.injEq] at h; subst h; exact ⟨Try.f29, Try.func29, ok29⟩
  · simp only [Option.some.injEq] at h; subst h; exact ⟨Try.f67, Try.func67, ok67⟩
  · simp only [Option.some.injEq] at h; subst h; exact ⟨Try.f31, Try.func31, ok31⟩
  · simp only [Option.some.injEq] at h; subst h; exact ⟨Try.f104, Try.func104, ok104⟩
  · simp only [Option.some.injEq] at h; subst h; exact ⟨Try.f68, Try.func68, ok68⟩
  · simp only [Option.some.injEq] at h; subst h; exact ⟨Try.f32, Try.func32, ok32⟩
  · simp only [Option.some.injEq] at h; subst h; exact ⟨Try.f8, Try.func8, ok8⟩
  · cases h
end Go.Proofs.Ytaekgifbehoipaa.CodeAll
