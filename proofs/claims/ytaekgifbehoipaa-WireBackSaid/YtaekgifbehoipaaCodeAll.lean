/- The functions that the laws reach, with their code. No condition. -/
import Derived.Test.YtaekgifbehoipaaCodeAllx0
namespace Go.Proofs.Ytaekgifbehoipaa.CodeAll
open Go Go.Proofs.Ytaekgifbehoipaa.Eva
set_option maxRecDepth 100000
def E : Nat → Option CF
  | 98 => some c98
  | 59 => some c59
  | 60 => some c60
  | 119 => some c119
  | 166 => some c166
  | 142 => some c142
  | 143 => some c143
  | 144 => some c144
  | 145 => some c145
  | 146 => some c146
  | 120 => some c120
  | 100 => some c100
  | 61 => some c61
  | 57 => some c57
  | 22 => some c22
  | 56 => some c56
  | 116 => some c116
  | 117 => some c117
  | 118 => some c118
  | 97 => some c97
  | 58 => some c58
  | 21 => some c21
  | 111 => some c111
  | 80 => some c80
  | 81 => some c81
  | 39 => some c39
  | 20 => some c20
  | 5 => some c5
  | 23 => some c23
  | 6 => some c6
  | 44 => some c44
  | 24 => some c24
  | 7 => some c7
  | _ => none
theorem e98 : E 98 = some c98 := rfl
theorem e59 : E 59 = some c59 := rfl
theorem e60 : E 60 = some c60 := rfl
theorem e119 : E 119 = some c119 := rfl
theorem e166 : E 166 = some c166 := rfl
theorem e142 : E 142 = some c142 := rfl
theorem e143 : E 143 = some c143 := rfl
theorem e144 : E 144 = some c144 := rfl
theorem e145 : E 145 = some c145 := rfl
theorem e146 : E 146 = some c146 := rfl
theorem e120 : E 120 = some c120 := rfl
theorem e100 : E 100 = some c100 := rfl
theorem e61 : E 61 = some c61 := rfl
theorem e57 : E 57 = some c57 := rfl
theorem e22 : E 22 = some c22 := rfl
theorem e56 : E 56 = some c56 := rfl
theorem e116 : E 116 = some c116 := rfl
theorem e117 : E 117 = some c117 := rfl
theorem e118 : E 118 = some c118 := rfl
theorem e97 : E 97 = some c97 := rfl
theorem e58 : E 58 = some c58 := rfl
theorem e21 : E 21 = some c21 := rfl
theorem e111 : E 111 = some c111 := rfl
theorem e80 : E 80 = some c80 := rfl
theorem e81 : E 81 = some c81 := rfl
theorem e39 : E 39 = some c39 := rfl
theorem e20 : E 20 = some c20 := rfl
theorem e5 : E 5 = some c5 := rfl
theorem e23 : E 23 = some c23 := rfl
theorem e6 : E 6 = some c6 := rfl
theorem e44 : E 44 = some c44 := rfl
theorem e24 : E 24 = some c24 := rfl
theorem e7 : E 7 = some c7 := rfl
theorem env : EnvOK Try.prog E := by
  intro f cf h
  unfold E at h
  split at h
  · simp only [Option.some.injEq] at h; subst h; exact ⟨Try.f98, Try.func98, ok98⟩
  · simp only [Option.some.injEq] at h; subst h; exact ⟨Try.f59, Try.func59, ok59⟩
  · simp only [Option.some.injEq] at h; subst h; exact ⟨Try.f60, Try.func60, ok60⟩
  · simp only [Option.some.injEq] at h; subst h; exact ⟨Try.f119, Try.func119, ok119⟩
  · simp only [Option.some.injEq] at h; subst h; exact ⟨Try.f166, Try.func166, ok166⟩
  · simp only [Option.some.injEq] at h; subst h; exact ⟨Try.f142, Try.func142, ok142⟩
  · simp only [Option.some.injEq] at h; subst h; exact ⟨Try.f143, Try.func143, ok143⟩
  · simp only [Option.some.injEq] at h; subst h; exact ⟨Try.f144, Try.func144, ok144⟩
  · simp only [Option.some.injEq] at h; subst h; exact ⟨Try.f145, Try.func145, ok145⟩
  · simp only [Option.some.injEq] at h; subst h; exact ⟨Try.f146, Try.func146, ok146⟩
  · simp only [Option.some.injEq] at h; subst h; exact ⟨Try.f120, Try.func120, ok120⟩
  · simp only [Option.some.injEq] at h; subst h; exact ⟨Try.f100, Try.func100, ok100⟩
  · simp only [Option.some.injEq] at h; subst h; exact ⟨Try.f61, Try.func61, ok61⟩
  · simp only [Option.some.injEq] at h; subst h; exact ⟨Try.f57, Try.func57, ok57⟩
  · simp only [Option.some.injEq] at h; subst h; exact ⟨Try.f22, Try.func22, ok22⟩
  · simp only [Option.some.injEq] at h; subst h; exact ⟨Try.f56, Try.func56, ok56⟩
  · simp only [Option.some.injEq] at h; subst h; exact ⟨Try.f116, Try.func116, ok116⟩
  · simp only [Option.some.injEq] at h; subst h; exact ⟨Try.f117, Try.func117, ok117⟩
  · simp only [Option.some.injEq] at h; subst h; exact ⟨Try.f118, Try.func118, ok118⟩
  · simp only [Option.some.injEq] at h; subst h; exact ⟨Try.f97, Try.func97, ok97⟩
  · simp only [Option.some.injEq] at h; subst h; exact ⟨Try.f58, Try.func58, ok58⟩
  · simp only [Option.some.injEq] at h; subst h; exact ⟨Try.f21, Try.func21, ok21⟩
  · simp only [Option.some.injEq] at h; subst h; exact ⟨Try.f111, Try.func111, ok111⟩
  · simp only [Option.some.injEq] at h; subst h; exact ⟨Try.f80, Try.func80, ok80⟩
  · simp only [Option.some.injEq] at h; subst h; exact ⟨Try.f81, Try.func81, ok81⟩
  · simp only [Option.some.injEq] at h; subst h; exact ⟨Try.f39, Try.func39, ok39⟩
  · simp only [Option.some.injEq] at h; subst h; exact ⟨Try.f20, Try.func20, ok20⟩
  · simp only [Option.some.injEq] at h; subst h; exact ⟨Try.f5, Try.func5, ok5⟩
  · simp only [Option.some.injEq] at h; subst h; exact ⟨Try.f23, Try.func23, ok23⟩
  · simp only [Option.some.injEq] at h; subst h; exact ⟨Try.f6, Try.func6, ok6⟩
  · simp only [Option.some.injEq] at h; subst h; exact ⟨Try.f44, Try.func44, ok44⟩
  · simp only [Option.some.injEq] at h; subst h; exact ⟨Try.f24, Try.func24, ok24⟩
  · simp only [Option.some.injEq] at h; subst h; exact ⟨Try.f7, Try.func7, ok7⟩
  · cases h
end Go.Proofs.Ytaekgifbehoipaa.CodeAll
