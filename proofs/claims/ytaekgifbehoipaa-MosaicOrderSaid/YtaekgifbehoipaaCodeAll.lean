/- The functions that the laws reach, with their code. No condition. -/
import Derived.Test.YtaekgifbehoipaaCodeAllx0
namespace Go.Proofs.Ytaekgifbehoipaa.CodeAll
open Go Go.Proofs.Ytaekgifbehoipaa.Eva
set_option maxRecDepth 100000
def E : Nat → Option CF
  | 35 => some c35
  | 132 => some c132
  | 118 => some c118
  | 109 => some c109
  | 133 => some c133
  | 161 => some c161
  | 134 => some c134
  | 157 => some c157
  | 158 => some c158
  | 135 => some c135
  | 171 => some c171
  | 163 => some c163
  | 162 => some c162
  | 136 => some c136
  | 137 => some c137
  | 138 => some c138
  | 139 => some c139
  | 140 => some c140
  | 112 => some c112
  | 82 => some c82
  | 104 => some c104
  | 85 => some c85
  | 84 => some c84
  | 42 => some c42
  | 83 => some c83
  | 41 => some c41
  | 111 => some c111
  | 80 => some c80
  | 81 => some c81
  | 39 => some c39
  | 43 => some c43
  | 44 => some c44
  | 86 => some c86
  | 45 => some c45
  | 11 => some c11
  | _ => none
theorem e35 : E 35 = some c35 := rfl
theorem e132 : E 132 = some c132 := rfl
theorem e118 : E 118 = some c118 := rfl
theorem e109 : E 109 = some c109 := rfl
theorem e133 : E 133 = some c133 := rfl
theorem e161 : E 161 = some c161 := rfl
theorem e134 : E 134 = some c134 := rfl
theorem e157 : E 157 = some c157 := rfl
theorem e158 : E 158 = some c158 := rfl
theorem e135 : E 135 = some c135 := rfl
theorem e171 : E 171 = some c171 := rfl
theorem e163 : E 163 = some c163 := rfl
theorem e162 : E 162 = some c162 := rfl
theorem e136 : E 136 = some c136 := rfl
theorem e137 : E 137 = some c137 := rfl
theorem e138 : E 138 = some c138 := rfl
theorem e139 : E 139 = some c139 := rfl
theorem e140 : E 140 = some c140 := rfl
theorem e112 : E 112 = some c112 := rfl
theorem e82 : E 82 = some c82 := rfl
theorem e104 : E 104 = some c104 := rfl
theorem e85 : E 85 = some c85 := rfl
theorem e84 : E 84 = some c84 := rfl
theorem e42 : E 42 = some c42 := rfl
theorem e83 : E 83 = some c83 := rfl
theorem e41 : E 41 = some c41 := rfl
theorem e111 : E 111 = some c111 := rfl
theorem e80 : E 80 = some c80 := rfl
theorem e81 : E 81 = some c81 := rfl
theorem e39 : E 39 = some c39 := rfl
theorem e43 : E 43 = some c43 := rfl
theorem e44 : E 44 = some c44 := rfl
theorem e86 : E 86 = some c86 := rfl
theorem e45 : E 45 = some c45 := rfl
theorem e11 : E 11 = some c11 := rfl
theorem env : EnvOK Try.prog E := by
  intro f cf h
  unfold E at h
  split at h
  · simp only [Option.some.injEq] at h; subst h; exact ⟨Try.f35, Try.func35, ok35⟩
  · simp only [Option.some.injEq] at h; subst h; exact ⟨Try.f132, Try.func132, ok132⟩
  · simp only [Option.some.injEq] at h; subst h; exact ⟨Try.f118, Try.func118, ok118⟩
  · simp only [Option.some.injEq] at h; subst h; exact ⟨Try.f109, Try.func109, ok109⟩
  · simp only [Option.some.injEq] at h; subst h; exact ⟨Try.f133, Try.func133, ok133⟩
  · simp only [Option.some.injEq] at h; subst h; exact ⟨Try.f161, Try.func161, ok161⟩
  · simp only [Option.some.injEq] at h; subst h; exact ⟨Try.f134, Try.func134, ok134⟩
  · simp only [Option.some.injEq] at h; subst h; exact ⟨Try.f157, Try.func157, ok157⟩
  · simp only [Option.some.injEq] at h; subst h; exact ⟨Try.f158, Try.func158, ok158⟩
  · simp only [Option.some.injEq] at h; subst h; exact ⟨Try.f135, Try.func135, ok135⟩
  · simp only [Option.some.injEq] at h; subst h; exact ⟨Try.f171, Try.func171, ok171⟩
  · simp only [Option.some.injEq] at h; subst h; exact ⟨Try.f163, Try.func163, ok163⟩
  · simp only [Option.some.injEq] at h; subst h; exact ⟨Try.f162, Try.func162, ok162⟩
  · simp only [Option.some.injEq] at h; subst h; exact ⟨Try.f136, Try.func136, ok136⟩
  · simp only [Option.some.injEq] at h; subst h; exact ⟨Try.f137, Try.func137, ok137⟩
  · simp only [Option.some.injEq] at h; subst h; exact ⟨Try.f138, Try.func138, ok138⟩
  · simp only [Option.some.injEq] at h; subst h; exact ⟨Try.f139, Try.func139, ok139⟩
  · simp only [Option.some.injEq] at h; subst h; exact ⟨Try.f140, Try.func140, ok140⟩
  · simp only [Option.some.injEq] at h; subst h; exact ⟨Try.f112, Try.func112, ok112⟩
  · simp only [Option.some.injEq] at h; subst h; exact ⟨Try.f82, Try.func82, ok82⟩
  · simp only [Option.some.injEq] at h; subst h; exact ⟨Try.f104, Try.func104, ok104⟩
  · simp only [Option.some.injEq] at h; subst h; exact ⟨Try.f85, Try.func85, ok85⟩
  · simp only [Option.some.injEq] at h; subst h; exact ⟨Try.f84, Try.func84, ok84⟩
  · simp only [Option.some.injEq] at h; subst h; exact ⟨Try.f42, Try.func42, ok42⟩
  · simp only [Option.some.injEq] at h; subst h; exact ⟨Try.f83, Try.func83, ok83⟩
  · simp only [Option.some.injEq] at h; subst h; exact ⟨Try.f41, Try.func41, ok41⟩
  · simp only [Option.some.injEq] at h; subst h; exact ⟨Try.f111, Try.func111, ok111⟩
  · simp only [Option.some.injEq] at h; subst h; exact ⟨Try.f80, Try.func80, ok80⟩
  · simp only [Option.some.injEq] at h; subst h; exact ⟨Try.f81, Try.func81, ok81⟩
  · simp only [Option.some.injEq] at h; subst h; exact ⟨Try.f39, Try.func39, ok39⟩
  · simp only [Option.some.injEq] at h; subst h; exact ⟨Try.f43, Try.func43, ok43⟩
  · simp only [Option.some.injEq] at h; subst h; exact ⟨Try.f44, Try.func44, ok44⟩
  · simp only [Option.some.injEq] at h; subst h; exact ⟨Try.f86, Try.func86, ok86⟩
  · simp only [Option.some.injEq] at h; subst h; exact ⟨Try.f45, Try.func45, ok45⟩
  · simp only [Option.some.injEq] at h; subst h; exact ⟨Try.f11, Try.func11, ok11⟩
  · cases h
end Go.Proofs.Ytaekgifbehoipaa.CodeAll
