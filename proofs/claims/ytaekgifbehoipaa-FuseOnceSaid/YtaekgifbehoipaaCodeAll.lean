/- The functions that the laws reach, with their code. No condition. -/
import Derived.Test.YtaekgifbehoipaaCodeAllx0
namespace Go.Proofs.Ytaekgifbehoipaa.CodeAll
open Go Go.Proofs.Ytaekgifbehoipaa.Eva
set_option maxRecDepth 100000
def E : Nat → Option CF
  | 107 => some c107
  | 73 => some c73
  | 37 => some c37
  | 132 => some c132
  | 118 => some c118
  | 109 => some c109
  | 124 => some c124
  | 156 => some c156
  | 125 => some c125
  | 157 => some c157
  | 158 => some c158
  | 126 => some c126
  | 170 => some c170
  | 160 => some c160
  | 159 => some c159
  | 127 => some c127
  | 128 => some c128
  | 129 => some c129
  | 130 => some c130
  | 131 => some c131
  | 108 => some c108
  | 74 => some c74
  | 104 => some c104
  | 85 => some c85
  | 84 => some c84
  | 75 => some c75
  | 78 => some c78
  | 79 => some c79
  | 38 => some c38
  | 77 => some c77
  | 110 => some c110
  | 76 => some c76
  | 36 => some c36
  | 23 => some c23
  | 111 => some c111
  | 80 => some c80
  | 81 => some c81
  | 39 => some c39
  | 40 => some c40
  | 10 => some c10
  | _ => none
theorem e107 : E 107 = some c107 := rfl
theorem e73 : E 73 = some c73 := rfl
theorem e37 : E 37 = some c37 := rfl
theorem e132 : E 132 = some c132 := rfl
theorem e118 : E 118 = some c118 := rfl
theorem e109 : E 109 = some c109 := rfl
theorem e124 : E 124 = some c124 := rfl
theorem e156 : E 156 = some c156 := rfl
theorem e125 : E 125 = some c125 := rfl
theorem e157 : E 157 = some c157 := rfl
theorem e158 : E 158 = some c158 := rfl
theorem e126 : E 126 = some c126 := rfl
theorem e170 : E 170 = some c170 := rfl
theorem e160 : E 160 = some c160 := rfl
theorem e159 : E 159 = some c159 := rfl
theorem e127 : E 127 = some c127 := rfl
theorem e128 : E 128 = some c128 := rfl
theorem e129 : E 129 = some c129 := rfl
theorem e130 : E 130 = some c130 := rfl
theorem e131 : E 131 = some c131 := rfl
theorem e108 : E 108 = some c108 := rfl
theorem e74 : E 74 = some c74 := rfl
theorem e104 : E 104 = some c104 := rfl
theorem e85 : E 85 = some c85 := rfl
theorem e84 : E 84 = some c84 := rfl
theorem e75 : E 75 = some c75 := rfl
theorem e78 : E 78 = some c78 := rfl
theorem e79 : E 79 = some c79 := rfl
theorem e38 : E 38 = some c38 := rfl
theorem e77 : E 77 = some c77 := rfl
theorem e110 : E 110 = some c110 := rfl
theorem e76 : E 76 = some c76 := rfl
theorem e36 : E 36 = some c36 := rfl
theorem e23 : E 23 = some c23 := rfl
theorem e111 : E 111 = some c111 := rfl
theorem e80 : E 80 = some c80 := rfl
theorem e81 : E 81 = some c81 := rfl
theorem e39 : E 39 = some c39 := rfl
theorem e40 : E 40 = some c40 := rfl
theorem e10 : E 10 = some c10 := rfl
theorem env : EnvOK Try.prog E := by
  intro f cf h
  unfold E at h
  split at h
  · simp only [Option.some.injEq] at h; subst h; exact ⟨Try.f107, Try.func107, ok107⟩
  · simp only [Option.some.injEq] at h; subst h; exact ⟨Try.f73, Try.func73, ok73⟩
  · simp only [Option.some.injEq] at h; subst h; exact ⟨Try.f37, Try.func37, ok37⟩
  · simp only [Option.some.injEq] at h; subst h; exact ⟨Try.f132, Try.func132, ok132⟩
  · simp only [Option.some.injEq] at h; subst h; exact ⟨Try.f118, Try.func118, ok118⟩
  · simp only [Option.some.injEq] at h; subst h; exact ⟨Try.f109, Try.func109, ok109⟩
  · simp only [Option.some.injEq] at h; subst h; exact ⟨Try.f124, Try.func124, ok124⟩
  · simp only [Option.some.injEq] at h; subst h; exact ⟨Try.f156, Try.func156, ok156⟩
  · simp only [Option.some.injEq] at h; subst h; exact ⟨Try.f125, Try.func125, ok125⟩
  · simp only [Option.some.injEq] at h; subst h; exact ⟨Try.f157, Try.func157, ok157⟩
  · simp only [Option.some.injEq] at h; subst h; exact ⟨Try.f158, Try.func158, ok158⟩
  · simp only [Option.some.injEq] at h; subst h; exact ⟨Try.f126, Try.func126, ok126⟩
  · simp only [Option.some.injEq] at h; subst h; exact ⟨Try.f170, Try.func170, ok170⟩
  · simp only [Option.some.injEq] at h; subst h; exact ⟨Try.f160, Try.func160, ok160⟩
  · simp only [Option.some.injEq] at h; subst h; exact ⟨Try.f159, Try.func159, ok159⟩
  · simp only [Option.some.injEq] at h; subst h; exact ⟨Try.f127, Try.func127, ok127⟩
  · simp only [Option.some.injEq] at h; subst h; exact ⟨Try.f128, Try.func128, ok128⟩
  · simp only [Option.some.injEq] at h; subst h; exact ⟨Try.f129, Try.func129, ok129⟩
  · simp only [Option.some.injEq] at h; subst h; exact ⟨Try.f130, Try.func130, ok130⟩
  · simp only [Option.some.injEq] at h; subst h; exact ⟨Try.f131, Try.func131, ok131⟩
  · simp only [Option.some.injEq] at h; subst h; exact ⟨Try.f108, Try.func108, ok108⟩
  · simp only [Option.some.injEq] at h; subst h; exact ⟨Try.f74, Try.func74, ok74⟩
  · simp only [Option.some.injEq] at h; subst h; exact ⟨Try.f104, Try.func104, ok104⟩
  · simp only [Option.some.injEq] at h; subst h; exact ⟨Try.f85, Try.func85, ok85⟩
  · simp only [Option.some.injEq] at h; subst h; exact ⟨Try.f84, Try.func84, ok84⟩
  · simp only [Option.some.injEq] at h; subst h; exact ⟨Try.f75, Try.func75, ok75⟩
  · simp only [Option.some.injEq] at h; subst h; exact ⟨Try.f78, Try.func78, ok78⟩
  · simp only [Option.some.injEq] at h; subst h; exact ⟨Try.f79, Try.func79, ok79⟩
  · simp only [Option.some.injEq] at h; subst h; exact ⟨Try.f38, Try.func38, ok38⟩
  · simp only [Option.some.injEq] at h; subst h; exact ⟨Try.f77, Try.func77, ok77⟩
  · simp only [Option.some.injEq] at h; subst h; exact ⟨Try.f110, Try.func110, ok110⟩
  · simp only [Option.some.injEq] at h; subst h; exact ⟨Try.f76, Try.func76, ok76⟩
  · simp only [Option.some.injEq] at h; subst h; exact ⟨Try.f36, Try.func36, ok36⟩
  · simp only [Option.some.injEq] at h; subst h; exact ⟨Try.f23, Try.func23, ok23⟩
  · simp only [Option.some.injEq] at h; subst h; exact ⟨Try.f111, Try.func111, ok111⟩
  · simp only [Option.some.injEq] at h; subst h; exact ⟨Try.f80, Try.func80, ok80⟩
  · simp only [Option.some.injEq] at h; subst h; exact ⟨Try.f81, Try.func81, ok81⟩
  · simp only [Option.some.injEq] at h; subst h; exact ⟨Try.f39, Try.func39, ok39⟩
  · simp only [Option.some.injEq] at h; subst h; exact ⟨Try.f40, Try.func40, ok40⟩
  · simp only [Option.some.injEq] at h; subst h; exact ⟨Try.f10, Try.func10, ok10⟩
  · cases h
end Go.Proofs.Ytaekgifbehoipaa.CodeAll
