/- The functions that the laws reach, with their code. No condition. -/
import Derived.Test.YtaekgifbehoipaaCodeAllx0
namespace Go.Proofs.Ytaekgifbehoipaa.CodeAll
open Go Go.Proofs.Ytaekgifbehoipaa.Eva
set_option maxRecDepth 100000
def E : Nat → Option CF
  | 50 => some c50
  | 17 => some c17
  | 53 => some c53
  | 18 => some c18
  | 51 => some c51
  | 90 => some c90
  | 121 => some c121
  | 101 => some c101
  | 102 => some c102
  | 122 => some c122
  | 103 => some c103
  | 66 => some c66
  | 91 => some c91
  | 172 => some c172
  | 173 => some c173
  | 164 => some c164
  | 174 => some c174
  | 165 => some c165
  | 141 => some c141
  | 113 => some c113
  | 92 => some c92
  | 52 => some c52
  | 16 => some c16
  | 15 => some c15
  | 114 => some c114
  | 95 => some c95
  | 115 => some c115
  | 96 => some c96
  | 55 => some c55
  | 93 => some c93
  | 94 => some c94
  | 54 => some c54
  | 19 => some c19
  | 4 => some c4
  | _ => none
theorem e50 : E 50 = some c50 := rfl
theorem e17 : E 17 = some c17 := rfl
theorem e53 : E 53 = some c53 := rfl
theorem e18 : E 18 = some c18 := rfl
theorem e51 : E 51 = some c51 := rfl
theorem e90 : E 90 = some c90 := rfl
theorem e121 : E 121 = some c121 := rfl
theorem e101 : E 101 = some c101 := rfl
theorem e102 : E 102 = some c102 := rfl
theorem e122 : E 122 = some c122 := rfl
theorem e103 : E 103 = some c103 := rfl
theorem e66 : E 66 = some c66 := rfl
theorem e91 : E 91 = some c91 := rfl
theorem e172 : E 172 = some c172 := rfl
theorem e173 : E 173 = some c173 := rfl
theorem e164 : E 164 = some c164 := rfl
theorem e174 : E 174 = some c174 := rfl
theorem e165 : E 165 = some c165 := rfl
theorem e141 : E 141 = some c141 := rfl
theorem e113 : E 113 = some c113 := rfl
theorem e92 : E 92 = some c92 := rfl
theorem e52 : E 52 = some c52 := rfl
theorem e16 : E 16 = some c16 := rfl
theorem e15 : E 15 = some c15 := rfl
theorem e114 : E 114 = some c114 := rfl
theorem e95 : E 95 = some c95 := rfl
theorem e115 : E 115 = some c115 := rfl
theorem e96 : E 96 = some c96 := rfl
theorem e55 : E 55 = some c55 := rfl
theorem e93 : E 93 = some c93 := rfl
theorem e94 : E 94 = some c94 := rfl
theorem e54 : E 54 = some c54 := rfl
theorem e19 : E 19 = some c19 := rfl
theorem e4 : E 4 = some c4 := rfl
theorem env : EnvOK Try.prog E := by
  intro f cf h
  unfold E at h
  split at h
  · simp only [Option.some.injEq] at h; subst h; exact ⟨Try.f50, Try.func50, ok50⟩
  · simp only [Option.some.injEq] at h; subst h; exact ⟨Try.f17, Try.func17, ok17⟩
  · simp only [Option.some.injEq] at h; subst h; exact ⟨Try.f53, Try.func53, ok53⟩
  · simp only [Option.some.injEq] at h; subst h; exact ⟨Try.f18, Try.func18, ok18⟩
  · simp only [Option.some.injEq] at h; subst h; exact ⟨Try.f51, Try.func51, ok51⟩
  · simp only [Option.some.injEq] at h; subst h; exact ⟨Try.f90, Try.func90, ok90⟩
  · simp only [Option.some.injEq] at h; subst h; exact ⟨Try.f121, Try.func121, ok121⟩
  · simp only [Option.some.injEq] at h; subst h; exact ⟨Try.f101, Try.func101, ok101⟩
  · simp only [Option.some.injEq] at h; subst h; exact ⟨Try.f102, Try.func102, ok102⟩
  · simp only [Option.some.injEq] at h; subst h; exact ⟨Try.f122, Try.func122, ok122⟩
  · simp only [Option.some.injEq] at h; subst h; exact ⟨Try.f103, Try.func103, ok103⟩
  · simp only [Option.some.injEq] at h; subst h; exact ⟨Try.f66, Try.func66, ok66⟩
  · simp only [Option.some.injEq] at h; subst h; exact ⟨Try.f91, Try.func91, ok91⟩
  · simp only [Option.some.injEq] at h; subst h; exact ⟨Try.f172, Try.func172, ok172⟩
  · simp only [Option.some.injEq] at h; subst h; exact ⟨Try.f173, Try.func173, ok173⟩
  · simp only [Option.some.injEq] at h; subst h; exact ⟨Try.f164, Try.func164, ok164⟩
  · simp only [Option.some.injEq] at h; subst h; exact ⟨Try.f174, Try.func174, ok174⟩
  · simp only [Option.some.injEq] at h; subst h; exact ⟨Try.f165, Try.func165, ok165⟩
  · simp only [Option.some.injEq] at h; subst h; exact ⟨Try.f141, Try.func141, ok141⟩
  · simp only [Option.some.injEq] at h; subst h; exact ⟨Try.f113, Try.func113, ok113⟩
  · simp only [Option.some.injEq] at h; subst h; exact ⟨Try.f92, Try.func92, ok92⟩
  · simp only [Option.some.injEq] at h; subst h; exact ⟨Try.f52, Try.func52, ok52⟩
  · simp only [Option.some.injEq] at h; subst h; exact ⟨Try.f16, Try.func16, ok16⟩
  · simp only [Option.some.injEq] at h; subst h; exact ⟨Try.f15, Try.func15, ok15⟩
  · simp only [Option.some.injEq] at h; subst h; exact ⟨Try.f114, Try.func114, ok114⟩
  · simp only [Option.some.injEq] at h; subst h; exact ⟨Try.f95, Try.func95, ok95⟩
  · simp only [Option.some.injEq] at h; subst h; exact ⟨Try.f115, Try.func115, ok115⟩
  · simp only [Option.some.injEq] at h; subst h; exact ⟨Try.f96, Try.func96, ok96⟩
  · simp only [Option.some.injEq] at h; subst h; exact ⟨Try.f55, Try.func55, ok55⟩
  · simp only [Option.some.injEq] at h; subst h; exact ⟨Try.f93, Try.func93, ok93⟩
  · simp only [Option.some.injEq] at h; subst h; exact ⟨Try.f94, Try.func94, ok94⟩
  · simp only [Option.some.injEq] at h; subst h; exact ⟨Try.f54, Try.func54, ok54⟩
  · simp only [Option.some.injEq] at h; subst h; exact ⟨Try.f19, Try.func19, ok19⟩
  · simp only [Option.some.injEq] at h; subst h; exact ⟨Try.f4, Try.func4, ok4⟩
  · cases h
end Go.Proofs.Ytaekgifbehoipaa.CodeAll
