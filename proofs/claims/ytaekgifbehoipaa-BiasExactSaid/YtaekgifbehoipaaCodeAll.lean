/- The functions that the laws reach, with their code. No condition. -/
import Derived.Test.YtaekgifbehoipaaCodeAllx0
namespace Go.Proofs.Ytaekgifbehoipaa.CodeAll
open Go Go.Proofs.Ytaekgifbehoipaa.Eva
set_option maxRecDepth 100000
def E : Nat → Option CF
  | 35 => some c35
  | 105 => some c105
  | 69 => some c69
  | 132 => some c132
  | 118 => some c118
  | 109 => some c109
  | 104 => some c104
  | 68 => some c68
  | 148 => some c148
  | 167 => some c167
  | 149 => some c149
  | 157 => some c157
  | 158 => some c158
  | 150 => some c150
  | 175 => some c175
  | 169 => some c169
  | 168 => some c168
  | 151 => some c151
  | 152 => some c152
  | 153 => some c153
  | 154 => some c154
  | 155 => some c155
  | 123 => some c123
  | 106 => some c106
  | 70 => some c70
  | 71 => some c71
  | 33 => some c33
  | 72 => some c72
  | 34 => some c34
  | 9 => some c9
  | _ => none
theorem e35 : E 35 = some c35 := rfl
theorem e105 : E 105 = some c105 := rfl
theorem e69 : E 69 = some c69 := rfl
theorem e132 : E 132 = some c132 := rfl
theorem e118 : E 118 = some c118 := rfl
theorem e109 : E 109 = some c109 := rfl
theorem e104 : E 104 = some c104 := rfl
theorem e68 : E 68 = some c68 := rfl
theorem e148 : E 148 = some c148 := rfl
theorem e167 : E 167 = some c167 := rfl
theorem e149 : E 149 = some c149 := rfl
theorem e157 : E 157 = some c157 := rfl
theorem e158 : E 158 = some c158 := rfl
theorem e150 : E 150 = some c150 := rfl
theorem e175 : E 175 = some c175 := rfl
theorem e169 : E 169 = some c169 := rfl
theorem e168 : E 168 = some c168 := rfl
theorem e151 : E 151 = some c151 := rfl
theorem e152 : E 152 = some c152 := rfl
theorem e153 : E 153 = some c153 := rfl
theorem e154 : E 154 = some c154 := rfl
theorem e155 : E 155 = some c155 := rfl
theorem e123 : E 123 = some c123 := rfl
theorem e106 : E 106 = some c106 := rfl
theorem e70 : E 70 = some c70 := rfl
theorem e71 : E 71 = some c71 := rfl
theorem e33 : E 33 = some c33 := rfl
theorem e72 : E 72 = some c72 := rfl
theorem e34 : E 34 = some c34 := rfl
theorem e9 : E 9 = some c9 := rfl
theorem env : EnvOK Try.prog E := by
  intro f cf h
  unfold E at h
  split at h
  · simp only [Option.some.injEq] at h; subst h; exact ⟨Try.f35, Try.func35, ok35⟩
  · simp only [Option.some.injEq] at h; subst h; exact ⟨Try.f105, Try.func105, ok105⟩
  · simp only [Option.some.injEq] at h; subst h; exact ⟨Try.f69, Try.func69, ok69⟩
  · simp only [Option.some.injEq] at h; subst h; exact ⟨Try.f132, Try.func132, ok132⟩
  · simp only [Option.some.injEq] at h; subst h; exact ⟨Try.f118, Try.func118, ok118⟩
  · simp only [Option.some.injEq] at h; subst h; exact ⟨Try.f109, Try.func109, ok109⟩
  · simp only [Option.some.injEq] at h; subst h; exact ⟨Try.f104, Try.func104, ok104⟩
  · simp only [Option.some.injEq] at h; subst h; exact ⟨Try.f68, Try.func68, ok68⟩
  · simp only [Option.some.injEq] at h; subst h; exact ⟨Try.f148, Try.func148, ok148⟩
  · simp only [Option.some.injEq] at h; subst h; exact ⟨Try.f167, Try.func167, ok167⟩
  · simp only [Option.some.injEq] at h; subst h; exact ⟨Try.f149, Try.func149, ok149⟩
  · simp only [Option.some.injEq] at h; subst h; exact ⟨Try.f157, Try.func157, ok157⟩
  · simp only [Option.some.injEq] at h; subst h; exact ⟨Try.f158, Try.func158, ok158⟩
  · simp only [Option.some.injEq] at h; subst h; exact ⟨Try.f150, Try.func150, ok150⟩
  · simp only [Option.some.injEq] at h; subst h; exact ⟨Try.f175, Try.func175, ok175⟩
  · simp only [Option.some.injEq] at h; subst h; exact ⟨Try.f169, Try.func169, ok169⟩
  · simp only [Option.some.injEq] at h; subst h; exact ⟨Try.f168, Try.func168, ok168⟩
  · simp only [Option.some.injEq] at h; subst h; exact ⟨Try.f151, Try.func151, ok151⟩
  · simp only [Option.some.injEq] at h; subst h; exact ⟨Try.f152, Try.func152, ok152⟩
  · simp only [Option.some.injEq] at h; subst h; exact ⟨Try.f153, Try.func153, ok153⟩
  · simp only [Option.some.injEq] at h; subst h; exact ⟨Try.f154, Try.func154, ok154⟩
  · simp only [Option.some.injEq] at h; subst h; exact ⟨Try.f155, Try.func155, ok155⟩
  · simp only [Option.some.injEq] at h; subst h; exact ⟨Try.f123, Try.func123, ok123⟩
  · simp only [Option.some.injEq] at h; subst h; exact ⟨Try.f106, Try.func106, ok106⟩
  · simp only [Option.some.injEq] at h; subst h; exact ⟨Try.f70, Try.func70, ok70⟩
  · simp only [Option.some.injEq] at h; subst h; exact ⟨Try.f71, Try.func71, ok71⟩
  · simp only [Option.some.injEq] at h; subst h; exact ⟨Try.f33, Try.func33, ok33⟩
  · simp only [Option.some.injEq] at h; subst h; exact ⟨Try.f72, Try.func72, ok72⟩
  · simp only [Option.some.injEq] at h; subst h; exact ⟨Try.f34, Try.func34, ok34⟩
  · simp only [Option.some.injEq] at h; subst h; exact ⟨Try.f9, Try.func9, ok9⟩
  · cases h
end Go.Proofs.Ytaekgifbehoipaa.CodeAll
