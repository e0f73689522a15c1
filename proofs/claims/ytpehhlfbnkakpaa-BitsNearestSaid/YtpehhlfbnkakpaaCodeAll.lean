/- The functions that the laws reach, with their code. No condition. -/
import Derived.Test.YtpehhlfbnkakpaaCodeAllx0
import Derived.Test.YtpehhlfbnkakpaaCodeAllx1
import Derived.Test.YtpehhlfbnkakpaaCodeAllx2
namespace Go.Proofs.Ytpehhlfbnkakpaa.CodeAll
open Go Go.Proofs.Ytpehhlfbnkakpaa.Eva
def E : Nat → Option CF
  | 57 => some c57
  | 58 => some c58
  | 16 => some c16
  | 95 => some c95
  | 118 => some c118
  | 93 => some c93
  | 80 => some c80
  | 42 => some c42
  | 55 => some c55
  | 94 => some c94
  | 56 => some c56
  | 15 => some c15
  | 17 => some c17
  | 59 => some c59
  | 18 => some c18
  | 3 => some c3
  | 98 => some c98
  | 119 => some c119
  | 99 => some c99
  | 64 => some c64
  | 60 => some c60
  | 100 => some c100
  | 101 => some c101
  | 120 => some c120
  | 102 => some c102
  | 65 => some c65
  | 61 => some c61
  | 96 => some c96
  | 97 => some c97
  | 62 => some c62
  | 19 => some c19
  | 20 => some c20
  | 63 => some c63
  | 21 => some c21
  | 4 => some c4
  | 23 => some c23
  | 39 => some c39
  | 129 => some c129
  | 121 => some c121
  | 103 => some c103
  | 66 => some c66
  | 22 => some c22
  | 5 => some c5
  | 107 => some c107
  | 130 => some c130
  | 122 => some c122
  | 123 => some c123
  | 124 => some c124
  | 125 => some c125
  | 126 => some c126
  | 108 => some c108
  | 69 => some c69
  | 25 => some c25
  | 104 => some c104
  | 105 => some c105
  | 106 => some c106
  | 67 => some c67
  | 24 => some c24
  | 26 => some c26
  | 6 => some c6
  | 27 => some c27
  | 7 => some c7
  | 71 => some c71
  | 72 => some c72
  | 30 => some c30
  | 128 => some c128
  | 110 => some c110
  | 109 => some c109
  | 70 => some c70
  | 28 => some c28
  | 29 => some c29
  | 32 => some c32
  | 73 => some c73
  | 31 => some c31
  | 74 => some c74
  | 33 => some c33
  | 35 => some c35
  | 75 => some c75
  | 34 => some c34
  | 8 => some c8
  | 36 => some c36
  | 77 => some c77
  | 76 => some c76
  | 111 => some c111
  | 112 => some c112
  | 78 => some c78
  | 37 => some c37
  | 38 => some c38
  | 9 => some c9
  | 79 => some c79
  | 40 => some c40
  | 10 => some c10
  | 82 => some c82
  | 81 => some c81
  | 114 => some c114
  | 83 => some c83
  | 44 => some c44
  | 41 => some c41
  | 43 => some c43
  | 11 => some c11
  | 84 => some c84
  | 115 => some c115
  | 85 => some c85
  | 45 => some c45
  | 12 => some c12
  | 87 => some c87
  | 49 => some c49
  | 89 => some c89
  | 116 => some c116
  | 88 => some c88
  | 117 => some c117
  | 90 => some c90
  | 50 => some c50
  | 86 => some c86
  | 46 => some c46
  | 47 => some c47
  | 48 => some c48
  | 13 => some c13
  | 91 => some c91
  | 51 => some c51
  | 52 => some c52
  | 53 => some c53
  | 92 => some c92
  | 54 => some c54
  | 14 => some c14
  | _ => none
theorem e57 : E 57 = some c57 := rfl
theorem e58 : E 58 = some c58 := rfl
theorem e16 : E 16 = some c16 := rfl
theorem e95 : E 95 = some c95 := rfl
theorem e118 : E 118 = some c118 := rfl
theorem e93 : E 93 = some c93 := rfl
theorem e80 : E 80 = some c80 := rfl
theorem e42 : E 42 = some c42 := rfl
theorem e55 : E 55 = some c55 := rfl
theorem e94 : E 94 = some c94 := rfl
theorem e56 : E 56 = some c56 := rfl
theorem e15 : E 15 = some c15 := rfl
theorem e17 : E 17 = some c17 := rfl
theorem e59 : E 59 = some c59 := rfl
theorem e18 : E 18 = some c18 := rfl
theorem e3 : E 3 = some c3 := rfl
theorem e98 : E 98 = some c98 := rfl
theorem e119 : E 119 = some c119 := rfl
theorem e99 : E 99 = some c99 := rfl
theorem e64 : E 64 = some c64 := rfl
theorem e60 : E 60 = some c60 := rfl
theorem e100 : E 100 = some c100 := rfl
theorem e101 : E 101 = some c101 := rfl
theorem e120 : E 120 = some c120 := rfl
theorem e102 : E 102 = some c102 := rfl
theorem e65 : E 65 = some c65 := rfl
theorem e61 : E 61 = some c61 := rfl
theorem e96 : E 96 = some c96 := rfl
theorem e97 : E 97 = some c97 := rfl
theorem e62 : E 62 = some c62 := rfl
theorem e19 : E 19 = some c19 := rfl
theorem e20 : E 20 = some c20 := rfl
theorem e63 : E 63 = some c63 := rfl
theorem e21 : E 21 = some c21 := rfl
theorem e4 : E 4 = some c4 := rfl
theorem e23 : E 23 = some c23 := rfl
theorem e39 : E 39 = some c39 := rfl
theorem e129 : E 129 = some c129 := rfl
theorem e121 : E 121 = some c121 := rfl
theorem e103 : E 103 = some c103 := rfl
theorem e66 : E 66 = some c66 := rfl
theorem e22 : E 22 = some c22 := rfl
theorem e5 : E 5 = some c5 := rfl
theorem e107 : E 107 = some c107 := rfl
theorem e130 : E 130 = some c130 := rfl
theorem e122 : E 122 = some c122 := rfl
theorem e123 : E 123 = some c123 := rfl
theorem e124 : E 124 = some c124 := rfl
theorem e125 : E 125 = some c125 := rfl
theorem e126 : E 126 = some c126 := rfl
theorem e108 : E 108 = some c108 := rfl
theorem e69 : E 69 = some c69 := rfl
theorem e25 : E 25 = some c25 := rfl
theorem e104 : E 104 = some c104 := rfl
theorem e105 : E 105 = some c105 := rfl
theorem e106 : E 106 = some c106 := rfl
theorem e67 : E 67 = some c67 := rfl
theorem e24 : E 24 = some c24 := rfl
theorem e26 : E 26 = some c26 := rfl
theorem e6 : E 6 = some c6 := rfl
theorem e27 : E 27 = some c27 := rfl
theorem e7 : E 7 = some c7 := rfl
theorem e71 : E 71 = some c71 := rfl
theorem e72 : E 72 = some c72 := rfl
theorem e30 : E 30 = some c30 := rfl
theorem e128 : E 128 = some c128 := rfl
theorem e110 : E 110 = some c110 := rfl
theorem e109 : E 109 = some c109 := rfl
theorem e70 : E 70 = some c70 := rfl
theorem e28 : E 28 = some c28 := rfl
theorem e29 : E 29 = some c29 := rfl
theorem e32 : E 32 = some c32 := rfl
theorem e73 : E 73 = some c73 := rfl
theorem e31 : E 31 = some c31 := rfl
theorem e74 : E 74 = some c74 := rfl
theorem e33 : E 33 = some c33 := rfl
theorem e35 : E 35 = some c35 := rfl
theorem e75 : E 75 = some c75 := rfl
theorem e34 : E 34 = some c34 := rfl
theorem e8 : E 8 = some c8 := rfl
theorem e36 : E 36 = some c36 := rfl
theorem e77 : E 77 = some c77 := rfl
theorem e76 : E 76 = some c76 := rfl
theorem e111 : E 111 = some c111 := rfl
theorem e112 : E 112 = some c112 := rfl
theorem e78 : E 78 = some c78 := rfl
theorem e37 : E 37 = some c37 := rfl
theorem e38 : E 38 = some c38 := rfl
theorem e9 : E 9 = some c9 := rfl
theorem e79 : E 79 = some c79 := rfl
theorem e40 : E 40 = some c40 := rfl
theorem e10 : E 10 = some c10 := rfl
theorem e82 : E 82 = some c82 := rfl
theorem e81 : E 81 = some c81 := rfl
theorem e114 : E 114 = some c114 := rfl
theorem e83 : E 83 = some c83 := rfl
theorem e44 : E 44 = some c44 := rfl
theorem e41 : E 41 = some c41 := rfl
theorem e43 : E 43 = some c43 := rfl
theorem e11 : E 11 = some c11 := rfl
theorem e84 : E 84 = some c84 := rfl
theorem e115 : E 115 = some c115 := rfl
theorem e85 : E 85 = some c85 := rfl
theorem e45 : E 45 = some c45 := rfl
theorem e12 : E 12 = some c12 := rfl
theorem e87 : E 87 = some c87 := rfl
theorem e49 : E 49 = some c49 := rfl
theorem e89 : E 89 = some c89 := rfl
theorem e116 : E 116 = some c116 := rfl
theorem e88 : E 88 = some c88 := rfl
theorem e117 : E 117 = some c117 := rfl
theorem e90 : E 90 = some c90 := rfl
theorem e50 : E 50 = some c50 := rfl
theorem e86 : E 86 = some c86 := rfl
theorem e46 : E 46 = some c46 := rfl
theorem e47 : E 47 = some c47 := rfl
theorem e48 : E 48 = some c48 := rfl
theorem e13 : E 13 = some c13 := rfl
theorem e91 : E 91 = some c91 := rfl
theorem e51 : E 51 = some c51 := rfl
theorem e52 : E 52 = some c52 := rfl
theorem e53 : E 53 = some c53 := rfl
theorem e92 : E 92 = some c92 := rfl
theorem e54 : E 54 = some c54 := rfl
theorem e14 : E 14 = some c14 := rfl
theorem env : EnvOK Try.prog E := by
  intro f cf h
  unfold E at h
  split at h
  · simp only [Option.some.injEq] at h; subst h; exact ⟨Try.f57, Try.func57, ok57⟩
  · simp only [Option.some.injEq] at h; subst h; exact ⟨Try.f58, Try.func58, ok58⟩
  · simp only [Option.some.injEq] at h; subst h; exact ⟨Try.f16, Try.func16, ok16⟩
  · simp only [Option.some.injEq] at h; subst h; exact ⟨Try.f95, Try.func95, ok95⟩
  · simp only [Option.some.injEq] at h; subst h; exact ⟨Try.f118, Try.func118, ok118⟩
  · simp only [Option.some.injEq] at h; subst h; exact ⟨Try.f93, Try.func93, ok93⟩
  · simp only [Option.some.injEq] at h; subst h; exact ⟨Try.f80, Try.func80, ok80⟩
  · simp only [Option.some.injEq] at h; subst h; exact ⟨Try.f42, Try.func42, ok42⟩
  · simp only [Option.some.injEq] at h; subst h; exact ⟨Try.f55, Try.func55, ok55⟩
  · simp only [Option.some.injEq] at h; subst h; exact ⟨Try.f94, Try.func94, ok94⟩
  · simp only [Option.some.injEq] at h; subst h; exact ⟨Try.f56, Try.func56, ok56⟩
  · simp only [Option.some.injEq] at h; subst h; exact ⟨Try.f15, Try.func15, ok15⟩
  · simp only [Option.some.injEq] at h; subst h; exact ⟨Try.f17, Try.func17, ok17⟩
  · simp only [Option.some.injEq] at h; subst h; exact ⟨Try.f59, Try.func59, ok59⟩
  · simp only [Option.some.injEq] at h; subst h; exact ⟨Try.f18, Try.func18, ok18⟩
  · simp only [Option.some.injEq] at h; subst h; exact ⟨Try.f3, Try.func3, ok3⟩
  · simp only [Option.some.injEq] at h; subst h; exact ⟨Try.f98, Try.func98, ok98⟩
  · simp only [Option.some.injEq] at h; subst h; exact ⟨Try.f119, Try.func119, ok119⟩
  · simp only [Option.some.injEq] at h; subst h; exact ⟨Try.f99, Try.func99, ok99⟩
  · simp only [Option.some.injEq] at h; subst h; exact ⟨Try.f64, Try.func64, ok64⟩
  · simp only [Option.some.injEq] at h; subst h; exact ⟨Try.f60, Try.func60, ok60⟩
  · simp only [Option.some.injEq] at h; subst h; exact ⟨Try.f100, Try.func100, ok100⟩
  · simp only [Option.some.injEq] at h; subst h; exact ⟨Try.f101, Try.func101, ok101⟩
  · simp only [Option.some.injEq] at h; subst h; exact ⟨Try.f120, Try.func120, ok120⟩
  · simp only [Option.some.injEq] at h; subst h; exact ⟨Try.f102, Try.func102, ok102⟩
  · simp only [Option.some.injEq] at h; subst h; exact ⟨Try.f65, Try.func65, ok65⟩
  · simp only [Option.some.injEq] at h; subst h; exact ⟨Try.f61, Try.func61, ok61⟩
  · simp only [Option.some.injEq] at h; subst h; exact ⟨Try.f96, Try.func96, ok96⟩
  · simp only [Option.some.injEq] at h; subst h; exact ⟨Try.f97, Try.func97, ok97⟩
  · simp only [Option.some.injEq] at h; subst h; exact ⟨Try.f62, Try.func62, ok62⟩
  · simp only [Option.some.injEq] at h; subst h; exact ⟨Try.f19, Try.func19, ok19⟩
  · simp only [Option.some.injEq] at h; subst h; exact ⟨Try.f20, Try.func20, ok20⟩
  · simp only [Option.some.injEq] at h; subst h; exact ⟨Try.f63, Try.func63, ok63⟩
  · simp only [Option.some.injEq] at h; subst h; exact ⟨Try.f21, Try.func21, ok21⟩
  · simp only [Option.some.injEq] at h; subst h; exact ⟨Try.f4, Try.func4, ok4⟩
  · simp only [Option.some.injEq] at h; subst h; exact ⟨Try.f23, Try.func23, ok23⟩
  · simp only [Option.some.injEq] at h; subst h; exact ⟨Try.f39, Try.func39, ok39⟩
  · simp only [Option.some.injEq] at h; subst h; exact ⟨Try.f129, Try.func129, ok129⟩
  · simp only [Option.some.injEq] at h; subst h; exact ⟨Try.f121, Try.func121, ok121⟩
  · simp only [Option.some.injEq] at h; subst h; exact ⟨Try.f103, Try.func103, ok103⟩
  · simp only [Option.some.injEq] at h; subst h; exact ⟨Try.f66, Try.func66, ok66⟩
  · simp only [Option.some.injEq] at h; subst h; exact ⟨Try.f22, Try.func22, ok22⟩
  · simp only [Option.some.injEq] at h; subst h; exact ⟨Try.f5, Try.func5, ok5⟩
  · simp only [Option.some.injEq] at h; subst h; exact ⟨Try.f107, Try.func107, ok107⟩
  · simp only [Option.some.injEq] at h; subst h; exact ⟨Try.f130, Try.func130, ok130⟩
  · simp only [Option.some.injEq] at h; subst h; exact ⟨Try.f122, Try.func122, ok122⟩
  · simp only [Option.some.injEq] at h; subst h; exact ⟨Try.f123, Try.func123, ok123⟩
  · simp only [Option.some.injEq] at h; subst h; exact ⟨Try.f124, Try.func124, ok124⟩
  · simp only [Option.some.injEq] at h; subst h; exact ⟨Try.f125, Try.func125, ok125⟩
  · simp only [Option.some.injEq] at h; subst h; exact ⟨Try.f126, Try.func126, ok126⟩
  · simp only [Option.some.injEq] at h; subst h; exact ⟨Try.f108, Try.func108, ok108⟩
  · simp only [Option.some.injEq] at h; subst h; exact ⟨Try.f69, Try.func69, ok69⟩
  · simp only [Option.some.injEq] at h; subst h; exact ⟨Try.f25, Try.func25, ok25⟩
  · simp only [Option.some.injEq] at h; subst h; exact ⟨Try.f104, Try.func104, ok104⟩
  · simp only [Option.some.injEq] at h; subst h; exact ⟨Try.f105, Try.func105, ok105⟩
  · simp only [Option.some.injEq] at h; subst h; exact ⟨Try.f106, Try.func106, ok106⟩
  · simp only [Option.some.injEq] at h; subst h; exact ⟨Try.f67, Try.func67, ok67⟩
  · simp only [Option.some.injEq] at h; subst h; exact ⟨Try.f24, Try.func24, ok24⟩
  · simp only [Option.some.injEq] at h; subst h; exact ⟨Try.f26, Try.func26, ok26⟩
  · simp only [Option.some.injEq] at h; subst h; exact ⟨Try.f6, Try.func6, ok6⟩
  · simp only [Option.some.injEq] at h; subst h; exact ⟨Try.f27, Try.func27, ok27⟩
  · simp only [Option.some.injEq] at h; subst h; exact ⟨Try.f7, Try.func7, ok7⟩
  · simp only [Option.some.injEq] at h; subst h; exact ⟨Try.f71, Try.func71, ok71⟩
  · simp only [Option.some.injEq] at h; subst h; exact ⟨Try.f72, Try.func72, ok72⟩
  · simp only [Option.some.injEq] at h; subst h; exact ⟨Try.f30, Try.func30, ok30⟩
  · simp only [Option.some.injEq] at h; subst h; exact ⟨Try.f128, Try.func128, ok128⟩
  · simp only [Option.some.injEq] at h; subst h; exact ⟨Try.f110, Try.func110, ok110⟩
  · simp only [Option.some.injEq] at h; subst h; exact ⟨Try.f109, Try.func109, ok109⟩
  · simp only [Option.some.injEq] at h; subst h; exact ⟨Try.f70, Try.func70, ok70⟩
  · simp only [Option.some.injEq] at h; subst h; exact ⟨Try.f28, Try.func28, ok28⟩
  · simp only [Option.some.injEq] at h; subst h; exact ⟨Try.f29, Try.func29, ok29⟩
  · simp only [Option.some.injEq] at h; subst h; exact ⟨Try.f32, Try.func32, ok32⟩
  · simp only [Option.some.injEq] at h; subst h; exact ⟨Try.f73, Try.func73, ok73⟩
  · simp only [Option.some.injEq] at h; subst h; exact ⟨Try.f31, Try.func31, ok31⟩
  · simp only [Option.some.injEq] at h; subst h; exact ⟨Try.f74, Try.func74, ok74⟩
  · simp only [Option.some.injEq] at h; subst h; exact ⟨Try.f33, Try.func33, ok33⟩
  · simp only [Option.some.injEq] at h; subst h; exact ⟨Try.f35, Try.func35, ok35⟩
  · simp only [Option.some.injEq] at h; subst h; exact ⟨Try.f75, Try.func75, ok75⟩
  · simp only [Option.some.injEq] at h; subst h; exact ⟨Try.f34, Try.func34, ok34⟩
  · simp only [Option.some.injEq] at h; subst h; exact ⟨Try.f8, Try.func8, ok8⟩
  · simp only [Option.some.injEq] at h; subst h; exact ⟨Try.f36, Try.func36, ok36⟩
  · simp only [Option.some.injEq] at h; subst h; exact ⟨Try.f77, Try.func77, ok77⟩
  · simp only [Option.some.injEq] at h; subst h; exact ⟨Try.f76, Try.func76, ok76⟩
  · simp only [Option.some.injEq] at h; subst h; exact ⟨Try.f111, Try.func111, ok111⟩
  · simp only [Option.some.injEq] at h; subst h; exact ⟨Try.f112, Try.func112, ok112⟩
  · simp only [Option.some.injEq] at h; subst h; exact ⟨Try.f78, Try.func78, ok78⟩
  · simp only [Option.some.injEq] at h; subst h; exact ⟨Try.f37, Try.func37, ok37⟩
  · simp only [Option.some.injEq] at h; subst h; exact ⟨Try.f38, Try.func38, ok38⟩
  · simp only [Option.some.injEq] at h; subst h; exact ⟨Try.f9, Try.func9, ok9⟩
  · simp only [Option.some.injEq] at h; subst h; exact ⟨Try.f79, Try.func79, ok79⟩
  · simp only [Option.some.injEq] at h; subst h; exact ⟨Try.f40, Try.func40, ok40⟩
  · simp only [Option.some.injEq] at h; subst h; exact ⟨Try.f10, Try.func10, ok10⟩
  · simp only [Option.some.injEq] at h; subst h; exact ⟨Try.f82, Try.func82, ok82⟩
  · simp only [Option.some.injEq] at h; subst h; exact ⟨Try.f81, Try.func81, ok81⟩
  · simp only [Option.some.injEq] at h; subst h; exact ⟨Try.f114, Try.func114, ok114⟩
  · simp only [Option.some.injEq] at h; subst h; exact ⟨Try.f83, Try.func83, ok83⟩
  · simp only [Option.some.injEq] at h; subst h; exact ⟨Try.f44, Try.func44, ok44⟩
  · simp only [Option.some.injEq] at h; subst h; exact ⟨Try.f41, Try.func41, ok41⟩
  · simp only [Option.some.injEq] at h; subst h; exact ⟨Try.f43, Try.func43, ok43⟩
  · simp only [Option.some.injEq] at h; subst h; exact ⟨Try.f11, Try.func11, ok11⟩
  · simp only [Option.some.injEq] at h; subst h; exact ⟨Try.f84, Try.func84, ok84⟩
  · simp only [Option.some.injEq] at h; subst h; exact ⟨Try.f115, Try.func115, ok115⟩
  · simp only [Option.some.injEq] at h; subst h; exact ⟨Try.f85, Try.func85, ok85⟩
  · simp only [Option.some.injEq] at h; subst h; exact ⟨Try.f45, Try.func45, ok45⟩
  · simp only [Option.some.injEq] at h; subst h; exact ⟨Try.f12, Try.func12, ok12⟩
  · simp only [Option.some.injEq] at h; subst h; exact ⟨Try.f87, Try.func87, ok87⟩
  · simp only [Option.some.injEq] at h; subst h; exact ⟨Try.f49, Try.func49, ok49⟩
  · simp only [Option.some.injEq] at h; subst h; exact ⟨Try.f89, Try.func89, ok89⟩
  · simp only [Option.some.injEq] at h; subst h; exact ⟨Try.f116, Try.func116, ok116⟩
  · simp only [Option.some.injEq] at h; subst h; exact ⟨Try.f88, Try.func88, ok88⟩
  · simp only [Option.some.injEq] at h; subst h; exact ⟨Try.f117, Try.func117, ok117⟩
  · simp only [Option.some.injEq] at h; subst h; exact ⟨Try.f90, Try.func90, ok90⟩
  · simp only [Option.some.injEq] at h; subst h; exact ⟨Try.f50, Try.func50, ok50⟩
  · simp only [Option.some.injEq] at h; subst h; exact ⟨Try.f86, Try.func86, ok86⟩
  · simp only [Option.some.injEq] at h; subst h; exact ⟨Try.f46, Try.func46, ok46⟩
  · simp only [Option.some.injEq] at h; subst h; exact ⟨Try.f47, Try.func47, ok47⟩
  · simp only [Option.some.injEq] at h; subst h; exact ⟨Try.f48, Try.func48, ok48⟩
  · simp only [Option.some.injEq] at h; subst h; exact ⟨Try.f13, Try.func13, ok13⟩
  · simp only [Option.some.injEq] at h; subst h; exact ⟨Try.f91, Try.func91, ok91⟩
  · simp only [Option.some.injEq] at h; subst h; exact ⟨Try.f51, Try.func51, ok51⟩
  · simp only [Option.some.injEq] at h; subst h; exact ⟨Try.f52, Try.func52, ok52⟩
  · simp only [Option.some.injEq] at h; subst h; exact ⟨Try.f53, Try.func53, ok53⟩
  · simp only [Option.some.injEq] at h; subst h; exact ⟨Try.f92, Try.func92, ok92⟩
  · simp only [Option.some.injEq] at h; subst h; exact ⟨Try.f54, Try.func54, ok54⟩
  · simp only [Option.some.injEq] at h; subst h; exact ⟨Try.f14, Try.func14, ok14⟩
  · cases h
end Go.Proofs.Ytpehhlfbnkakpaa.CodeAll
