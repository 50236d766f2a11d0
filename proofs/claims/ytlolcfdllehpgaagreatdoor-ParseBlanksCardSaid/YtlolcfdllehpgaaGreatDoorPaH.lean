/- PaT KcP0 KcP1 KcP2 KcP3 AncP PaP PaW1 PaW2 PaW3 PaW4 PaW5 PaW6 PaW7 PaW8 PaW9 PaW10 -/
import Derived.Test.YtlolcfdllehpgaaGreatDoorPaG
import Derived.Test.YtlolcfdllehpgaaGreatDoorPaF
import Derived.Test.YtlolcfdllehpgaaGreatDoorProg
import Derived.Test.YtlolcfdllehpgaaGreatDoorPaA
import Derived.KernelRfl
set_option linter.unusedSimpArgs false
set_option linter.unusedVariables false
set_option linter.unusedSectionVars false
set_option linter.defProp false
set_option maxRecDepth 100000
set_option maxHeartbeats 4000000
namespace Go.Ev
open Go
structure PT (tab : Nat → Option AFunc) : Prop where
 t7 : tab 7 = some af7
 t9 : tab 9 = some af9
 t10 : tab 10 = some af10
 t13 : tab 13 = some af13
 t14 : tab 14 = some af14
 t18 : tab 18 = some af18
 t19 : tab 19 = some af19
 t20 : tab 20 = some af20
 t21 : tab 21 = some af21
 t22 : tab 22 = some af22
 t23 : tab 23 = some af23
 t24 : tab 24 = some af24
 t25 : tab 25 = some af25
 t28 : tab 28 = some af28
 t33 : tab 33 = some af33
 t34 : tab 34 = some af34
 t35 : tab 35 = some af35
 t37 : tab 37 = some af37
 t38 : tab 38 = some af38
 t39 : tab 39 = some af39
 t40 : tab 40 = some af40
 t41 : tab 41 = some af41
 t55 : tab 55 = some af55
 t56 : tab 56 = some af56
 t57 : tab 57 = some af57
 t61 : tab 61 = some af61
 t62 : tab 62 = some af62
 t63 : tab 63 = some af63
 t64 : tab 64 = some af64
 t65 : tab 65 = some af65
 t66 : tab 66 = some af66
 t67 : tab 67 = some af67
 t68 : tab 68 = some af68
 t69 : tab 69 = some af69
 t70 : tab 70 = some af70
 t71 : tab 71 = some af71
 t72 : tab 72 = some af72
 t73 : tab 73 = some af73
 t74 : tab 74 = some af74
 t75 : tab 75 = some af75
 t81 : tab 81 = some af81
 t82 : tab 82 = some af82
 t83 : tab 83 = some af83
 t84 : tab 84 = some af84
 t85 : tab 85 = some af85
 t86 : tab 86 = some af86
 t89 : tab 89 = some af89
 t90 : tab 90 = some af90
 t91 : tab 91 = some af91
 t92 : tab 92 = some af92
 t93 : tab 93 = some af93
 t94 : tab 94 = some af94
 t95 : tab 95 = some af95
 t96 : tab 96 = some af96
 t97 : tab 97 = some af97
 t98 : tab 98 = some af98
 t99 : tab 99 = some af99
 t100 : tab 100 = some af100
 t101 : tab 101 = some af101
 t102 : tab 102 = some af102
 t107 : tab 107 = some af107
 t108 : tab 108 = some af108
 t109 : tab 109 = some af109
 t110 : tab 110 = some af110
 t111 : tab 111 = some af111
 t114 : tab 114 = some af114
 t115 : tab 115 = some af115
 t116 : tab 116 = some af116
 t117 : tab 117 = some af117
 t119 : tab 119 = some af119
 t120 : tab 120 = some af120
 t121 : tab 121 = some af121
 t122 : tab 122 = some af122
 t125 : tab 125 = some af125
 t126 : tab 126 = some af126
 t128 : tab 128 = some af128
 t129 : tab 129 = some af129
 t133 : tab 133 = some af133
 t134 : tab 134 = some af134
 t135 : tab 135 = some af135
 t137 : tab 137 = some af137
 t138 : tab 138 = some af138
 t152 : tab 152 = some af152
 t153 : tab 153 = some af153
 t154 : tab 154 = some af154
 t155 : tab 155 = some af155
 t156 : tab 156 = some af156
 t157 : tab 157 = some af157
 t166 : tab 166 = some af166
 t167 : tab 167 = some af167
 t168 : tab 168 = some af168
 t169 : tab 169 = some af169
 t170 : tab 170 = some af170
 t180 : tab 180 = some af180
 t190 : tab 190 = some af190
 t191 : tab 191 = some af191
 t192 : tab 192 = some af192
 t196 : tab 196 = some af196
 t198 : tab 198 = some af198
 t36 : tab 36 = some (natF 2 joinG)
 t118 : tab 118 = some (natF 1 (atoiG 144))
 t127 : tab 127 = some (natF 1 itoaG)
 t130 : tab 130 = some (natF 2 trimG)
 t8 : tab 8 = some yesF
theorem LITS : AV.str 1 32 = sv [32] ∧ AV.str 1 33 = sv [33] ∧ AV.str 1 37 = sv [37] ∧ AV.str 1 38 = sv [38] ∧ AV.str 1 40 = sv [40] ∧ AV.str 1 41 = sv [41] ∧ AV.str 1 42 = sv [42] ∧ AV.str 1 43 = sv [43] ∧ AV.str 1 44 = sv [44] ∧ AV.str 1 45 = sv [45] ∧ AV.str 1 46 = sv [46] ∧ AV.str 1 47 = sv [47] ∧ AV.str 1 48 = sv [48] ∧ AV.str 1 59 = sv [59] ∧ AV.str 1 60 = sv [60] ∧ AV.str 1 61 = sv [61] ∧ AV.str 1 62 = sv [62] ∧ AV.str 1 94 = sv [94] ∧ AV.str 1 123 = sv [123] ∧ AV.str 1 124 = sv [124] ∧ AV.str 1 125 = sv [125] ∧ AV.str 2 9766 = sv [38, 38] ∧ AV.str 2 12079 = sv [47, 47] ∧ AV.str 2 12333 = sv [45, 48] ∧ AV.str 2 15420 = sv [60, 60] ∧ AV.str 2 15649 = sv [33, 61] ∧ AV.str 2 15674 = sv [58, 61] ∧ AV.str 2 15676 = sv [60, 61] ∧ AV.str 2 15677 = sv [61, 61] ∧ AV.str 2 15678 = sv [62, 61] ∧ AV.str 2 15934 = sv [62, 62] ∧ AV.str 2 26217 = sv [105, 102] ∧ AV.str 2 31868 = sv [124, 124] ∧ AV.str 3 7104878 = sv [110, 105, 108] ∧ AV.str 3 7496054 = sv [118, 97, 114] ∧ AV.str 3 7499622 = sv [102, 111, 114] ∧ AV.str 3 7630441 = sv [105, 110, 116] ∧ AV.str 3 7824750 = sv [110, 101, 119] ∧ AV.str 4 1668183398 = sv [102, 117, 110, 99] ∧ AV.str 4 1684104562 = sv [114, 101, 97, 100] ∧ AV.str 4 1701869940 = sv [116, 121, 112, 101] ∧ AV.str 4 1702063205 = sv [101, 108, 115, 101] ∧ AV.str 4 1702195828 = sv [116, 114, 117, 101] ∧ AV.str 4 1819242338 = sv [98, 111, 111, 108] ∧ AV.str 5 435728179558 = sv [102, 97, 108, 115, 101] ∧ AV.str 5 500068610672 = sv [112, 114, 105, 110, 116] ∧ AV.str 5 515940442486 = sv [118, 97, 114, 32, 120] ∧ AV.str 6 121437875889522 = sv [114, 101, 116, 117, 114, 110] ∧ AV.str 6 127970521019507 = sv [115, 116, 114, 117, 99, 116] ∧ AV.str 10 270211885617516653982000 = sv [48, 49, 50, 51, 52, 53, 54, 55, 56, 57] ∧ AV.str 21 182871710923389474175786820334794228673288699016550 = sv [102, 117, 110, 99, 32, 109, 97, 105, 110, 40, 41, 32, 123, 32, 120, 32, 61, 32, 59, 32, 125] ∧ AV.str 26 201238614752453330410235576641456868381659233630383318147954022 = sv [102, 117, 110, 99, 32, 109, 97, 105, 110, 40, 41, 123, 112, 114, 105, 110, 116, 40, 49, 43, 50, 42, 51, 41, 59, 125] ∧ AV.str 47 75229058429591039359104473166271573744682509599169374227409512564160682176746127005125807165971543139154490455398 = sv [102, 117, 110, 99, 32, 109, 97, 105, 110, 32, 40, 32, 41, 32, 123, 32, 112, 114, 105, 110, 116, 32, 40, 32, 40, 32, 49, 32, 43, 32, 40, 32, 50, 32, 42, 32, 51, 32, 41, 32, 41, 32, 41, 32, 59, 32, 125] := ⟨rfl, rfl, rfl, rfl, rfl, rfl, rfl, rfl, rfl, rfl, rfl, rfl, rfl, rfl, rfl, rfl, rfl, rfl, rfl, rfl, rfl, rfl, rfl, rfl, rfl, rfl, rfl, rfl, rfl, rfl, rfl, rfl, rfl, rfl, rfl, rfl, rfl, rfl, rfl, rfl, rfl, rfl, rfl, rfl, rfl, rfl, rfl, rfl, rfl, rfl, rfl, rfl, rfl⟩
def EL := And.intro EE (And.intro LITS (And.intro @Nat.succ_eq_add_one (And.intro @zJl @zFo)))
def K3 := @zFw
def K1 := @zFx
end Go.Ev
namespace Go.Ev
open Go Go.Proofs
theorem c7 : cFunc Tryz.prog 7 = some af7 := by kernel_rfl
theorem c8 : cFunc Tryz.prog 8 = some af8 := by kernel_rfl
theorem c9 : cFunc Tryz.prog 9 = some af9 := by kernel_rfl
theorem c10 : cFunc Tryz.prog 10 = some af10 := by kernel_rfl
theorem c13 : cFunc Tryz.prog 13 = some af13 := by kernel_rfl
theorem c14 : cFunc Tryz.prog 14 = some af14 := by kernel_rfl
theorem c18 : cFunc Tryz.prog 18 = some af18 := by kernel_rfl
theorem c19 : cFunc Tryz.prog 19 = some af19 := by kernel_rfl
theorem c20 : cFunc Tryz.prog 20 = some af20 := by kernel_rfl
theorem c21 : cFunc Tryz.prog 21 = some af21 := by kernel_rfl
theorem c22 : cFunc Tryz.prog 22 = some af22 := by kernel_rfl
theorem c23 : cFunc Tryz.prog 23 = some af23 := by kernel_rfl
theorem c24 : cFunc Tryz.prog 24 = some af24 := by kernel_rfl
theorem c25 : cFunc Tryz.prog 25 = some af25 := by kernel_rfl
theorem c28 : cFunc Tryz.prog 28 = some af28 := by kernel_rfl
theorem c33 : cFunc Tryz.prog 33 = some af33 := by kernel_rfl
theorem c34 : cFunc Tryz.prog 34 = some af34 := by kernel_rfl
theorem c35 : cFunc Tryz.prog 35 = some af35 := by kernel_rfl
theorem c37 : cFunc Tryz.prog 37 = some af37 := by kernel_rfl
theorem c38 : cFunc Tryz.prog 38 = some af38 := by kernel_rfl
theorem c39 : cFunc Tryz.prog 39 = some af39 := by kernel_rfl
theorem c40 : cFunc Tryz.prog 40 = some af40 := by kernel_rfl
theorem c41 : cFunc Tryz.prog 41 = some af41 := by kernel_rfl
theorem c55 : cFunc Tryz.prog 55 = some af55 := by kernel_rfl
end Go.Ev
namespace Go.Ev
open Go Go.Proofs
theorem c56 : cFunc Tryz.prog 56 = some af56 := by kernel_rfl
theorem c57 : cFunc Tryz.prog 57 = some af57 := by kernel_rfl
theorem c61 : cFunc Tryz.prog 61 = some af61 := by kernel_rfl
theorem c62 : cFunc Tryz.prog 62 = some af62 := by kernel_rfl
theorem c63 : cFunc Tryz.prog 63 = some af63 := by kernel_rfl
theorem c64 : cFunc Tryz.prog 64 = some af64 := by kernel_rfl
theorem c65 : cFunc Tryz.prog 65 = some af65 := by kernel_rfl
theorem c66 : cFunc Tryz.prog 66 = some af66 := by kernel_rfl
theorem c67 : cFunc Tryz.prog 67 = some af67 := by kernel_rfl
theorem c68 : cFunc Tryz.prog 68 = some af68 := by kernel_rfl
theorem c69 : cFunc Tryz.prog 69 = some af69 := by kernel_rfl
theorem c70 : cFunc Tryz.prog 70 = some af70 := by kernel_rfl
theorem c71 : cFunc Tryz.prog 71 = some af71 := by kernel_rfl
theorem c72 : cFunc Tryz.prog 72 = some af72 := by kernel_rfl
theorem c73 : cFunc Tryz.prog 73 = some af73 := by kernel_rfl
theorem c74 : cFunc Tryz.prog 74 = some af74 := by kernel_rfl
theorem c75 : cFunc Tryz.prog 75 = some af75 := by kernel_rfl
theorem c81 : cFunc Tryz.prog 81 = some af81 := by kernel_rfl
theorem c82 : cFunc Tryz.prog 82 = some af82 := by kernel_rfl
theorem c83 : cFunc Tryz.prog 83 = some af83 := by kernel_rfl
theorem c84 : cFunc Tryz.prog 84 = some af84 := by kernel_rfl
theorem c85 : cFunc Tryz.prog 85 = some af85 := by kernel_rfl
theorem c86 : cFunc Tryz.prog 86 = some af86 := by kernel_rfl
end Go.Ev
namespace Go.Ev
open Go Go.Proofs
theorem c89 : cFunc Tryz.prog 89 = some af89 := by kernel_rfl
theorem c90 : cFunc Tryz.prog 90 = some af90 := by kernel_rfl
theorem c91 : cFunc Tryz.prog 91 = some af91 := by kernel_rfl
theorem c92 : cFunc Tryz.prog 92 = some af92 := by kernel_rfl
theorem c93 : cFunc Tryz.prog 93 = some af93 := by kernel_rfl
theorem c94 : cFunc Tryz.prog 94 = some af94 := by kernel_rfl
theorem c95 : cFunc Tryz.prog 95 = some af95 := by kernel_rfl
theorem c96 : cFunc Tryz.prog 96 = some af96 := by kernel_rfl
theorem c97 : cFunc Tryz.prog 97 = some af97 := by kernel_rfl
theorem c98 : cFunc Tryz.prog 98 = some af98 := by kernel_rfl
theorem c99 : cFunc Tryz.prog 99 = some af99 := by kernel_rfl
theorem c100 : cFunc Tryz.prog 100 = some af100 := by kernel_rfl
theorem c101 : cFunc Tryz.prog 101 = some af101 := by kernel_rfl
theorem c102 : cFunc Tryz.prog 102 = some af102 := by kernel_rfl
theorem c107 : cFunc Tryz.prog 107 = some af107 := by kernel_rfl
theorem c108 : cFunc Tryz.prog 108 = some af108 := by kernel_rfl
theorem c109 : cFunc Tryz.prog 109 = some af109 := by kernel_rfl
theorem c110 : cFunc Tryz.prog 110 = some af110 := by kernel_rfl
theorem c111 : cFunc Tryz.prog 111 = some af111 := by kernel_rfl
theorem c114 : cFunc Tryz.prog 114 = some af114 := by kernel_rfl
theorem c115 : cFunc Tryz.prog 115 = some af115 := by kernel_rfl
theorem c116 : cFunc Tryz.prog 116 = some af116 := by kernel_rfl
theorem c117 : cFunc Tryz.prog 117 = some af117 := by kernel_rfl
theorem c119 : cFunc Tryz.prog 119 = some af119 := by kernel_rfl
theorem c120 : cFunc Tryz.prog 120 = some af120 := by kernel_rfl
theorem c121 : cFunc Tryz.prog 121 = some af121 := by kernel_rfl
theorem c122 : cFunc Tryz.prog 122 = some af122 := by kernel_rfl
theorem c125 : cFunc Tryz.prog 125 = some af125 := by kernel_rfl
theorem c126 : cFunc Tryz.prog 126 = some af126 := by kernel_rfl
theorem c128 : cFunc Tryz.prog 128 = some af128 := by kernel_rfl
theorem c129 : cFunc Tryz.prog 129 = some af129 := by kernel_rfl
theorem c133 : cFunc Tryz.prog 133 = some af133 := by kernel_rfl
theorem c134 : cFunc Tryz.prog 134 = some af134 := by kernel_rfl
end Go.Ev
namespace Go.Ev
open Go Go.Proofs
theorem c135 : cFunc Tryz.prog 135 = some af135 := by kernel_rfl
theorem c137 : cFunc Tryz.prog 137 = some af137 := by kernel_rfl
theorem c138 : cFunc Tryz.prog 138 = some af138 := by kernel_rfl
theorem c152 : cFunc Tryz.prog 152 = some af152 := by kernel_rfl
theorem c153 : cFunc Tryz.prog 153 = some af153 := by kernel_rfl
theorem c154 : cFunc Tryz.prog 154 = some af154 := by kernel_rfl
theorem c155 : cFunc Tryz.prog 155 = some af155 := by kernel_rfl
theorem c156 : cFunc Tryz.prog 156 = some af156 := by kernel_rfl
theorem c157 : cFunc Tryz.prog 157 = some af157 := by kernel_rfl
theorem c166 : cFunc Tryz.prog 166 = some af166 := by kernel_rfl
theorem c167 : cFunc Tryz.prog 167 = some af167 := by kernel_rfl
theorem c168 : cFunc Tryz.prog 168 = some af168 := by kernel_rfl
theorem c169 : cFunc Tryz.prog 169 = some af169 := by kernel_rfl
theorem c170 : cFunc Tryz.prog 170 = some af170 := by kernel_rfl
theorem c180 : cFunc Tryz.prog 180 = some af180 := by kernel_rfl
theorem c190 : cFunc Tryz.prog 190 = some af190 := by kernel_rfl
theorem c191 : cFunc Tryz.prog 191 = some af191 := by kernel_rfl
theorem c192 : cFunc Tryz.prog 192 = some af192 := by kernel_rfl
theorem c196 : cFunc Tryz.prog 196 = some af196 := by kernel_rfl
theorem c198 : cFunc Tryz.prog 198 = some af198 := by kernel_rfl
end Go.Ev
namespace Go.Ev
open Go
theorem mixed : Go.Proofs.Tryz.prog.follows .mixedOrders = true := by kernel_rfl
theorem allT : AllT (fun f af => cFunc Go.Proofs.Tryz.prog f = some af) tabT id := (AllT.node noE (AllT.node noE (AllT.node noE (AllT.node (entE c7) (AllT.node noE (AllT.node noE (AllT.node (entE c63) AllT.leaf (AllT.node (entE c191) AllT.leaf AllT.leaf)) (AllT.node (entE c95) AllT.leaf AllT.leaf)) (AllT.node noE AllT.leaf (AllT.node (entE c111) AllT.leaf AllT.leaf))) (AllT.node (entE c23) (AllT.node (entE c39) (AllT.node (entE c71) (AllT.node (entE c135) AllT.leaf AllT.leaf) AllT.leaf) (AllT.node noE (AllT.node (entE c167) AllT.leaf AllT.leaf) AllT.leaf)) (AllT.node (entE c55) AllT.leaf (AllT.node (entE c119) AllT.leaf AllT.leaf)))) (AllT.node noE (AllT.node (entE c19) (AllT.node (entE c35) (AllT.node (entE c67) AllT.leaf AllT.leaf) (AllT.node (entE c99) AllT.leaf AllT.leaf)) (AllT.node noE (AllT.node (entE c83) AllT.leaf AllT.leaf) (AllT.node (entE c115) AllT.leaf AllT.leaf))) (AllT.node noE (AllT.node noE (AllT.node (entE c75) AllT.leaf AllT.leaf) (AllT.node (entE c107) AllT.leaf AllT.leaf)) (AllT.node noE (AllT.node (entE c91) (AllT.node (entE c155) AllT.leaf AllT.leaf) AllT.leaf) AllT.leaf)))) (AllT.node noE (AllT.node (entE c9) (AllT.node noE (AllT.node (entE c33) (AllT.node (entE c65) (AllT.node (entE c129) AllT.leaf AllT.leaf) AllT.leaf) (AllT.node (entE c97) AllT.leaf AllT.leaf)) (AllT.node noE (AllT.node (entE c81) AllT.leaf AllT.leaf) AllT.leaf)) (AllT.node (entE c25) (AllT.node (entE c41) (AllT.node (entE c73) (AllT.node (entE c137) AllT.leaf AllT.leaf) AllT.leaf) (AllT.node noE (AllT.node (entE c169) AllT.leaf AllT.leaf) AllT.leaf)) (AllT.node (entE c57) (AllT.node (entE c89) (AllT.node (entE c153) AllT.leaf AllT.leaf) AllT.leaf) (AllT.node (entE c121) AllT.leaf AllT.leaf)))) (AllT.node (entE c13) (AllT.node (entE c21) (AllT.node (entE c37) (AllT.node (entE c69) (AllT.node (entE c133) AllT.leaf AllT.leaf) AllT.leaf) (AllT.node (entE c101) AllT.leaf AllT.leaf)) (AllT.node noE (AllT.node (entE c85) AllT.leaf AllT.leaf) (AllT.node (entE c117) AllT.leaf AllT.leaf))) (AllT.node noE (AllT.node noE AllT.leaf (AllT.node (entE c109) AllT.leaf AllT.leaf)) (AllT.node (entE c61) (AllT.node (entE c93) (AllT.node (entE c157) AllT.leaf AllT.leaf) AllT.leaf) (AllT.node (entE c125) AllT.leaf AllT.leaf)))))) (AllT.node noE (AllT.node noE (AllT.node (entE c8) (AllT.node noE (AllT.node noE (AllT.node (entE c64) (AllT.node (entE c128) AllT.leaf AllT.leaf) (AllT.node (entE c192) AllT.leaf AllT.leaf)) (AllT.node (entE c96) AllT.leaf AllT.leaf)) AllT.leaf) (AllT.node (entE c24) (AllT.node (entE c40) (AllT.node (entE c72) AllT.leaf AllT.leaf) (AllT.node noE (AllT.node (entE c168) AllT.leaf AllT.leaf) AllT.leaf)) (AllT.node (entE c56) (AllT.node noE (AllT.node (entE c152) AllT.leaf AllT.leaf) AllT.leaf) (AllT.node (entE c120) AllT.leaf AllT.leaf)))) (AllT.node noE (AllT.node (entE c20) (AllT.node noE (AllT.node (entE c68) AllT.leaf (AllT.node (entE c196) AllT.leaf AllT.leaf)) (AllT.node (entE c100) AllT.leaf AllT.leaf)) (AllT.node noE (AllT.node (entE c84) AllT.leaf AllT.leaf) (AllT.node (entE c116) (AllT.node (entE c180) AllT.leaf AllT.leaf) AllT.leaf))) (AllT.node (entE c28) (AllT.node noE AllT.leaf (AllT.node (entE c108) AllT.leaf AllT.leaf)) (AllT.node noE (AllT.node (entE c92) (AllT.node (entE c156) AllT.leaf AllT.leaf) AllT.leaf) AllT.leaf)))) (AllT.node noE (AllT.node (entE c10) (AllT.node (entE c18) (AllT.node (entE c34) (AllT.node (entE c66) AllT.leaf AllT.leaf) (AllT.node (entE c98) AllT.leaf AllT.leaf)) (AllT.node noE (AllT.node (entE c82) AllT.leaf AllT.leaf) (AllT.node (entE c114) AllT.leaf AllT.leaf))) (AllT.node noE (AllT.node noE (AllT.node (entE c74) (AllT.node (entE c138) AllT.leaf AllT.leaf) AllT.leaf) (AllT.node noE (AllT.node (entE c170) AllT.leaf AllT.leaf) AllT.leaf)) (AllT.node noE (AllT.node (entE c90) (AllT.node (entE c154) AllT.leaf AllT.leaf) AllT.leaf) (AllT.node (entE c122) AllT.leaf AllT.leaf)))) (AllT.node (entE c14) (AllT.node (entE c22) (AllT.node (entE c38) (AllT.node (entE c70) (AllT.node (entE c134) AllT.leaf AllT.leaf) (AllT.node (entE c198) AllT.leaf AllT.leaf)) (AllT.node (entE c102) (AllT.node (entE c166) AllT.leaf AllT.leaf) AllT.leaf)) (AllT.node noE (AllT.node (entE c86) AllT.leaf AllT.leaf) AllT.leaf)) (AllT.node noE (AllT.node noE AllT.leaf (AllT.node (entE c110) AllT.leaf AllT.leaf)) (AllT.node (entE c62) (AllT.node (entE c94) AllT.leaf AllT.leaf) (AllT.node (entE c126) (AllT.node (entE c190) AllT.leaf AllT.leaf) AllT.leaf)))))))
noncomputable def tabA : T AFunc := (T.log 4 130 (some (natF 2 trimG)) (T.log 3 127 (some (natF 1 itoaG)) (T.log 2 118 (some (natF 1 (atoiG 144))) (T.log 1 36 (some (natF 2 joinG)) tabT))))
theorem tabA_ok [Glob] (k36 : NatOK Go.Proofs.Tryz.prog 36 (joinG)) (k118 : NatOK Go.Proofs.Tryz.prog 118 ((atoiG 144))) (k127 : NatOK Go.Proofs.Tryz.prog 127 (itoaG)) (k130 : NatOK Go.Proofs.Tryz.prog 130 (trimG)) : TabOK Go.Proofs.Tryz.prog (fun f => T.get tabA f) := (TabOK.logN (TabOK.logN (TabOK.logN (TabOK.logN (fun f af h => .inl (allT.get h)) k36) k118) k127) k130)
theorem anchor : isTrue (evF (fun f => T.get tabA f) 1000000 8 [] (AH.mk T.leaf 0)) = true := by kernel_rfl
noncomputable def tabL (f : Nat) : Option AFunc := T.get (T.log 5 8 (some yesF) tabA) f
theorem tabL_ok [Glob] (k36 : NatOK Go.Proofs.Tryz.prog 36 (joinG)) (k118 : NatOK Go.Proofs.Tryz.prog 118 ((atoiG 144))) (k127 : NatOK Go.Proofs.Tryz.prog 127 (itoaG)) (k130 : NatOK Go.Proofs.Tryz.prog 130 (trimG)) : TabOK Go.Proofs.Tryz.prog tabL := TabOK.logN (tabA_ok k36 k118 k127 k130) (nat_true mixed (tabA_ok k36 k118 k127 k130) (by kernel_rfl) anchor)
theorem ptL : PT tabL := by constructor <;> kernel_rfl
end Go.Ev
namespace Go.Pa
theorem PR.bind_eq {α β : Type} {x : PR α} {k : α → Nat → Nat → PR β} {b : β} {i d : Nat} (h : x.bind k = .ok b i d) : ∃ a i' d', x = .ok a i' d' ∧ k a i' d' = .ok b i d := by
 cases x with
 | ok a i' d' => exact ⟨a, i', d', rfl, h⟩
 | err p e => cases h
 | out => cases h
section
variable {ts : List Tok} {en : Nat}
structure ClE (ts : List Tok) (en : Nat) (Pr : Tree → Prop) : Prop where
 num : ∀ i, (now ts en i).kind = 3 → Pr (.mk 15 [] [] (numVal (now ts en i).text) (now ts en i).pos [])
 var : ∀ i, (now ts en i).kind = 1 → Pr (.mk 18 (now ts en i).text [] 0 (now ts en i).pos [])
 tru : ∀ i, Pr (.mk 16 [] [] 1 (now ts en i).pos [])
 fal : ∀ i, Pr (.mk 16 [] [] 0 (now ts en i).pos [])
 nil : ∀ i, Pr (.mk 17 [] [] 0 (now ts en i).pos [])
 inp : ∀ i, Pr (.mk 22 [] [] 0 (now ts en i).pos [])
 new : ∀ i, (now ts en i).kind = 1 → Pr (.mk 19 (now ts en i).text [] 0 (now ts en i).pos [])
 un : ∀ i k, (now ts en i).text = [45] ∨ (now ts en i).text = [33] → Pr k → Pr (.mk 23 [] [] (if (now ts en i).text = [45] then 17 else 18) (now ts en i).pos [k])
 bin : ∀ i l r, (zB2 ts en i).1 ≠ 0 → Pr l → Pr r → Pr (.mk (binNode (zB2 ts en i).1) [] [] (zB2 ts en i).2 (now ts en i).pos [l, r])
 field : ∀ i x, (now ts en i).kind = 1 → Pr x → Pr (.mk 20 (now ts en i).text [] 0 (now ts en i).pos [x])
 call : ∀ i ks, (now ts en i).kind = 1 → (∀ k ∈ ks, Pr k) → Pr (.mk 21 (now ts en i).text [] 0 (now ts en i).pos ks)
theorem zGx {s : Str} {i d p i' d' : Nat} (h : zA9 ts en s i d = .ok p i' d') : isT ts en s i = true ∧ p = (now ts en i).pos ∧ i' = i + 1 ∧ d' = d := by
 unfold zA9 at h
 split at h
 ·injection h with a b c; exact ⟨by assumption, a.symm, b.symm, c.symm⟩
 ·cases h
theorem zK3 {i d i' d' : Nat} {t : Tok} (h : wordS ts en i d = .ok t i' d') : t = now ts en i ∧ (now ts en i).kind = 1 ∧ i' = i + 1 ∧ d' = d := by
 unfold wordS at h
 split at h
 ·injection h with a b c; exact ⟨a.symm, by assumption, b.symm, c.symm⟩
 ·cases h
theorem zDp {α : Type} {i d i' d' : Nat} {a : α} {k : Nat → Nat → PR α} (h : zCn ts en i d k = .ok a i' d') : d + 1 ≤ 40 ∧ ∃ d2, k i (d + 1) = .ok a i' d2 ∧ d' = d2 - 1 := by
 unfold zCn at h
 split at h
 ·cases h
 ·obtain ⟨b, i2, d2, h1, h2⟩ := PR.bind_eq h
  injection h2 with e1 e2 e3
  subst e1; subst e2; subst e3
  exact ⟨by omega, d2, h1, rfl⟩
theorem isT_sign {s : Str} {i : Nat} (h : isT ts en s i = true) : (now ts en i).text = s := by
 unfold isT at h; simp at h; exact h.1
structure PrE (ts : List Tok) (en : Nat) (Pr : Tree → Prop) (n : Nat) : Prop where
 expr : ∀ {least i d t i' d'}, exprS ts en n least i d = .ok t i' d' → Pr t
 exprl : ∀ {least i d l t i' d'}, exprL ts en n least i d l = .ok t i' d' → Pr l → Pr t
 unary : ∀ {i d t i' d'}, zBy ts en n i d = .ok t i' d' → Pr t
 post : ∀ {i d t i' d'}, postS ts en n i d = .ok t i' d' → Pr t
 postl : ∀ {i d x t i' d'}, postL ts en n i d x = .ok t i' d' → Pr x → Pr t
 prim : ∀ {i d t i' d'}, primS ts en n i d = .ok t i' d' → Pr t
 call : ∀ {j i d t i' d'}, (now ts en j).kind = 1 → callS ts en n (now ts en j) i d = .ok t i' d' → Pr t
 args : ∀ {i d acc ks i' d'}, argsL ts en n i d acc = .ok ks i' d' → (∀ k ∈ acc, Pr k) → ∀ k ∈ ks, Pr k
 brack : ∀ {i d t i' d'}, zA5 ts en n i d = .ok t i' d' → Pr t
theorem keyS_pred {Pr : Tree → Prop} (C : ClE ts en Pr) {i d i' d' : Nat} {t : Tree} (h : keyS ts en i d = .ok t i' d') : Pr t := by
 unfold keyS at h
 simp only at h
 split at h
 ·injection h with a; subst a; exact C.tru _
 split at h
 ·injection h with a; subst a; exact C.fal _
 split at h
 ·obtain ⟨_, _, _, h1, h⟩ := PR.bind_eq h
  obtain ⟨w, _, _, h2, h⟩ := PR.bind_eq h
  obtain ⟨_, _, _, h3, h⟩ := PR.bind_eq h
  injection h with a; subst a
  obtain ⟨e1, e2, _⟩ := zK3 h2
  subst e1; exact C.new _ e2
 split at h
 ·obtain ⟨_, _, _, h1, h⟩ := PR.bind_eq h
  obtain ⟨_, _, _, h3, h⟩ := PR.bind_eq h
  injection h with a; subst a; exact C.inp _
 ·injection h with a; subst a; exact C.nil _
theorem ex_pred {Pr : Tree → Prop} (C : ClE ts en Pr) : ∀ n, PrE ts en Pr n := by
 intro n
 induction n with
 | zero => constructor <;> intros <;> simp_all [exprS, exprL, zBy, postS, postL, primS, callS, argsL, zA5]
 | succ n IH =>
  constructor
  ·intro least i d t i' d' h
   unfold exprS at h
   obtain ⟨l, i1, d1, h1, h⟩ := PR.bind_eq h
   exact IH.exprl h (IH.unary h1)
  ·intro least i d l t i' d' h hl
   unfold exprL at h
   split at h
   ·injection h with a; subst a; exact hl
   ·rename_i hs
    obtain ⟨r, i1, d1, h1, h⟩ := PR.bind_eq h
    exact IH.exprl h (C.bin i l r (fun e => hs (.inl e)) hl (IH.expr h1))
  ·intro i d t i' d' h
   unfold zBy at h
   split at h
   ·rename_i hs
    obtain ⟨_, d2, h, _⟩ := zDp h
    obtain ⟨k, i1, d1, h1, h⟩ := PR.bind_eq h
    injection h with a; subst a
    refine C.un i k ?_ (IH.unary h1)
    rcases Bool.or_eq_true_iff.mp hs with e | e
    ·exact .inl (isT_sign e)
    ·exact .inr (isT_sign e)
   ·exact IH.post h
  ·intro i d t i' d' h
   unfold postS at h
   obtain ⟨x, i1, d1, h1, h⟩ := PR.bind_eq h
   exact IH.postl h (IH.prim h1)
  ·intro i d x t i' d' h hx
   unfold postL at h
   split at h
   ·obtain ⟨w, i1, d1, h1, h⟩ := PR.bind_eq h
    obtain ⟨e1, e2, _⟩ := zK3 h1
    subst e1
    exact IH.postl h (C.field _ x e2 hx)
   ·injection h with a; subst a; exact hx
  ·intro i d t i' d' h
   unfold primS at h
   split at h
   ·injection h with a; subst a; exact C.num i (by assumption)
   split at h
   ·split at h
    ·exact IH.call (by assumption) h
    ·injection h with a; subst a; exact C.var i (by assumption)
   split at h
   ·exact IH.brack h
   split at h
   ·exact keyS_pred C h
   ·cases h
  ·intro j i d t i' d' hk h
   unfold callS at h
   obtain ⟨_, d2, h, _⟩ := zDp h
   obtain ⟨ks, i1, d1, h1, h⟩ := PR.bind_eq h
   injection h with a; subst a
   exact C.call j ks hk (IH.args h1 (by simp))
  ·intro i d acc ks i' d' h ha
   unfold argsL at h
   split at h
   ·injection h with a; subst a; exact ha
   ·obtain ⟨p, i1, d1, h1, h⟩ := PR.bind_eq h
    have hp := IH.expr h1
    have ha' : ∀ k ∈ acc ++ [p], Pr k := by
     intro k hk
     rcases List.mem_append.mp hk with e | e
     ·exact ha k e
     ·simp at e; subst e; exact hp
    split at h
    ·exact IH.args h ha'
    ·obtain ⟨_, i2, d2, h2, h⟩ := PR.bind_eq h
     split at h
     ·cases h
     ·exact IH.args h ha'
  ·intro i d t i' d' h
   unfold zA5 at h
   split at h
   ·obtain ⟨_, d2, h, _⟩ := zDp h
    obtain ⟨e, i1, d1, h1, h⟩ := PR.bind_eq h
    obtain ⟨_, i2, d3, h2, h⟩ := PR.bind_eq h
    injection h with a; subst a
    exact IH.expr h1
   ·cases h
theorem field_kid {n i d i' d' : Nat} {t : Tree} (h : postS ts en n i d = .ok t i' d') : t.op = 20 → ∃ k r, t.kids = k :: r := by
 refine (ex_pred (Pr := fun t => t.op = 20 → ∃ k r, t.kids = k :: r) ⟨?_, ?_, ?_, ?_, ?_, ?_, ?_, ?_, ?_, ?_, ?_⟩ n).post h
 all_goals (intros; simp_all [Tree.op, Tree.kids])
end
end Go.Pa
namespace Go.Ev
open Go Go.Pa
section
variable {tab : Nat → Option AFunc} {h : AH} (H : PT tab)
theorem MoreBut.seto {r i : Nat} {a b : AH} (x : MoreBut r a b) (hi : a.next ≤ i) (o : AObj) : MoreBut r a (b.set i o) := ⟨by rw [AH.set_next]; exact x.next, fun k h1 h2 => by rw [AH.set_mem, T.get_put_ne _ _ _ _ (by omega), x.keep k h1 h2]⟩
abbrev tokV (t : Tok) : AV := .agg [.int .i64 (t.kind : Int), sv t.text, .int .i64 (t.pos : Int)]
def TokA (h : AH) (r : Nat) (tl : AV) (ts : List Tok) : Prop := (ts = [] ∧ tl = .nils) ∨ ∃ id c s cap, tl = .sl id 0 ts.length cap ∧ id < r ∧ h.mem.get id = some (.cells c s none false) ∧
 ∀ j (hj : j < ts.length), c.get (j * 3) = some (.int .i64 (ts[j].kind : Int)) ∧ c.get (j * 3 + 1) = some (sv ts[j].text) ∧ c.get (j * 3 + 1 + 1) = some (.int .i64 (ts[j].pos : Int))
theorem TokA.keep {h h' : AH} {r : Nat} {tl : AV} {ts : List Tok} (x : TokA h r tl ts) (m : ∀ k, k < r → h'.mem.get k = h.mem.get k) : TokA h' r tl ts := by
 rcases x with x | ⟨id, c, s, cap, h1, h2, h3, h4⟩
 ·exact .inl x
 ·exact .inr ⟨id, c, s, cap, h1, h2, by rw [m _ h2]; exact h3, h4⟩
def Digs (s : Str) : Prop := s ≠ [] ∧ (∀ c ∈ s, 48 ≤ c.toNat ∧ c.toNat ≤ 57) ∧ s.length ≤ 1000000
def numP (s : Str) : Int × Nat := if s.head? = some 48 ∧ s ≠ [48] then (0, 1) else match Lib.atoiAll s with | .ok v => (v, 0) | .range => (0, 2) | _ => (0, 1)
structure RS (ts : List Tok) (en : Nat) (h : AH) (r i d : Nat) : Prop where
 lt : r < h.next
 le : i ≤ ts.length
 hen : en < 1000000
 ln : ts.length < 1000000
 txt : ∀ j, (now ts en j).text.length ≤ 1000000
 num : ∀ j, (now ts en j).kind = 3 → Digs (now ts en j).text ∧ (numP (now ts en j).text).2 = 0
 cell : ∃ c tl, h.mem.get r = some (.cells c 4 none false) ∧ c.get 0 = some tl ∧ c.get 1 = some (.int .i64 (i : Int)) ∧ c.get 2 = some (.int .i64 (en : Int)) ∧ c.get 3 = some (.int .i64 (d : Int)) ∧ TokA h r tl ts
variable {ts : List Tok} {en r i d : Nat}
theorem RS.keep {h' : AH} (x : RS ts en h r i d) (hn : h.next ≤ h'.next) (m : ∀ k, k ≤ r → h'.mem.get k = h.mem.get k) : RS ts en h' r i d := by
 obtain ⟨a, b, b2, b4, b5, b6, c, tl, c0, c1, c2, c3, c4, c5⟩ := x
 exact ⟨Nat.lt_of_lt_of_le a hn, b, b2, b4, b5, b6, c, tl, by rw [m _ (Nat.le_refl _)]; exact c0, c1, c2, c3, c4, c5.keep fun k hk => m k (Nat.le_of_lt hk)⟩
theorem RS.more {h' : AH} (x : RS ts en h r i d) (m : More h h') : RS ts en h' r i d := x.keep m.next fun k hk => m.keep k (Nat.lt_of_le_of_lt hk x.lt)
theorem RS.seto (x : RS ts en h r i d) {k : Nat} (hk : r < k) (o : AObj) : RS ts en (h.set k o) r i d := x.keep (by rw [AH.set_next]; exact Nat.le_refl _) fun j hj => by rw [AH.set_mem, T.get_put_ne _ _ _ _ (by omega)]
theorem RS.putI (x : RS ts en h r i d) (hi : i < ts.length) {c : T AV} (hc : h.mem.get r = some (.cells c 4 none false)) : RS ts en (h.set r (.cells (T.put (some (.int .i64 ((i + 1 : Nat) : Int))) c 1) 4 none false)) r (i + 1) d := by
 obtain ⟨a, b, b2, b4, b5, b6, c', tl, c0, c1, c2, c3, c4, c5⟩ := x
 rw [hc] at c0; injection c0 with c0; injection c0 with c0; subst c0
 refine ⟨by rw [AH.set_next]; exact a, hi, b2, b4, b5, b6, _, tl, AH.get_set, ?_, ?_, ?_, ?_, c5.keep fun k hk => by rw [AH.set_mem, T.get_put_ne _ _ _ _ (by omega)]⟩
 ·rw [T.get_put_ne _ _ _ _ (by omega)]; exact c1
 ·rw [T.get_put_self]
 ·rw [T.get_put_ne _ _ _ _ (by omega)]; exact c3
 ·rw [T.get_put_ne _ _ _ _ (by omega)]; exact c4
theorem RS.putD (x : RS ts en h r i d) {d' : Nat} {c : T AV} (hc : h.mem.get r = some (.cells c 4 none false)) : RS ts en (h.set r (.cells (T.put (some (.int .i64 (d' : Int))) c 3) 4 none false)) r i d' := by
 obtain ⟨a, b, b2, b4, b5, b6, c', tl, c0, c1, c2, c3, c4, c5⟩ := x
 rw [hc] at c0; injection c0 with c0; injection c0 with c0; subst c0
 refine ⟨by rw [AH.set_next]; exact a, b, b2, b4, b5, b6, _, tl, AH.get_set, ?_, ?_, ?_, ?_, c5.keep fun k hk => by rw [AH.set_mem, T.get_put_ne _ _ _ _ (by omega)]⟩
 ·rw [T.get_put_ne _ _ _ _ (by omega)]; exact c1
 ·rw [T.get_put_ne _ _ _ _ (by omega)]; exact c2
 ·rw [T.get_put_ne _ _ _ _ (by omega)]; exact c3
 ·rw [T.get_put_self]
def stopV (p e : Nat) : AV := .ifc 54 (.agg [.int .i64 (p : Int), .int .i64 (e : Int)])
def okP {α : Type} (y : PR α) (ts : List Tok) (en r i0 d : Nat) (h : AH) (K : α → AV → AH → Prop) (v : AV) (h1 : AH) : Prop := ∃ a i, y = .ok a i d ∧ i0 < i ∧ RS ts en h1 r i d ∧ MoreBut r h h1 ∧ K a v h1
def erP {α : Type} (y : PR α) (r : Nat) (h : AH) (v : AV) (h1 : AH) : Prop := ∃ p e, y = .err p e ∧ v = stopV p e ∧ MoreBut r h h1
def GS {α : Type} (tab : Nat → Option AFunc) (f : Nat) (args : List AV) (ts : List Tok) (en r i d : Nat) (h : AH) (x : PR α) (K : α → AV → AH → Prop) : Prop := ∀ y, x = y → y ≠ .out → GE tab f args h (okP y ts en r i d h K) (erP y r h)
theorem zAz {α β : Type} {x : PR α} {k : α → Nat → Nat → PR β} {y : PR β} (e : x.bind k = y) (hn : y ≠ .out) : x ≠ .out := fun h => hn (by rw [← e, h]; rfl)
theorem zFz {i : Nat} (hi : i < ts.length) : now ts en i = ts[i] := by unfold now; rw [List.getD_eq_getElem?_getD, List.getElem?_eq_getElem hi]; rfl
theorem zCd {i : Nat} (hi : ¬ i < ts.length) : now ts en i = ⟨0, [], en⟩ := by unfold now; rw [List.getD_eq_getElem?_getD, List.getElem?_eq_none (by omega)]; rfl
theorem is_lt {s : Str} {i : Nat} (hi : isT ts en s i = true) : i < ts.length := by
 rcases Nat.lt_or_ge i ts.length with h | h
 ·exact h
 ·unfold isT at hi; rw [zCd (by omega)] at hi; simp at hi
include H in
theorem zHm (R : RS ts en h r i d) : GP tab 101 [.ptr r 0] h fun v h1 => v = tokV (now ts en i) ∧ More h h1 := by
 have i0 : zAg [.ptr r 0] = zAc [.ptr r 0] := rfl
 have ln := R.ln
 have hlen := R.le
 have hen := R.hen
 refine GE.gp (ge_of H.t101 rfl ?_) (E := fun _ _ => False) fun _ _ => id
 refine zBi fun h1 n1 g1 m1 => ?_
 have R1 := R.more m1
 obtain ⟨_, _, _, _, _, _, c, tl, c0, c1, c2, c3, c4, c5⟩ := R1
 have ltl : ∀ h', oLen .sl (.c tl) .leaf [] h' = .val (.int .i64 (ts.length : Int)) h' := by
  intro h'
  rcases c5 with ⟨rfl, rfl⟩ | ⟨id, cc, s, cap, rfl, _⟩
  ·rfl
  ·exact zIk
 have e0 : (AV.str 0 0) = sv [] := rfl
 refine zAd ?_
 refine zAd (zAb fun Q1 hQ => ?_)
 simp (disch := omega) only [EL, ↓K3, ↓K1, reduceIte, Nat.reduceEqDiff, Nat.reduceAdd, Nat.reduceLeDiff, i0, c0, c1, c2, c3, ltl]
 refine hQ _ ?_
 clear hQ Q1
 refine wc_if (ts.length ≤ i) (by simp +decide only [EL, reduceIte]) (fun hge => ?_) (fun hlt => ?_)
 ·refine zAd (zAb fun Q1 hQ => ?_)
  simp (disch := omega) only [EL, ↓K3, ↓K1, reduceIte, Nat.reduceEqDiff, Nat.reduceAdd, Nat.reduceLeDiff, i0, c0, c1, c2, c3, e0, g1]
  refine hQ _ ?_
  clear hQ Q1
  refine zAj ?_
  try simp only [zAh, zAf]
  refine zA6 (id := h.next) (by simp +decide only [EL, reduceIte]) AH.get_set (lst := [.int .i64 ((0 : Nat) : Int), sv [], .int .i64 (en : Int)]) (by simp +decide only [EL, reduceIte, zAe, e0]) ?_
  rw [zCd (by omega)]
  exact ⟨rfl, m1.set (Nat.le_refl _) _⟩
 ·refine zAl ?_
  have hlt : i < ts.length := by omega
  rcases c5 with ⟨rfl, _⟩ | ⟨id, cc, s, cap, rfl, hid, gt, ct⟩
  ·cases hlt
  obtain ⟨ct1, ct2, ct3⟩ := ct i hlt
  refine zAd (zAb fun Q1 hQ => ?_)
  simp (disch := omega) only [EL, ↓K3, ↓K1, reduceIte, Nat.reduceEqDiff, Nat.reduceAdd, Nat.reduceLeDiff, i0, c0, c1, c2, c3, e0, g1, gt, ct1, ct2, ct3, zAe]
  refine hQ _ ?_
  clear hQ Q1
  refine zAj ?_
  try simp only [zAh, zAf]
  refine zA6 (id := h.next) (by simp +decide only [EL, reduceIte]) AH.get_set (lst := [.int .i64 (ts[i].kind : Int), sv ts[i].text, .int .i64 (ts[i].pos : Int)]) (by simp +decide only [EL, reduceIte, zAe, e0]) ?_
  rw [zFz hlt]
  exact ⟨rfl, m1.set (Nat.le_refl _) _⟩
include H in
theorem ahead_gp (R : RS ts en h r i d) : GP tab 155 [.ptr r 0] h fun v h1 => v = tokV (now ts en (i + 1)) ∧ More h h1 := by
 have i0 : zAg [.ptr r 0] = zAc [.ptr r 0] := rfl
 have ln := R.ln
 have hlen := R.le
 have hen := R.hen
 refine GE.gp (ge_of H.t155 rfl ?_) (E := fun _ _ => False) fun _ _ => id
 refine zBi fun h1 n1 g1 m1 => ?_
 have R1 := R.more m1
 obtain ⟨_, _, _, _, _, _, c, tl, c0, c1, c2, c3, c4, c5⟩ := R1
 have ltl : ∀ h', oLen .sl (.c tl) .leaf [] h' = .val (.int .i64 (ts.length : Int)) h' := by
  intro h'
  rcases c5 with ⟨rfl, rfl⟩ | ⟨id, cc, s, cap, rfl, _⟩
  ·rfl
  ·exact zIk
 have e0 : (AV.str 0 0) = sv [] := rfl
 refine zAd ?_
 refine zAd (zAb fun Q1 hQ => ?_)
 simp (disch := omega) only [EL, ↓K3, ↓K1, reduceIte, Nat.reduceEqDiff, Nat.reduceAdd, Nat.reduceLeDiff, i0, c0, c1, c2, c3, ltl]
 refine hQ _ ?_
 clear hQ Q1
 refine wc_if (ts.length ≤ i + 1) (by simp +decide only [EL, reduceIte]) (fun hge => ?_) (fun hlt => ?_)
 ·refine zAd (zAb fun Q1 hQ => ?_)
  simp (disch := omega) only [EL, ↓K3, ↓K1, reduceIte, Nat.reduceEqDiff, Nat.reduceAdd, Nat.reduceLeDiff, i0, c0, c1, c2, c3, e0, g1]
  refine hQ _ ?_
  clear hQ Q1
  refine zAj ?_
  try simp only [zAh, zAf]
  refine zA6 (id := h.next) (by simp +decide only [EL, reduceIte]) AH.get_set (lst := [.int .i64 ((0 : Nat) : Int), sv [], .int .i64 (en : Int)]) (by simp +decide only [EL, reduceIte, zAe, e0]) ?_
  rw [zCd (by omega)]
  exact ⟨rfl, m1.set (Nat.le_refl _) _⟩
 ·refine zAl ?_
  have hlt : i + 1 < ts.length := by omega
  rcases c5 with ⟨rfl, _⟩ | ⟨id, cc, s, cap, rfl, hid, gt, ct⟩
  ·cases hlt
  obtain ⟨ct1, ct2, ct3⟩ := ct (i + 1) hlt
  refine zAd (zAb fun Q1 hQ => ?_)
  simp (disch := omega) only [EL, ↓K3, ↓K1, reduceIte, Nat.reduceEqDiff, Nat.reduceAdd, Nat.reduceLeDiff, i0, c0, c1, c2, c3, e0, g1, gt, ct1, ct2, ct3, zAe]
  refine hQ _ ?_
  clear hQ Q1
  refine zAj ?_
  try simp only [zAh, zAf]
  refine zA6 (id := h.next) (by simp +decide only [EL, reduceIte]) AH.get_set (lst := [.int .i64 (ts[i + 1].kind : Int), sv ts[i + 1].text, .int .i64 (ts[i + 1].pos : Int)]) (by simp +decide only [EL, reduceIte, zAe, e0]) ?_
  rw [zFz hlt]
  exact ⟨rfl, m1.set (Nat.le_refl _) _⟩
include H in
theorem is_gp (R : RS ts en h r i d) (s : Str) : GP tab 96 [.ptr r 0, sv s] h fun v h1 => v = .bool (isT ts en s i) ∧ More h h1 := by
 have i0 : zAg [.ptr r 0, sv s] = zAc [.ptr r 0, sv s] := rfl
 refine GE.gp (ge_of H.t96 rfl ?_) (E := fun _ _ => False) fun _ _ => id
 refine zAd (zAb fun Q1 hQ => ?_)
 simp (disch := omega) only [EL, ↓K3, ↓K1, reduceIte, Nat.reduceEqDiff, Nat.reduceAdd, Nat.reduceLeDiff, i0]
 refine hQ _ ?_
 clear hQ Q1
 refine zAd (zAb fun Q1 hQ => ?_)
 simp (disch := omega) only [EL, ↓K3, ↓K1, reduceIte, Nat.reduceEqDiff, Nat.reduceAdd, Nat.reduceLeDiff, i0]
 refine (zHm H R).to fun v h1 q => ?_
 obtain ⟨rfl, m1⟩ := q
 have e0 : (AV.str 0 0) = sv [] := rfl
 simp (disch := omega) only [EL, ↓K3, ↓K1, reduceIte, Nat.reduceEqDiff, Nat.reduceAdd, Nat.reduceLeDiff, tokV, e0, i0]
 refine hQ _ ?_
 clear hQ Q1
 refine zC8 fun h2 n2 g2 m2 => ?_
 obtain ⟨c, g2, k0, k1, k2⟩ := g2
 simp only [zAa]
 refine zAd (zAb fun Q1 hQ => ?_)
 by_cases ht : (now ts en i).text = s
 ·by_cases hk : (now ts en i).kind = 2
  ·simp (disch := omega) only [↓zFw, ↓zFx, reduceIte, Nat.reduceEqDiff, Nat.reduceAdd, Nat.reduceLeDiff, Nat.succ_eq_add_one, zJl, zFo, EE, i0, g2, k0, k1, k2, ht, hk]
   refine hQ _ ?_
   refine zAj ?_
   simp (disch := omega) only [EL, ↓K3, ↓K1, reduceIte, Nat.reduceEqDiff, Nat.reduceAdd, Nat.reduceLeDiff]
   refine ⟨?_, m1.trans m2⟩
   unfold isT; simp [ht, hk]
  ·have hk' : ¬ ((now ts en i).kind : Int) = ((2 : Nat) : Int) := by omega
   simp (disch := omega) only [↓zFw, ↓zFx, reduceIte, Nat.reduceEqDiff, Nat.reduceAdd, Nat.reduceLeDiff, Nat.succ_eq_add_one, zJl, zFo, EE, i0, g2, k0, k1, k2, ht, hk']
   refine hQ _ ?_
   refine zAj ?_
   simp (disch := omega) only [EL, ↓K3, ↓K1, reduceIte, Nat.reduceEqDiff, Nat.reduceAdd, Nat.reduceLeDiff]
   refine ⟨?_, m1.trans m2⟩
   unfold isT; simp [ht, hk]
 ·simp (disch := omega) only [↓zFw, ↓zFx, reduceIte, Nat.reduceEqDiff, Nat.reduceAdd, Nat.reduceLeDiff, Nat.succ_eq_add_one, zJl, zFo, EE, i0, g2, k0, k1, k2, ht]
  refine hQ _ ?_
  refine zAj ?_
  simp (disch := omega) only [EL, ↓K3, ↓K1, reduceIte, Nat.reduceEqDiff, Nat.reduceAdd, Nat.reduceLeDiff]
  refine ⟨?_, m1.trans m2⟩
  unfold isT; simp [ht]
end
end Go.Ev
namespace Go.Ev
open Go Go.Pa
section
variable {tab : Nat → Option AFunc} {h : AH} (H : PT tab) {ts : List Tok} {en r i d : Nat}
include H in
theorem zEt (R : RS ts en h r i d) : GE tab 73 [.ptr r 0] h (fun _ _ => False) (fun v h1 => v = stopV (now ts en i).pos 1 ∧ More h h1) := by
 have i0 : zAg [.ptr r 0] = zAc [.ptr r 0] := rfl
 refine ge_of H.t73 rfl (zAb fun Q1 hQ => ?_)
 simp (disch := omega) only [EL, ↓K3, ↓K1, reduceIte, Nat.reduceEqDiff, Nat.reduceAdd, Nat.reduceLeDiff, i0]
 refine (zHm H R).to fun v h1 q => ?_
 obtain ⟨rfl, m1⟩ := q
 have f2 : ∀ h', zB6 2 1 false (.c (tokV (now ts en i))) .leaf [] h' = .val (.int .i64 ((now ts en i).pos : Int)) h' := fun _ => rfl
 simp (disch := omega) only [EL, ↓K3, ↓K1, reduceIte, Nat.reduceEqDiff, Nat.reduceAdd, Nat.reduceLeDiff, i0, f2]
 refine hQ _ ?_
 exact ⟨rfl, m1⟩
include H in
theorem zCg (R : RS ts en h r i d) (hi : i < ts.length) : GP tab 102 [.ptr r 0] h fun v h1 => v = tokV (now ts en i) ∧ RS ts en h1 r (i + 1) d ∧ MoreBut r h h1 := by
 have i0 : zAg [.ptr r 0] = zAc [.ptr r 0] := rfl
 have ln := R.ln
 refine GE.gp (ge_of H.t102 rfl ?_) (E := fun _ _ => False) fun _ _ => id
 refine zBi fun h1 n1 g1 m1 => ?_
 have R1 := R.more m1
 refine zAd (zAb fun Q1 hQ => ?_)
 simp (disch := omega) only [EL, ↓K3, ↓K1, reduceIte, Nat.reduceEqDiff, Nat.reduceAdd, Nat.reduceLeDiff, i0]
 refine (zHm H R1).to fun v h2 q => ?_
 obtain ⟨rfl, m2⟩ := q
 simp (disch := omega) only [EL, ↓K3, ↓K1, reduceIte, Nat.reduceEqDiff, Nat.reduceAdd, Nat.reduceLeDiff, i0]
 refine hQ _ ?_
 clear hQ Q1
 refine zC8 fun h3 n3 g3 m3 => ?_
 obtain ⟨c3, g3, k0, k1, k2⟩ := g3
 simp only [zAa]
 have m13 : More h1 h3 := m2.trans m3
 have R3 := R1.more m13
 have g1' := (m13.keep h.next (by omega)).trans g1
 have lt3 := R3.lt
 have n13 := m13.next
 have hr1 := R.lt
 have n2 := m2.next
 obtain ⟨_, _, _, _, _, _, c, tl, c0, c1, c2, c3', c4, c5⟩ := id R3
 refine zAd (zAb fun Q1 hQ => ?_)
 simp (disch := omega) only [EL, ↓K3, ↓K1, reduceIte, Nat.reduceEqDiff, Nat.reduceAdd, Nat.reduceLeDiff, i0, c0, c2]
 refine hQ _ ?_
 clear hQ Q1
 have R4 := R3.putI hi c0
 have g4 : (h3.set r (.cells (T.put (some (.int .i64 ((i + 1 : Nat) : Int))) c 1) 4 none false)).mem.get h.next = h3.mem.get h.next := by rw [AH.set_mem, T.get_put_ne _ _ _ _ (by omega)]
 have g5 : (h3.set r (.cells (T.put (some (.int .i64 ((i + 1 : Nat) : Int))) c 1) 4 none false)).mem.get h2.next = h3.mem.get h2.next := by rw [AH.set_mem, T.get_put_ne _ _ _ _ (by omega)]
 have b4 : MoreBut r h (h3.set r (.cells (T.put (some (.int .i64 ((i + 1 : Nat) : Int))) c 1) 4 none false)) := ((m1.trans m13).but r).set _
 generalize (h3.set r (.cells (T.put (some (.int .i64 ((i + 1 : Nat) : Int))) c 1) 4 none false)) = h4 at *
 rw [g1'] at g4
 rw [g3] at g5
 have e0 : (AV.str 0 0) = sv [] := rfl
 refine zAd (zAb fun Q1 hQ => ?_)
 simp (disch := omega) only [EL, ↓K3, ↓K1, reduceIte, Nat.reduceEqDiff, Nat.reduceAdd, Nat.reduceLeDiff, i0, g4, g5, k0, k1, k2, zAe, e0]
 refine hQ _ ?_
 clear hQ Q1
 refine zAj ?_
 try simp only [zAh, zAf]
 refine zA6 (id := h.next) (by simp +decide only [EL, reduceIte]) AH.get_set (lst := [.int .i64 ((now ts en i).kind : Int), sv (now ts en i).text, .int .i64 ((now ts en i).pos : Int)]) (by simp +decide only [EL, reduceIte, zAe, e0]) ?_
 exact ⟨rfl, R4.seto (by omega) _, b4.seto (Nat.le_refl _) _⟩
include H in
theorem zDz (R : RS ts en h r i d) (s : Str) : GP tab 70 [.ptr r 0, sv s] h fun v h1 => v = .bool (isT ts en s i) ∧ RS ts en h1 r (if isT ts en s i then i + 1 else i) d ∧ MoreBut r h h1 := by
 have i0 : zAg [.ptr r 0, sv s] = zAc [.ptr r 0, sv s] := rfl
 have ln := R.ln
 refine GE.gp (ge_of H.t70 rfl ?_) (E := fun _ _ => False) fun _ _ => id
 refine zAd (zAb fun Q1 hQ => ?_)
 simp (disch := omega) only [EL, ↓K3, ↓K1, reduceIte, Nat.reduceEqDiff, Nat.reduceAdd, Nat.reduceLeDiff, i0]
 refine hQ _ ?_
 clear hQ Q1
 refine zAd ?_
 refine zAd (zAb fun Q1 hQ => ?_)
 simp (disch := omega) only [EL, ↓K3, ↓K1, reduceIte, Nat.reduceEqDiff, Nat.reduceAdd, Nat.reduceLeDiff, i0]
 refine (is_gp H R s).to fun v h1 q => ?_
 obtain ⟨rfl, m1⟩ := q
 simp (disch := omega) only [EL, ↓K3, ↓K1, reduceIte, Nat.reduceEqDiff, Nat.reduceAdd, Nat.reduceLeDiff, i0]
 refine hQ _ ?_
 clear hQ Q1
 simp only [zAa]
 have R1 := R.more m1
 cases hc : isT ts en s i with
 | false =>
  refine zAq (by simp +decide only [EL, reduceIte, hc, Bool.not_false]) ?_
  refine zAd (zAb fun Q1 hQ => ?_)
  simp (disch := omega) only [EL, ↓K3, ↓K1, reduceIte, Nat.reduceEqDiff, Nat.reduceAdd, Nat.reduceLeDiff, i0]
  refine hQ _ ?_
  clear hQ Q1
  refine zAj ?_
  simp (disch := omega) only [EL, ↓K3, ↓K1, reduceIte, Nat.reduceEqDiff, Nat.reduceAdd, Nat.reduceLeDiff]
  exact ⟨R1, m1.but r⟩
 | true =>
  refine wc_no (by simp +decide only [EL, reduceIte, hc, Bool.not_true]) ?_
  refine zAl ?_
  have hi := is_lt hc
  obtain ⟨_, _, _, _, _, _, c, tl, c0, c1, c2, c3', c4, c5⟩ := id R1
  refine zAd (zAb fun Q1 hQ => ?_)
  simp (disch := omega) only [EL, ↓K3, ↓K1, reduceIte, Nat.reduceEqDiff, Nat.reduceAdd, Nat.reduceLeDiff, i0, c0, c2]
  refine hQ _ ?_
  clear hQ Q1
  have R4 := R1.putI hi c0
  have b4 : MoreBut r h (h1.set r (.cells (T.put (some (.int .i64 ((i + 1 : Nat) : Int))) c 1) 4 none false)) := (m1.but r).set _
  generalize (h1.set r (.cells (T.put (some (.int .i64 ((i + 1 : Nat) : Int))) c 1) 4 none false)) = h4 at *
  refine zAd (zAb fun Q1 hQ => ?_)
  simp (disch := omega) only [EL, ↓K3, ↓K1, reduceIte, Nat.reduceEqDiff, Nat.reduceAdd, Nat.reduceLeDiff, i0]
  refine hQ _ ?_
  clear hQ Q1
  refine zAj ?_
  simp (disch := omega) only [EL, ↓K3, ↓K1, reduceIte, Nat.reduceEqDiff, Nat.reduceAdd, Nat.reduceLeDiff]
  exact ⟨R4, b4⟩
include H in
theorem zBo (R : RS ts en h r i d) (s : Str) : GS tab 75 [.ptr r 0, sv s] ts en r i d h (zA9 ts en s i d) fun p v _ => v = .int .i64 (p : Int) := by
 intro y hy hne
 have i0 : zAg [.ptr r 0, sv s] = zAc [.ptr r 0, sv s] := rfl
 refine ge_of H.t75 rfl ?_
 refine zAd (zAb fun Q1 hQ => ?_)
 simp (disch := omega) only [EL, ↓K3, ↓K1, reduceIte, Nat.reduceEqDiff, Nat.reduceAdd, Nat.reduceLeDiff, i0]
 refine hQ _ ?_
 clear hQ Q1
 refine zAd ?_
 refine zAd (zAb fun Q1 hQ => ?_)
 simp (disch := omega) only [EL, ↓K3, ↓K1, reduceIte, Nat.reduceEqDiff, Nat.reduceAdd, Nat.reduceLeDiff, i0]
 refine (is_gp H R s).to fun v h1 q => ?_
 obtain ⟨rfl, m1⟩ := q
 simp (disch := omega) only [EL, ↓K3, ↓K1, reduceIte, Nat.reduceEqDiff, Nat.reduceAdd, Nat.reduceLeDiff, i0]
 refine hQ _ ?_
 clear hQ Q1
 simp only [zAa]
 have R1 := R.more m1
 unfold zA9 at hy
 cases hc : isT ts en s i with
 | false =>
  rw [hc] at hy
  refine zAq (by simp +decide only [EL, reduceIte, hc, Bool.not_false]) ?_
  refine zAb fun Q1 hQ => ?_
  simp (disch := omega) only [EL, ↓K3, ↓K1, reduceIte, Nat.reduceEqDiff, Nat.reduceAdd, Nat.reduceLeDiff, i0]
  refine (zEt H R1).mono (fun v h2 q => q.elim) fun v h2 q => ?_
  refine hQ _ ?_
  exact ⟨_, _, hy.symm, q.1, (m1.trans q.2).but r⟩
 | true =>
  rw [hc] at hy
  refine wc_no (by simp +decide only [EL, reduceIte, hc, Bool.not_true]) ?_
  refine zAl ?_
  refine zAd (zAb fun Q1 hQ => ?_)
  simp (disch := omega) only [EL, ↓K3, ↓K1, reduceIte, Nat.reduceEqDiff, Nat.reduceAdd, Nat.reduceLeDiff, i0]
  refine (zCg H R1 (is_lt hc)).to fun v h2 q => ?_
  obtain ⟨rfl, R2, b2⟩ := q
  have f2 : ∀ h', zB6 2 1 false (.c (tokV (now ts en i))) .leaf [] h' = .val (.int .i64 ((now ts en i).pos : Int)) h' := fun _ => rfl
  simp (disch := omega) only [EL, ↓K3, ↓K1, reduceIte, Nat.reduceEqDiff, Nat.reduceAdd, Nat.reduceLeDiff, i0, f2]
  refine hQ _ ?_
  refine zAj ?_
  simp (disch := omega) only [EL, ↓K3, ↓K1, reduceIte, Nat.reduceEqDiff, Nat.reduceAdd, Nat.reduceLeDiff]
  exact ⟨_, _, hy.symm, by omega, R2, (m1.but r).trans b2, rfl⟩
include H in
theorem zG4 (R : RS ts en h r i d) : GS tab 98 [.ptr r 0] ts en r i d h (wordS ts en i d) fun t v _ => v = tokV t ∧ t.text.length ≤ 1000000 := by
 intro y hy hne
 have i0 : zAg [.ptr r 0] = zAc [.ptr r 0] := rfl
 refine ge_of H.t98 rfl ?_
 refine zBi fun h1 n1 g1 m1 => ?_
 have R1 := R.more m1
 refine zAd ?_
 refine zAd (zAb fun Q1 hQ => ?_)
 simp (disch := omega) only [EL, ↓K3, ↓K1, reduceIte, Nat.reduceEqDiff, Nat.reduceAdd, Nat.reduceLeDiff, i0]
 refine (zHm H R1).to fun v h2 q => ?_
 obtain ⟨rfl, m2⟩ := q
 have f0 : ∀ h', zB6 0 1 false (.c (tokV (now ts en i))) .leaf [] h' = .val (.int .i64 ((now ts en i).kind : Int)) h' := fun _ => rfl
 simp (disch := omega) only [EL, ↓K3, ↓K1, reduceIte, Nat.reduceEqDiff, Nat.reduceAdd, Nat.reduceLeDiff, i0, f0]
 refine hQ _ ?_
 clear hQ Q1
 simp only [zAa]
 have R2 := R1.more m2
 have g2 := (m2.keep h.next (by omega)).trans g1
 unfold wordS at hy
 by_cases hk : (now ts en i).kind = 1
 ·rw [if_pos hk] at hy
  have hi : i < ts.length := by
   rcases Nat.lt_or_ge i ts.length with h | h
   ·exact h
   ·rw [zCd (by omega)] at hk; cases hk
  refine wc_no (by simp +decide only [EL, reduceIte, hk, Bool.not_true]) ?_
  refine zAl ?_
  refine zAd (zAb fun Q1 hQ => ?_)
  simp (disch := omega) only [EL, ↓K3, ↓K1, reduceIte, Nat.reduceEqDiff, Nat.reduceAdd, Nat.reduceLeDiff, i0]
  refine (zCg H R2 hi).to fun v h3 q => ?_
  obtain ⟨rfl, R3, b3⟩ := q
  have g3 := (b3.keep h.next (by have := m2.next; omega) (by have := R.lt; omega)).trans g2
  have e0 : (AV.str 0 0) = sv [] := rfl
  simp (disch := omega) only [EL, ↓K3, ↓K1, reduceIte, Nat.reduceEqDiff, Nat.reduceAdd, Nat.reduceLeDiff, i0, g3, e0]
  refine hQ _ ?_
  refine zAj ?_
  try simp only [zAh, zAf]
  refine zA6 (id := h.next) (by simp +decide only [EL, reduceIte]) AH.get_set (lst := [.int .i64 ((now ts en i).kind : Int), sv (now ts en i).text, .int .i64 ((now ts en i).pos : Int)]) (by simp +decide only [EL, reduceIte, zAe, e0]) ?_
  exact ⟨_, _, hy.symm, by omega, R3.seto R.lt _, (((m1.trans m2).but r).trans b3).seto (Nat.le_refl _) _, rfl, R.txt i⟩
 ·rw [if_neg hk] at hy
  have hk' : ¬ ((now ts en i).kind : Int) = ((1 : Nat) : Int) := by omega
  refine zAq (by simp +decide only [EL, reduceIte, hk', hk, Bool.not_false]) ?_
  refine zAb fun Q1 hQ => ?_
  simp (disch := omega) only [EL, ↓K3, ↓K1, reduceIte, Nat.reduceEqDiff, Nat.reduceAdd, Nat.reduceLeDiff, i0]
  refine (zEt H R2).mono (fun v h2 q => q.elim) fun v h3 q => ?_
  refine hQ _ ?_
  exact ⟨_, _, hy.symm, q.1, ((m1.trans m2).trans q.2).but r⟩
end
end Go.Ev
namespace Go.Ev
open Go Go.Pa
structure Only (k : Nat) (h h' : AH) : Prop where
 next : h'.next = h.next
 keep : ∀ j, j ≠ k → h'.mem.get j = h.mem.get j
theorem Only.set {h : AH} {k : Nat} {o : AObj} : Only k h (h.set k o) := ⟨by rw [AH.set_next], fun j hj => by rw [AH.set_mem, T.get_put_ne _ _ _ _ (Ne.symm hj)]⟩
theorem Only.stay {F : Nat → Prop} {h h' : AH} {k : Nat} (x : Only k h h') (hk : ¬ F k) : Stay F h h' := ⟨Nat.le_of_eq x.next.symm, fun j hj _ => x.keep j fun e => hk (e ▸ hj)⟩
theorem Only.rs {ts : List Tok} {en r i d k : Nat} {h h' : AH} (x : Only k h h') (R : RS ts en h r i d) (hk : r < k) : RS ts en h' r i d := R.keep (Nat.le_of_eq x.next.symm) fun j hj => x.keep j (by omega)
theorem Only.mb {r k : Nat} {a h h' : AH} (x : Only k h h') (b : MoreBut r a h) (hk : a.next ≤ k) : MoreBut r a h' := ⟨by rw [x.next]; exact b.next, fun j h1 h2 => by rw [x.keep j (by omega), b.keep j h1 h2]⟩
theorem MoreBut.stay {F : Nat → Prop} {r : Nat} {h h' : AH} (x : MoreBut r h h') (hr : ¬ F r) : Stay F h h' := ⟨x.next, fun k hf hk => x.keep k hk fun e => hr (e ▸ hf)⟩
theorem More.stay {F : Nat → Prop} {h h' : AH} (x : More h h') : Stay F h h' := ⟨x.next, fun k _ hk => x.keep k hk⟩
theorem zAt {α β : Type} {a : α} {i d : Nat} {k : α → Nat → Nat → PR β} : (PR.ok a i d).bind k = k a i d := rfl
theorem zEp {α β γ : Type} {x : PR α} {f : α → Nat → Nat → PR β} {g : β → Nat → Nat → PR γ} : (x.bind f).bind g = x.bind fun a i d => (f a i d).bind g := by cases x <;> rfl
abbrev okT (t : Tree) (lo : Nat) (v : AV) (h1 : AH) : Prop := ∃ u, v = .agg [u] ∧ TreeR h1 (fun k => lo ≤ k) u t
section
variable {tab : Nat → Option AFunc} {h : AH} {loc : T AV} {d : List AV} {Q : Res → Prop}
theorem zCu {n K b rc sb src : Nat} {u w : AV} {cb crc : T AV} {pb : Option Nat} {rb : Bool} {Qf E : AV → AH → Prop} (hn : loc.get n = some (.ptr b 0)) (hb : h.mem.get b = some (.cells cb sb pb rb)) (hu : cb.get 0 = some u)
  (hK : loc.get K = some (.ptr rc 0)) (hr : h.mem.get rc = some (.cells crc src none false)) (hw : crc.get 0 = some w) (q : ∀ h', Only rc h h' → Qf (.agg [u]) h') :
  WC tab (.seq (.ops [⟨.loadN 1 (.l n), none, none, []⟩, ⟨.store 1 (.l K) (.t 0), none, none, []⟩]) .ret) loc [] h (zDv [.cellN 1 (.l K)] Qf E) := by
 refine zAd (zAb fun Q1 hQ => ?_)
 simp (disch := omega) only [EL, ↓K3, ↓K1, reduceIte, Nat.reduceEqDiff, Nat.reduceAdd, Nat.reduceLeDiff, hn, hb, hu, hK, hr, hw, zAe]
 refine hQ _ ?_
 clear hQ Q1
 refine zAj ?_
 refine zA6 (id := rc) hK AH.get_set (lst := [u]) (by rw [zAe, T.get_put_self]; rfl) (q _ Only.set)
theorem zI1 {n K b rc sb src : Nat} {u w : AV} {cb crc : T AV} {pb : Option Nat} {rb : Bool} (hn : loc.get n = some (.ptr b 0)) (hb : h.mem.get b = some (.cells cb sb pb rb)) (hu : cb.get 0 = some u)
  (hK : loc.get K = some (.ptr rc 0)) (hr : h.mem.get rc = some (.cells crc src none false)) (hw : crc.get 0 = some w) (q : ∀ h', Only rc h h' → (∀ Qf E, Qf (.agg [u]) h' → zDv [.cellN 1 (.l K)] Qf E (.ret loc [] h')) → Q (.ret loc d h')) :
  WC tab (.seq (.ops [⟨.loadN 1 (.l n), none, none, []⟩, ⟨.store 1 (.l K) (.t 0), none, none, []⟩]) .ret) loc d h Q := by
 refine zAd (zAb fun Q1 hQ => ?_)
 simp (disch := omega) only [EL, ↓K3, ↓K1, reduceIte, Nat.reduceEqDiff, Nat.reduceAdd, Nat.reduceLeDiff, hn, hb, hu, hK, hr, hw, zAe]
 refine hQ _ ?_
 clear hQ Q1
 refine zAj ?_
 refine q _ Only.set fun Qf E hq => zA6 (id := rc) hK AH.get_set (lst := [u]) (by rw [zAe, T.get_put_self]; rfl) hq
theorem zFy {K rc src : Nat} {u w : AV} {crc : T AV} {Q1 : Res → Prop} {whole : List AOper} {tmp : List AV} {loc0 : T AV} (hK : loc.get K = some (.ptr rc 0)) (hr : h.mem.get rc = some (.cells crc src none false)) (hw : crc.get 0 = some w)
  (q : ∀ h', Only rc h h' → (∃ c, h'.mem.get rc = some (.cells c src none false) ∧ c.get 0 = some u) → Q1 (.norm loc d h')) :
  PE tab whole loc0 [⟨.store 1 (.l K) (.t 0), none, none, []⟩] loc (.agg [u] :: tmp) d h Q1 := by
 simp (disch := omega) only [EL, ↓K3, ↓K1, reduceIte, Nat.reduceEqDiff, Nat.reduceAdd, Nat.reduceLeDiff, hK, hr, hw]
 exact q _ Only.set ⟨_, AH.get_set, T.get_put_self _ _ _⟩
theorem zJt {K rc src : Nat} {u : AV} {c : T AV} {pb : Option Nat} {rb : Bool} {Qf E : AV → AH → Prop} (hK : loc.get K = some (.ptr rc 0)) (hr : h.mem.get rc = some (.cells c src pb rb)) (hu : c.get 0 = some u) (q : Qf (.agg [u]) h) :
  WC tab .ret loc [] h (zDv [.cellN 1 (.l K)] Qf E) := by
 refine zAj (zA6 (id := rc) hK hr (lst := [u]) ?_ q)
 rw [zAe, hu]; rfl
end
section
variable {tab : Nat → Option AFunc} {h : AH} (H : PT tab) {ts : List Tok} {en r i d : Nat}
include H in
theorem typ_ge (R : RS ts en h r i d) : GS tab 99 [.ptr r 0] ts en r i d h (typS ts en i d) fun s v _ => v = sv s := by
 intro y hy hne
 have i0 : zAg [.ptr r 0] = zAc [.ptr r 0] := rfl
 have e0 : (AV.str 0 0) = sv [] := rfl
 have e1 : (AV.str 1 42) = sv [42] := rfl
 have e2 : (AV.str 3 7630441) = sv [105, 110, 116] := rfl
 have e3 : (AV.str 4 1819242338) = sv [98, 111, 111, 108] := rfl
 refine ge_of H.t99 rfl ?_
 refine zAd (zAb fun Q1 hQ => ?_)
 simp (disch := omega) only [EL, ↓K3, ↓K1, reduceIte, Nat.reduceEqDiff, Nat.reduceAdd, Nat.reduceLeDiff, i0, e0]
 refine hQ _ ?_
 clear hQ Q1
 refine zAd ?_
 refine zAu ?_
 refine zAd (zAb fun Q1 hQ => ?_)
 simp (disch := omega) only [EL, ↓K3, ↓K1, reduceIte, Nat.reduceEqDiff, Nat.reduceAdd, Nat.reduceLeDiff, i0, e1]
 refine (zDz H R [42]).to fun v h1 q => ?_
 obtain ⟨rfl, R1, b1⟩ := q
 simp (disch := omega) only [EL, ↓K3, ↓K1, reduceIte, Nat.reduceEqDiff, Nat.reduceAdd, Nat.reduceLeDiff, i0]
 refine hQ _ ?_
 clear hQ Q1
 simp only [zAa]
 unfold typS at hy
 cases hc : isT ts en [42] i with
 | true =>
  rw [hc, if_pos rfl] at R1
  rw [hc, if_pos rfl] at hy
  refine zAq (by simp +decide only [EL, reduceIte, hc]) ?_
  refine zAd (zAb fun Q1 hQ => ?_)
  simp (disch := omega) only [EL, ↓K3, ↓K1, reduceIte, Nat.reduceEqDiff, Nat.reduceAdd, Nat.reduceLeDiff, i0]
  refine (zG4 H R1 _ rfl (zAz hy hne)).mono (fun v h2 q => ?_) (fun v h2 e => ?_)
  rotate_left
  ·obtain ⟨p, er, hx, rfl, fr'⟩ := e
   rw [hx] at hy
   exact hQ _ ⟨p, er, hy.symm, rfl, MoreBut.trans b1 fr'⟩
  obtain ⟨t, i, hx, lib2, R2, b2, q⟩ := q
  rw [hx, zAt] at hy
  have nb2 := MoreBut.next b2
  obtain ⟨rfl, tb⟩ := q
  have f1 : ∀ h', zB6 1 1 false (.c (tokV t)) .leaf [] h' = .val (sv t.text) h' := fun _ => rfl
  simp (disch := omega) only [EL, ↓K3, ↓K1, reduceIte, Nat.reduceEqDiff, Nat.reduceAdd, Nat.reduceLeDiff, i0, f1]
  have gp : GP tab 119 [sv t.text] h2 fun v h3 => v = sv (42 :: t.text) ∧ h3 = h2 := by
   have j0 : zAg [sv t.text] = zAc [sv t.text] := rfl
   refine GE.gp (ge_of H.t119 rfl ?_) (E := fun _ _ => False) fun _ _ => id
   refine zAd (zAb fun Q1 hQ => ?_)
   simp (disch := omega) only [EL, ↓K3, ↓K1, reduceIte, Nat.reduceEqDiff, Nat.reduceAdd, Nat.reduceLeDiff, j0, e0]
   refine hQ _ ?_
   clear hQ Q1
   have ad : ∀ h', oBin .add (.c (sv [42])) (.c (sv t.text)) .leaf [] h' = .val (sv ([42] ++ t.text)) h' := fun h' => add_sv (by simp; omega)
   refine zAd (zAb fun Q1 hQ => ?_)
   simp (disch := omega) only [EL, ↓K3, ↓K1, reduceIte, Nat.reduceEqDiff, Nat.reduceAdd, Nat.reduceLeDiff, j0, e1, ad]
   refine hQ _ ?_
   clear hQ Q1
   refine zAj ?_
   simp (disch := omega) only [EL, ↓K3, ↓K1, reduceIte, Nat.reduceEqDiff, Nat.reduceAdd, Nat.reduceLeDiff]
  rw [ge_rw gp]
  simp (disch := omega) only [EL, ↓K3, ↓K1, reduceIte, Nat.reduceEqDiff, Nat.reduceAdd, Nat.reduceLeDiff, i0]
  refine hQ _ ?_
  refine zAj ?_
  simp (disch := omega) only [EL, ↓K3, ↓K1, reduceIte, Nat.reduceEqDiff, Nat.reduceAdd, Nat.reduceLeDiff]
  exact ⟨_, _, hy.symm, by omega, R2, b1.trans b2, rfl⟩
 | false =>
  rw [hc, if_neg (by simp)] at R1
  rw [hc, if_neg (by simp)] at hy
  refine wc_no (by simp +decide only [EL, reduceIte, hc]) ?_
  refine zAd (zAb fun Q1 hQ => ?_)
  simp (disch := omega) only [EL, ↓K3, ↓K1, reduceIte, Nat.reduceEqDiff, Nat.reduceAdd, Nat.reduceLeDiff, i0, e2]
  refine (is_gp H R1 _).to fun v h2 q => ?_
  obtain ⟨rfl, m2⟩ := q
  have R2 := R1.more m2
  have b2 := b1.trans (m2.but r)
  cases h3 : isT ts en [105, 110, 116] i with
  | true =>
   rw [h3, Bool.true_or, if_pos rfl] at hy
   simp (disch := omega) only [EL, ↓K3, ↓K1, reduceIte, Nat.reduceEqDiff, Nat.reduceAdd, Nat.reduceLeDiff, i0, h3]
   refine hQ _ ?_
   clear hQ Q1
   simp only [zAa]
   refine zAq (by simp +decide only [EL, reduceIte]) ?_
   refine zAd (zAb fun Q1 hQ => ?_)
   simp (disch := omega) only [EL, ↓K3, ↓K1, reduceIte, Nat.reduceEqDiff, Nat.reduceAdd, Nat.reduceLeDiff, i0]
   refine (zCg H R2 (is_lt h3)).to fun v h4 q => ?_
   obtain ⟨rfl, R4, b4⟩ := q
   have f1 : ∀ h', zB6 1 1 false (.c (tokV (now ts en i))) .leaf [] h' = .val (sv (now ts en i).text) h' := fun _ => rfl
   simp (disch := omega) only [EL, ↓K3, ↓K1, reduceIte, Nat.reduceEqDiff, Nat.reduceAdd, Nat.reduceLeDiff, i0, f1]
   refine hQ _ ?_
   refine zAj ?_
   simp (disch := omega) only [EL, ↓K3, ↓K1, reduceIte, Nat.reduceEqDiff, Nat.reduceAdd, Nat.reduceLeDiff]
   exact ⟨_, _, hy.symm, by omega, R4, b2.trans b4, rfl⟩
  | false =>
   rw [h3, Bool.false_or] at hy
   simp (disch := omega) only [EL, ↓K3, ↓K1, reduceIte, Nat.reduceEqDiff, Nat.reduceAdd, Nat.reduceLeDiff, i0, h3, e3]
   refine (is_gp H R2 _).to fun v h4 q => ?_
   obtain ⟨rfl, m4⟩ := q
   have R4 := R2.more m4
   have b4 := b2.trans (m4.but r)
   simp (disch := omega) only [EL, ↓K3, ↓K1, reduceIte, Nat.reduceEqDiff, Nat.reduceAdd, Nat.reduceLeDiff, i0]
   refine hQ _ ?_
   clear hQ Q1
   simp only [zAa]
   cases h5 : isT ts en [98, 111, 111, 108] i with
   | true =>
    rw [h5, if_pos rfl] at hy
    refine zAq (by simp +decide only [EL, reduceIte, h5]) ?_
    refine zAd (zAb fun Q1 hQ => ?_)
    simp (disch := omega) only [EL, ↓K3, ↓K1, reduceIte, Nat.reduceEqDiff, Nat.reduceAdd, Nat.reduceLeDiff, i0]
    refine (zCg H R4 (is_lt h5)).to fun v h6 q => ?_
    obtain ⟨rfl, R6, b6⟩ := q
    have f1 : ∀ h', zB6 1 1 false (.c (tokV (now ts en i))) .leaf [] h' = .val (sv (now ts en i).text) h' := fun _ => rfl
    simp (disch := omega) only [EL, ↓K3, ↓K1, reduceIte, Nat.reduceEqDiff, Nat.reduceAdd, Nat.reduceLeDiff, i0, f1]
    refine hQ _ ?_
    refine zAj ?_
    simp (disch := omega) only [EL, ↓K3, ↓K1, reduceIte, Nat.reduceEqDiff, Nat.reduceAdd, Nat.reduceLeDiff]
    exact ⟨_, _, hy.symm, by omega, R6, b4.trans b6, rfl⟩
   | false =>
    rw [h5, if_neg (by simp)] at hy
    refine wc_no (by simp +decide only [EL, reduceIte, h5]) ?_
    refine zAl ?_
    simp only [zAi, zAa]
    refine zAd (zAb fun Q1 hQ => ?_)
    simp (disch := omega) only [EL, ↓K3, ↓K1, reduceIte, Nat.reduceEqDiff, Nat.reduceAdd, Nat.reduceLeDiff, i0]
    refine (zEt H R4).mono (fun v h6 q => q.elim) fun v h6 q => ?_
    exact hQ _ ⟨_, _, hy.symm, q.1, b4.trans (q.2.but r)⟩
include H in
theorem zGe {kv : AV} {op : Nat} {t : Tok} (hkv : ∀ h' : AH, oMove (.c kv) .leaf [] h' = .val kv h') (hkc : cellsOf kv = some [kv]) : GP tab 97 [.int .i64 (op : Int), tokV t, kv] h fun v h1 => ∃ id, v = .agg [.ptr id 0] ∧ h.next ≤ id ∧ id < h1.next ∧ NodeC h1 id op t.text [] 0 t.pos kv ∧ More h h1 := by
 have i0 : zAg [.int .i64 (op : Int), tokV t, kv] = zAc [.int .i64 (op : Int), tokV t, kv] := rfl
 have e0 : (AV.str 0 0) = sv [] := rfl
 refine GE.gp (ge_of H.t97 rfl ?_) (E := fun _ _ => False) fun _ _ => id
 refine zC9 (l := [.int .i64 (t.kind : Int), sv t.text, .int .i64 (t.pos : Int)]) rfl fun h1 n1 g1 g2 m1 => ?_
 refine zAd (zAb fun Q1 hQ => ?_)
 simp (disch := omega) only [EL, ↓K3, ↓K1, reduceIte, Nat.reduceEqDiff, Nat.reduceAdd, Nat.reduceLeDiff, i0, g1, g2, e0, hkv, hkc]
 refine hQ _ ?_
 clear hQ Q1
 have n2 : (h.next + 1 = h1.next) = False := eq_false (by omega)
 have a1 : ∀ o, h1.next < (h1.add o).next := fun o => Nat.lt_succ_self _
 refine zAj ?_
 try simp only [zAh, zAf]
 refine zA6 (id := h.next + 1) (by simp +decide only [EL, reduceIte]) AH.get_set (lst := [.ptr h1.next 0]) (by simp +decide only [EL, reduceIte, zAe]) ?_
 refine ⟨_, rfl, by omega, by rw [AH.set_next]; exact a1 _, ⟨_, by rw [AH.set_mem, T.get_put_ne _ _ _ _ (by omega), AH.add_mem, T.get_put_self], rfl, rfl, rfl, rfl, rfl, rfl⟩, (m1.trans (More.add _ _)).set (by omega) _⟩
include H in
theorem zDd {kv : AV} {op pos : Nat} (hkv : ∀ h' : AH, oMove (.c kv) .leaf [] h' = .val kv h') (hkc : cellsOf kv = some [kv]) : GP tab 40 [.int .i64 (op : Int), .int .i64 (pos : Int), kv] h fun v h1 => ∃ id, v = .agg [.ptr id 0] ∧ h.next ≤ id ∧ id < h1.next ∧ NodeC h1 id op [] [] 0 pos kv ∧ More h h1 := by
 have i0 : zAg [.int .i64 (op : Int), .int .i64 (pos : Int), kv] = zAc [.int .i64 (op : Int), .int .i64 (pos : Int), kv] := rfl
 have e0 : (AV.str 0 0) = sv [] := rfl
 refine GE.gp (ge_of H.t40 rfl ?_) (E := fun _ _ => False) fun _ _ => id
 refine zBi fun h1 n1 g2 m1 => ?_
 refine zAd (zAb fun Q1 hQ => ?_)
 simp (disch := omega) only [EL, ↓K3, ↓K1, reduceIte, Nat.reduceEqDiff, Nat.reduceAdd, Nat.reduceLeDiff, i0, g2, e0, hkv, hkc]
 refine hQ _ ?_
 clear hQ Q1
 have n2 : (h.next = h1.next) = False := eq_false (by omega)
 have a1 : ∀ o, h1.next < (h1.add o).next := fun o => Nat.lt_succ_self _
 refine zAj ?_
 try simp only [zAh, zAf]
 refine zA6 (id := h.next) (by simp +decide only [EL, reduceIte]) AH.get_set (lst := [.ptr h1.next 0]) (by simp +decide only [EL, reduceIte, zAe]) ?_
 refine ⟨_, rfl, by omega, by rw [AH.set_next]; exact a1 _, ⟨_, by rw [AH.set_mem, T.get_put_ne _ _ _ _ (by omega), AH.add_mem, T.get_put_self], rfl, rfl, rfl, rfl, rfl, rfl⟩, (m1.trans (More.add _ _)).set (by omega) _⟩
end
end Go.Ev
namespace Go.Ev
open Go Go.Pa
theorem NodeC.set {h : AH} {id op : Nat} {name typ : Str} {n : Int} {pos : Nat} {kv : AV} (x : NodeC h id op name typ n pos kv) : ∃ c, h.mem.get id = some (.cells c 6 none false) ∧ c.get 0 = some (.int .i64 (op : Int)) ∧ c.get 1 = some (sv name) ∧ c.get 2 = some (sv typ) ∧ c.get 3 = some (.int .i64 n) ∧ c.get 4 = some (.int .i64 (pos : Int)) ∧ c.get 5 = some kv ∧
  (∀ ty, NodeC (h.set id (.cells (T.put (some (sv ty)) c 2) 6 none false)) id op name ty n pos kv) ∧ (∀ h' : AH, h'.mem.get id = h.mem.get id → ∀ kv', NodeC (h'.set id (.cells (T.put (some kv') c 5) 6 none false)) id op name typ n pos kv') ∧
  (∀ n', NodeC (h.set id (.cells (T.put (some (.int .i64 n')) c 3) 6 none false)) id op name typ n' pos kv) ∧ (∀ op' : Nat, NodeC (h.set id (.cells (T.put (some (.int .i64 (op' : Int))) c 0) 6 none false)) id op' name typ n pos kv) := by
 obtain ⟨c, g, c0, c1, c2, c3, c4, c5⟩ := x
 refine ⟨c, g, c0, c1, c2, c3, c4, c5, fun ty => ?_, fun h' _ kv' => ?_, fun n' => ?_, fun op' => ?_⟩
 ·exact ⟨_, AH.get_set, by rw [T.get_put_ne _ _ _ _ (by omega)]; exact c0, by rw [T.get_put_ne _ _ _ _ (by omega)]; exact c1, T.get_put_self _ _ _, by rw [T.get_put_ne _ _ _ _ (by omega)]; exact c3, by rw [T.get_put_ne _ _ _ _ (by omega)]; exact c4, by rw [T.get_put_ne _ _ _ _ (by omega)]; exact c5⟩
 ·exact ⟨_, AH.get_set, by rw [T.get_put_ne _ _ _ _ (by omega)]; exact c0, by rw [T.get_put_ne _ _ _ _ (by omega)]; exact c1, by rw [T.get_put_ne _ _ _ _ (by omega)]; exact c2, by rw [T.get_put_ne _ _ _ _ (by omega)]; exact c3, by rw [T.get_put_ne _ _ _ _ (by omega)]; exact c4, T.get_put_self _ _ _⟩
 ·exact ⟨_, AH.get_set, by rw [T.get_put_ne _ _ _ _ (by omega)]; exact c0, by rw [T.get_put_ne _ _ _ _ (by omega)]; exact c1, by rw [T.get_put_ne _ _ _ _ (by omega)]; exact c2, T.get_put_self _ _ _, by rw [T.get_put_ne _ _ _ _ (by omega)]; exact c4, by rw [T.get_put_ne _ _ _ _ (by omega)]; exact c5⟩
 ·exact ⟨_, AH.get_set, T.get_put_self _ _ _, by rw [T.get_put_ne _ _ _ _ (by omega)]; exact c1, by rw [T.get_put_ne _ _ _ _ (by omega)]; exact c2, by rw [T.get_put_ne _ _ _ _ (by omega)]; exact c3, by rw [T.get_put_ne _ _ _ _ (by omega)]; exact c4, by rw [T.get_put_ne _ _ _ _ (by omega)]; exact c5⟩
def BoxN (h : AH) (b id : Nat) : Prop := ∃ c, h.mem.get b = some (.cells c 1 none false) ∧ c.get 0 = some (.ptr id 0)
def Cell1 (h : AH) (b : Nat) : Prop := ∃ c w, h.mem.get b = some (.cells c 1 none false) ∧ c.get 0 = some w
theorem BoxN.keep {h h' : AH} {b id : Nat} (x : BoxN h b id) (e : h'.mem.get b = h.mem.get b) : BoxN h' b id := by obtain ⟨c, g, k⟩ := x; exact ⟨c, by rw [e]; exact g, k⟩
theorem Cell1.keep {h h' : AH} {b : Nat} (x : Cell1 h b) (e : h'.mem.get b = h.mem.get b) : Cell1 h' b := by obtain ⟨c, w, g, k⟩ := x; exact ⟨c, w, by rw [e]; exact g, k⟩
section
variable {tab : Nat → Option AFunc} {h : AH} {loc : T AV} {d : List AV} {Q : Res → Prop}
theorem zF4 {K b id op pos lo r : Nat} {name typ : Str} {n : Int} {kv : AV} {X : List Nat} {ks : List Tree} {A C : AOp} {f : Nat} {args : List AV} {Qc Ec : AV → AH → Prop}
  (hK : loc.get K = some (.ptr b 0)) (hb : BoxN h b id) (hn : NodeC h id op name typ n pos kv) (hk : Kids h lo X kv ks) (hlen : ks.length < 1000000)
  (hlo : lo ≤ h.next) (hX : ∀ k ∈ X, k < h.next) (hiX : id ∈ X) (hbX : b ∈ X) (hrlo : r < lo) (hidr : id ≠ r) (hbr : b ≠ r) (hbi : b ≠ id)
  (hA : ∀ tmp, ∃ v, evOp A loc tmp h = .val v h ∧ evOp C loc (v :: tmp) h = .enter f args)
  (call : GE tab f args h Qc Ec)
  (post : ∀ v h1, Qc v h1 → MoreBut r h h1 ∧ ∃ u t, v = .agg [u] ∧ TreeR h1 (fun k => h.next ≤ k) u t ∧
   ∀ h2 kv', h1.next ≤ h2.next → (∀ k, k < h1.next → (k < lo ∨ k ∈ X) → k ≠ id → h2.mem.get k = h1.mem.get k) → NodeC h2 id op name typ n pos kv' → Kids h2 lo X kv' (ks ++ [t]) → Q (.norm loc d h2))
  (pan : ∀ v h1, Ec v h1 → Q (.pan v loc d h1)) :
  WC tab (.ops [⟨.fieldAddr 0 (.l K), none, none, []⟩, ⟨.load (.t 0), none, none, []⟩, ⟨.fieldAddr 0 (.l K), none, none, []⟩, ⟨.load (.t 0), none, none, []⟩, ⟨.nilCheck (.t 0), none, none, []⟩, ⟨.fieldAddr 5 (.t 0), none, none, []⟩, ⟨.load (.t 0), none, none, []⟩,
   ⟨A, none, none, []⟩, ⟨C, none, none, [⟨.load (.t 2), 1, none⟩, ⟨.load (.t 5), 4, none⟩, ⟨.load (.t 7), 6, none⟩]⟩, ⟨.bslice [.nilp] 1 [⟨0, 1, .t 0⟩], none, none, []⟩, ⟨.append 1 8 (.t 3) (.t 0), none, none, [⟨.load (.t 9), 8, none⟩]⟩,
   ⟨.nilCheck (.t 9), none, none, []⟩, ⟨.fieldAddr 5 (.t 0), none, none, []⟩, ⟨.store 1 (.t 0) (.t 2), none, none, []⟩]) loc d h Q := by
 obtain ⟨cb, gb, cb0⟩ := hb
 have hn0 := hn
 obtain ⟨c, gn, _, _, _, _, _, c5, _⟩ := hn.set
 have idlt := hX id hiX
 have blt := hX b hbX
 refine zAb fun Q1 hQ => ?_
 have kvs : Ev.same kv kv = true := by obtain ⟨cs, a, _⟩ := hk; exact a.same
 obtain ⟨va, hA1, hA2⟩ := hA [kv, .ptr id 5, .ptr id 0, .ptr id 0, .ptr b 0, .ptr id 0, .ptr b 0]
 simp (disch := omega) only [EL, ↓K3, ↓K1, reduceIte, Nat.reduceEqDiff, Nat.reduceAdd, Nat.reduceLeDiff, hK, gb, cb0, gn, c5, hA1, hA2]
 refine call.mono (fun v h1 q => ?_) (fun v h1 e => ?_)
 rotate_left
 ·exact hQ _ (pan v h1 e)
 obtain ⟨fr, u, t, rfl, tr, fin⟩ := post v h1 q
 have gb1 : h1.mem.get b = some (.cells cb 1 none false) := (fr.keep b blt hbr).trans gb
 have gn1 : h1.mem.get id = some (.cells c 6 none false) := (fr.keep id idlt hidr).trans gn
 have n1 := fr.next
 obtain ⟨ui, hu, hul, hul2⟩ := tr.ptr
 subst hu
 have nb : h1.next ≠ b := by omega
 have ni : h1.next ≠ id := by omega
 have hk1 : Kids h1 lo X kv ks := hk.keep (fr.stay fun e => by omega)
 have h2n : (h1.add (.cells (zAc [.ptr ui 0]) 1 none false)).next = h1.next + 1 := rfl
 have h2m : More h1 (h1.add (.cells (zAc [.ptr ui 0]) 1 none false)) := More.add _ _
 have h2g : (h1.add (.cells (zAc [.ptr ui 0]) 1 none false)).mem.get h1.next = some (.cells (zAc [.ptr ui 0]) 1 none false) := by rw [AH.add_mem, T.get_put_self]
 have hs : ∀ k, zBz 1 (.sl h1.next 0 1 (.known 1)) (h1.add (.cells (zAc [.ptr ui 0]) 1 none false)) k = k 1 [.ptr ui 0] := fun k => src_sl (by decide) h2g rfl k
 have kidf : ∀ k, h.next ≤ k → KidF lo X kv k := by
  intro k hk'
  refine ⟨by omega, fun hm => by have := hX k hm; omega, fun l n e => ?_⟩
  obtain ⟨cs, a, _⟩ := hk
  subst e
  cases a with
  | sl a1 a2 a3 => omega
 obtain ⟨kv', h3, ap, k3, n3, keep3⟩ := (hk1.keep h2m.stay).append (TreeR.keep h2m.stay (fun k hk' _ => kidf k hk') tr) (by omega) (fun k hm => by have := hX k hm; omega) hlen hs
 have gb3 : h3.mem.get b = some (.cells cb 1 none false) := by rw [keep3 b (by omega) (.inr hbX), h2m.keep b (by omega)]; exact gb1
 have gn3 : h3.mem.get id = some (.cells c 6 none false) := by rw [keep3 id (by omega) (.inr hiX), h2m.keep id (by omega)]; exact gn1
 have kvc : cellsOf kv' = some [kv'] := by obtain ⟨cs, a, _⟩ := k3; exact a.cells
 simp (disch := omega) only [EL, ↓K3, ↓K1, reduceIte, Nat.reduceEqDiff, Nat.reduceAdd, Nat.reduceLeDiff, zA7, gb1, cb0, gn1, c5, zBj, kvs, ap, gb3, gn3, kvc, zA8]
 refine hQ _ (fin _ kv' ?_ (fun k hk' hc hne => ?_) ?_ ?_)
 ·rw [AH.set_next]; omega
 ·rw [AH.set_mem, T.get_put_ne _ _ _ _ (Ne.symm hne), keep3 k (by omega) hc, h2m.keep k hk']
 ·exact (hn0.keep (h' := h3) (by rw [gn3, gn])).set.elim fun c' h => by
   have e := h.1
   rw [gn3] at e
   injection e with e; injection e with e; subst e
   exact h.2.2.2.2.2.2.2.2.1 h3 rfl kv'
 ·refine k3.keep ⟨by rw [AH.set_next]; exact Nat.le_refl _, fun k hf hk' => ?_⟩
  rw [AH.set_mem, T.get_put_ne _ _ _ _ (fun e => hf.2 (by rw [← e]; exact hiX))]
end
end Go.Ev
namespace Go.Ev
open Go Go.Pa
section
variable {tab : Nat → Option AFunc} {h : AH} (H : PT tab) {ts : List Tok} {en r i d : Nat}
include H in
theorem part_ge (R : RS ts en h r i d) (op : Nat) : GS tab 74 [.ptr r 0, .int .i64 (op : Int)] ts en r i d h (partS ts en op i d) fun t v h1 => okT t h.next v h1 := by
 intro y hy hne
 have i0 : zAg [.ptr r 0, .int .i64 (op : Int)] = zAc [.ptr r 0, .int .i64 (op : Int)] := rfl
 have hr := R.lt
 refine ge_of H.t74 rfl ?_
 refine zBi fun h1 n1 g1 m1 => ?_
 have R1 := R.more m1
 unfold partS at hy
 refine zAd (zAb fun Q1 hQ => ?_)
 simp (disch := omega) only [EL, ↓K3, ↓K1, reduceIte, Nat.reduceEqDiff, Nat.reduceAdd, Nat.reduceLeDiff, i0]
 refine (zG4 H R1 _ rfl (zAz hy hne)).mono (fun v h2 q => ?_) (fun v h2 e => ?_)
 rotate_left
 ·obtain ⟨p, er, hx, rfl, fr'⟩ := e
  rw [hx] at hy
  exact hQ _ ⟨p, er, hy.symm, rfl, MoreBut.trans (m1.but r) fr'⟩
 obtain ⟨t, i, hx, lib2, R2, b2, q⟩ := q
 rw [hx, zAt] at hy
 have nb2 := MoreBut.next b2
 obtain ⟨rfl, tb⟩ := q
 have c2 := (m1.but r).trans b2
 have rc2 := (b2.keep h.next (by omega) (by omega)).trans g1
 simp (disch := omega) only [EL, ↓K3, ↓K1, reduceIte, Nat.reduceEqDiff, Nat.reduceAdd, Nat.reduceLeDiff, i0]
 refine (zGe H (fun _ => rfl) rfl).to fun v h3 q => ?_
 obtain ⟨id, rfl, i1, i2, nc, m3⟩ := q
 simp (disch := omega) only [EL, ↓K3, ↓K1, reduceIte, Nat.reduceEqDiff, Nat.reduceAdd, Nat.reduceLeDiff, i0]
 refine hQ _ ?_
 clear hQ Q1
 refine zBs fun h4 n4 g4 m4 => ?_
 obtain ⟨cb, gb, cb0⟩ := g4
 simp only [zAa]
 have m24 := m3.trans m4
 have R4 := R2.more m24
 have b4 := c2.trans (m24.but r)
 have nc4 := nc.keep (m4.keep id i2)
 have n3 := m3.next
 obtain ⟨c, gn, _⟩ := nc4.set
 refine zAd (zAb fun Q1 hQ => ?_)
 simp (disch := omega) only [EL, ↓K3, ↓K1, reduceIte, Nat.reduceEqDiff, Nat.reduceAdd, Nat.reduceLeDiff, i0, gb, cb0]
 refine (typ_ge H R4 _ rfl (zAz hy hne)).mono (fun v h5 q => ?_) (fun v h5 e => ?_)
 rotate_left
 ·obtain ⟨p, er, hx, rfl, fr'⟩ := e
  rw [hx] at hy
  exact hQ _ ⟨p, er, hy.symm, rfl, MoreBut.trans b4 fr'⟩
 obtain ⟨ty, i, hx, lib5, R5, b5, q⟩ := q
 rw [hx, zAt] at hy
 have nb5 := MoreBut.next b5
 subst q
 have gb5 := (b5.keep h3.next (by omega) (by omega)).trans gb
 have gn5 := (b5.keep id (by omega) (by omega)).trans gn
 have rc5 := (b5.keep h.next (by omega) (by omega)).trans ((m24.keep h.next (by omega)).trans rc2)
 have nc5 := nc4.keep (b5.keep id (by omega) (by omega))
 have w5 := nc5.set
 obtain ⟨c', gn', c0, c1, c2', c3, c4, c5, ncT, _⟩ := w5
 simp (disch := omega) only [EL, ↓K3, ↓K1, reduceIte, Nat.reduceEqDiff, Nat.reduceAdd, Nat.reduceLeDiff, i0, zA7, zA8, gb5, cb0, gn', c2', zBj]
 refine hQ _ ?_
 clear hQ Q1
 simp only [zAa]
 have o6 : Only id h5 (h5.set id (.cells (T.put (some (sv ty)) c' 2) 6 none false)) := Only.set
 have nc6 := ncT ty
 generalize (h5.set id (.cells (T.put (some (sv ty)) c' 2) 6 none false)) = h6 at *
 have n6 := o6.next
 refine zCu (b := h3.next) (rc := h.next) (by simp +decide only [EL, reduceIte]) (by rw [o6.keep _ (by omega)]; exact gb5) cb0 (by simp +decide only [EL, reduceIte]) (by rw [o6.keep _ (by omega)]; exact rc5) (by rw [zAk]; rfl) fun h7 o7 => ?_
 refine ⟨_, _, hy.symm, by omega, o7.rs (o6.rs R5 (by omega)) (by omega), o7.mb (o6.mb (b4.trans b5) (by omega)) (Nat.le_refl _), _, rfl, ?_⟩
 exact Kids.tree (lo := h.next) (X := []) Kids.nils (nc6.keep (o7.keep _ (by omega))) (by show h.next ≤ id; omega) (by rw [o7.next]; omega) fun k hk => hk
include H in
theorem zHz {F : Nat} {caps : List AV} {k : Nat → Nat → PR Tree} (R : RS ts en h r i d) (hd : d ≤ 40)
  (hk : d + 1 ≤ 40 → ∀ h', RS ts en h' r i (d + 1) → MoreBut r h h' → GS tab F caps ts en r i (d + 1) h' (k i (d + 1)) fun t v h1 => okT t h'.next v h1) :
  GS tab 120 [.ptr r 0, .fn F [] caps] ts en r i d h (zCn ts en i d k) fun t v h1 => okT t h.next v h1 := by
 intro y hy hne
 have i0 : zAg [.ptr r 0, .fn F [] caps] = zAc [.ptr r 0, .fn F [] caps] := rfl
 have hr := R.lt
 refine ge_of H.t120 rfl ?_
 refine zBi fun h1 n1 g1 m1 => ?_
 have R1 := R.more m1
 unfold zCn at hy
 obtain ⟨_, _, _, _, _, _, c, tl, c0, c1, c2, c3, c4, _⟩ := id R1
 refine zAd (zAb fun Q1 hQ => ?_)
 simp (disch := omega) only [EL, ↓K3, ↓K1, reduceIte, Nat.reduceEqDiff, Nat.reduceAdd, Nat.reduceLeDiff, i0, c0, c4]
 refine hQ _ ?_
 clear hQ Q1
 by_cases hdd : 40 < d + 1
 ·rw [if_pos hdd] at hy
  have q2 : ∀ z, (h1.set r z).mem.get r = some z := fun z => AH.get_set
  have R2 := R1.putD (d' := d + 1) c0
  have b2 : MoreBut r h (h1.set r (.cells (T.put (some (.int .i64 ((d + 1 : Nat) : Int))) c 3) 4 none false)) := (m1.but r).set _
  have g2 : (h1.set r (.cells (T.put (some (.int .i64 ((d + 1 : Nat) : Int))) c 3) 4 none false)).mem.get r = some (.cells (T.put (some (.int .i64 ((d + 1 : Nat) : Int))) c 3) 4 none false) := AH.get_set
  generalize (h1.set r (.cells (T.put (some (.int .i64 ((d + 1 : Nat) : Int))) c 3) 4 none false)) = h2 at *
  refine zAd ?_
  refine zAd (zAb fun Q1 hQ => ?_)
  simp (disch := omega) only [EL, ↓K3, ↓K1, reduceIte, Nat.reduceEqDiff, Nat.reduceAdd, Nat.reduceLeDiff, i0, g2]
  refine hQ _ ?_
  clear hQ Q1
  refine zAq (by simp +decide only [EL, reduceIte, hdd]) ?_
  refine zAb fun Q1 hQ => ?_
  simp (disch := omega) only [EL, ↓K3, ↓K1, reduceIte, Nat.reduceEqDiff, Nat.reduceAdd, Nat.reduceLeDiff, i0]
  refine (zHm H R2).to fun v h3 q => ?_
  obtain ⟨rfl, m3⟩ := q
  have f2 : ∀ h', zB6 2 1 false (.c (tokV (now ts en i))) .leaf [] h' = .val (.int .i64 ((now ts en i).pos : Int)) h' := fun _ => rfl
  simp (disch := omega) only [EL, ↓K3, ↓K1, reduceIte, Nat.reduceEqDiff, Nat.reduceAdd, Nat.reduceLeDiff, i0, f2]
  exact hQ _ ⟨_, _, hy.symm, rfl, b2.trans (m3.but r)⟩
 ·rw [if_neg hdd] at hy
  have R2 := R1.putD (d' := d + 1) c0
  have b2 : MoreBut r h (h1.set r (.cells (T.put (some (.int .i64 ((d + 1 : Nat) : Int))) c 3) 4 none false)) := (m1.but r).set _
  have g2 : (h1.set r (.cells (T.put (some (.int .i64 ((d + 1 : Nat) : Int))) c 3) 4 none false)).mem.get r = some (.cells (T.put (some (.int .i64 ((d + 1 : Nat) : Int))) c 3) 4 none false) := AH.get_set
  have rc2 : (h1.set r (.cells (T.put (some (.int .i64 ((d + 1 : Nat) : Int))) c 3) 4 none false)).mem.get h.next = some (.cells (zAc [.nilp]) (llen [.nilp]) none false) := by rw [AH.set_mem, T.get_put_ne _ _ _ _ (by omega)]; exact g1
  have n2 : (h1.set r (.cells (T.put (some (.int .i64 ((d + 1 : Nat) : Int))) c 3) 4 none false)).next = h1.next := AH.set_next
  generalize (h1.set r (.cells (T.put (some (.int .i64 ((d + 1 : Nat) : Int))) c 3) 4 none false)) = h2 at *
  refine zAd ?_
  refine zAd (zAb fun Q1 hQ => ?_)
  simp (disch := omega) only [EL, ↓K3, ↓K1, reduceIte, Nat.reduceEqDiff, Nat.reduceAdd, Nat.reduceLeDiff, i0, g2]
  refine hQ _ ?_
  clear hQ Q1
  refine wc_no (by simp +decide only [EL, reduceIte, hdd]) ?_
  refine zAl ?_
  refine zAd (zAb fun Q1 hQ => ?_)
  simp (disch := omega) only [EL, ↓K3, ↓K1, reduceIte, Nat.reduceEqDiff, Nat.reduceAdd, Nat.reduceLeDiff, i0]
  refine (hk (by omega) h2 R2 b2 _ rfl (zAz hy hne)).mono (fun v h3 q => ?_) (fun v h3 e => ?_)
  rotate_left
  ·obtain ⟨p, er, hx, rfl, fr'⟩ := e
   rw [hx] at hy
   exact hQ _ ⟨p, er, hy.symm, rfl, MoreBut.trans b2 fr'⟩
  obtain ⟨t, i, hx, lib3, R3, b3, q⟩ := q
  rw [hx, zAt] at hy
  have nb3 := MoreBut.next b3
  obtain ⟨u, rfl, tr⟩ := q
  rw [show d + 1 - 1 = d by omega] at hy
  have rc3 := (b3.keep h.next (by omega) (by omega)).trans rc2
  simp (disch := omega) only [EL, ↓K3, ↓K1, reduceIte, Nat.reduceEqDiff, Nat.reduceAdd, Nat.reduceLeDiff, i0]
  refine hQ _ ?_
  clear hQ Q1
  refine zBs fun h4 n4 g4 m4 => ?_
  obtain ⟨cb, gb, cb0⟩ := g4
  simp only [zAa]
  have R4 := R3.more m4
  have b4 := (b2.trans b3).trans (m4.but r)
  have tr4 := TreeR.keep m4.stay (fun _ h _ => h) tr
  have rc4 := (m4.keep h.next (by omega)).trans rc3
  obtain ⟨_, _, _, _, _, _, c', tl', d0, d1, d2, d3, d4, _⟩ := id R4
  have w4 : IntKind.i64.wrap (((d + 1 : Nat) : Int) - ((1 : Nat) : Int)) = ((d : Nat) : Int) := by rw [zIq (by omega) (by omega)]; rfl
  refine zAd (zAb fun Q1 hQ => ?_)
  simp (disch := omega) only [EL, ↓K3, ↓K1, reduceIte, Nat.reduceEqDiff, Nat.reduceAdd, Nat.reduceLeDiff, i0, d0, d4, w4]
  refine hQ _ ?_
  clear hQ Q1
  have R5 := R4.putD (d' := d) d0
  have o5 : Only r h4 (h4.set r (.cells (T.put (some (.int .i64 ((d : Nat) : Int))) c' 3) 4 none false)) := Only.set
  have b5 : MoreBut r h (h4.set r (.cells (T.put (some (.int .i64 ((d : Nat) : Int))) c' 3) 4 none false)) := b4.set _
  generalize (h4.set r (.cells (T.put (some (.int .i64 ((d : Nat) : Int))) c' 3) 4 none false)) = h5 at *
  have n5 := o5.next
  refine zCu (b := h3.next) (rc := h.next) (by simp +decide only [EL, reduceIte]) (by rw [o5.keep _ (by omega)]; exact gb) cb0 (by simp +decide only [EL, reduceIte]) (by rw [o5.keep _ (by omega)]; exact rc4) (by rw [zAk]; rfl) fun h6 o6 => ?_
  refine ⟨_, _, hy.symm, by omega, o6.rs R5 (by omega), o6.mb b5 (Nat.le_refl _), _, rfl, ?_⟩
  refine TreeR.keep ((o5.stay (F := fun k => h2.next ≤ k) (by omega)).trans (o6.stay (by omega))) (fun k hk _ => ?_) tr4
  show h.next ≤ k
  omega
end
end Go.Ev
namespace Go.Ev
open Go Go.Pa
section
variable {tab : Nat → Option AFunc} {h : AH} (H : PT tab) {ts : List Tok} {en r i d : Nat}
include H in
theorem struct_ge (R : RS ts en h r i d) (fuel : Nat) : GS tab 71 [.ptr r 0] ts en r i d h (zD1 ts en fuel i d) fun t v h1 => okT t h.next v h1 := by
 intro y hy hne
 have i0 : zAg [.ptr r 0] = zAc [.ptr r 0] := rfl
 have hr := R.lt
 obtain ⟨z, hz⟩ : ∃ z, z = i := ⟨_, rfl⟩
 have e1 : (AV.str 6 127970521019507) = sv [115, 116, 114, 117, 99, 116] := rfl
 have e2 : (AV.str 1 123) = sv [123] := rfl
 have e3 : (AV.str 1 125) = sv [125] := rfl
 have e4 : (AV.str 1 59) = sv [59] := rfl
 refine ge_of H.t71 rfl ?_
 refine zBi fun h1 n1 g1 m1 => ?_
 have R1 := R.more m1
 unfold zD1 at hy
 refine zAd (zAb fun Q1 hQ => ?_)
 simp (disch := omega) only [EL, ↓K3, ↓K1, reduceIte, Nat.reduceEqDiff, Nat.reduceAdd, Nat.reduceLeDiff, i0]
 refine (zG4 H R1 _ rfl (zAz hy hne)).mono (fun v h2 q => ?_) (fun v h2 e => ?_)
 rotate_left
 ·obtain ⟨p, er, hx, rfl, fr'⟩ := e
  rw [hx] at hy
  exact hQ _ ⟨p, er, hy.symm, rfl, MoreBut.trans (m1.but r) fr'⟩
 obtain ⟨t, i, hx, lib2, R2, b2, q⟩ := q
 rw [hx, zAt] at hy
 have nb2 := MoreBut.next b2
 obtain ⟨rfl, tb⟩ := q
 have c2 := (m1.but r).trans b2
 have rc2 := (b2.keep h.next (by omega) (by omega)).trans g1
 simp (disch := omega) only [EL, ↓K3, ↓K1, reduceIte, Nat.reduceEqDiff, Nat.reduceAdd, Nat.reduceLeDiff, i0]
 refine (zGe H (op := 2) (fun _ => rfl) rfl).to fun v h3 q => ?_
 obtain ⟨id, rfl, i1, i2, nc, m3⟩ := q
 simp (disch := omega) only [EL, ↓K3, ↓K1, reduceIte, Nat.reduceEqDiff, Nat.reduceAdd, Nat.reduceLeDiff, i0]
 refine hQ _ ?_
 clear hQ Q1
 refine zBs fun h4 n4 g4 m4 => ?_
 obtain ⟨cb, gb, cb0⟩ := g4
 simp only [zAa]
 have m24 := m3.trans m4
 have n3 := m3.next
 have R4 := R2.more m24
 have b4 := c2.trans (m24.but r)
 have nc4 := nc.keep (m4.keep id i2)
 have rc4 := (m24.keep h.next (by omega)).trans rc2
 refine zAd (zAb fun Q1 hQ => ?_)
 simp (disch := omega) only [EL, ↓K3, ↓K1, reduceIte, Nat.reduceEqDiff, Nat.reduceAdd, Nat.reduceLeDiff, i0, e1]
 refine (zBo H R4 _ _ rfl (zAz hy hne)).mono (fun v h5 q => ?_) (fun v h5 e => ?_)
 rotate_left
 ·obtain ⟨p, er, hx, rfl, fr'⟩ := e
  rw [hx] at hy
  exact hQ _ ⟨p, er, hy.symm, rfl, MoreBut.trans b4 fr'⟩
 obtain ⟨p5, i, hx, lib5, R5, b5, q⟩ := q
 rw [hx, zAt] at hy
 have nb5 := MoreBut.next b5
 simp (disch := omega) only [EL, ↓K3, ↓K1, reduceIte, Nat.reduceEqDiff, Nat.reduceAdd, Nat.reduceLeDiff, i0]
 refine hQ _ ?_
 clear hQ Q1
 simp only [zAa]
 refine zAd (zAb fun Q1 hQ => ?_)
 simp (disch := omega) only [EL, ↓K3, ↓K1, reduceIte, Nat.reduceEqDiff, Nat.reduceAdd, Nat.reduceLeDiff, i0, e2]
 refine (zBo H R5 _ _ rfl (zAz hy hne)).mono (fun v h6 q => ?_) (fun v h6 e => ?_)
 rotate_left
 ·obtain ⟨p, er, hx, rfl, fr'⟩ := e
  rw [hx] at hy
  exact hQ _ ⟨p, er, hy.symm, rfl, MoreBut.trans (b4.trans b5) fr'⟩
 obtain ⟨p6, i, hx, lib6, R6, b6, q⟩ := q
 rw [hx, zAt] at hy
 have nb6 := MoreBut.next b6
 simp (disch := omega) only [EL, ↓K3, ↓K1, reduceIte, Nat.reduceEqDiff, Nat.reduceAdd, Nat.reduceLeDiff, i0]
 refine hQ _ ?_
 clear hQ Q1
 simp only [zAa]
 have b46 := b5.trans b6
 have bx6 : BoxN h6 h3.next id := ⟨cb, (b46.keep h3.next (by omega) (by omega)).trans gb, cb0⟩
 have nc6 := nc4.keep (b46.keep id (by omega) (by omega))
 have rc6 := (b46.keep h.next (by omega) (by omega)).trans rc4
 refine zG0 (fun l d1 h7 => ∃ i ks kv, d1 = [] ∧ l.get 0 = some (.ptr r 0) ∧ l.get 2 = some (.ptr h3.next 0) ∧ l.get 3 = some (.ptr h.next 0) ∧ RS ts en h7 r i d ∧ MoreBut r h h7 ∧ BoxN h7 h3.next id ∧ NodeC h7 id 2 t.text [] 0 t.pos kv ∧ Kids h7 h.next [h.next, h3.next, id] kv ks ∧
  h7.mem.get h.next = some (.cells (zAc [.nilp]) (llen [.nilp]) none false) ∧ y = .ok (.mk 2 t.text [] 0 t.pos ks) i d ∧ h4.next ≤ h7.next ∧ z < i) ?_ ?_
 ·refine zAu ?_
  refine zCc (fun m l d1 h7 => ∃ i ks kv, d1 = [] ∧ l.get 0 = some (.ptr r 0) ∧ l.get 2 = some (.ptr h3.next 0) ∧ l.get 3 = some (.ptr h.next 0) ∧ RS ts en h7 r i d ∧ MoreBut r h h7 ∧ BoxN h7 h3.next id ∧ NodeC h7 id 2 t.text [] 0 t.pos kv ∧ Kids h7 h.next [h.next, h3.next, id] kv ks ∧
   h7.mem.get h.next = some (.cells (zAc [.nilp]) (llen [.nilp]) none false) ∧ h4.next ≤ h7.next ∧ z < i ∧ ks.length ≤ i ∧ (zC3 ts en m i d ks).bind (fun k i d => .ok (.mk 2 t.text [] 0 t.pos k) i d) = y) ?_ fuel ?_
  ·rintro m l d1 h7 ⟨i, ks, kv, rfl, l0, l2, l3, R7, b7, bx7, nc7, k7, rc7, n7, zi, kl, hy⟩
   cases m with
   | zero => exact absurd hy.symm hne
   | succ m =>
    have le7 := R7.le
    have ln := R7.ln
    refine zAd ?_
    refine zAd (zAb fun Q1 hQ => ?_)
    simp (disch := omega) only [EL, ↓K3, ↓K1, reduceIte, Nat.reduceEqDiff, Nat.reduceAdd, Nat.reduceLeDiff, l0, e3]
    refine (zDz H R7 _).to fun v h8 q => ?_
    obtain ⟨rfl, R8, b8⟩ := q
    have n8 := b8.next
    simp (disch := omega) only [EL, ↓K3, ↓K1, reduceIte, Nat.reduceEqDiff, Nat.reduceAdd, Nat.reduceLeDiff, l0]
    refine hQ _ ?_
    clear hQ Q1
    simp only [zAa]
    have rc8 := (b8.keep h.next (by omega) (by omega)).trans rc7
    have bx8 := bx7.keep (b8.keep h3.next (by omega) (by omega))
    have nc8 := nc7.keep (b8.keep id (by omega) (by omega))
    have k8 := k7.keep (b8.stay (F := fun k => h.next ≤ k ∧ k ∉ [h.next, h3.next, id]) (by simp; omega))
    have c8 := b7.trans b8
    unfold zC3 at hy
    cases hc : isT ts en [125] i with
    | true =>
     rw [hc, if_pos rfl] at hy
     rw [hc, if_pos rfl] at R8
     refine wc_no (by simp +decide only [EL, reduceIte, hc, Bool.not_true]) ?_
     refine zC1 ?_
     simp only [zBd, zBa, if_true, zAa]
     exact ⟨_, ks, kv, trivial, by simp +decide only [EL, reduceIte, l0], by simp +decide only [EL, reduceIte, l2], by simp +decide only [EL, reduceIte, l3], R8, c8, bx8, nc8, k8, rc8, hy.symm, by omega, by omega⟩
    | false =>
     rw [hc, if_neg (by simp)] at hy
     simp only [zEp] at hy
     rw [hc, if_neg (by simp)] at R8
     refine zAq (by simp +decide only [EL, reduceIte, hc, Bool.not_false]) ?_
     refine zAl ?_
     simp only [zAa]
     refine zAu ?_
     refine zAd ?_
     refine zF4 (K := 2) (b := h3.next) (id := id) (lo := h.next) (X := [h.next, h3.next, id]) (r := r) (f := 74) (args := [.ptr r 0, .int .i64 ((5 : Nat) : Int)]) (by simp +decide only [EL, reduceIte, l0, l2]) bx8 nc8 k8 (by first | omega | simp) (by omega) (by intro k hk; simp at hk; omega) (by simp) (by simp) (by omega) (by omega) (by omega) (by omega) (fun tmp => ⟨.ptr r 0, by simp +decide only [EL, reduceIte, l0, l2], by simp +decide only [EL, reduceIte, l0, l2]⟩) (part_ge H R8 5 _ rfl (zAz hy hne)) (fun v h9 q => ?_) (fun v h9 e => ?_)
     rotate_left
     ·obtain ⟨p, er, hx, rfl, fr'⟩ := e
      rw [hx] at hy
      exact ⟨p, er, hy.symm, rfl, MoreBut.trans c8 fr'⟩
     obtain ⟨p, i, hx, li9, R9, b9, u, rfl, tr⟩ := q
     rw [hx, zAt] at hy
     have n9 := b9.next
     refine ⟨b9, u, p, rfl, tr, fun h10 kv' n10 keep nc10 k10 => ?_⟩
     have R10 := R9.keep n10 fun k hk => keep k (by have := R9.lt; omega) (.inl (by omega)) (by omega)
     have c10 : MoreBut r _ h10 := ⟨Nat.le_trans (MoreBut.trans c8 b9).next n10, fun k h1 h2 => by rw [keep k (by omega) (.inl (by omega)) (by omega)]; exact (MoreBut.trans c8 b9).keep k h1 h2⟩
     try simp only [zAa, zAi]
     have rc10 := (keep h.next (by omega) (.inr (by simp)) (by omega)).trans ((b9.keep h.next (by omega) (by omega)).trans rc8)
     have bx10 := bx8.keep ((keep h3.next (by omega) (.inr (by simp)) (by omega)).trans (b9.keep h3.next (by omega) (by omega)))
     refine zAb fun Q1 hQ => ?_
     simp (disch := omega) only [EL, ↓K3, ↓K1, reduceIte, Nat.reduceEqDiff, Nat.reduceAdd, Nat.reduceLeDiff, l0, e4]
     refine (zBo H R10 _ _ rfl (zAz hy hne)).mono (fun v h11 q => ?_) (fun v h11 e => ?_)
     rotate_left
     ·obtain ⟨p, er, hx, rfl, fr'⟩ := e
      rw [hx] at hy
      exact hQ _ ⟨p, er, hy.symm, rfl, MoreBut.trans c10 fr'⟩
     obtain ⟨p11, i, hx, lib11, R11, b11, q⟩ := q
     rw [hx, zAt] at hy
     have nb11 := MoreBut.next b11
     simp (disch := omega) only [EL, ↓K3, ↓K1, reduceIte, Nat.reduceEqDiff, Nat.reduceAdd, Nat.reduceLeDiff, l0]
     refine hQ _ ?_
     simp only [zAi, zAa]
     have rc11 := (b11.keep h.next (by omega) (by omega)).trans rc10
     have bx11 := bx10.keep (b11.keep h3.next (by omega) (by omega))
     have nc11 := nc10.keep (b11.keep id (by omega) (by omega))
     have k11 := k10.keep (b11.stay (F := fun k => h.next ≤ k ∧ k ∉ [h.next, h3.next, id]) (by simp; omega))
     exact ⟨m, by omega, _, _, _, trivial, by simp +decide only [EL, reduceIte, l0], by simp +decide only [EL, reduceIte, l2], by simp +decide only [EL, reduceIte, l3], R11, c10.trans b11, bx11, nc11, k11, rc11, by omega, by omega, by simp; omega, hy⟩
  ·exact ⟨_, [], .nils, rfl, by simp +decide only [EL, reduceIte, i0], by simp +decide only [EL, reduceIte, i0], by simp +decide only [EL, reduceIte, i0], R6, b4.trans b46, bx6, nc6, Kids.nils, rc6, by omega, by omega, by simp, hy⟩
 ·rintro l d1 h7 ⟨i, ks, kv, rfl, l0, l2, l3, R7, b7, bx7, nc7, k7, rc7, rfl, n7, zi⟩
  obtain ⟨cx, gx, cx0⟩ := bx7
  refine zCu (b := h3.next) (rc := h.next) l2 gx cx0 l3 rc7 (by rw [zAk]; rfl) fun h8 o8 => ?_
  have k8 := k7.keep (o8.stay (F := fun k => h.next ≤ k ∧ k ∉ [h.next, h3.next, id]) (by simp))
  refine ⟨_, _, rfl, by omega, o8.rs R7 (by omega), o8.mb b7 (Nat.le_refl _), _, rfl, ?_⟩
  exact k8.tree (nc7.keep (o8.keep _ (by omega))) (by show h.next ≤ id; omega) (by rw [o8.next]; omega) fun k hk => hk
end
end Go.Ev
namespace Go.Ev
open Go Go.Pa
def StrA (h : AH) (v : AV) (xs : List Str) : Prop := ∃ id off cap s p ro c, v = .sl id off xs.length cap ∧ h.mem.get id = some (.cells c s p ro) ∧ ∀ i (hi : i < xs.length), c.get (off + i) = some (sv xs[i])
def zGh (xs : List Str) (s : Str) : Int := if s ∈ xs then (xs.idxOf s : Nat) else -1
theorem idxOf_ge {xs : List Str} {s : Str} : ∀ (k : Nat), (∀ i, i < k → (hi : i < xs.length) → xs[i] ≠ s) → ∀ (hk : k < xs.length), xs[k] = s → s ∈ xs ∧ xs.idxOf s = k := by
 intro k h hk e
 have hm : s ∈ xs := e ▸ List.getElem_mem hk
 refine ⟨hm, ?_⟩
 have hlt := List.idxOf_lt_length_of_mem hm
 rcases Nat.lt_trichotomy (xs.idxOf s) k with h1 | h1 | h1
 ·exact absurd (List.getElem_idxOf hlt) (h _ h1 hlt)
 ·exact h1
 ·have := List.not_of_lt_findIdx (xs := xs) (p := (· == s)) h1
  simp [e] at this
section
variable {tab : Nat → Option AFunc} {h : AH} (H : PT tab) {ts : List Tok} {en r i d : Nat}
include H in
theorem zLr {v : AV} {xs : List Str} {s : Str} (a : StrA h v xs) (hl : xs.length < 1000) : GP tab 128 [v, sv s] h fun w h1 => w = .int .i64 (zGh xs s) ∧ h1 = h := by
 obtain ⟨ia, off, cap, sz, p, ro, c, rfl, gc, ga⟩ := a
 have i0 : zAg [.sl ia off xs.length cap, sv s] = zAc [.sl ia off xs.length cap, sv s] := rfl
 refine GE.gp (ge_of H.t128 rfl ?_) (E := fun _ _ => False) fun _ _ => id
 refine zAd (zAb fun Q1 hQ => ?_)
 simp (disch := omega) only [EL, ↓K3, ↓K1, reduceIte, Nat.reduceEqDiff, Nat.reduceAdd, Nat.reduceLeDiff, i0]
 refine hQ _ ?_
 clear hQ Q1
 refine zAd ?_
 refine zAd (zAb fun Q1 hQ => ?_)
 simp (disch := omega) only [EL, ↓K3, ↓K1, reduceIte, Nat.reduceEqDiff, Nat.reduceAdd, Nat.reduceLeDiff, i0]
 refine hQ _ ?_
 clear hQ Q1
 refine zAu ?_
 refine zCc (fun m l d1 h1 => ∃ k, m = xs.length - k ∧ k ≤ xs.length ∧ d1 = [] ∧ h1 = h ∧ l.get 0 = some (.sl ia off xs.length cap) ∧ l.get 1 = some (sv s) ∧ l.get 2 = some (.int .i64 (k : Int)) ∧ l.get 3 = some (.int .i64 (xs.length : Int)) ∧ ∀ i, i < k → (hi : i < xs.length) → xs[i] ≠ s) ?_ (xs.length - 0) ?_
 ·rintro m l d1 h1 ⟨k, rfl, hk, rfl, rfl, l0, l1, l2, l3, hall⟩
  refine zAd (zAb fun Q1 hQ => ?_)
  simp (disch := omega) only [EL, ↓K3, ↓K1, reduceIte, Nat.reduceEqDiff, Nat.reduceAdd, Nat.reduceLeDiff, l2, l3]
  refine hQ _ ?_
  clear hQ Q1
  refine zAd ?_
  refine wc_if (k < xs.length) (by simp +decide only [EL, reduceIte]) (fun hlt => ?_) (fun hge => ?_)
  ·refine zAl ?_
   simp only [zAa]
   refine zAd ?_
   refine zAu ?_
   refine zAd (zAb fun Q1 hQ => ?_)
   simp (disch := omega) only [EL, ↓K3, ↓K1, reduceIte, Nat.reduceEqDiff, Nat.reduceAdd, Nat.reduceLeDiff, l2]
   refine hQ _ ?_
   clear hQ Q1
   have gk := ga k hlt
   refine zAd (zAb fun Q1 hQ => ?_)
   simp (disch := omega) only [EL, ↓K3, ↓K1, reduceIte, Nat.reduceEqDiff, Nat.reduceAdd, Nat.reduceLeDiff, l0, l1, l2, gc, gk, Nat.mul_one]
   refine hQ _ ?_
   clear hQ Q1
   refine wc_if (s = xs[k]) (by simp +decide only [EL, reduceIte]) (fun he => ?_) (fun hne => ?_)
   ·refine zAd (zAb fun Q1 hQ => ?_)
    simp (disch := omega) only [EL, ↓K3, ↓K1, reduceIte, Nat.reduceEqDiff, Nat.reduceAdd, Nat.reduceLeDiff, l2]
    refine hQ _ ?_
    clear hQ Q1
    refine zAj ?_
    try simp only [zAh, zAf]
    obtain ⟨e1, e2⟩ := idxOf_ge k hall hlt he.symm
    simp (disch := omega) only [EL, ↓K3, ↓K1, reduceIte, Nat.reduceEqDiff, Nat.reduceAdd, Nat.reduceLeDiff]
    unfold zGh
    rw [if_pos e1, e2]
   ·refine zAl ?_
    simp only [zAi, zAa]
    refine zAb fun Q1 hQ => ?_
    simp (disch := omega) only [EL, ↓K3, ↓K1, reduceIte, Nat.reduceEqDiff, Nat.reduceAdd, Nat.reduceLeDiff, l2]
    refine hQ _ ?_
    clear hQ Q1
    simp only [zAa]
    refine ⟨xs.length - (k + 1), by omega, k + 1, rfl, hlt, trivial, trivial, by simp +decide only [EL, reduceIte, l0], by simp +decide only [EL, reduceIte, l1], by simp +decide only [EL, reduceIte], by simp +decide only [EL, reduceIte, l3], fun i hi hi' => ?_⟩
    by_cases e : i = k
    ·subst e; exact fun e => hne e.symm
    ·exact hall i (by omega) hi'
  ·refine zC1 ?_
   simp only [zBd, zBa, if_true, zAa]
   refine zAd (zAb fun Q1 hQ => ?_)
   simp (disch := omega) only [EL, ↓K3, ↓K1, reduceIte, Nat.reduceEqDiff, Nat.reduceAdd, Nat.reduceLeDiff]
   refine hQ _ ?_
   clear hQ Q1
   refine zAj ?_
   simp (disch := omega) only [EL, ↓K3, ↓K1, reduceIte, Nat.reduceEqDiff, Nat.reduceAdd, Nat.reduceLeDiff]
   unfold zGh
   rw [if_neg (fun hm => ?_)]
   ·rfl
   ·have hlt := List.idxOf_lt_length_of_mem hm
    exact hall _ (by omega) hlt (List.getElem_idxOf hlt)
 ·exact ⟨0, rfl, Nat.zero_le _, rfl, rfl, by simp +decide only [EL, reduceIte, i0], by simp +decide only [EL, reduceIte, i0], by simp +decide only [EL, reduceIte, i0], by simp +decide only [EL, reduceIte, i0], fun i hi => by omega⟩
def signs19 : List Str := signs ++ [[45], [33]]
include H in
theorem signs_gp : GP tab 110 [] h fun v h1 => v = .sl h.next 0 19 (.known 19) ∧ More h h1 ∧ ∃ c, h1.mem.get h.next = some (.cells c 19 none false) ∧ ∀ i (hi : i < signs19.length), c.get i = some (sv signs19[i]) := by
 have i0 : zAg [] = zAc [] := rfl
 refine GE.gp (ge_of H.t110 rfl ?_) (E := fun _ _ => False) fun _ _ => id
 refine zAd (zAb fun Q1 hQ => ?_)
 simp (disch := omega) only [EL, ↓K3, ↓K1, reduceIte, Nat.reduceEqDiff, Nat.reduceAdd, Nat.reduceLeDiff, i0]
 refine hQ _ ?_
 clear hQ Q1
 refine zAd (zAb fun Q1 hQ => ?_)
 simp (disch := omega) only [EL, ↓K3, ↓K1, reduceIte, Nat.reduceEqDiff, Nat.reduceAdd, Nat.reduceLeDiff, i0]
 refine hQ _ ?_
 clear hQ Q1
 refine zAj ?_
 try simp only [zAh, zAf]
 simp (disch := omega) only [EL, ↓K3, ↓K1, reduceIte, Nat.reduceEqDiff, Nat.reduceAdd, Nat.reduceLeDiff]
 refine ⟨More.add _ _, _, rfl, ?_⟩
 intro i hi
 rw [zAk]
 have e : ([sv [], sv [43], sv [45], sv [42], sv [47], sv [37], sv [38], sv [124], sv [94], sv [60, 60], sv [62, 62], sv [61, 61], sv [33, 61], sv [60], sv [60, 61], sv [62], sv [62, 61], sv [45], sv [33]] : List AV) = signs19.map sv := rfl
 rw [e, List.getElem?_map, List.getElem?_eq_getElem hi]; rfl
end
end Go.Ev
namespace Go.Ev
open Go Go.Pa
section
variable {tab : Nat → Option AFunc} {h : AH} (H : PT tab) {ts : List Tok} {en r i d : Nat}
theorem gp_run {f n : Nat} {af : AFunc} {args : List AV} {v : AV} {h' : AH} (ht : tab f = some af) (e : callFn tab (evC tab n) f args h af = .ret v h') : GP tab f args h fun w h1 => w = v ∧ h1 = h' := by
 refine ⟨v, h', ⟨trivial, n, ?_⟩, rfl, rfl⟩
 show obind (tab f) _ _ = _
 rw [ht]; exact e
include H in
theorem oplevel_gp {op : Nat} (ho : op ≤ 16) : GP tab 169 [.int .i64 (op : Int)] h fun w h1 => w = .int .i64 (opLevel op : Int) ∧ h1 = h := by
 have : ∀ op : Nat, op ≤ 16 → callFn tab (evC tab 60) 169 [.int .i64 (op : Int)] h af169 = .ret (.int .i64 (opLevel op : Int)) h := by
  intro op ho
  match op, ho with
  | 0, _ => rfl | 1, _ => rfl | 2, _ => rfl | 3, _ => rfl | 4, _ => rfl | 5, _ => rfl | 6, _ => rfl | 7, _ => rfl | 8, _ => rfl
  | 9, _ => rfl | 10, _ => rfl | 11, _ => rfl | 12, _ => rfl | 13, _ => rfl | 14, _ => rfl | 15, _ => rfl | 16, _ => rfl | n + 17, h => exact absurd h (by omega)
 exact gp_run H.t169 (this op ho)
theorem signs_len : signs.length = 17 := rfl
theorem binOp_le (s : Str) : sgnOp s ≤ 16 := by
 unfold sgnOp
 split
 ·omega
 ·split
  ·rename_i hm
   have := List.idxOf_lt_length_of_mem hm
   rw [signs_len] at this; omega
  ·omega
include H in
theorem signed2_gp (s : Str) : GP tab 168 [sv s, .int .i64 ((2 : Nat) : Int)] h fun w h1 => w = .tup [.int .i64 (sgnOp s : Int), .bool (decide (0 < sgnOp s))] ∧ More h h1 := by
 have i0 : zAg [sv s, .int .i64 ((2 : Nat) : Int)] = zAc [sv s, .int .i64 ((2 : Nat) : Int)] := rfl
 refine GE.gp (ge_of H.t168 rfl ?_) (E := fun _ _ => False) fun _ _ => id
 refine zAd (zAb fun Q1 hQ => ?_)
 simp (disch := omega) only [EL, ↓K3, ↓K1, reduceIte, Nat.reduceEqDiff, Nat.reduceAdd, Nat.reduceLeDiff, i0]
 refine hQ _ ?_
 clear hQ Q1
 refine zAd (zAb fun Q1 hQ => ?_)
 simp (disch := omega) only [EL, ↓K3, ↓K1, reduceIte, Nat.reduceEqDiff, Nat.reduceAdd, Nat.reduceLeDiff, i0]
 refine (signs_gp H).to fun v h1 q => ?_
 obtain ⟨rfl, m1, c, gc, ga⟩ := q
 simp (disch := omega) only [EL, ↓K3, ↓K1, reduceIte, Nat.reduceEqDiff, Nat.reduceAdd, Nat.reduceLeDiff, i0]
 refine hQ _ ?_
 clear hQ Q1
 simp only [zAa]
 refine zAd ?_
 refine zAu ?_
 have f1 : ¬ ((2 : Nat) : Int) < ((1 : Nat) : Int) := by decide
 have f2 : ¬ ((2 : Nat) : Int) < ((2 : Nat) : Int) := by decide
 by_cases hs : s = []
 ·refine zAd (zAb fun Q1 hQ => ?_)
  simp (disch := omega) only [EL, ↓K3, ↓K1, reduceIte, Nat.reduceEqDiff, Nat.reduceAdd, Nat.reduceLeDiff, i0, hs]
  refine hQ _ ?_
  clear hQ Q1
  refine zAq (by simp +decide only [EL, reduceIte]) ?_
  refine zAd (zAb fun Q1 hQ => ?_)
  simp (disch := omega) only [EL, ↓K3, ↓K1, reduceIte, Nat.reduceEqDiff, Nat.reduceAdd, Nat.reduceLeDiff]
  refine hQ _ ?_
  clear hQ Q1
  refine zAj ?_
  try simp only [zAh, zAf]
  refine ⟨_, zAy (zAy zAm), ?_⟩
  simp (disch := omega) only [EL, ↓K3, ↓K1, reduceIte, Nat.reduceEqDiff, Nat.reduceAdd, Nat.reduceLeDiff, zDq]
  exact ⟨by rw [hs]; rfl, m1⟩
 ·refine zAd (zAb fun Q1 hQ => ?_)
  simp (disch := omega) only [EL, ↓K3, ↓K1, reduceIte, Nat.reduceEqDiff, Nat.reduceAdd, Nat.reduceLeDiff, i0, hs, f1, f2]
  refine hQ _ ?_
  clear hQ Q1
  refine wc_no (by simp +decide only [EL, reduceIte]) ?_
  refine zAd (zAb fun Q1 hQ => ?_)
  simp (disch := omega) only [EL, ↓K3, ↓K1, reduceIte, Nat.reduceEqDiff, Nat.reduceAdd, Nat.reduceLeDiff, i0]
  refine hQ _ ?_
  clear hQ Q1
  refine zAq (by simp +decide only [EL, reduceIte]) ?_
  have s1 : ∀ h', zFn true 1 (.c (.sl h.next 0 19 (.known 19))) none (some (.c (.int .i64 ((17 : Nat) : Int)))) none .leaf [] h' = .val (.sl h.next 0 17 (.known 19)) h' := fun _ => rfl
  have s2 : ∀ loc tmp h', evOp (.sliceV true 1 (.t 0) none (some (.c (.int .i64 ((17 : Nat) : Int)))) none) loc tmp h' = zFn true 1 (.c (ev loc tmp (.t 0))) none (some (.c (.int .i64 ((17 : Nat) : Int)))) none .leaf [] h' := fun _ _ _ => rfl
  refine zAd (zAb fun Q1 hQ => ?_)
  simp (disch := omega) only [EL, ↓K3, ↓K1, reduceIte, Nat.reduceEqDiff, Nat.reduceAdd, Nat.reduceLeDiff, i0, s2, s1]
  have sa : StrA h1 (.sl h.next 0 17 (.known 19)) signs := ⟨h.next, 0, _, _, _, _, c, rfl, gc, fun i hi => by
   rw [Nat.zero_add]
   have := ga i (by rw [signs_len] at hi; show i < 19; omega)
   rw [this]
   congr 1
   unfold signs19
   rw [List.getElem_append_left]⟩
  rw [ge_rw (zLr H sa (by decide))]
  simp (disch := omega) only [EL, ↓K3, ↓K1, reduceIte, Nat.reduceEqDiff, Nat.reduceAdd, Nat.reduceLeDiff, i0]
  refine hQ _ ?_
  clear hQ Q1
  simp only [zAa]
  have hop : (if zGh signs s < ((0 : Nat) : Int) then ((0 : Nat) : Int) else zGh signs s) = (sgnOp s : Int) ∧ decide (((0 : Nat) : Int) < zGh signs s) = decide (0 < sgnOp s) := by
   unfold zGh sgnOp
   rw [if_neg hs]
   by_cases hm : s ∈ signs
   ·rw [if_pos hm, if_pos hm]
    refine ⟨by rw [if_neg (by omega)], by simp⟩
   ·rw [if_neg hm, if_neg hm]
    exact ⟨rfl, rfl⟩
  refine zAd (zAb fun Q1 hQ => ?_)
  simp (disch := omega) only [EL, ↓K3, ↓K1, reduceIte, Nat.reduceEqDiff, Nat.reduceAdd, Nat.reduceLeDiff, hop.1, hop.2]
  refine hQ _ ?_
  clear hQ Q1
  refine zAj ?_
  try simp only [zAh, zAf]
  refine ⟨_, zAy (zAy zAm), ?_⟩
  simp (disch := omega) only [EL, ↓K3, ↓K1, reduceIte, Nat.reduceEqDiff, Nat.reduceAdd, Nat.reduceLeDiff, zDq]
  exact m1
end
end Go.Ev
namespace Go.Ev
open Go Go.Pa
theorem zIg : ∀ (s : Str) (acc : Nat), (∀ c ∈ s, 48 ≤ c.toNat ∧ c.toNat ≤ 57) → Lib.parseUint10 acc s = .range ∨ ∃ v, Lib.parseUint10 acc s = .ok v
 | [], acc, _ => .inr ⟨acc, rfl⟩
 | c :: s, acc, h => by
  unfold Lib.parseUint10
  rw [if_pos (h c (by simp))]
  split
  ·exact .inl rfl
  ·split
   ·exact .inl rfl
   ·exact zIg s _ fun c hc => h c (by simp [hc])
theorem atoi_digs {s : Str} (h : Digs s) : Lib.atoiAll s = .range ∨ ∃ v, Lib.atoiAll s = .ok v := by
 obtain ⟨h0, h1, _⟩ := h
 cases s with
 | nil => exact absurd rfl h0
 | cons c r =>
  have hc := h1 c (by simp)
  have hp : Lib.parseMag (c :: r) = .range ∨ ∃ v, Lib.parseMag (c :: r) = .ok v := by
   unfold Lib.parseMag
   rw [if_neg (by simp)]
   exact zIg _ _ h1
  unfold Lib.atoiAll
  simp only [show ¬ (c.toNat = 43 ∨ c.toNat = 45) by omega, if_false]
  rcases hp with e | ⟨u, e⟩
  ·rw [e]; exact .inl rfl
  ·rw [e]
   simp only
   by_cases a1 : ¬ c.toNat = 45 ∧ 9223372036854775808 ≤ u
   ·rw [if_pos a1]; exact .inl rfl
   ·rw [if_neg a1]
    by_cases a2 : c.toNat = 45 ∧ 9223372036854775808 < u
    ·rw [if_pos a2]; exact .inl rfl
    ·rw [if_neg a2]; exact .inr ⟨_, rfl⟩
def digits10 : Str := [48, 49, 50, 51, 52, 53, 54, 55, 56, 57]
theorem digs_in {c : UInt8} (h1 : 48 ≤ c.toNat) (h2 : c.toNat ≤ 57) : digits10.contains c = true := by
 have : ∀ n : Nat, 48 ≤ n → n ≤ 57 → digits10.contains (UInt8.ofNat n) = true := by
  intro n h1 h2
  have : n = 48 ∨ n = 49 ∨ n = 50 ∨ n = 51 ∨ n = 52 ∨ n = 53 ∨ n = 54 ∨ n = 55 ∨ n = 56 ∨ n = 57 := by omega
  rcases this with rfl | rfl | rfl | rfl | rfl | rfl | rfl | rfl | rfl | rfl <;> decide
 have := this c.toNat h1 h2
 rwa [UInt8.ofNat_toNat] at this
theorem digs_trim {s : Str} (h : Digs s) : zFj s digits10 = true := by
 obtain ⟨_, h1, h2⟩ := h
 simp only [zFj, Bool.and_eq_true, List.all_eq_true, decide_eq_true_eq]
 exact ⟨⟨⟨fun c hc => digs_in (h1 c hc).1 (h1 c hc).2, by decide⟩, h2⟩, by decide⟩
section
variable {tab : Nat → Option AFunc} {h : AH} (H : PT tab) {ts : List Tok} {en r i d : Nat}
theorem nat_gp {f n : Nat} {g : List AV → AH → Option (AV × AH)} {args : List AV} {v : AV} {h' : AH} (ht : tab f = some (natF n g)) (hn : args.length = n) (e : g args h = some (v, h')) : GP tab f args h fun w h1 => w = v ∧ h1 = h' := by
 refine GE.gp (ge_of (n := n) ht hn (zI4 ?_)) (E := fun _ _ => False) fun _ _ hh => hh
 rw [zEx, zBq, zBu]
 have hargs : evs (zAg args) [] (zC6 n 0) = args := by
  show evs (zAc args) [] (zC6 n 0) = args
  rw [zJu n 0 args (by omega), ← hn]; simp
 have hev : evOp (.nat g (zC6 n 0)) (zAg args) [] h = .val v h' := by
  show obind (g (evs (zAg args) [] (zC6 n 0)) h) (F 67) (fun r => Prod.rec (motive := fun _ => OR) (fun v h => OR.val v h) r) = _
  rw [hargs, e]; rfl
 rw [hev, zCi]
 refine ⟨rfl, ?_⟩
 rw [PE_nil]
 refine ⟨_, zAy zAm, ?_⟩
 rw [zLi, evl, zCk, T.get_put_self]
 exact ⟨rfl, rfl⟩
include H in
theorem zIl {a b : Str} : GP tab 89 [sv a, sv b] h fun v h1 => v = .bool (decide (b.isPrefixOf a = true)) ∧ h1 = h := by
 have i0 : zAg [sv a, sv b] = zAc [sv a, sv b] := rfl
 refine GE.gp (ge_of H.t89 rfl ?_) (E := fun _ _ => False) fun _ _ hh => hh
 refine zAd (zAb fun Q1 hQ => ?_)
 simp (disch := omega) only [EL, ↓K3, ↓K1, reduceIte, Nat.reduceEqDiff, Nat.reduceAdd, Nat.reduceLeDiff, i0]
 refine hQ _ ?_
 clear hQ Q1
 have pre : b.isPrefixOf a = true ↔ (b.length ≤ a.length ∧ a.take b.length = b) := by
  rw [List.isPrefixOf_iff_prefix]
  constructor
  ·intro hp; exact ⟨hp.length_le, by obtain ⟨t, rfl⟩ := hp; simp⟩
  ·intro ⟨h1, h2⟩; exact ⟨a.drop b.length, by have := List.take_append_drop b.length a; rwa [h2] at this⟩
 by_cases hl : b.length ≤ a.length
 ·have sl : ∀ h' : AH, zDe (.c (sv a)) none (some (.c (.int .i64 (b.length : Int)))) .leaf [] h' = .val (sv (a.take b.length)) h' := fun h' => zI6 hl
  refine zAd (zAb fun Q1 hQ => ?_)
  simp (disch := omega) only [EL, ↓K3, ↓K1, reduceIte, Nat.reduceEqDiff, Nat.reduceAdd, Nat.reduceLeDiff, i0, hl, sl]
  refine hQ _ ?_
  clear hQ Q1
  refine zAj ?_
  simp (disch := omega) only [EL, ↓K3, ↓K1, reduceIte, Nat.reduceEqDiff, Nat.reduceAdd, Nat.reduceLeDiff]
  congr 1
  rw [decide_eq_decide, pre]
  exact ⟨fun e => ⟨hl, e⟩, fun e => e.2⟩
 ·refine zAd (zAb fun Q1 hQ => ?_)
  simp (disch := omega) only [EL, ↓K3, ↓K1, reduceIte, Nat.reduceEqDiff, Nat.reduceAdd, Nat.reduceLeDiff, i0, hl]
  refine hQ _ ?_
  clear hQ Q1
  refine zAj ?_
  simp (disch := omega) only [EL, ↓K3, ↓K1, reduceIte, Nat.reduceEqDiff, Nat.reduceAdd, Nat.reduceLeDiff]
  congr 1
  symm
  rw [decide_eq_false_iff_not, pre]
  exact fun e => hl e.1
include H in
theorem trimPre_gp {s : Str} (hs : Digs s) : GP tab 116 [sv s, sv [45]] h fun v h1 => v = sv s ∧ h1 = h := by
 have i0 : zAg [sv s, sv [45]] = zAc [sv s, sv [45]] := rfl
 have np : ([45] : Str).isPrefixOf s = false := by
  obtain ⟨h0, h1, _⟩ := hs
  cases s with
  | nil => exact absurd rfl h0
  | cons c r =>
   have hc := h1 c (by simp)
   simp only [List.isPrefixOf, Bool.and_true, beq_eq_false_iff_ne, ne_eq]
   intro e; subst e; simp at hc
 have g : GP tab 129 [sv s, sv [45]] h fun v h1 => v = sv s ∧ h1 = h := by
  refine GE.gp (ge_of H.t129 rfl ?_) (E := fun _ _ => False) fun _ _ hh => hh
  refine zAd (zAb fun Q1 hQ => ?_)
  simp (disch := omega) only [EL, ↓K3, ↓K1, reduceIte, Nat.reduceEqDiff, Nat.reduceAdd, Nat.reduceLeDiff, i0]
  refine hQ _ ?_
  clear hQ Q1
  refine zAd ?_
  refine zAd (zAb fun Q1 hQ => ?_)
  simp (disch := omega) only [EL, ↓K3, ↓K1, reduceIte, Nat.reduceEqDiff, Nat.reduceAdd, Nat.reduceLeDiff, i0]
  rw [ge_rw (zIl H)]
  simp (disch := omega) only [EL, ↓K3, ↓K1, reduceIte, Nat.reduceEqDiff, Nat.reduceAdd, Nat.reduceLeDiff, i0, np]
  refine hQ _ ?_
  simp only [zAa]
  refine wc_no (by simp +decide only [EL, reduceIte]) ?_
  refine zAl ?_
  simp only [zAa]
  refine zAd (zAb fun Q1 hQ => ?_)
  simp (disch := omega) only [EL, ↓K3, ↓K1, reduceIte, Nat.reduceEqDiff, Nat.reduceAdd, Nat.reduceLeDiff, i0]
  refine hQ _ ?_
  clear hQ Q1
  refine zAj ?_
  simp (disch := omega) only [EL, ↓K3, ↓K1, reduceIte, Nat.reduceEqDiff, Nat.reduceAdd, Nat.reduceLeDiff]
 refine GE.gp (ge_of H.t116 rfl ?_) (E := fun _ _ => False) fun _ _ hh => hh
 refine zAd (zAb fun Q1 hQ => ?_)
 simp (disch := omega) only [EL, ↓K3, ↓K1, reduceIte, Nat.reduceEqDiff, Nat.reduceAdd, Nat.reduceLeDiff, i0]
 refine hQ _ ?_
 clear hQ Q1
 refine zAd (zAb fun Q1 hQ => ?_)
 simp (disch := omega) only [EL, ↓K3, ↓K1, reduceIte, Nat.reduceEqDiff, Nat.reduceAdd, Nat.reduceLeDiff, i0]
 rw [ge_rw g]
 simp (disch := omega) only [EL, ↓K3, ↓K1, reduceIte, Nat.reduceEqDiff, Nat.reduceAdd, Nat.reduceLeDiff, i0]
 refine hQ _ ?_
 simp only [zAa]
 refine zAj ?_
 simp (disch := omega) only [EL, ↓K3, ↓K1, reduceIte, Nat.reduceEqDiff, Nat.reduceAdd, Nat.reduceLeDiff]
include H in
theorem isDigits_gp {s : Str} (hs : Digs s) : GP tab 117 [sv s] h fun v h1 => v = .bool (decide (¬ (s.head? = some 48 ∧ s ≠ [48]))) ∧ h1 = h := by
 have i0 : zAg [sv s] = zAc [sv s] := rfl
 have e10 : (AV.str 10 270211885617516653982000) = sv digits10 := rfl
 obtain ⟨c, t, hct⟩ : ∃ c t, s = c :: t := by
  cases s with
  | nil => exact absurd rfl hs.1
  | cons c t => exact ⟨c, t, rfl⟩
 refine GE.gp (ge_of H.t117 rfl ?_) (E := fun _ _ => False) fun _ _ hh => hh
 refine zAd (zAb fun Q1 hQ => ?_)
 simp (disch := omega) only [EL, ↓K3, ↓K1, reduceIte, Nat.reduceEqDiff, Nat.reduceAdd, Nat.reduceLeDiff, i0]
 refine hQ _ ?_
 clear hQ Q1
 refine zAd (zAb fun Q1 hQ => ?_)
 have ix : ∀ h' : AH, oIdxS (.c (sv s)) (.c (.int .i64 ((0 : Nat) : Int))) .leaf [] h' = .val (.int .u8 (c.toNat : Int)) h' := fun h' => idx_sv (i := 0) (by rw [hct]; rfl)
 simp (disch := omega) only [e10, ↓zFw, ↓zFx, reduceIte, Nat.reduceEqDiff, Nat.reduceAdd, Nat.reduceLeDiff, Nat.succ_eq_add_one, zJl, zFo, EE, i0, hs.1]
 rw [ge_rw (nat_gp H.t130 rfl (trim_sv (digs_trim hs)))]
 have hz : (c.toNat = 48) ↔ c = 48 := ⟨fun e => by rw [← UInt8.toNat_inj]; exact e, fun e => by rw [e]; rfl⟩
 have hh : s.head? = some c := by rw [hct]; rfl
 by_cases hc : c.toNat = 48
 ·simp (disch := omega) only [↓zFw, ↓zFx, reduceIte, Nat.reduceEqDiff, Nat.reduceAdd, Nat.reduceLeDiff, Nat.succ_eq_add_one, zJl, zFo, EE, LITS, i0, ix, hc]
  refine hQ _ ?_
  simp only [zAa]
  refine zAj ?_
  simp (disch := omega) only [EL, ↓K3, ↓K1, reduceIte, Nat.reduceEqDiff, Nat.reduceAdd, Nat.reduceLeDiff]
  congr 1
  rw [hh, hz.mp hc]
  simp
 ·simp (disch := omega) only [↓zFw, ↓zFx, reduceIte, Nat.reduceEqDiff, Nat.reduceAdd, Nat.reduceLeDiff, Nat.succ_eq_add_one, zJl, zFo, EE, LITS, i0, ix, hc]
  refine hQ _ ?_
  simp only [zAa]
  refine zAj ?_
  simp (disch := omega) only [EL, ↓K3, ↓K1, reduceIte, Nat.reduceEqDiff, Nat.reduceAdd, Nat.reduceLeDiff]
  congr 1
  have : ¬ c = 48 := fun e => hc (hz.mpr e)
  rw [hh]
  simp [this]
include H in
theorem zJj {s : Str} (hs : Digs s) : GP tab 92 [sv s] h fun v h1 => v = .tup [.int .i64 (numP s).1, .int .i64 ((numP s).2 : Int)] ∧ h1 = h := by
 have i0 : zAg [sv s] = zAc [sv s] := rfl
 refine GE.gp (ge_of H.t92 rfl ?_) (E := fun _ _ => False) fun _ _ hh => hh
 refine zAd (zAb fun Q1 hQ => ?_)
 simp (disch := omega) only [EL, ↓K3, ↓K1, reduceIte, Nat.reduceEqDiff, Nat.reduceAdd, Nat.reduceLeDiff, i0]
 refine hQ _ ?_
 clear hQ Q1
 refine zAd (zAb fun Q1 hQ => ?_)
 simp (disch := omega) only [EL, ↓K3, ↓K1, reduceIte, Nat.reduceEqDiff, Nat.reduceAdd, Nat.reduceLeDiff, i0]
 rw [ge_rw (trimPre_gp H hs)]
 simp (disch := omega) only [EL, ↓K3, ↓K1, reduceIte, Nat.reduceEqDiff, Nat.reduceAdd, Nat.reduceLeDiff, i0]
 refine hQ _ ?_
 clear hQ Q1
 simp only [zAa]
 refine zAd ?_
 refine zAd (zAb fun Q1 hQ => ?_)
 simp (disch := omega) only [EL, ↓K3, ↓K1, reduceIte, Nat.reduceEqDiff, Nat.reduceAdd, Nat.reduceLeDiff, i0]
 rw [ge_rw (isDigits_gp H hs)]
 have nm : ¬ s = [45, 48] := by
  intro e
  have := hs.2.1 45 (by rw [e]; simp)
  simp at this
 by_cases hz : s.head? = some 48 ∧ s ≠ [48]
 ·have hn : numP s = (0, 1) := by unfold numP; rw [if_pos hz]
  have hd : decide (¬ (s.head? = some 48 ∧ s ≠ [48])) = false := by simp [hz]
  simp (disch := omega) only [EL, ↓K3, ↓K1, reduceIte, Nat.reduceEqDiff, Nat.reduceAdd, Nat.reduceLeDiff, i0, hd, nm]
  refine hQ _ ?_
  clear hQ Q1
  simp only [zAa]
  refine zAq (by simp +decide only [EL, reduceIte]) ?_
  refine zAd (zAb fun Q1 hQ => ?_)
  simp (disch := omega) only [EL, ↓K3, ↓K1, reduceIte, Nat.reduceEqDiff, Nat.reduceAdd, Nat.reduceLeDiff]
  refine hQ _ ?_
  clear hQ Q1
  refine zAj ?_
  try simp only [zAh, zAf]
  refine ⟨_, zAy (zAy zAm), ?_⟩
  rw [hn]
  simp (disch := omega) only [EL, ↓K3, ↓K1, reduceIte, Nat.reduceEqDiff, Nat.reduceAdd, Nat.reduceLeDiff, zDq]
  rfl
 ·have hd : decide (¬ (s.head? = some 48 ∧ s ≠ [48])) = true := by simp only [hz, not_false_eq_true, decide_true]
  simp (disch := omega) only [EL, ↓K3, ↓K1, reduceIte, Nat.reduceEqDiff, Nat.reduceAdd, Nat.reduceLeDiff, i0, hd, nm]
  refine hQ _ ?_
  clear hQ Q1
  simp only [zAa]
  refine wc_no (by simp +decide only [EL, reduceIte]) ?_
  refine zAl ?_
  simp only [zAa]
  refine zAd (zAb fun Q1 hQ => ?_)
  simp (disch := omega) only [EL, ↓K3, ↓K1, reduceIte, Nat.reduceEqDiff, Nat.reduceAdd, Nat.reduceLeDiff, i0]
  rcases atoi_digs hs with ha | ⟨z, ha⟩
  ·have hn : numP s = (0, 2) := by unfold numP; rw [if_neg hz, ha]
   rw [ge_rw (nat_gp H.t118 rfl (atoi_range (by have := hs.2.2; omega) ha))]
   simp (disch := omega) only [EL, ↓K3, ↓K1, reduceIte, Nat.reduceEqDiff, Nat.reduceAdd, Nat.reduceLeDiff, i0]
   refine hQ _ ?_
   clear hQ Q1
   simp only [zAa]
   refine zAd ?_
   refine zAd (zAb fun Q1 hQ => ?_)
   simp (disch := omega) only [EL, ↓K3, ↓K1, reduceIte, Nat.reduceEqDiff, Nat.reduceAdd, Nat.reduceLeDiff]
   refine hQ _ ?_
   clear hQ Q1
   refine zAq (by simp +decide only [EL, reduceIte]) ?_
   refine zAd (zAb fun Q1 hQ => ?_)
   simp (disch := omega) only [EL, ↓K3, ↓K1, reduceIte, Nat.reduceEqDiff, Nat.reduceAdd, Nat.reduceLeDiff]
   refine hQ _ ?_
   clear hQ Q1
   refine zAj ?_
   try simp only [zAh, zAf]
   refine ⟨_, zAy (zAy zAm), ?_⟩
   rw [hn]
   simp (disch := omega) only [EL, ↓K3, ↓K1, reduceIte, Nat.reduceEqDiff, Nat.reduceAdd, Nat.reduceLeDiff, zDq]
   rfl
  ·have hn : numP s = (z, 0) := by unfold numP; rw [if_neg hz, ha]
   rw [ge_rw (nat_gp H.t118 rfl (atoi_ok (by have := hs.2.2; omega) ha))]
   simp (disch := omega) only [EL, ↓K3, ↓K1, reduceIte, Nat.reduceEqDiff, Nat.reduceAdd, Nat.reduceLeDiff, i0]
   refine hQ _ ?_
   clear hQ Q1
   simp only [zAa]
   refine zAd ?_
   refine zAd (zAb fun Q1 hQ => ?_)
   simp (disch := omega) only [EL, ↓K3, ↓K1, reduceIte, Nat.reduceEqDiff, Nat.reduceAdd, Nat.reduceLeDiff]
   refine hQ _ ?_
   clear hQ Q1
   refine wc_no (by simp +decide only [EL, reduceIte]) ?_
   refine zAl ?_
   simp only [zAa]
   refine zAd (zAb fun Q1 hQ => ?_)
   simp (disch := omega) only [EL, ↓K3, ↓K1, reduceIte, Nat.reduceEqDiff, Nat.reduceAdd, Nat.reduceLeDiff]
   refine hQ _ ?_
   clear hQ Q1
   refine zAj ?_
   try simp only [zAh, zAf]
   refine ⟨_, zAy (zAy zAm), ?_⟩
   rw [hn]
   simp (disch := omega) only [EL, ↓K3, ↓K1, reduceIte, Nat.reduceEqDiff, Nat.reduceAdd, Nat.reduceLeDiff, zDq]
end
end Go.Ev
namespace Go.Ev
open Go Go.Pa
section
variable {tab : Nat → Option AFunc} {h : AH} (H : PT tab) {ts : List Tok} {en r i d : Nat}
include H in
theorem level_gp (R : RS ts en h r i d) : GP tab 153 [.ptr r 0] h fun v h1 => v = .tup [.int .i64 ((zB2 ts en i).1 : Int), .int .i64 ((zB2 ts en i).2 : Int)] ∧ More h h1 := by
 have i0 : zAg [.ptr r 0] = zAc [.ptr r 0] := rfl
 refine GE.gp (ge_of H.t153 rfl ?_) (E := fun _ _ => False) fun _ _ hh => hh
 refine zAd (zAb fun Q1 hQ => ?_)
 simp (disch := omega) only [EL, ↓K3, ↓K1, reduceIte, Nat.reduceEqDiff, Nat.reduceAdd, Nat.reduceLeDiff, i0]
 refine hQ _ ?_
 clear hQ Q1
 refine zAd (zAb fun Q1 hQ => ?_)
 simp (disch := omega) only [EL, ↓K3, ↓K1, reduceIte, Nat.reduceEqDiff, Nat.reduceAdd, Nat.reduceLeDiff, i0]
 refine (zHm H R).to fun v h1 q => ?_
 obtain ⟨rfl, m1⟩ := q
 simp (disch := omega) only [EL, ↓K3, ↓K1, reduceIte, Nat.reduceEqDiff, Nat.reduceAdd, Nat.reduceLeDiff, i0]
 refine hQ _ ?_
 clear hQ Q1
 refine zC8 fun h2 n2 g2 m2 => ?_
 obtain ⟨c, g2, k0, k1, k2⟩ := g2
 have m12 := m1.trans m2
 simp only [zAa]
 refine zAd ?_
 refine zAu ?_
 by_cases hk : (now ts en i).kind = 4
 ·refine zAd (zAb fun Q1 hQ => ?_)
  simp (disch := omega) only [EL, ↓K3, ↓K1, reduceIte, Nat.reduceEqDiff, Nat.reduceAdd, Nat.reduceLeDiff, g2, k0, hk]
  refine hQ _ ?_
  clear hQ Q1
  refine wc_no (by simp +decide only [EL, reduceIte]) ?_
  by_cases h1' : (now ts en i).text = [124, 124]
  ·have hl : zB2 ts en i = (1, 0) := by unfold zB2; simp [hk, h1']
   refine zAd (zAb fun Q1 hQ => ?_)
   simp (disch := omega) only [EL, ↓K3, ↓K1, reduceIte, Nat.reduceEqDiff, Nat.reduceAdd, Nat.reduceLeDiff, g2, k1, h1']
   refine hQ _ ?_
   clear hQ Q1
   refine zAq (by simp +decide only [EL, reduceIte]) ?_
   refine zAd (zAb fun Q1 hQ => ?_)
   simp (disch := omega) only [EL, ↓K3, ↓K1, reduceIte, Nat.reduceEqDiff, Nat.reduceAdd, Nat.reduceLeDiff]
   refine hQ _ ?_
   clear hQ Q1
   refine zAj ?_
   try simp only [zAh, zAf]
   refine ⟨_, zAy (zAy zAm), ?_⟩
   rw [hl]
   simp (disch := omega) only [EL, ↓K3, ↓K1, reduceIte, Nat.reduceEqDiff, Nat.reduceAdd, Nat.reduceLeDiff, zDq]
   exact m12
  ·refine zAd (zAb fun Q1 hQ => ?_)
   simp (disch := omega) only [EL, ↓K3, ↓K1, reduceIte, Nat.reduceEqDiff, Nat.reduceAdd, Nat.reduceLeDiff, g2, k1, h1']
   refine hQ _ ?_
   clear hQ Q1
   refine wc_no (by simp +decide only [EL, reduceIte]) ?_
   by_cases h2' : (now ts en i).text = [38, 38]
   ·have hl : zB2 ts en i = (2, 0) := by unfold zB2; simp [hk, h1', h2']
    refine zAd (zAb fun Q1 hQ => ?_)
    simp (disch := omega) only [EL, ↓K3, ↓K1, reduceIte, Nat.reduceEqDiff, Nat.reduceAdd, Nat.reduceLeDiff, g2, k1, h2']
    refine hQ _ ?_
    clear hQ Q1
    refine zAq (by simp +decide only [EL, reduceIte]) ?_
    refine zAd (zAb fun Q1 hQ => ?_)
    simp (disch := omega) only [EL, ↓K3, ↓K1, reduceIte, Nat.reduceEqDiff, Nat.reduceAdd, Nat.reduceLeDiff]
    refine hQ _ ?_
    clear hQ Q1
    refine zAj ?_
    try simp only [zAh, zAf]
    refine ⟨_, zAy (zAy zAm), ?_⟩
    rw [hl]
    simp (disch := omega) only [EL, ↓K3, ↓K1, reduceIte, Nat.reduceEqDiff, Nat.reduceAdd, Nat.reduceLeDiff, zDq]
    exact m12
   ·have hl : zB2 ts en i = (opLevel (sgnOp (now ts en i).text), sgnOp (now ts en i).text) := by unfold zB2; simp only [hk, h1', h2', ne_eq, not_true, if_false]
    refine zAd (zAb fun Q1 hQ => ?_)
    simp (disch := omega) only [EL, ↓K3, ↓K1, reduceIte, Nat.reduceEqDiff, Nat.reduceAdd, Nat.reduceLeDiff, g2, k1, h2']
    refine hQ _ ?_
    clear hQ Q1
    refine wc_no (by simp +decide only [EL, reduceIte]) ?_
    refine zAl ?_
    simp only [zAi, zAa]
    refine zAd (zAb fun Q1 hQ => ?_)
    simp (disch := omega) only [EL, ↓K3, ↓K1, reduceIte, Nat.reduceEqDiff, Nat.reduceAdd, Nat.reduceLeDiff, g2, k1]
    refine (signed2_gp H _).to fun v h3 q => ?_
    obtain ⟨rfl, m3⟩ := q
    simp (disch := omega) only [EL, ↓K3, ↓K1, reduceIte, Nat.reduceEqDiff, Nat.reduceAdd, Nat.reduceLeDiff]
    refine hQ _ ?_
    clear hQ Q1
    simp only [zAa]
    refine zAd (zAb fun Q1 hQ => ?_)
    simp (disch := omega) only [EL, ↓K3, ↓K1, reduceIte, Nat.reduceEqDiff, Nat.reduceAdd, Nat.reduceLeDiff]
    rw [ge_rw (oplevel_gp H (binOp_le _))]
    simp (disch := omega) only [EL, ↓K3, ↓K1, reduceIte, Nat.reduceEqDiff, Nat.reduceAdd, Nat.reduceLeDiff]
    refine hQ _ ?_
    clear hQ Q1
    refine zAj ?_
    try simp only [zAh, zAf]
    refine ⟨_, zAy (zAy zAm), ?_⟩
    rw [hl]
    simp (disch := omega) only [EL, ↓K3, ↓K1, reduceIte, Nat.reduceEqDiff, Nat.reduceAdd, Nat.reduceLeDiff, zDq]
    exact m12.trans m3
 ·have hl : zB2 ts en i = (0, 0) := by unfold zB2; simp [hk]
  have hk' : ¬ ((now ts en i).kind : Int) = ((4 : Nat) : Int) := by omega
  refine zAd (zAb fun Q1 hQ => ?_)
  simp (disch := omega) only [EL, ↓K3, ↓K1, reduceIte, Nat.reduceEqDiff, Nat.reduceAdd, Nat.reduceLeDiff, g2, k0, hk']
  refine hQ _ ?_
  clear hQ Q1
  refine zAq (by simp +decide only [EL, reduceIte, hk]) ?_
  refine zAd (zAb fun Q1 hQ => ?_)
  simp (disch := omega) only [EL, ↓K3, ↓K1, reduceIte, Nat.reduceEqDiff, Nat.reduceAdd, Nat.reduceLeDiff]
  refine hQ _ ?_
  clear hQ Q1
  refine zAj ?_
  try simp only [zAh, zAf]
  refine ⟨_, zAy (zAy zAm), ?_⟩
  rw [hl]
  simp (disch := omega) only [EL, ↓K3, ↓K1, reduceIte, Nat.reduceEqDiff, Nat.reduceAdd, Nat.reduceLeDiff, zDq]
  exact m12
include H in
theorem number_gp {t : Tok} (hd : Digs t.text) : GP tab 190 [tokV t] h fun v h1 => okT (.mk 15 [] [] (numP t.text).1 t.pos []) h.next v h1 ∧ More h h1 := by
 have i0 : zAg [tokV t] = zAc [tokV t] := rfl
 refine GE.gp (ge_of H.t190 rfl ?_) (E := fun _ _ => False) fun _ _ hh => hh
 refine zC9 (l := [.int .i64 (t.kind : Int), sv t.text, .int .i64 (t.pos : Int)]) rfl fun h1 n1 g1 g2 m1 => ?_
 refine zAd (zAb fun Q1 hQ => ?_)
 simp (disch := omega) only [EL, ↓K3, ↓K1, reduceIte, Nat.reduceEqDiff, Nat.reduceAdd, Nat.reduceLeDiff, i0, g1]
 refine (zDd H (op := 15) (pos := t.pos) (fun _ => rfl) rfl).to fun v h2 q => ?_
 obtain ⟨ia, rfl, i1, i2, nc, m2⟩ := q
 simp (disch := omega) only [EL, ↓K3, ↓K1, reduceIte, Nat.reduceEqDiff, Nat.reduceAdd, Nat.reduceLeDiff, i0]
 refine hQ _ ?_
 clear hQ Q1
 refine zBs fun h3 n3 g3 m3 => ?_
 obtain ⟨cb, gb, cb0⟩ := g3
 simp only [zAa]
 have m13 := m2.trans m3
 have nc3 := nc.keep (m3.keep ia i2)
 have g13 := (m13.keep h.next (by omega)).trans g1
 have g23 := (m13.keep (h.next + 1) (by omega)).trans g2
 have n2 := m2.next
 obtain ⟨c, gn, c0, c1, c2, c3, c4, c5, _, _, ncN, _⟩ := nc3.set
 refine zAd (zAb fun Q1 hQ => ?_)
 simp (disch := omega) only [EL, ↓K3, ↓K1, reduceIte, Nat.reduceEqDiff, Nat.reduceAdd, Nat.reduceLeDiff, i0, gb, cb0, g13]
 rw [ge_rw (zJj H hd)]
 simp (disch := omega) only [EL, ↓K3, ↓K1, reduceIte, Nat.reduceEqDiff, Nat.reduceAdd, Nat.reduceLeDiff, zA7, zA8, gb, cb0, zBj, gn, c3]
 refine hQ _ ?_
 clear hQ Q1
 simp only [zAa]
 have o4 : Only ia h3 (h3.set ia (.cells (T.put (some (.int .i64 (numP t.text).1)) c 3) 6 none false)) := Only.set
 have nc4 := ncN (numP t.text).1
 generalize (h3.set ia (.cells (T.put (some (.int .i64 (numP t.text).1)) c 3) 6 none false)) = h4 at *
 have n4 := o4.next
 refine zCu (b := h2.next) (rc := h.next + 1) (by simp +decide only [EL, reduceIte]) (by rw [o4.keep _ (by omega)]; exact gb) cb0 (by simp +decide only [EL, reduceIte]) (by rw [o4.keep _ (by omega)]; exact g23) (by rw [zAk]; rfl) fun h5 o5 => ?_
 refine ⟨⟨_, rfl, ?_⟩, ⟨by rw [o5.next, n4]; have := m1.next; omega, fun k hk => by rw [o5.keep k (by omega), o4.keep k (by omega), m13.keep k (by omega), m1.keep k hk]⟩⟩
 exact Kids.tree (lo := h.next) (X := []) Kids.nils (nc4.keep (o5.keep _ (by omega))) (by show h.next ≤ ia; omega) (by rw [o5.next]; omega) fun k hk => hk
end
end Go.Ev
