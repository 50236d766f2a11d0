/- The code of the program's functions is what the compiler of the abstract machine gives, part 2. -/
import Derived.Test.YtokophcpoecilaaGreatDoorProg
import Derived.Test.YtokophcpoecilaaGreatDoorCoB
import Derived.Test.YtokophcpoecilaaGreatDoorEvA
import Derived.KernelRfl
set_option linter.unusedSimpArgs false
set_option linter.unusedVariables false
namespace Go.Ev
open Go Go.Proofs
set_option maxRecDepth 100000
set_option maxHeartbeats 4000000
theorem c83 : cFunc Tryz.prog 83 = some af83 := by kernel_rfl
theorem c84 : cFunc Tryz.prog 84 = some af84 := by kernel_rfl
theorem c85 : cFunc Tryz.prog 85 = some af85 := by kernel_rfl
theorem c86 : cFunc Tryz.prog 86 = some af86 := by kernel_rfl
theorem c87 : cFunc Tryz.prog 87 = some af87 := by kernel_rfl
theorem c88 : cFunc Tryz.prog 88 = some af88 := by kernel_rfl
theorem c89 : cFunc Tryz.prog 89 = some af89 := by kernel_rfl
theorem c90 : cFunc Tryz.prog 90 = some af90 := by kernel_rfl
theorem c91 : cFunc Tryz.prog 91 = some af91 := by kernel_rfl
theorem c92 : cFunc Tryz.prog 92 = some af92 := by kernel_rfl
theorem c93 : cFunc Tryz.prog 93 = some af93 := by kernel_rfl
theorem c94 : cFunc Tryz.prog 94 = some af94 := by kernel_rfl
theorem c95 : cFunc Tryz.prog 95 = some af95 := by kernel_rfl
theorem c96 : cFunc Tryz.prog 96 = some af96 := by kernel_rfl
theorem c97 : cFunc Tryz.prog 97 = some af97 := by kernel_rfl
theorem c98 : cFunc Tryz.prog 98 = some af98 := by kernel_rfl
theorem c99 : cFunc Tryz.prog 99 = some af99 := by kernel_rfl
theorem c100 : cFunc Tryz.prog 100 = some af100 := by kernel_rfl
theorem c101 : cFunc Tryz.prog 101 = some af101 := by kernel_rfl
theorem c102 : cFunc Tryz.prog 102 = some af102 := by kernel_rfl
theorem c103 : cFunc Tryz.prog 103 = some af103 := by kernel_rfl
theorem c104 : cFunc Tryz.prog 104 = some af104 := by kernel_rfl
theorem c105 : cFunc Tryz.prog 105 = some af105 := by kernel_rfl
theorem c106 : cFunc Tryz.prog 106 = some af106 := by kernel_rfl
theorem c107 : cFunc Tryz.prog 107 = some af107 := by kernel_rfl
theorem c108 : cFunc Tryz.prog 108 = some af108 := by kernel_rfl
theorem c109 : cFunc Tryz.prog 109 = some af109 := by kernel_rfl
theorem c110 : cFunc Tryz.prog 110 = some af110 := by kernel_rfl
theorem c111 : cFunc Tryz.prog 111 = some af111 := by kernel_rfl
theorem c112 : cFunc Tryz.prog 112 = some af112 := by kernel_rfl
theorem c113 : cFunc Tryz.prog 113 = some af113 := by kernel_rfl
theorem c114 : cFunc Tryz.prog 114 = some af114 := by kernel_rfl
theorem c115 : cFunc Tryz.prog 115 = some af115 := by kernel_rfl
theorem c116 : cFunc Tryz.prog 116 = some af116 := by kernel_rfl
theorem c117 : cFunc Tryz.prog 117 = some af117 := by kernel_rfl
theorem c118 : cFunc Tryz.prog 118 = some af118 := by kernel_rfl
theorem c119 : cFunc Tryz.prog 119 = some af119 := by kernel_rfl
theorem c120 : cFunc Tryz.prog 120 = some af120 := by kernel_rfl
theorem c121 : cFunc Tryz.prog 121 = some af121 := by kernel_rfl
theorem c122 : cFunc Tryz.prog 122 = some af122 := by kernel_rfl
theorem c123 : cFunc Tryz.prog 123 = some af123 := by kernel_rfl
theorem c124 : cFunc Tryz.prog 124 = some af124 := by kernel_rfl
theorem c125 : cFunc Tryz.prog 125 = some af125 := by kernel_rfl
theorem c126 : cFunc Tryz.prog 126 = some af126 := by kernel_rfl
theorem c127 : cFunc Tryz.prog 127 = some af127 := by kernel_rfl
theorem c128 : cFunc Tryz.prog 128 = some af128 := by kernel_rfl
theorem c129 : cFunc Tryz.prog 129 = some af129 := by kernel_rfl
theorem c130 : cFunc Tryz.prog 130 = some af130 := by kernel_rfl
theorem c131 : cFunc Tryz.prog 131 = some af131 := by kernel_rfl
theorem c132 : cFunc Tryz.prog 132 = some af132 := by kernel_rfl
theorem c133 : cFunc Tryz.prog 133 = some af133 := by kernel_rfl
theorem c134 : cFunc Tryz.prog 134 = some af134 := by kernel_rfl
theorem c135 : cFunc Tryz.prog 135 = some af135 := by kernel_rfl
theorem c136 : cFunc Tryz.prog 136 = some af136 := by kernel_rfl
theorem c137 : cFunc Tryz.prog 137 = some af137 := by kernel_rfl
theorem c138 : cFunc Tryz.prog 138 = some af138 := by kernel_rfl
theorem c139 : cFunc Tryz.prog 139 = some af139 := by kernel_rfl
theorem c140 : cFunc Tryz.prog 140 = some af140 := by kernel_rfl
theorem c141 : cFunc Tryz.prog 141 = some af141 := by kernel_rfl
theorem c142 : cFunc Tryz.prog 142 = some af142 := by kernel_rfl
theorem c143 : cFunc Tryz.prog 143 = some af143 := by kernel_rfl
theorem c144 : cFunc Tryz.prog 144 = some af144 := by kernel_rfl
theorem c145 : cFunc Tryz.prog 145 = some af145 := by kernel_rfl
theorem c146 : cFunc Tryz.prog 146 = some af146 := by kernel_rfl
theorem c147 : cFunc Tryz.prog 147 = some af147 := by kernel_rfl
theorem c148 : cFunc Tryz.prog 148 = some af148 := by kernel_rfl
theorem c149 : cFunc Tryz.prog 149 = some af149 := by kernel_rfl
theorem c150 : cFunc Tryz.prog 150 = some af150 := by kernel_rfl
theorem c151 : cFunc Tryz.prog 151 = some af151 := by kernel_rfl
theorem c152 : cFunc Tryz.prog 152 = some af152 := by kernel_rfl
theorem c153 : cFunc Tryz.prog 153 = some af153 := by kernel_rfl
theorem c154 : cFunc Tryz.prog 154 = some af154 := by kernel_rfl
theorem c155 : cFunc Tryz.prog 155 = some af155 := by kernel_rfl
theorem c156 : cFunc Tryz.prog 156 = some af156 := by kernel_rfl
theorem c157 : cFunc Tryz.prog 157 = some af157 := by kernel_rfl
theorem c158 : cFunc Tryz.prog 158 = some af158 := by kernel_rfl
theorem c159 : cFunc Tryz.prog 159 = some af159 := by kernel_rfl
theorem c160 : cFunc Tryz.prog 160 = some af160 := by kernel_rfl
theorem c161 : cFunc Tryz.prog 161 = some af161 := by kernel_rfl
theorem c162 : cFunc Tryz.prog 162 = some af162 := by kernel_rfl
theorem c163 : cFunc Tryz.prog 163 = some af163 := by kernel_rfl
theorem c164 : cFunc Tryz.prog 164 = some af164 := by kernel_rfl
theorem c165 : cFunc Tryz.prog 165 = some af165 := by kernel_rfl
theorem c166 : cFunc Tryz.prog 166 = some af166 := by kernel_rfl
theorem c167 : cFunc Tryz.prog 167 = some af167 := by kernel_rfl
theorem c168 : cFunc Tryz.prog 168 = some af168 := by kernel_rfl
theorem c169 : cFunc Tryz.prog 169 = some af169 := by kernel_rfl
theorem c170 : cFunc Tryz.prog 170 = some af170 := by kernel_rfl
theorem c171 : cFunc Tryz.prog 171 = some af171 := by kernel_rfl
theorem c172 : cFunc Tryz.prog 172 = some af172 := by kernel_rfl
theorem c173 : cFunc Tryz.prog 173 = some af173 := by kernel_rfl
theorem c174 : cFunc Tryz.prog 174 = some af174 := by kernel_rfl
theorem c175 : cFunc Tryz.prog 175 = some af175 := by kernel_rfl
theorem c176 : cFunc Tryz.prog 176 = some af176 := by kernel_rfl
theorem c177 : cFunc Tryz.prog 177 = some af177 := by kernel_rfl
theorem c178 : cFunc Tryz.prog 178 = some af178 := by kernel_rfl
theorem c179 : cFunc Tryz.prog 179 = some af179 := by kernel_rfl
theorem c180 : cFunc Tryz.prog 180 = some af180 := by kernel_rfl
theorem c181 : cFunc Tryz.prog 181 = some af181 := by kernel_rfl
theorem c182 : cFunc Tryz.prog 182 = some af182 := by kernel_rfl
theorem c183 : cFunc Tryz.prog 183 = some af183 := by kernel_rfl
theorem c184 : cFunc Tryz.prog 184 = some af184 := by kernel_rfl
end Go.Ev
