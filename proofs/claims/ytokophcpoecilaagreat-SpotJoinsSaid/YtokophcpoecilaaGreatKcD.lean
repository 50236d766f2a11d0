/- The code of the program's functions is what the compiler of the abstract machine gives, part 3. -/
import Derived.Test.YtokophcpoecilaaGreatProg
import Derived.Test.YtokophcpoecilaaGreatCoA
import Derived.Test.YtokophcpoecilaaGreatEvA
import Derived.KernelRfl
set_option linter.unusedSimpArgs false
set_option linter.unusedVariables false
namespace Go.Ev
open Go Go.Proofs
set_option maxRecDepth 100000
set_option maxHeartbeats 4000000
theorem c115 : cFunc Tryz.prog 115 = some af115 := by kernel_rfl
theorem c116 : cFunc Tryz.prog 116 = some af116 := by kernel_rfl
theorem c117 : cFunc Tryz.prog 117 = some af117 := by kernel_rfl
theorem c118 : cFunc Tryz.prog 118 = some af118 := by kernel_rfl
theorem c119 : cFunc Tryz.prog 119 = some af119 := by kernel_rfl
theorem c120 : cFunc Tryz.prog 120 = some af120 := by kernel_rfl
theorem c121 : cFunc Tryz.prog 121 = some af121 := by kernel_rfl
theorem c122 : cFunc Tryz.prog 122 = some af122 := by kernel_rfl
theorem c123 : cFunc Tryz.prog 123 = some af123 := by kernel_rfl
theorem c124 : cFunc Tryz.prog 124 = some af124 := by kernel_rfl
theorem c125 : cFunc Tryz.prog 125 = some af125 := by kernel_rfl
theorem c126 : cFunc Tryz.prog 126 = some af126 := by kernel_rfl
theorem c127 : cFunc Tryz.prog 127 = some af127 := by kernel_rfl
theorem c128 : cFunc Tryz.prog 128 = some af128 := by kernel_rfl
theorem c129 : cFunc Tryz.prog 129 = some af129 := by kernel_rfl
theorem c130 : cFunc Tryz.prog 130 = some af130 := by kernel_rfl
theorem c131 : cFunc Tryz.prog 131 = some af131 := by kernel_rfl
theorem c132 : cFunc Tryz.prog 132 = some af132 := by kernel_rfl
theorem c133 : cFunc Tryz.prog 133 = some af133 := by kernel_rfl
theorem c134 : cFunc Tryz.prog 134 = some af134 := by kernel_rfl
theorem c135 : cFunc Tryz.prog 135 = some af135 := by kernel_rfl
theorem c136 : cFunc Tryz.prog 136 = some af136 := by kernel_rfl
theorem c137 : cFunc Tryz.prog 137 = some af137 := by kernel_rfl
theorem c138 : cFunc Tryz.prog 138 = some af138 := by kernel_rfl
theorem c139 : cFunc Tryz.prog 139 = some af139 := by kernel_rfl
theorem c140 : cFunc Tryz.prog 140 = some af140 := by kernel_rfl
theorem c141 : cFunc Tryz.prog 141 = some af141 := by kernel_rfl
theorem c142 : cFunc Tryz.prog 142 = some af142 := by kernel_rfl
theorem c143 : cFunc Tryz.prog 143 = some af143 := by kernel_rfl
theorem c144 : cFunc Tryz.prog 144 = some af144 := by kernel_rfl
theorem c145 : cFunc Tryz.prog 145 = some af145 := by kernel_rfl
theorem c146 : cFunc Tryz.prog 146 = some af146 := by kernel_rfl
theorem c147 : cFunc Tryz.prog 147 = some af147 := by kernel_rfl
theorem c148 : cFunc Tryz.prog 148 = some af148 := by kernel_rfl
theorem c149 : cFunc Tryz.prog 149 = some af149 := by kernel_rfl
theorem c150 : cFunc Tryz.prog 150 = some af150 := by kernel_rfl
theorem c151 : cFunc Tryz.prog 151 = some af151 := by kernel_rfl
theorem c152 : cFunc Tryz.prog 152 = some af152 := by kernel_rfl
theorem c153 : cFunc Tryz.prog 153 = some af153 := by kernel_rfl
theorem c154 : cFunc Tryz.prog 154 = some af154 := by kernel_rfl
theorem c155 : cFunc Tryz.prog 155 = some af155 := by kernel_rfl
theorem c156 : cFunc Tryz.prog 156 = some af156 := by kernel_rfl
theorem c157 : cFunc Tryz.prog 157 = some af157 := by kernel_rfl
theorem c158 : cFunc Tryz.prog 158 = some af158 := by kernel_rfl
theorem c159 : cFunc Tryz.prog 159 = some af159 := by kernel_rfl
theorem c160 : cFunc Tryz.prog 160 = some af160 := by kernel_rfl
theorem c161 : cFunc Tryz.prog 161 = some af161 := by kernel_rfl
theorem c162 : cFunc Tryz.prog 162 = some af162 := by kernel_rfl
theorem c163 : cFunc Tryz.prog 163 = some af163 := by kernel_rfl
theorem c164 : cFunc Tryz.prog 164 = some af164 := by kernel_rfl
theorem c165 : cFunc Tryz.prog 165 = some af165 := by kernel_rfl
theorem c166 : cFunc Tryz.prog 166 = some af166 := by kernel_rfl
theorem c167 : cFunc Tryz.prog 167 = some af167 := by kernel_rfl
theorem c168 : cFunc Tryz.prog 168 = some af168 := by kernel_rfl
theorem c169 : cFunc Tryz.prog 169 = some af169 := by kernel_rfl
theorem c170 : cFunc Tryz.prog 170 = some af170 := by kernel_rfl
theorem c171 : cFunc Tryz.prog 171 = some af171 := by kernel_rfl
theorem c172 : cFunc Tryz.prog 172 = some af172 := by kernel_rfl
theorem c173 : cFunc Tryz.prog 173 = some af173 := by kernel_rfl
theorem c174 : cFunc Tryz.prog 174 = some af174 := by kernel_rfl
theorem c175 : cFunc Tryz.prog 175 = some af175 := by kernel_rfl
theorem c176 : cFunc Tryz.prog 176 = some af176 := by kernel_rfl
theorem c177 : cFunc Tryz.prog 177 = some af177 := by kernel_rfl
theorem c178 : cFunc Tryz.prog 178 = some af178 := by kernel_rfl
theorem c179 : cFunc Tryz.prog 179 = some af179 := by kernel_rfl
theorem c180 : cFunc Tryz.prog 180 = some af180 := by kernel_rfl
theorem c181 : cFunc Tryz.prog 181 = some af181 := by kernel_rfl
theorem c182 : cFunc Tryz.prog 182 = some af182 := by kernel_rfl
theorem c183 : cFunc Tryz.prog 183 = some af183 := by kernel_rfl
theorem c184 : cFunc Tryz.prog 184 = some af184 := by kernel_rfl
theorem c185 : cFunc Tryz.prog 185 = some af185 := by kernel_rfl
theorem c186 : cFunc Tryz.prog 186 = some af186 := by kernel_rfl
theorem c187 : cFunc Tryz.prog 187 = some af187 := by kernel_rfl
theorem c188 : cFunc Tryz.prog 188 = some af188 := by kernel_rfl
theorem c189 : cFunc Tryz.prog 189 = some af189 := by kernel_rfl
theorem c190 : cFunc Tryz.prog 190 = some af190 := by kernel_rfl
theorem c191 : cFunc Tryz.prog 191 = some af191 := by kernel_rfl
theorem c192 : cFunc Tryz.prog 192 = some af192 := by kernel_rfl
theorem c193 : cFunc Tryz.prog 193 = some af193 := by kernel_rfl
end Go.Ev
