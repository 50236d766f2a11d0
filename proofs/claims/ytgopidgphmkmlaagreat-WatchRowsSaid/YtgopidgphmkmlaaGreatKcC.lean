/- The code of the program's functions is what the compiler of the abstract machine gives, part 2. -/
import Derived.Test.YtgopidgphmkmlaaGreatProg
import Derived.Test.YtgopidgphmkmlaaGreatEvA
import Derived.Test.YtgopidgphmkmlaaGreatCoB
import Derived.KernelRfl
set_option linter.unusedSimpArgs false
set_option linter.unusedVariables false
namespace Go.Ev
open Go
set_option maxRecDepth 100000
set_option maxHeartbeats 4000000
theorem c141 : cFunc Go.Proofs.Tryz.prog 141 = some af141 := by kernel_rfl
theorem c142 : cFunc Go.Proofs.Tryz.prog 142 = some af142 := by kernel_rfl
theorem c143 : cFunc Go.Proofs.Tryz.prog 143 = some af143 := by kernel_rfl
theorem c144 : cFunc Go.Proofs.Tryz.prog 144 = some af144 := by kernel_rfl
theorem c145 : cFunc Go.Proofs.Tryz.prog 145 = some af145 := by kernel_rfl
theorem c146 : cFunc Go.Proofs.Tryz.prog 146 = some af146 := by kernel_rfl
theorem c147 : cFunc Go.Proofs.Tryz.prog 147 = some af147 := by kernel_rfl
theorem c148 : cFunc Go.Proofs.Tryz.prog 148 = some af148 := by kernel_rfl
theorem c149 : cFunc Go.Proofs.Tryz.prog 149 = some af149 := by kernel_rfl
theorem c150 : cFunc Go.Proofs.Tryz.prog 150 = some af150 := by kernel_rfl
theorem c151 : cFunc Go.Proofs.Tryz.prog 151 = some af151 := by kernel_rfl
theorem c152 : cFunc Go.Proofs.Tryz.prog 152 = some af152 := by kernel_rfl
theorem c153 : cFunc Go.Proofs.Tryz.prog 153 = some af153 := by kernel_rfl
theorem c154 : cFunc Go.Proofs.Tryz.prog 154 = some af154 := by kernel_rfl
theorem c155 : cFunc Go.Proofs.Tryz.prog 155 = some af155 := by kernel_rfl
theorem c156 : cFunc Go.Proofs.Tryz.prog 156 = some af156 := by kernel_rfl
theorem c157 : cFunc Go.Proofs.Tryz.prog 157 = some af157 := by kernel_rfl
theorem c158 : cFunc Go.Proofs.Tryz.prog 158 = some af158 := by kernel_rfl
theorem c159 : cFunc Go.Proofs.Tryz.prog 159 = some af159 := by kernel_rfl
theorem c160 : cFunc Go.Proofs.Tryz.prog 160 = some af160 := by kernel_rfl
theorem c161 : cFunc Go.Proofs.Tryz.prog 161 = some af161 := by kernel_rfl
theorem c162 : cFunc Go.Proofs.Tryz.prog 162 = some af162 := by kernel_rfl
theorem c163 : cFunc Go.Proofs.Tryz.prog 163 = some af163 := by kernel_rfl
theorem c164 : cFunc Go.Proofs.Tryz.prog 164 = some af164 := by kernel_rfl
theorem c165 : cFunc Go.Proofs.Tryz.prog 165 = some af165 := by kernel_rfl
theorem c166 : cFunc Go.Proofs.Tryz.prog 166 = some af166 := by kernel_rfl
theorem c167 : cFunc Go.Proofs.Tryz.prog 167 = some af167 := by kernel_rfl
theorem c168 : cFunc Go.Proofs.Tryz.prog 168 = some af168 := by kernel_rfl
theorem c169 : cFunc Go.Proofs.Tryz.prog 169 = some af169 := by kernel_rfl
theorem c170 : cFunc Go.Proofs.Tryz.prog 170 = some af170 := by kernel_rfl
theorem c171 : cFunc Go.Proofs.Tryz.prog 171 = some af171 := by kernel_rfl
theorem c172 : cFunc Go.Proofs.Tryz.prog 172 = some af172 := by kernel_rfl
theorem c173 : cFunc Go.Proofs.Tryz.prog 173 = some af173 := by kernel_rfl
theorem c174 : cFunc Go.Proofs.Tryz.prog 174 = some af174 := by kernel_rfl
theorem c175 : cFunc Go.Proofs.Tryz.prog 175 = some af175 := by kernel_rfl
theorem c176 : cFunc Go.Proofs.Tryz.prog 176 = some af176 := by kernel_rfl
theorem c177 : cFunc Go.Proofs.Tryz.prog 177 = some af177 := by kernel_rfl
theorem c178 : cFunc Go.Proofs.Tryz.prog 178 = some af178 := by kernel_rfl
theorem c179 : cFunc Go.Proofs.Tryz.prog 179 = some af179 := by kernel_rfl
theorem c180 : cFunc Go.Proofs.Tryz.prog 180 = some af180 := by kernel_rfl
theorem c181 : cFunc Go.Proofs.Tryz.prog 181 = some af181 := by kernel_rfl
theorem c182 : cFunc Go.Proofs.Tryz.prog 182 = some af182 := by kernel_rfl
theorem c183 : cFunc Go.Proofs.Tryz.prog 183 = some af183 := by kernel_rfl
theorem c184 : cFunc Go.Proofs.Tryz.prog 184 = some af184 := by kernel_rfl
theorem c185 : cFunc Go.Proofs.Tryz.prog 185 = some af185 := by kernel_rfl
theorem c186 : cFunc Go.Proofs.Tryz.prog 186 = some af186 := by kernel_rfl
end Go.Ev
