/- The code of the program's functions is what the compiler of the abstract machine gives, part 3. -/
import Derived.Test.YtgopidgphmkmlaaGreatProg
import Derived.Test.YtgopidgphmkmlaaGreatEvA
import Derived.Test.YtgopidgphmkmlaaGreatCoB
import Derived.KernelRfl
set_option linter.unusedSimpArgs false
set_option linter.unusedVariables false
namespace Go.Ev
open Go
set_option maxRecDepth 100000
set_option maxHeartbeats 4000000
theorem c187 : cFunc Go.Proofs.Tryz.prog 187 = some af187 := by kernel_rfl
theorem c188 : cFunc Go.Proofs.Tryz.prog 188 = some af188 := by kernel_rfl
theorem c189 : cFunc Go.Proofs.Tryz.prog 189 = some af189 := by kernel_rfl
theorem c190 : cFunc Go.Proofs.Tryz.prog 190 = some af190 := by kernel_rfl
theorem c191 : cFunc Go.Proofs.Tryz.prog 191 = some af191 := by kernel_rfl
theorem c192 : cFunc Go.Proofs.Tryz.prog 192 = some af192 := by kernel_rfl
theorem c193 : cFunc Go.Proofs.Tryz.prog 193 = some af193 := by kernel_rfl
theorem c194 : cFunc Go.Proofs.Tryz.prog 194 = some af194 := by kernel_rfl
theorem c195 : cFunc Go.Proofs.Tryz.prog 195 = some af195 := by kernel_rfl
theorem c196 : cFunc Go.Proofs.Tryz.prog 196 = some af196 := by kernel_rfl
theorem c197 : cFunc Go.Proofs.Tryz.prog 197 = some af197 := by kernel_rfl
theorem c198 : cFunc Go.Proofs.Tryz.prog 198 = some af198 := by kernel_rfl
theorem c199 : cFunc Go.Proofs.Tryz.prog 199 = some af199 := by kernel_rfl
theorem c200 : cFunc Go.Proofs.Tryz.prog 200 = some af200 := by kernel_rfl
theorem c201 : cFunc Go.Proofs.Tryz.prog 201 = some af201 := by kernel_rfl
theorem c202 : cFunc Go.Proofs.Tryz.prog 202 = some af202 := by kernel_rfl
theorem c203 : cFunc Go.Proofs.Tryz.prog 203 = some af203 := by kernel_rfl
theorem c204 : cFunc Go.Proofs.Tryz.prog 204 = some af204 := by kernel_rfl
theorem c205 : cFunc Go.Proofs.Tryz.prog 205 = some af205 := by kernel_rfl
theorem c206 : cFunc Go.Proofs.Tryz.prog 206 = some af206 := by kernel_rfl
theorem c207 : cFunc Go.Proofs.Tryz.prog 207 = some af207 := by kernel_rfl
theorem c208 : cFunc Go.Proofs.Tryz.prog 208 = some af208 := by kernel_rfl
theorem c209 : cFunc Go.Proofs.Tryz.prog 209 = some af209 := by kernel_rfl
theorem c210 : cFunc Go.Proofs.Tryz.prog 210 = some af210 := by kernel_rfl
theorem c211 : cFunc Go.Proofs.Tryz.prog 211 = some af211 := by kernel_rfl
theorem c212 : cFunc Go.Proofs.Tryz.prog 212 = some af212 := by kernel_rfl
theorem c213 : cFunc Go.Proofs.Tryz.prog 213 = some af213 := by kernel_rfl
theorem c214 : cFunc Go.Proofs.Tryz.prog 214 = some af214 := by kernel_rfl
theorem c215 : cFunc Go.Proofs.Tryz.prog 215 = some af215 := by kernel_rfl
theorem c216 : cFunc Go.Proofs.Tryz.prog 216 = some af216 := by kernel_rfl
theorem c217 : cFunc Go.Proofs.Tryz.prog 217 = some af217 := by kernel_rfl
theorem c218 : cFunc Go.Proofs.Tryz.prog 218 = some af218 := by kernel_rfl
theorem c219 : cFunc Go.Proofs.Tryz.prog 219 = some af219 := by kernel_rfl
theorem c220 : cFunc Go.Proofs.Tryz.prog 220 = some af220 := by kernel_rfl
theorem c221 : cFunc Go.Proofs.Tryz.prog 221 = some af221 := by kernel_rfl
end Go.Ev
