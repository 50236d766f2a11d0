/- The code of the program's functions is what the compiler of the abstract machine gives, part 3. -/
import Derived.Test.YtnmfoikicpbokaaGreatDoorProg
import Derived.Test.YtnmfoikicpbokaaGreatDoorEvA
import Derived.Test.YtnmfoikicpbokaaGreatDoorCo
import Derived.KernelRfl
set_option linter.unusedSimpArgs false
set_option linter.unusedVariables false
namespace Go.Ev
open Go
set_option maxRecDepth 100000
set_option maxHeartbeats 4000000
theorem c161 : cFunc Go.Proofs.Tryz.prog 161 = some af161 := by kernel_rfl
theorem c162 : cFunc Go.Proofs.Tryz.prog 162 = some af162 := by kernel_rfl
theorem c163 : cFunc Go.Proofs.Tryz.prog 163 = some af163 := by kernel_rfl
theorem c164 : cFunc Go.Proofs.Tryz.prog 164 = some af164 := by kernel_rfl
theorem c165 : cFunc Go.Proofs.Tryz.prog 165 = some af165 := by kernel_rfl
theorem c166 : cFunc Go.Proofs.Tryz.prog 166 = some af166 := by kernel_rfl
theorem c167 : cFunc Go.Proofs.Tryz.prog 167 = some af167 := by kernel_rfl
theorem c168 : cFunc Go.Proofs.Tryz.prog 168 = some af168 := by kernel_rfl
theorem c169 : cFunc Go.Proofs.Tryz.prog 169 = some af169 := by kernel_rfl
theorem c170 : cFunc Go.Proofs.Tryz.prog 170 = some af170 := by kernel_rfl
theorem c171 : cFunc Go.Proofs.Tryz.prog 171 = some af171 := by kernel_rfl
theorem c172 : cFunc Go.Proofs.Tryz.prog 172 = some af172 := by kernel_rfl
theorem c173 : cFunc Go.Proofs.Tryz.prog 173 = some af173 := by kernel_rfl
theorem c174 : cFunc Go.Proofs.Tryz.prog 174 = some af174 := by kernel_rfl
theorem c175 : cFunc Go.Proofs.Tryz.prog 175 = some af175 := by kernel_rfl
theorem c176 : cFunc Go.Proofs.Tryz.prog 176 = some af176 := by kernel_rfl
theorem c177 : cFunc Go.Proofs.Tryz.prog 177 = some af177 := by kernel_rfl
theorem c178 : cFunc Go.Proofs.Tryz.prog 178 = some af178 := by kernel_rfl
theorem c179 : cFunc Go.Proofs.Tryz.prog 179 = some af179 := by kernel_rfl
theorem c180 : cFunc Go.Proofs.Tryz.prog 180 = some af180 := by kernel_rfl
theorem c181 : cFunc Go.Proofs.Tryz.prog 181 = some af181 := by kernel_rfl
theorem c182 : cFunc Go.Proofs.Tryz.prog 182 = some af182 := by kernel_rfl
theorem c183 : cFunc Go.Proofs.Tryz.prog 183 = some af183 := by kernel_rfl
theorem c184 : cFunc Go.Proofs.Tryz.prog 184 = some af184 := by kernel_rfl
theorem c185 : cFunc Go.Proofs.Tryz.prog 185 = some af185 := by kernel_rfl
theorem c186 : cFunc Go.Proofs.Tryz.prog 186 = some af186 := by kernel_rfl
theorem c187 : cFunc Go.Proofs.Tryz.prog 187 = some af187 := by kernel_rfl
theorem c188 : cFunc Go.Proofs.Tryz.prog 188 = some af188 := by kernel_rfl
theorem c189 : cFunc Go.Proofs.Tryz.prog 189 = some af189 := by kernel_rfl
theorem c190 : cFunc Go.Proofs.Tryz.prog 190 = some af190 := by kernel_rfl
theorem c191 : cFunc Go.Proofs.Tryz.prog 191 = some af191 := by kernel_rfl
theorem c192 : cFunc Go.Proofs.Tryz.prog 192 = some af192 := by kernel_rfl
theorem c193 : cFunc Go.Proofs.Tryz.prog 193 = some af193 := by kernel_rfl
theorem c194 : cFunc Go.Proofs.Tryz.prog 194 = some af194 := by kernel_rfl
theorem c195 : cFunc Go.Proofs.Tryz.prog 195 = some af195 := by kernel_rfl
theorem c198 : cFunc Go.Proofs.Tryz.prog 198 = some af198 := by kernel_rfl
theorem c199 : cFunc Go.Proofs.Tryz.prog 199 = some af199 := by kernel_rfl
theorem c200 : cFunc Go.Proofs.Tryz.prog 200 = some af200 := by kernel_rfl
theorem c201 : cFunc Go.Proofs.Tryz.prog 201 = some af201 := by kernel_rfl
theorem c202 : cFunc Go.Proofs.Tryz.prog 202 = some af202 := by kernel_rfl
theorem c204 : cFunc Go.Proofs.Tryz.prog 204 = some af204 := by kernel_rfl
end Go.Ev
