/- The code of the program's functions is what the compiler of the abstract machine gives, part 2. -/
import Derived.Test.YtnmfoikicpbokaaGreatDoorProg
import Derived.Test.YtnmfoikicpbokaaGreatDoorEvA
import Derived.Test.YtnmfoikicpbokaaGreatDoorCo
import Derived.KernelRfl
set_option linter.unusedSimpArgs false
set_option linter.unusedVariables false
namespace Go.Ev
open Go
set_option maxRecDepth 100000
set_option maxHeartbeats 4000000
theorem c122 : cFunc Go.Proofs.Tryz.prog 122 = some af122 := by kernel_rfl
theorem c123 : cFunc Go.Proofs.Tryz.prog 123 = some af123 := by kernel_rfl
theorem c124 : cFunc Go.Proofs.Tryz.prog 124 = some af124 := by kernel_rfl
theorem c125 : cFunc Go.Proofs.Tryz.prog 125 = some af125 := by kernel_rfl
theorem c126 : cFunc Go.Proofs.Tryz.prog 126 = some af126 := by kernel_rfl
theorem c127 : cFunc Go.Proofs.Tryz.prog 127 = some af127 := by kernel_rfl
theorem c128 : cFunc Go.Proofs.Tryz.prog 128 = some af128 := by kernel_rfl
theorem c129 : cFunc Go.Proofs.Tryz.prog 129 = some af129 := by kernel_rfl
theorem c130 : cFunc Go.Proofs.Tryz.prog 130 = some af130 := by kernel_rfl
theorem c131 : cFunc Go.Proofs.Tryz.prog 131 = some af131 := by kernel_rfl
theorem c132 : cFunc Go.Proofs.Tryz.prog 132 = some af132 := by kernel_rfl
theorem c133 : cFunc Go.Proofs.Tryz.prog 133 = some af133 := by kernel_rfl
theorem c134 : cFunc Go.Proofs.Tryz.prog 134 = some af134 := by kernel_rfl
theorem c135 : cFunc Go.Proofs.Tryz.prog 135 = some af135 := by kernel_rfl
theorem c136 : cFunc Go.Proofs.Tryz.prog 136 = some af136 := by kernel_rfl
theorem c137 : cFunc Go.Proofs.Tryz.prog 137 = some af137 := by kernel_rfl
theorem c138 : cFunc Go.Proofs.Tryz.prog 138 = some af138 := by kernel_rfl
theorem c139 : cFunc Go.Proofs.Tryz.prog 139 = some af139 := by kernel_rfl
theorem c140 : cFunc Go.Proofs.Tryz.prog 140 = some af140 := by kernel_rfl
theorem c141 : cFunc Go.Proofs.Tryz.prog 141 = some af141 := by kernel_rfl
theorem c142 : cFunc Go.Proofs.Tryz.prog 142 = some af142 := by kernel_rfl
theorem c143 : cFunc Go.Proofs.Tryz.prog 143 = some af143 := by kernel_rfl
theorem c144 : cFunc Go.Proofs.Tryz.prog 144 = some af144 := by kernel_rfl
theorem c145 : cFunc Go.Proofs.Tryz.prog 145 = some af145 := by kernel_rfl
theorem c146 : cFunc Go.Proofs.Tryz.prog 146 = some af146 := by kernel_rfl
theorem c147 : cFunc Go.Proofs.Tryz.prog 147 = some af147 := by kernel_rfl
theorem c148 : cFunc Go.Proofs.Tryz.prog 148 = some af148 := by kernel_rfl
theorem c149 : cFunc Go.Proofs.Tryz.prog 149 = some af149 := by kernel_rfl
theorem c150 : cFunc Go.Proofs.Tryz.prog 150 = some af150 := by kernel_rfl
theorem c151 : cFunc Go.Proofs.Tryz.prog 151 = some af151 := by kernel_rfl
theorem c152 : cFunc Go.Proofs.Tryz.prog 152 = some af152 := by kernel_rfl
theorem c153 : cFunc Go.Proofs.Tryz.prog 153 = some af153 := by kernel_rfl
theorem c154 : cFunc Go.Proofs.Tryz.prog 154 = some af154 := by kernel_rfl
theorem c155 : cFunc Go.Proofs.Tryz.prog 155 = some af155 := by kernel_rfl
theorem c156 : cFunc Go.Proofs.Tryz.prog 156 = some af156 := by kernel_rfl
theorem c157 : cFunc Go.Proofs.Tryz.prog 157 = some af157 := by kernel_rfl
theorem c158 : cFunc Go.Proofs.Tryz.prog 158 = some af158 := by kernel_rfl
theorem c159 : cFunc Go.Proofs.Tryz.prog 159 = some af159 := by kernel_rfl
theorem c160 : cFunc Go.Proofs.Tryz.prog 160 = some af160 := by kernel_rfl
end Go.Ev
