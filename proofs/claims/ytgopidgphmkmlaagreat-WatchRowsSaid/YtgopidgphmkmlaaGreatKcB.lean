/- The code of the program's functions is what the compiler of the abstract machine gives, part 1. -/
import Derived.Test.YtgopidgphmkmlaaGreatProg
import Derived.Test.YtgopidgphmkmlaaGreatEvA
import Derived.Test.YtgopidgphmkmlaaGreatCoB
import Derived.KernelRfl
set_option linter.unusedSimpArgs false
set_option linter.unusedVariables false
namespace Go.Ev
open Go
set_option maxRecDepth 100000
set_option maxHeartbeats 4000000
theorem c94 : cFunc Go.Proofs.Tryz.prog 94 = some af94 := by kernel_rfl
theorem c95 : cFunc Go.Proofs.Tryz.prog 95 = some af95 := by kernel_rfl
theorem c96 : cFunc Go.Proofs.Tryz.prog 96 = some af96 := by kernel_rfl
theorem c97 : cFunc Go.Proofs.Tryz.prog 97 = some af97 := by kernel_rfl
theorem c98 : cFunc Go.Proofs.Tryz.prog 98 = some af98 := by kernel_rfl
theorem c99 : cFunc Go.Proofs.Tryz.prog 99 = some af99 := by kernel_rfl
theorem c100 : cFunc Go.Proofs.Tryz.prog 100 = some af100 := by kernel_rfl
theorem c101 : cFunc Go.Proofs.Tryz.prog 101 = some af101 := by kernel_rfl
theorem c102 : cFunc Go.Proofs.Tryz.prog 102 = some af102 := by kernel_rfl
theorem c103 : cFunc Go.Proofs.Tryz.prog 103 = some af103 := by kernel_rfl
theorem c104 : cFunc Go.Proofs.Tryz.prog 104 = some af104 := by kernel_rfl
theorem c105 : cFunc Go.Proofs.Tryz.prog 105 = some af105 := by kernel_rfl
theorem c106 : cFunc Go.Proofs.Tryz.prog 106 = some af106 := by kernel_rfl
theorem c107 : cFunc Go.Proofs.Tryz.prog 107 = some af107 := by kernel_rfl
theorem c108 : cFunc Go.Proofs.Tryz.prog 108 = some af108 := by kernel_rfl
theorem c109 : cFunc Go.Proofs.Tryz.prog 109 = some af109 := by kernel_rfl
theorem c110 : cFunc Go.Proofs.Tryz.prog 110 = some af110 := by kernel_rfl
theorem c111 : cFunc Go.Proofs.Tryz.prog 111 = some af111 := by kernel_rfl
theorem c112 : cFunc Go.Proofs.Tryz.prog 112 = some af112 := by kernel_rfl
theorem c113 : cFunc Go.Proofs.Tryz.prog 113 = some af113 := by kernel_rfl
theorem c114 : cFunc Go.Proofs.Tryz.prog 114 = some af114 := by kernel_rfl
theorem c117 : cFunc Go.Proofs.Tryz.prog 117 = some af117 := by kernel_rfl
theorem c118 : cFunc Go.Proofs.Tryz.prog 118 = some af118 := by kernel_rfl
theorem c119 : cFunc Go.Proofs.Tryz.prog 119 = some af119 := by kernel_rfl
theorem c120 : cFunc Go.Proofs.Tryz.prog 120 = some af120 := by kernel_rfl
theorem c121 : cFunc Go.Proofs.Tryz.prog 121 = some af121 := by kernel_rfl
theorem c122 : cFunc Go.Proofs.Tryz.prog 122 = some af122 := by kernel_rfl
theorem c123 : cFunc Go.Proofs.Tryz.prog 123 = some af123 := by kernel_rfl
theorem c124 : cFunc Go.Proofs.Tryz.prog 124 = some af124 := by kernel_rfl
theorem c125 : cFunc Go.Proofs.Tryz.prog 125 = some af125 := by kernel_rfl
theorem c126 : cFunc Go.Proofs.Tryz.prog 126 = some af126 := by kernel_rfl
theorem c127 : cFunc Go.Proofs.Tryz.prog 127 = some af127 := by kernel_rfl
theorem c128 : cFunc Go.Proofs.Tryz.prog 128 = some af128 := by kernel_rfl
theorem c129 : cFunc Go.Proofs.Tryz.prog 129 = some af129 := by kernel_rfl
theorem c130 : cFunc Go.Proofs.Tryz.prog 130 = some af130 := by kernel_rfl
theorem c131 : cFunc Go.Proofs.Tryz.prog 131 = some af131 := by kernel_rfl
theorem c132 : cFunc Go.Proofs.Tryz.prog 132 = some af132 := by kernel_rfl
theorem c133 : cFunc Go.Proofs.Tryz.prog 133 = some af133 := by kernel_rfl
theorem c134 : cFunc Go.Proofs.Tryz.prog 134 = some af134 := by kernel_rfl
theorem c135 : cFunc Go.Proofs.Tryz.prog 135 = some af135 := by kernel_rfl
theorem c136 : cFunc Go.Proofs.Tryz.prog 136 = some af136 := by kernel_rfl
theorem c137 : cFunc Go.Proofs.Tryz.prog 137 = some af137 := by kernel_rfl
theorem c138 : cFunc Go.Proofs.Tryz.prog 138 = some af138 := by kernel_rfl
theorem c139 : cFunc Go.Proofs.Tryz.prog 139 = some af139 := by kernel_rfl
theorem c140 : cFunc Go.Proofs.Tryz.prog 140 = some af140 := by kernel_rfl
end Go.Ev
