/- The code of the program's functions is what the compiler of the abstract machine gives, part 1. -/
import Derived.Test.YtnmfoikicpbokaaGreatDoorProg
import Derived.Test.YtnmfoikicpbokaaGreatDoorEvA
import Derived.Test.YtnmfoikicpbokaaGreatDoorCo
import Derived.KernelRfl
set_option linter.unusedSimpArgs false
set_option linter.unusedVariables false
namespace Go.Ev
open Go
set_option maxRecDepth 100000
set_option maxHeartbeats 4000000
theorem c62 : cFunc Go.Proofs.Tryz.prog 62 = some af62 := by kernel_rfl
theorem c63 : cFunc Go.Proofs.Tryz.prog 63 = some af63 := by kernel_rfl
theorem c64 : cFunc Go.Proofs.Tryz.prog 64 = some af64 := by kernel_rfl
theorem c65 : cFunc Go.Proofs.Tryz.prog 65 = some af65 := by kernel_rfl
theorem c66 : cFunc Go.Proofs.Tryz.prog 66 = some af66 := by kernel_rfl
theorem c67 : cFunc Go.Proofs.Tryz.prog 67 = some af67 := by kernel_rfl
theorem c68 : cFunc Go.Proofs.Tryz.prog 68 = some af68 := by kernel_rfl
theorem c69 : cFunc Go.Proofs.Tryz.prog 69 = some af69 := by kernel_rfl
theorem c70 : cFunc Go.Proofs.Tryz.prog 70 = some af70 := by kernel_rfl
theorem c71 : cFunc Go.Proofs.Tryz.prog 71 = some af71 := by kernel_rfl
theorem c72 : cFunc Go.Proofs.Tryz.prog 72 = some af72 := by kernel_rfl
theorem c73 : cFunc Go.Proofs.Tryz.prog 73 = some af73 := by kernel_rfl
theorem c74 : cFunc Go.Proofs.Tryz.prog 74 = some af74 := by kernel_rfl
theorem c75 : cFunc Go.Proofs.Tryz.prog 75 = some af75 := by kernel_rfl
theorem c76 : cFunc Go.Proofs.Tryz.prog 76 = some af76 := by kernel_rfl
theorem c77 : cFunc Go.Proofs.Tryz.prog 77 = some af77 := by kernel_rfl
theorem c78 : cFunc Go.Proofs.Tryz.prog 78 = some af78 := by kernel_rfl
theorem c79 : cFunc Go.Proofs.Tryz.prog 79 = some af79 := by kernel_rfl
theorem c80 : cFunc Go.Proofs.Tryz.prog 80 = some af80 := by kernel_rfl
theorem c81 : cFunc Go.Proofs.Tryz.prog 81 = some af81 := by kernel_rfl
theorem c82 : cFunc Go.Proofs.Tryz.prog 82 = some af82 := by kernel_rfl
theorem c83 : cFunc Go.Proofs.Tryz.prog 83 = some af83 := by kernel_rfl
theorem c84 : cFunc Go.Proofs.Tryz.prog 84 = some af84 := by kernel_rfl
theorem c85 : cFunc Go.Proofs.Tryz.prog 85 = some af85 := by kernel_rfl
theorem c86 : cFunc Go.Proofs.Tryz.prog 86 = some af86 := by kernel_rfl
theorem c87 : cFunc Go.Proofs.Tryz.prog 87 = some af87 := by kernel_rfl
theorem c88 : cFunc Go.Proofs.Tryz.prog 88 = some af88 := by kernel_rfl
theorem c89 : cFunc Go.Proofs.Tryz.prog 89 = some af89 := by kernel_rfl
theorem c90 : cFunc Go.Proofs.Tryz.prog 90 = some af90 := by kernel_rfl
theorem c91 : cFunc Go.Proofs.Tryz.prog 91 = some af91 := by kernel_rfl
theorem c92 : cFunc Go.Proofs.Tryz.prog 92 = some af92 := by kernel_rfl
theorem c93 : cFunc Go.Proofs.Tryz.prog 93 = some af93 := by kernel_rfl
theorem c94 : cFunc Go.Proofs.Tryz.prog 94 = some af94 := by kernel_rfl
theorem c95 : cFunc Go.Proofs.Tryz.prog 95 = some af95 := by kernel_rfl
theorem c96 : cFunc Go.Proofs.Tryz.prog 96 = some af96 := by kernel_rfl
theorem c97 : cFunc Go.Proofs.Tryz.prog 97 = some af97 := by kernel_rfl
theorem c98 : cFunc Go.Proofs.Tryz.prog 98 = some af98 := by kernel_rfl
theorem c99 : cFunc Go.Proofs.Tryz.prog 99 = some af99 := by kernel_rfl
theorem c100 : cFunc Go.Proofs.Tryz.prog 100 = some af100 := by kernel_rfl
theorem c101 : cFunc Go.Proofs.Tryz.prog 101 = some af101 := by kernel_rfl
theorem c102 : cFunc Go.Proofs.Tryz.prog 102 = some af102 := by kernel_rfl
theorem c103 : cFunc Go.Proofs.Tryz.prog 103 = some af103 := by kernel_rfl
theorem c104 : cFunc Go.Proofs.Tryz.prog 104 = some af104 := by kernel_rfl
theorem c105 : cFunc Go.Proofs.Tryz.prog 105 = some af105 := by kernel_rfl
theorem c106 : cFunc Go.Proofs.Tryz.prog 106 = some af106 := by kernel_rfl
theorem c107 : cFunc Go.Proofs.Tryz.prog 107 = some af107 := by kernel_rfl
theorem c108 : cFunc Go.Proofs.Tryz.prog 108 = some af108 := by kernel_rfl
theorem c109 : cFunc Go.Proofs.Tryz.prog 109 = some af109 := by kernel_rfl
theorem c110 : cFunc Go.Proofs.Tryz.prog 110 = some af110 := by kernel_rfl
theorem c112 : cFunc Go.Proofs.Tryz.prog 112 = some af112 := by kernel_rfl
theorem c113 : cFunc Go.Proofs.Tryz.prog 113 = some af113 := by kernel_rfl
theorem c114 : cFunc Go.Proofs.Tryz.prog 114 = some af114 := by kernel_rfl
theorem c115 : cFunc Go.Proofs.Tryz.prog 115 = some af115 := by kernel_rfl
theorem c116 : cFunc Go.Proofs.Tryz.prog 116 = some af116 := by kernel_rfl
theorem c117 : cFunc Go.Proofs.Tryz.prog 117 = some af117 := by kernel_rfl
theorem c118 : cFunc Go.Proofs.Tryz.prog 118 = some af118 := by kernel_rfl
theorem c119 : cFunc Go.Proofs.Tryz.prog 119 = some af119 := by kernel_rfl
theorem c120 : cFunc Go.Proofs.Tryz.prog 120 = some af120 := by kernel_rfl
theorem c121 : cFunc Go.Proofs.Tryz.prog 121 = some af121 := by kernel_rfl
end Go.Ev
