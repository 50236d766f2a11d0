/- The code of the program's functions is what the compiler of the abstract machine gives, part 2. -/
import Derived.Test.YtokophcpoecilaaGreatProg
import Derived.Test.YtokophcpoecilaaGreatCoA
import Derived.Test.YtokophcpoecilaaGreatEvA
import Derived.KernelRfl
set_option linter.unusedSimpArgs false
set_option linter.unusedVariables false
namespace Go.Ev
open Go Go.Proofs
set_option maxRecDepth 100000
set_option maxHeartbeats 4000000
theorem c59 : cFunc Tryz.prog 59 = some af59 := by kernel_rfl
theorem c60 : cFunc Tryz.prog 60 = some af60 := by kernel_rfl
theorem c61 : cFunc Tryz.prog 61 = some af61 := by kernel_rfl
theorem c62 : cFunc Tryz.prog 62 = some af62 := by kernel_rfl
theorem c63 : cFunc Tryz.prog 63 = some af63 := by kernel_rfl
theorem c64 : cFunc Tryz.prog 64 = some af64 := by kernel_rfl
theorem c65 : cFunc Tryz.prog 65 = some af65 := by kernel_rfl
theorem c66 : cFunc Tryz.prog 66 = some af66 := by kernel_rfl
theorem c67 : cFunc Tryz.prog 67 = some af67 := by kernel_rfl
theorem c68 : cFunc Tryz.prog 68 = some af68 := by kernel_rfl
theorem c69 : cFunc Tryz.prog 69 = some af69 := by kernel_rfl
theorem c70 : cFunc Tryz.prog 70 = some af70 := by kernel_rfl
theorem c71 : cFunc Tryz.prog 71 = some af71 := by kernel_rfl
theorem c72 : cFunc Tryz.prog 72 = some af72 := by kernel_rfl
theorem c73 : cFunc Tryz.prog 73 = some af73 := by kernel_rfl
theorem c74 : cFunc Tryz.prog 74 = some af74 := by kernel_rfl
theorem c75 : cFunc Tryz.prog 75 = some af75 := by kernel_rfl
theorem c76 : cFunc Tryz.prog 76 = some af76 := by kernel_rfl
theorem c77 : cFunc Tryz.prog 77 = some af77 := by kernel_rfl
theorem c78 : cFunc Tryz.prog 78 = some af78 := by kernel_rfl
theorem c79 : cFunc Tryz.prog 79 = some af79 := by kernel_rfl
theorem c80 : cFunc Tryz.prog 80 = some af80 := by kernel_rfl
theorem c81 : cFunc Tryz.prog 81 = some af81 := by kernel_rfl
theorem c82 : cFunc Tryz.prog 82 = some af82 := by kernel_rfl
theorem c83 : cFunc Tryz.prog 83 = some af83 := by kernel_rfl
theorem c84 : cFunc Tryz.prog 84 = some af84 := by kernel_rfl
theorem c85 : cFunc Tryz.prog 85 = some af85 := by kernel_rfl
theorem c86 : cFunc Tryz.prog 86 = some af86 := by kernel_rfl
theorem c87 : cFunc Tryz.prog 87 = some af87 := by kernel_rfl
theorem c88 : cFunc Tryz.prog 88 = some af88 := by kernel_rfl
theorem c89 : cFunc Tryz.prog 89 = some af89 := by kernel_rfl
theorem c90 : cFunc Tryz.prog 90 = some af90 := by kernel_rfl
theorem c91 : cFunc Tryz.prog 91 = some af91 := by kernel_rfl
theorem c92 : cFunc Tryz.prog 92 = some af92 := by kernel_rfl
theorem c93 : cFunc Tryz.prog 93 = some af93 := by kernel_rfl
theorem c94 : cFunc Tryz.prog 94 = some af94 := by kernel_rfl
theorem c95 : cFunc Tryz.prog 95 = some af95 := by kernel_rfl
theorem c96 : cFunc Tryz.prog 96 = some af96 := by kernel_rfl
theorem c97 : cFunc Tryz.prog 97 = some af97 := by kernel_rfl
theorem c98 : cFunc Tryz.prog 98 = some af98 := by kernel_rfl
theorem c99 : cFunc Tryz.prog 99 = some af99 := by kernel_rfl
theorem c100 : cFunc Tryz.prog 100 = some af100 := by kernel_rfl
theorem c101 : cFunc Tryz.prog 101 = some af101 := by kernel_rfl
theorem c102 : cFunc Tryz.prog 102 = some af102 := by kernel_rfl
theorem c103 : cFunc Tryz.prog 103 = some af103 := by kernel_rfl
theorem c104 : cFunc Tryz.prog 104 = some af104 := by kernel_rfl
theorem c105 : cFunc Tryz.prog 105 = some af105 := by kernel_rfl
theorem c106 : cFunc Tryz.prog 106 = some af106 := by kernel_rfl
theorem c107 : cFunc Tryz.prog 107 = some af107 := by kernel_rfl
theorem c108 : cFunc Tryz.prog 108 = some af108 := by kernel_rfl
theorem c109 : cFunc Tryz.prog 109 = some af109 := by kernel_rfl
theorem c110 : cFunc Tryz.prog 110 = some af110 := by kernel_rfl
theorem c111 : cFunc Tryz.prog 111 = some af111 := by kernel_rfl
theorem c112 : cFunc Tryz.prog 112 = some af112 := by kernel_rfl
theorem c113 : cFunc Tryz.prog 113 = some af113 := by kernel_rfl
theorem c114 : cFunc Tryz.prog 114 = some af114 := by kernel_rfl
end Go.Ev
