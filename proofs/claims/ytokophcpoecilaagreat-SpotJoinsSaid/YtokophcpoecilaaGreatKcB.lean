/- The code of the program's functions is what the compiler of the abstract machine gives, part 1. -/
import Derived.Test.YtokophcpoecilaaGreatProg
import Derived.Test.YtokophcpoecilaaGreatCoA
import Derived.Test.YtokophcpoecilaaGreatEvA
import Derived.KernelRfl
set_option linter.unusedSimpArgs false
set_option linter.unusedVariables false
namespace Go.Ev
open Go Go.Proofs
set_option maxRecDepth 100000
set_option maxHeartbeats 4000000
theorem c31 : cFunc Tryz.prog 31 = some af31 := by kernel_rfl
theorem c32 : cFunc Tryz.prog 32 = some af32 := by kernel_rfl
theorem c33 : cFunc Tryz.prog 33 = some af33 := by kernel_rfl
theorem c34 : cFunc Tryz.prog 34 = some af34 := by kernel_rfl
theorem c35 : cFunc Tryz.prog 35 = some af35 := by kernel_rfl
theorem c36 : cFunc Tryz.prog 36 = some af36 := by kernel_rfl
theorem c37 : cFunc Tryz.prog 37 = some af37 := by kernel_rfl
theorem c38 : cFunc Tryz.prog 38 = some af38 := by kernel_rfl
theorem c39 : cFunc Tryz.prog 39 = some af39 := by kernel_rfl
theorem c40 : cFunc Tryz.prog 40 = some af40 := by kernel_rfl
theorem c41 : cFunc Tryz.prog 41 = some af41 := by kernel_rfl
theorem c42 : cFunc Tryz.prog 42 = some af42 := by kernel_rfl
theorem c43 : cFunc Tryz.prog 43 = some af43 := by kernel_rfl
theorem c44 : cFunc Tryz.prog 44 = some af44 := by kernel_rfl
theorem c45 : cFunc Tryz.prog 45 = some af45 := by kernel_rfl
theorem c46 : cFunc Tryz.prog 46 = some af46 := by kernel_rfl
theorem c47 : cFunc Tryz.prog 47 = some af47 := by kernel_rfl
theorem c48 : cFunc Tryz.prog 48 = some af48 := by kernel_rfl
theorem c49 : cFunc Tryz.prog 49 = some af49 := by kernel_rfl
theorem c50 : cFunc Tryz.prog 50 = some af50 := by kernel_rfl
theorem c51 : cFunc Tryz.prog 51 = some af51 := by kernel_rfl
theorem c52 : cFunc Tryz.prog 52 = some af52 := by kernel_rfl
theorem c53 : cFunc Tryz.prog 53 = some af53 := by kernel_rfl
theorem c54 : cFunc Tryz.prog 54 = some af54 := by kernel_rfl
theorem c55 : cFunc Tryz.prog 55 = some af55 := by kernel_rfl
theorem c56 : cFunc Tryz.prog 56 = some af56 := by kernel_rfl
theorem c57 : cFunc Tryz.prog 57 = some af57 := by kernel_rfl
theorem c58 : cFunc Tryz.prog 58 = some af58 := by kernel_rfl
end Go.Ev
