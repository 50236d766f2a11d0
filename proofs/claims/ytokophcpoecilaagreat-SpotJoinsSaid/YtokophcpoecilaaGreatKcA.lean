/- The code of the program's functions is what the compiler of the abstract machine gives, part 0. -/
import Derived.Test.YtokophcpoecilaaGreatProg
import Derived.Test.YtokophcpoecilaaGreatCoA
import Derived.Test.YtokophcpoecilaaGreatEvA
import Derived.KernelRfl
set_option linter.unusedSimpArgs false
set_option linter.unusedVariables false
namespace Go.Ev
open Go Go.Proofs
set_option maxRecDepth 100000
set_option maxHeartbeats 4000000
theorem c3 : cFunc Tryz.prog 3 = some af3 := by kernel_rfl
theorem c4 : cFunc Tryz.prog 4 = some af4 := by kernel_rfl
theorem c5 : cFunc Tryz.prog 5 = some af5 := by kernel_rfl
theorem c6 : cFunc Tryz.prog 6 = some af6 := by kernel_rfl
theorem c7 : cFunc Tryz.prog 7 = some af7 := by kernel_rfl
theorem c8 : cFunc Tryz.prog 8 = some af8 := by kernel_rfl
theorem c9 : cFunc Tryz.prog 9 = some af9 := by kernel_rfl
theorem c10 : cFunc Tryz.prog 10 = some af10 := by kernel_rfl
theorem c11 : cFunc Tryz.prog 11 = some af11 := by kernel_rfl
theorem c12 : cFunc Tryz.prog 12 = some af12 := by kernel_rfl
theorem c13 : cFunc Tryz.prog 13 = some af13 := by kernel_rfl
theorem c14 : cFunc Tryz.prog 14 = some af14 := by kernel_rfl
theorem c15 : cFunc Tryz.prog 15 = some af15 := by kernel_rfl
theorem c16 : cFunc Tryz.prog 16 = some af16 := by kernel_rfl
theorem c17 : cFunc Tryz.prog 17 = some af17 := by kernel_rfl
theorem c18 : cFunc Tryz.prog 18 = some af18 := by kernel_rfl
theorem c19 : cFunc Tryz.prog 19 = some af19 := by kernel_rfl
theorem c20 : cFunc Tryz.prog 20 = some af20 := by kernel_rfl
theorem c21 : cFunc Tryz.prog 21 = some af21 := by kernel_rfl
theorem c22 : cFunc Tryz.prog 22 = some af22 := by kernel_rfl
theorem c23 : cFunc Tryz.prog 23 = some af23 := by kernel_rfl
theorem c24 : cFunc Tryz.prog 24 = some af24 := by kernel_rfl
theorem c25 : cFunc Tryz.prog 25 = some af25 := by kernel_rfl
theorem c26 : cFunc Tryz.prog 26 = some af26 := by kernel_rfl
theorem c27 : cFunc Tryz.prog 27 = some af27 := by kernel_rfl
theorem c28 : cFunc Tryz.prog 28 = some af28 := by kernel_rfl
theorem c29 : cFunc Tryz.prog 29 = some af29 := by kernel_rfl
theorem c30 : cFunc Tryz.prog 30 = some af30 := by kernel_rfl
end Go.Ev
