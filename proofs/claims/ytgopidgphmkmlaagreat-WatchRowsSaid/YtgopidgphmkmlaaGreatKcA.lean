/- The code of the program's functions is what the compiler of the abstract machine gives, part 0. -/
import Derived.Test.YtgopidgphmkmlaaGreatProg
import Derived.Test.YtgopidgphmkmlaaGreatEvA
import Derived.Test.YtgopidgphmkmlaaGreatCoB
import Derived.KernelRfl
set_option linter.unusedSimpArgs false
set_option linter.unusedVariables false
namespace Go.Ev
open Go
set_option maxRecDepth 100000
set_option maxHeartbeats 4000000
theorem c4 : cFunc Go.Proofs.Tryz.prog 4 = some af4 := by kernel_rfl
theorem c6 : cFunc Go.Proofs.Tryz.prog 6 = some af6 := by kernel_rfl
theorem c8 : cFunc Go.Proofs.Tryz.prog 8 = some af8 := by kernel_rfl
theorem c12 : cFunc Go.Proofs.Tryz.prog 12 = some af12 := by kernel_rfl
theorem c13 : cFunc Go.Proofs.Tryz.prog 13 = some af13 := by kernel_rfl
theorem c14 : cFunc Go.Proofs.Tryz.prog 14 = some af14 := by kernel_rfl
theorem c15 : cFunc Go.Proofs.Tryz.prog 15 = some af15 := by kernel_rfl
theorem c17 : cFunc Go.Proofs.Tryz.prog 17 = some af17 := by kernel_rfl
theorem c18 : cFunc Go.Proofs.Tryz.prog 18 = some af18 := by kernel_rfl
theorem c19 : cFunc Go.Proofs.Tryz.prog 19 = some af19 := by kernel_rfl
theorem c27 : cFunc Go.Proofs.Tryz.prog 27 = some af27 := by kernel_rfl
theorem c28 : cFunc Go.Proofs.Tryz.prog 28 = some af28 := by kernel_rfl
theorem c29 : cFunc Go.Proofs.Tryz.prog 29 = some af29 := by kernel_rfl
theorem c48 : cFunc Go.Proofs.Tryz.prog 48 = some af48 := by kernel_rfl
theorem c49 : cFunc Go.Proofs.Tryz.prog 49 = some af49 := by kernel_rfl
theorem c50 : cFunc Go.Proofs.Tryz.prog 50 = some af50 := by kernel_rfl
theorem c51 : cFunc Go.Proofs.Tryz.prog 51 = some af51 := by kernel_rfl
theorem c52 : cFunc Go.Proofs.Tryz.prog 52 = some af52 := by kernel_rfl
theorem c53 : cFunc Go.Proofs.Tryz.prog 53 = some af53 := by kernel_rfl
theorem c54 : cFunc Go.Proofs.Tryz.prog 54 = some af54 := by kernel_rfl
theorem c55 : cFunc Go.Proofs.Tryz.prog 55 = some af55 := by kernel_rfl
theorem c56 : cFunc Go.Proofs.Tryz.prog 56 = some af56 := by kernel_rfl
theorem c57 : cFunc Go.Proofs.Tryz.prog 57 = some af57 := by kernel_rfl
theorem c58 : cFunc Go.Proofs.Tryz.prog 58 = some af58 := by kernel_rfl
theorem c59 : cFunc Go.Proofs.Tryz.prog 59 = some af59 := by kernel_rfl
theorem c60 : cFunc Go.Proofs.Tryz.prog 60 = some af60 := by kernel_rfl
theorem c61 : cFunc Go.Proofs.Tryz.prog 61 = some af61 := by kernel_rfl
theorem c86 : cFunc Go.Proofs.Tryz.prog 86 = some af86 := by kernel_rfl
theorem c87 : cFunc Go.Proofs.Tryz.prog 87 = some af87 := by kernel_rfl
theorem c88 : cFunc Go.Proofs.Tryz.prog 88 = some af88 := by kernel_rfl
theorem c89 : cFunc Go.Proofs.Tryz.prog 89 = some af89 := by kernel_rfl
theorem c90 : cFunc Go.Proofs.Tryz.prog 90 = some af90 := by kernel_rfl
theorem c91 : cFunc Go.Proofs.Tryz.prog 91 = some af91 := by kernel_rfl
theorem c92 : cFunc Go.Proofs.Tryz.prog 92 = some af92 := by kernel_rfl
theorem c93 : cFunc Go.Proofs.Tryz.prog 93 = some af93 := by kernel_rfl
end Go.Ev
