/- The code of the program's functions is what the compiler of the abstract machine gives, part 0. -/
import Derived.Test.YtnmfoikicpbokaaGreatDoorProg
import Derived.Test.YtnmfoikicpbokaaGreatDoorEvA
import Derived.Test.YtnmfoikicpbokaaGreatDoorCo
import Derived.KernelRfl
set_option linter.unusedSimpArgs false
set_option linter.unusedVariables false
namespace Go.Ev
open Go
set_option maxRecDepth 100000
set_option maxHeartbeats 4000000
theorem c4 : cFunc Go.Proofs.Tryz.prog 4 = some af4 := by kernel_rfl
theorem c6 : cFunc Go.Proofs.Tryz.prog 6 = some af6 := by kernel_rfl
theorem c7 : cFunc Go.Proofs.Tryz.prog 7 = some af7 := by kernel_rfl
theorem c8 : cFunc Go.Proofs.Tryz.prog 8 = some af8 := by kernel_rfl
theorem c9 : cFunc Go.Proofs.Tryz.prog 9 = some af9 := by kernel_rfl
theorem c14 : cFunc Go.Proofs.Tryz.prog 14 = some af14 := by kernel_rfl
theorem c15 : cFunc Go.Proofs.Tryz.prog 15 = some af15 := by kernel_rfl
theorem c16 : cFunc Go.Proofs.Tryz.prog 16 = some af16 := by kernel_rfl
theorem c21 : cFunc Go.Proofs.Tryz.prog 21 = some af21 := by kernel_rfl
theorem c22 : cFunc Go.Proofs.Tryz.prog 22 = some af22 := by kernel_rfl
theorem c23 : cFunc Go.Proofs.Tryz.prog 23 = some af23 := by kernel_rfl
theorem c24 : cFunc Go.Proofs.Tryz.prog 24 = some af24 := by kernel_rfl
theorem c25 : cFunc Go.Proofs.Tryz.prog 25 = some af25 := by kernel_rfl
theorem c26 : cFunc Go.Proofs.Tryz.prog 26 = some af26 := by kernel_rfl
theorem c27 : cFunc Go.Proofs.Tryz.prog 27 = some af27 := by kernel_rfl
theorem c28 : cFunc Go.Proofs.Tryz.prog 28 = some af28 := by kernel_rfl
theorem c29 : cFunc Go.Proofs.Tryz.prog 29 = some af29 := by kernel_rfl
theorem c30 : cFunc Go.Proofs.Tryz.prog 30 = some af30 := by kernel_rfl
theorem c31 : cFunc Go.Proofs.Tryz.prog 31 = some af31 := by kernel_rfl
theorem c32 : cFunc Go.Proofs.Tryz.prog 32 = some af32 := by kernel_rfl
theorem c33 : cFunc Go.Proofs.Tryz.prog 33 = some af33 := by kernel_rfl
theorem c34 : cFunc Go.Proofs.Tryz.prog 34 = some af34 := by kernel_rfl
theorem c35 : cFunc Go.Proofs.Tryz.prog 35 = some af35 := by kernel_rfl
theorem c36 : cFunc Go.Proofs.Tryz.prog 36 = some af36 := by kernel_rfl
theorem c37 : cFunc Go.Proofs.Tryz.prog 37 = some af37 := by kernel_rfl
theorem c38 : cFunc Go.Proofs.Tryz.prog 38 = some af38 := by kernel_rfl
theorem c39 : cFunc Go.Proofs.Tryz.prog 39 = some af39 := by kernel_rfl
theorem c40 : cFunc Go.Proofs.Tryz.prog 40 = some af40 := by kernel_rfl
theorem c41 : cFunc Go.Proofs.Tryz.prog 41 = some af41 := by kernel_rfl
theorem c42 : cFunc Go.Proofs.Tryz.prog 42 = some af42 := by kernel_rfl
theorem c43 : cFunc Go.Proofs.Tryz.prog 43 = some af43 := by kernel_rfl
theorem c44 : cFunc Go.Proofs.Tryz.prog 44 = some af44 := by kernel_rfl
theorem c45 : cFunc Go.Proofs.Tryz.prog 45 = some af45 := by kernel_rfl
theorem c46 : cFunc Go.Proofs.Tryz.prog 46 = some af46 := by kernel_rfl
theorem c47 : cFunc Go.Proofs.Tryz.prog 47 = some af47 := by kernel_rfl
theorem c48 : cFunc Go.Proofs.Tryz.prog 48 = some af48 := by kernel_rfl
theorem c49 : cFunc Go.Proofs.Tryz.prog 49 = some af49 := by kernel_rfl
theorem c50 : cFunc Go.Proofs.Tryz.prog 50 = some af50 := by kernel_rfl
theorem c51 : cFunc Go.Proofs.Tryz.prog 51 = some af51 := by kernel_rfl
theorem c52 : cFunc Go.Proofs.Tryz.prog 52 = some af52 := by kernel_rfl
theorem c53 : cFunc Go.Proofs.Tryz.prog 53 = some af53 := by kernel_rfl
theorem c54 : cFunc Go.Proofs.Tryz.prog 54 = some af54 := by kernel_rfl
theorem c55 : cFunc Go.Proofs.Tryz.prog 55 = some af55 := by kernel_rfl
theorem c56 : cFunc Go.Proofs.Tryz.prog 56 = some af56 := by kernel_rfl
theorem c57 : cFunc Go.Proofs.Tryz.prog 57 = some af57 := by kernel_rfl
theorem c59 : cFunc Go.Proofs.Tryz.prog 59 = some af59 := by kernel_rfl
theorem c60 : cFunc Go.Proofs.Tryz.prog 60 = some af60 := by kernel_rfl
theorem c61 : cFunc Go.Proofs.Tryz.prog 61 = some af61 := by kernel_rfl
end Go.Ev
