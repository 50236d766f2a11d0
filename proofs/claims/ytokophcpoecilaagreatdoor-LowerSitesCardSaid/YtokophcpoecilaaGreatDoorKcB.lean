/- The code of the program's functions is what the compiler of the abstract machine gives, part 1. -/
import Derived.Test.YtokophcpoecilaaGreatDoorProg
import Derived.Test.YtokophcpoecilaaGreatDoorCoB
import Derived.Test.YtokophcpoecilaaGreatDoorEvA
import Derived.KernelRfl
set_option linter.unusedSimpArgs false
set_option linter.unusedVariables false
namespace Go.Ev
open Go Go.Proofs
set_option maxRecDepth 100000
set_option maxHeartbeats 4000000
theorem c46 : cFunc Tryz.prog 46 = some af46 := by kernel_rfl
theorem c47 : cFunc Tryz.prog 47 = some af47 := by kernel_rfl
theorem c48 : cFunc Tryz.prog 48 = some af48 := by kernel_rfl
theorem c49 : cFunc Tryz.prog 49 = some af49 := by kernel_rfl
theorem c50 : cFunc Tryz.prog 50 = some af50 := by kernel_rfl
theorem c51 : cFunc Tryz.prog 51 = some af51 := by kernel_rfl
theorem c52 : cFunc Tryz.prog 52 = some af52 := by kernel_rfl
theorem c53 : cFunc Tryz.prog 53 = some af53 := by kernel_rfl
theorem c54 : cFunc Tryz.prog 54 = some af54 := by kernel_rfl
theorem c55 : cFunc Tryz.prog 55 = some af55 := by kernel_rfl
theorem c56 : cFunc Tryz.prog 56 = some af56 := by kernel_rfl
theorem c57 : cFunc Tryz.prog 57 = some af57 := by kernel_rfl
theorem c58 : cFunc Tryz.prog 58 = some af58 := by kernel_rfl
theorem c59 : cFunc Tryz.prog 59 = some af59 := by kernel_rfl
theorem c60 : cFunc Tryz.prog 60 = some af60 := by kernel_rfl
theorem c61 : cFunc Tryz.prog 61 = some af61 := by kernel_rfl
theorem c62 : cFunc Tryz.prog 62 = some af62 := by kernel_rfl
theorem c63 : cFunc Tryz.prog 63 = some af63 := by kernel_rfl
theorem c64 : cFunc Tryz.prog 64 = some af64 := by kernel_rfl
theorem c65 : cFunc Tryz.prog 65 = some af65 := by kernel_rfl
theorem c66 : cFunc Tryz.prog 66 = some af66 := by kernel_rfl
theorem c67 : cFunc Tryz.prog 67 = some af67 := by kernel_rfl
theorem c68 : cFunc Tryz.prog 68 = some af68 := by kernel_rfl
theorem c69 : cFunc Tryz.prog 69 = some af69 := by kernel_rfl
theorem c70 : cFunc Tryz.prog 70 = some af70 := by kernel_rfl
theorem c71 : cFunc Tryz.prog 71 = some af71 := by kernel_rfl
theorem c72 : cFunc Tryz.prog 72 = some af72 := by kernel_rfl
theorem c73 : cFunc Tryz.prog 73 = some af73 := by kernel_rfl
theorem c74 : cFunc Tryz.prog 74 = some af74 := by kernel_rfl
theorem c75 : cFunc Tryz.prog 75 = some af75 := by kernel_rfl
theorem c76 : cFunc Tryz.prog 76 = some af76 := by kernel_rfl
theorem c77 : cFunc Tryz.prog 77 = some af77 := by kernel_rfl
theorem c78 : cFunc Tryz.prog 78 = some af78 := by kernel_rfl
theorem c79 : cFunc Tryz.prog 79 = some af79 := by kernel_rfl
theorem c80 : cFunc Tryz.prog 80 = some af80 := by kernel_rfl
theorem c81 : cFunc Tryz.prog 81 = some af81 := by kernel_rfl
theorem c82 : cFunc Tryz.prog 82 = some af82 := by kernel_rfl
end Go.Ev
