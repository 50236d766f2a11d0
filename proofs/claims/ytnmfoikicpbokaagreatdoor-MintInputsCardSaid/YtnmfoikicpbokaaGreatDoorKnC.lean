/- Each of these answers is what the code gives. -/
import Derived.Test.YtnmfoikicpbokaaGreatDoorEvF
import Derived.Test.YtnmfoikicpbokaaGreatDoorCo
import Derived.Test.YtnmfoikicpbokaaGreatDoorKnA
import Derived.KernelRfl
set_option linter.unusedSimpArgs false
set_option linter.unusedVariables false
namespace Go.Ev
open Go
set_option maxRecDepth 100000
set_option maxHeartbeats 4000000
theorem vn6 : allV (fun f => T.get tabT f) 40 kn6 = true := by kernel_rfl
theorem pn6 : allP kn6 = true := by kernel_rfl
theorem vs6 : allV (fun f => T.get tabT f) 39 ks6 = true := by kernel_rfl
theorem ps6 : allP ks6 = true := by kernel_rfl
theorem vn7 : allV (fun f => T.get tabT f) 40 kn7 = true := by kernel_rfl
theorem pn7 : allP kn7 = true := by kernel_rfl
theorem vs7 : allV (fun f => T.get tabT f) 39 ks7 = true := by kernel_rfl
theorem ps7 : allP ks7 = true := by kernel_rfl
theorem vn8 : allV (fun f => T.get tabT f) 40 kn8 = true := by kernel_rfl
theorem pn8 : allP kn8 = true := by kernel_rfl
theorem vs8 : allV (fun f => T.get tabT f) 39 ks8 = true := by kernel_rfl
theorem ps8 : allP ks8 = true := by kernel_rfl
theorem vn9 : allV (fun f => T.get tabT f) 40 kn9 = true := by kernel_rfl
theorem pn9 : allP kn9 = true := by kernel_rfl
theorem vs9 : allV (fun f => T.get tabT f) 39 ks9 = true := by kernel_rfl
theorem ps9 : allP ks9 = true := by kernel_rfl
theorem vn10 : allV (fun f => T.get tabT f) 40 kn10 = true := by kernel_rfl
theorem pn10 : allP kn10 = true := by kernel_rfl
theorem vs10 : allV (fun f => T.get tabT f) 39 ks10 = true := by kernel_rfl
theorem ps10 : allP ks10 = true := by kernel_rfl
end Go.Ev
