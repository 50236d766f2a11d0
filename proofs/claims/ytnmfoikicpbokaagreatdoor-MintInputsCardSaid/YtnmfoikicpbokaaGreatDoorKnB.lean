/- Each of these answers is what the code gives. -/
import Derived.Test.YtnmfoikicpbokaaGreatDoorEvF
import Derived.Test.YtnmfoikicpbokaaGreatDoorCo
import Derived.Test.YtnmfoikicpbokaaGreatDoorKnA
import Derived.KernelRfl
set_option linter.unusedSimpArgs false
set_option linter.unusedVariables false
namespace Go.Ev
open Go
set_option maxRecDepth 100000
set_option maxHeartbeats 4000000
theorem vn0 : allV (fun f => T.get tabT f) 40 kn0 = true := by kernel_rfl
theorem pn0 : allP kn0 = true := by kernel_rfl
theorem vs0 : allV (fun f => T.get tabT f) 39 ks0 = true := by kernel_rfl
theorem ps0 : allP ks0 = true := by kernel_rfl
theorem vn1 : allV (fun f => T.get tabT f) 40 kn1 = true := by kernel_rfl
theorem pn1 : allP kn1 = true := by kernel_rfl
theorem vs1 : allV (fun f => T.get tabT f) 39 ks1 = true := by kernel_rfl
theorem ps1 : allP ks1 = true := by kernel_rfl
theorem vn2 : allV (fun f => T.get tabT f) 40 kn2 = true := by kernel_rfl
theorem pn2 : allP kn2 = true := by kernel_rfl
theorem vs2 : allV (fun f => T.get tabT f) 39 ks2 = true := by kernel_rfl
theorem ps2 : allP ks2 = true := by kernel_rfl
theorem vn3 : allV (fun f => T.get tabT f) 40 kn3 = true := by kernel_rfl
theorem pn3 : allP kn3 = true := by kernel_rfl
theorem vs3 : allV (fun f => T.get tabT f) 39 ks3 = true := by kernel_rfl
theorem ps3 : allP ks3 = true := by kernel_rfl
theorem vn4 : allV (fun f => T.get tabT f) 40 kn4 = true := by kernel_rfl
theorem pn4 : allP kn4 = true := by kernel_rfl
theorem vs4 : allV (fun f => T.get tabT f) 39 ks4 = true := by kernel_rfl
theorem ps4 : allP ks4 = true := by kernel_rfl
theorem vn5 : allV (fun f => T.get tabT f) 40 kn5 = true := by kernel_rfl
theorem pn5 : allP kn5 = true := by kernel_rfl
theorem vs5 : allV (fun f => T.get tabT f) 39 ks5 = true := by kernel_rfl
theorem ps5 : allP ks5 = true := by kernel_rfl
end Go.Ev
