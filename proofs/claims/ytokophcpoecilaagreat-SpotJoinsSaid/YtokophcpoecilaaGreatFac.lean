/- Closed facts of the row, one by one. -/
import Derived.Test.YtokophcpoecilaaGreatRows
import Derived.ProofKit
import Derived.KernelRfl
set_option linter.unusedSimpArgs false
set_option linter.unusedVariables false
namespace Go.Proofs.YtokophcpoecilaaGreat
theorem j1 : (Rows.spotJoinsRow.inPlace == Tryz.pinned.checked.prog.inPlace 3) = true := by kernel_rfl
theorem j2 : (Rows.spotJoinsRow.unfollowed == Tryz.pinned.checked.prog.unfollowed 3) = true := by kernel_rfl
theorem j3 : (Rows.spotJoinsRow.recurses == Tryz.pinned.checked.prog.recurses 3) = true := by kernel_rfl
theorem j4 : (Rows.spotJoinsRow.named == Tryz.pinned.checked.prog.varsNamed 3) = true := by kernel_rfl
theorem closedF : joinedFacts Tryz.pinned.checked.prog 3 Tryz.f3 Rows.spotJoinsSpec Rows.spotJoinsRow = true := by
  rw [joinedFacts, j1, j2, j3, j4]
  kernel_rfl
end Go.Proofs.YtokophcpoecilaaGreat
