/-
The code of the abstract machine is the program's: checks, part 2.
-/
import Derived.Test.YtkhjmjimffmokaaGreatWi

set_option maxRecDepth 100000
namespace Go.Proofs.YtkhjmjimffmokaaGreat
open Go.Wm Go.Proofs

theorem r80 : chkR 80 = true := by kernel_rfl
theorem r90 : chkR 90 = true := by kernel_rfl
theorem r100 : chkR 100 = true := by kernel_rfl
theorem r110 : chkR 110 = true := by kernel_rfl
theorem r120 : chkR 120 = true := by kernel_rfl
theorem r130 : chkR 130 = true := by kernel_rfl
theorem r140 : chkR 140 = true := by kernel_rfl
theorem r150 : chkR 150 = true := by kernel_rfl
end Go.Proofs.YtkhjmjimffmokaaGreat
