/-
The code of the abstract machine is the program's: checks, part 1.
-/
import Derived.Test.YtkhjmjimffmokaaGreatWi

set_option maxRecDepth 100000
namespace Go.Proofs.YtkhjmjimffmokaaGreat
open Go.Wm Go.Proofs

theorem r0 : chkR 0 = true := by kernel_rfl
theorem r10 : chkR 10 = true := by kernel_rfl
theorem r20 : chkR 20 = true := by kernel_rfl
theorem r30 : chkR 30 = true := by kernel_rfl
theorem r40 : chkR 40 = true := by kernel_rfl
theorem r50 : chkR 50 = true := by kernel_rfl
theorem r60 : chkR 60 = true := by kernel_rfl
theorem r70 : chkR 70 = true := by kernel_rfl
end Go.Proofs.YtkhjmjimffmokaaGreat
