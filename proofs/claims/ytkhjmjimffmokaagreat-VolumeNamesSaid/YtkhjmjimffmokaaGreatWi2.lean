/-
The code of the abstract machine is the program's: checks, part 3.
-/
import Derived.Test.YtkhjmjimffmokaaGreatWi

set_option maxRecDepth 100000
namespace Go.Proofs.YtkhjmjimffmokaaGreat
open Go.Wm Go.Proofs

theorem r160 : chkR 160 = true := by kernel_rfl
theorem r170 : chkR 170 = true := by kernel_rfl
theorem r180 : chkR 180 = true := by kernel_rfl
theorem r190 : chkR 190 = true := by kernel_rfl
theorem r200 : chkR 200 = true := by kernel_rfl
theorem r210 : chkR 210 = true := by kernel_rfl
theorem r220 : chkR 220 = true := by kernel_rfl
theorem r230 : chkR 230 = true := by kernel_rfl
end Go.Proofs.YtkhjmjimffmokaaGreat
