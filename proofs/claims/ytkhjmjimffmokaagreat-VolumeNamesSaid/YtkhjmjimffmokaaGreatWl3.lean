/-
Calls of awake(): evaluated, part 4.
-/
import Derived.Test.YtkhjmjimffmokaaGreatWl

set_option maxRecDepth 100000
namespace Go.Proofs.YtkhjmjimffmokaaGreat
open Go.Wm Go.Wm.AV Go.Wm.Blk

theorem c3 : chkE lf0 IPt extF T2 56 e3 = true := by kernel_rfl
theorem c7 : chkE lf0 IPt extF T6 52 e7 = true := by kernel_rfl
theorem c11 : chkE lf0 IPt extF T10 58 e11 = true := by kernel_rfl
theorem c15 : chkE lf0 IPt extF T14 53 e15 = true := by kernel_rfl
theorem c19 : chkE lf0 IPt extF T18 59 e19 = true := by kernel_rfl
end Go.Proofs.YtkhjmjimffmokaaGreat
