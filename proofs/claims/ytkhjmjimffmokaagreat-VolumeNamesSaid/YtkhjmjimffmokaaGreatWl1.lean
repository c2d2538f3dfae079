/-
Calls of awake(): evaluated, part 2.
-/
import Derived.Test.YtkhjmjimffmokaaGreatWl

set_option maxRecDepth 100000
namespace Go.Proofs.YtkhjmjimffmokaaGreat
open Go.Wm Go.Wm.AV Go.Wm.Blk

theorem c1 : chkE lf0 IPt extF T0 53 e1 = true := by kernel_rfl
theorem c5 : chkE lf0 IPt extF T4 57 e5 = true := by kernel_rfl
theorem c9 : chkE lf0 IPt extF T8 53 e9 = true := by kernel_rfl
theorem c13 : chkE lf0 IPt extF T12 58 e13 = true := by kernel_rfl
theorem c17 : chkE lf0 IPt extF T16 56 e17 = true := by kernel_rfl
end Go.Proofs.YtkhjmjimffmokaaGreat
