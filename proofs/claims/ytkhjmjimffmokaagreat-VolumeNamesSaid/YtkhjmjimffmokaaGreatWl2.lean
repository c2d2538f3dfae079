/-
Calls of awake(): evaluated, part 3.
-/
import Derived.Test.YtkhjmjimffmokaaGreatWl

set_option maxRecDepth 100000
namespace Go.Proofs.YtkhjmjimffmokaaGreat
open Go.Wm Go.Wm.AV Go.Wm.Blk

theorem c2 : chkE lf0 IPt extF T1 54 e2 = true := by kernel_rfl
theorem c6 : chkE lf0 IPt extF T5 53 e6 = true := by kernel_rfl
theorem c10 : chkE lf0 IPt extF T9 55 e10 = true := by kernel_rfl
theorem c14 : chkE lf0 IPt extF T13 52 e14 = true := by kernel_rfl
theorem c18 : chkE lf0 IPt extF T17 55 e18 = true := by kernel_rfl
end Go.Proofs.YtkhjmjimffmokaaGreat
