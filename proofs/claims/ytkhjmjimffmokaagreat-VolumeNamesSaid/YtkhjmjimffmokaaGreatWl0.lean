/-
Calls of awake(): evaluated, part 1.
-/
import Derived.Test.YtkhjmjimffmokaaGreatWl

set_option maxRecDepth 100000
namespace Go.Proofs.YtkhjmjimffmokaaGreat
open Go.Wm Go.Wm.AV Go.Wm.Blk

theorem c0 : chkE lf0 IPt extF Tn 53 e0 = true := by kernel_rfl
theorem c4 : chkE lf0 IPt extF T3 56 e4 = true := by kernel_rfl
theorem c8 : chkE lf0 IPt extF T7 52 e8 = true := by kernel_rfl
theorem c12 : chkE lf0 IPt extF T11 53 e12 = true := by kernel_rfl
theorem c16 : chkE lf0 IPt extF T15 56 e16 = true := by kernel_rfl
theorem c20 : chkE lf0 IPt extF T19 60 e20 = true := by kernel_rfl
end Go.Proofs.YtkhjmjimffmokaaGreat
