/-
Calls of awake(): known.
-/
import Derived.Test.YtkhjmjimffmokaaGreatWl0
import Derived.Test.YtkhjmjimffmokaaGreatWl1
import Derived.Test.YtkhjmjimffmokaaGreatWl2
import Derived.Test.YtkhjmjimffmokaaGreatWl3

set_option maxRecDepth 100000
namespace Go.Proofs.YtkhjmjimffmokaaGreat
open Go.Wm Go.Wm.AV Go.Wm.Blk

theorem V0 : Valid lf0 IPt extF T0 := Valid.add Vn c0
theorem V1 : Valid lf0 IPt extF T1 := Valid.add V0 c1
theorem V2 : Valid lf0 IPt extF T2 := Valid.add V1 c2
theorem V3 : Valid lf0 IPt extF T3 := Valid.add V2 c3
theorem V4 : Valid lf0 IPt extF T4 := Valid.add V3 c4
theorem V5 : Valid lf0 IPt extF T5 := Valid.add V4 c5
theorem V6 : Valid lf0 IPt extF T6 := Valid.add V5 c6
theorem V7 : Valid lf0 IPt extF T7 := Valid.add V6 c7
theorem V8 : Valid lf0 IPt extF T8 := Valid.add V7 c8
theorem V9 : Valid lf0 IPt extF T9 := Valid.add V8 c9
theorem V10 : Valid lf0 IPt extF T10 := Valid.add V9 c10
theorem V11 : Valid lf0 IPt extF T11 := Valid.add V10 c11
theorem V12 : Valid lf0 IPt extF T12 := Valid.add V11 c12
theorem V13 : Valid lf0 IPt extF T13 := Valid.add V12 c13
theorem V14 : Valid lf0 IPt extF T14 := Valid.add V13 c14
theorem V15 : Valid lf0 IPt extF T15 := Valid.add V14 c15
theorem V16 : Valid lf0 IPt extF T16 := Valid.add V15 c16
theorem V17 : Valid lf0 IPt extF T17 := Valid.add V16 c17
theorem V18 : Valid lf0 IPt extF T18 := Valid.add V17 c18
theorem V19 : Valid lf0 IPt extF T19 := Valid.add V18 c19
theorem V20 : Valid lf0 IPt extF T20 := Valid.add V19 c20
end Go.Proofs.YtkhjmjimffmokaaGreat
