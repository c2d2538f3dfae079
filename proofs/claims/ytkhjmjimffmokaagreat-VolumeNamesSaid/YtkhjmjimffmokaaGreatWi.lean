/-
The code of the abstract machine is the program's: what is checked.
-/
import Derived.Test.YtkhjmjimffmokaaGreatProg
import Derived.KernelRfl
import Derived.Test.YtkhjmjimffmokaaGreatWe
import Derived.Test.YtkhjmjimffmokaaGreatWh

set_option maxRecDepth 100000
namespace Go.Proofs.YtkhjmjimffmokaaGreat
open Go.Wm Go.Proofs

noncomputable def chkN (n : Nat) : Bool :=
  match IPt n with
  | none => true
  | some fn => match Tryz.prog.funcs[n]? with | some F => okFn Tryz.prog fn F | none => false
noncomputable def chkR (a : Nat) : Bool := (List.range' a 10).all chkN
theorem chkR_of {a n : Nat} (h : chkR a = true) (h1 : a ≤ n) (h2 : n < a + 10) : chkN n = true :=
  List.all_eq_true.1 h n (by rw [List.mem_range'_1]; omega)

end Go.Proofs.YtkhjmjimffmokaaGreat
