/-
The code of the abstract machine is the program's.
-/
import Derived.Test.YtkhjmjimffmokaaGreatWi0
import Derived.Test.YtkhjmjimffmokaaGreatWi1
import Derived.Test.YtkhjmjimffmokaaGreatWi2

set_option maxRecDepth 100000
namespace Go.Proofs.YtkhjmjimffmokaaGreat
open Go.Wm Go.Proofs

theorem IPt_out (n : Nat) (h : 240 ≤ n) : IPt n = none := by
  obtain ⟨k, rfl⟩ : ∃ k, n = k + 240 := ⟨n - 240, by omega⟩
  rfl

theorem chkN_all (n : Nat) (h : n < 240) : chkN n = true := by
  by_cases h0 : n < 10
  · exact chkR_of r0 (by omega) h0
  by_cases h10 : n < 20
  · exact chkR_of r10 (by omega) h10
  by_cases h20 : n < 30
  · exact chkR_of r20 (by omega) h20
  by_cases h30 : n < 40
  · exact chkR_of r30 (by omega) h30
  by_cases h40 : n < 50
  · exact chkR_of r40 (by omega) h40
  by_cases h50 : n < 60
  · exact chkR_of r50 (by omega) h50
  by_cases h60 : n < 70
  · exact chkR_of r60 (by omega) h60
  by_cases h70 : n < 80
  · exact chkR_of r70 (by omega) h70
  by_cases h80 : n < 90
  · exact chkR_of r80 (by omega) h80
  by_cases h90 : n < 100
  · exact chkR_of r90 (by omega) h90
  by_cases h100 : n < 110
  · exact chkR_of r100 (by omega) h100
  by_cases h110 : n < 120
  · exact chkR_of r110 (by omega) h110
  by_cases h120 : n < 130
  · exact chkR_of r120 (by omega) h120
  by_cases h130 : n < 140
  · exact chkR_of r130 (by omega) h130
  by_cases h140 : n < 150
  · exact chkR_of r140 (by omega) h140
  by_cases h150 : n < 160
  · exact chkR_of r150 (by omega) h150
  by_cases h160 : n < 170
  · exact chkR_of r160 (by omega) h160
  by_cases h170 : n < 180
  · exact chkR_of r170 (by omega) h170
  by_cases h180 : n < 190
  · exact chkR_of r180 (by omega) h180
  by_cases h190 : n < 200
  · exact chkR_of r190 (by omega) h190
  by_cases h200 : n < 210
  · exact chkR_of r200 (by omega) h200
  by_cases h210 : n < 220
  · exact chkR_of r210 (by omega) h210
  by_cases h220 : n < 230
  · exact chkR_of r220 (by omega) h220
  by_cases h230 : n < 240
  · exact chkR_of r230 (by omega) h230
  omega

theorem ip_ok (f : Nat) (fn : IFn) (h : IPt f = some fn) : ∃ F, Tryz.prog.funcs[f]? = some F ∧ okFn Tryz.prog fn F = true := by
  by_cases hf : f < 240
  · have hc := chkN_all f hf
    unfold chkN at hc
    rw [h] at hc
    dsimp only at hc
    split at hc
    · rename_i F hF
      exact ⟨F, hF, hc⟩
    · cases hc
  · rw [IPt_out f (by omega)] at h
    cases h
end Go.Proofs.YtkhjmjimffmokaaGreat
