/-
  No cell of these rows narrows 'for every input' (looked for: loops, veiled, ifaces, maps, wideKeys, modest, calm, conditions, laid).
  DERIVED. THE GIVEN ROWS OF THIS SEAT. 7 by the template 'for every input the law returns true; each argument reads behind the call as it read before'; 0 by the template 'total and deterministic' (their statements: YtkhjmjimffmokaaGreatTotals.lean).
  GIVEN WITH THE SEED: the statements are not yours to turn. If you find one false, say at which input.
  Laid BY PROGRAM, IN A SANDBOX (cutbox-rows.mjs): the forced cells as the released guide's own fill.sh prints them over the translation d9ebfe9e896808da… (all of the seat's roots in one cut). By AI agents, Wed Nov 11 2026. No macro, syntax, notation, axiom, sorry.
-/
import Derived.Test.YtkhjmjimffmokaaGreatChecked
import GoSem.Claim
import GoSem.ClaimJoined
import GoSem.ClaimMapViews
import Derived.JoinedTies
import Derived.KernelRfl
namespace Go.Proofs.YtkhjmjimffmokaaGreat
/- THE CELL 'sum', in the pinned program and in every row, IS THE sha256 OF THE DUMP (.gsa) THAT YtkhjmjimffmokaaGreatProg.lean LOADS. Nothing in Lean hashes anything: it is a label: what it is worth is what the hold of that sum in a sandbox is worth. -/
noncomputable def Tryz.pinned : Pinned := { name := "ytkhjmjimffmokaagreat", sum := "d9ebfe9e896808da4b497204b767882c88095b70f15a2cf1a350575c5c08a714", checked := Tryz.checked }
namespace Rows
def none {H : Type} : Left H := { results := [], args := [] }

/-- 'waggonerlaw14.VolumeNames': WHATEVER THE INPUT: true; the input reads as it did. -/
def volumeNamesSpec : ChangeSpec := { name := "volumeNames", fn := fun _ => fun
  | [] => { results := [.lit (.bool true)], args := [] }
  | _ => none }
def volumeNamesRow : OpenClaim := { program := "ytkhjmjimffmokaagreat", sum := "d9ebfe9e896808da4b497204b767882c88095b70f15a2cf1a350575c5c08a714", func := "waggoner/waggonerlaw14.VolumeNames", spec := "volumeNames", inPlace := ["internal/bytealg.IndexByteString", "internal/bytealg.IndexString"], unfollowed := true, recurses := true, named := ["internal/bytealg.MaxLen"], apart := false }
def VolumeNamesSaid : Prop := volumeNamesRow.holds Tryz.pinned (OpenSpec.ofChange volumeNamesSpec)

/-- ITS FALSE NEIGHBOUR: 'it returns false'. Refute it at one input. -/
def volumeNamesWrong : ChangeSpec := { name := "volumeNames", fn := fun _ => fun
  | [] => { results := [.lit (.bool false)], args := [] }
  | _ => none }
def VolumeNamesWrongFalsely : Prop := volumeNamesRow.holds Tryz.pinned (OpenSpec.ofChange volumeNamesWrong)

/-- 'waggonerlaw14.VolumeAnswers': WHATEVER THE INPUT: true; the input reads as it did. -/
def volumeAnswersSpec : ChangeSpec := { name := "volumeAnswers", fn := fun _ => fun
  | [d1, d2] => { results := [.lit (.bool true)], args := [d1, d2] }
  | _ => none }
def volumeAnswersRow : OpenClaim := { program := "ytkhjmjimffmokaagreat", sum := "d9ebfe9e896808da4b497204b767882c88095b70f15a2cf1a350575c5c08a714", func := "waggoner/waggonerlaw14.VolumeAnswers", spec := "volumeAnswers", inPlace := ["internal/bytealg.IndexByteString", "internal/bytealg.IndexString"], unfollowed := true, recurses := true, named := ["internal/bytealg.MaxLen"], apart := false }
def VolumeAnswersSaid : Prop := volumeAnswersRow.holds Tryz.pinned (OpenSpec.ofChange volumeAnswersSpec)

/-- ITS FALSE NEIGHBOUR: 'it returns false'. Refute it at one input. -/
def volumeAnswersWrong : ChangeSpec := { name := "volumeAnswers", fn := fun _ => fun
  | [d1, d2] => { results := [.lit (.bool false)], args := [d1, d2] }
  | _ => none }
def VolumeAnswersWrongFalsely : Prop := volumeAnswersRow.holds Tryz.pinned (OpenSpec.ofChange volumeAnswersWrong)

/-- 'waggonerlaw14.VolumeSame': WHATEVER THE INPUT: true; the input reads as it did. -/
def volumeSameSpec : ChangeSpec := { name := "volumeSame", fn := fun _ => fun
  | [d1, d2] => { results := [.lit (.bool true)], args := [d1, d2] }
  | _ => none }
def volumeSameRow : OpenClaim := { program := "ytkhjmjimffmokaagreat", sum := "d9ebfe9e896808da4b497204b767882c88095b70f15a2cf1a350575c5c08a714", func := "waggoner/waggonerlaw14.VolumeSame", spec := "volumeSame", inPlace := ["internal/bytealg.IndexByteString", "internal/bytealg.IndexString"], unfollowed := true, recurses := true, named := ["internal/bytealg.MaxLen"], apart := false }
def VolumeSameSaid : Prop := volumeSameRow.holds Tryz.pinned (OpenSpec.ofChange volumeSameSpec)

/-- ITS FALSE NEIGHBOUR: 'it returns false'. Refute it at one input. -/
def volumeSameWrong : ChangeSpec := { name := "volumeSame", fn := fun _ => fun
  | [d1, d2] => { results := [.lit (.bool false)], args := [d1, d2] }
  | _ => none }
def VolumeSameWrongFalsely : Prop := volumeSameRow.holds Tryz.pinned (OpenSpec.ofChange volumeSameWrong)

/-- 'waggonerlaw14.VolumeBound': WHATEVER THE INPUT: true; the input reads as it did. -/
def volumeBoundSpec : ChangeSpec := { name := "volumeBound", fn := fun _ => fun
  | [d1, d2] => { results := [.lit (.bool true)], args := [d1, d2] }
  | _ => none }
def volumeBoundRow : OpenClaim := { program := "ytkhjmjimffmokaagreat", sum := "d9ebfe9e896808da4b497204b767882c88095b70f15a2cf1a350575c5c08a714", func := "waggoner/waggonerlaw14.VolumeBound", spec := "volumeBound", inPlace := ["internal/bytealg.IndexByteString", "internal/bytealg.IndexString"], unfollowed := true, recurses := true, named := ["internal/bytealg.MaxLen"], apart := false }
def VolumeBoundSaid : Prop := volumeBoundRow.holds Tryz.pinned (OpenSpec.ofChange volumeBoundSpec)

/-- ITS FALSE NEIGHBOUR: 'it returns false'. Refute it at one input. -/
def volumeBoundWrong : ChangeSpec := { name := "volumeBound", fn := fun _ => fun
  | [d1, d2] => { results := [.lit (.bool false)], args := [d1, d2] }
  | _ => none }
def VolumeBoundWrongFalsely : Prop := volumeBoundRow.holds Tryz.pinned (OpenSpec.ofChange volumeBoundWrong)

/-- 'waggonerlaw14.VolumeKeeps': WHATEVER THE INPUT: true; the input reads as it did. -/
def volumeKeepsSpec : ChangeSpec := { name := "volumeKeeps", fn := fun _ => fun
  | [d1, d2, d3] => { results := [.lit (.bool true)], args := [d1, d2, d3] }
  | _ => none }
def volumeKeepsRow : OpenClaim := { program := "ytkhjmjimffmokaagreat", sum := "d9ebfe9e896808da4b497204b767882c88095b70f15a2cf1a350575c5c08a714", func := "waggoner/waggonerlaw14.VolumeKeeps", spec := "volumeKeeps", inPlace := ["internal/bytealg.IndexByteString", "internal/bytealg.IndexString"], unfollowed := true, recurses := true, named := ["internal/bytealg.MaxLen"], apart := false }
def VolumeKeepsSaid : Prop := volumeKeepsRow.holds Tryz.pinned (OpenSpec.ofChange volumeKeepsSpec)

/-- ITS FALSE NEIGHBOUR: 'it returns false'. Refute it at one input. -/
def volumeKeepsWrong : ChangeSpec := { name := "volumeKeeps", fn := fun _ => fun
  | [d1, d2, d3] => { results := [.lit (.bool false)], args := [d1, d2, d3] }
  | _ => none }
def VolumeKeepsWrongFalsely : Prop := volumeKeepsRow.holds Tryz.pinned (OpenSpec.ofChange volumeKeepsWrong)

/-- 'waggonerlaw14.VolumeCrashes': WHATEVER THE INPUT: true; the input reads as it did. -/
def volumeCrashesSpec : ChangeSpec := { name := "volumeCrashes", fn := fun _ => fun
  | [d1, d2, d3, d4, d5] => { results := [.lit (.bool true)], args := [d1, d2, d3, d4, d5] }
  | _ => none }
def volumeCrashesRow : OpenClaim := { program := "ytkhjmjimffmokaagreat", sum := "d9ebfe9e896808da4b497204b767882c88095b70f15a2cf1a350575c5c08a714", func := "waggoner/waggonerlaw14.VolumeCrashes", spec := "volumeCrashes", inPlace := ["internal/bytealg.IndexByteString", "internal/bytealg.IndexString"], unfollowed := true, recurses := true, named := ["internal/bytealg.MaxLen"], apart := false }
def VolumeCrashesSaid : Prop := volumeCrashesRow.holds Tryz.pinned (OpenSpec.ofChange volumeCrashesSpec)

/-- ITS FALSE NEIGHBOUR: 'it returns false'. Refute it at one input. -/
def volumeCrashesWrong : ChangeSpec := { name := "volumeCrashes", fn := fun _ => fun
  | [d1, d2, d3, d4, d5] => { results := [.lit (.bool false)], args := [d1, d2, d3, d4, d5] }
  | _ => none }
def VolumeCrashesWrongFalsely : Prop := volumeCrashesRow.holds Tryz.pinned (OpenSpec.ofChange volumeCrashesWrong)

/-- 'waggonerlaw14.VolumeNil': WHATEVER THE INPUT: true; the input reads as it did. -/
def volumeNilSpec : ChangeSpec := { name := "volumeNil", fn := fun _ => fun
  | [d1, d2, d3] => { results := [.lit (.bool true)], args := [d1, d2, d3] }
  | _ => none }
def volumeNilRow : OpenClaim := { program := "ytkhjmjimffmokaagreat", sum := "d9ebfe9e896808da4b497204b767882c88095b70f15a2cf1a350575c5c08a714", func := "waggoner/waggonerlaw14.VolumeNil", spec := "volumeNil", inPlace := ["internal/bytealg.IndexByteString", "internal/bytealg.IndexString"], unfollowed := true, recurses := true, named := ["internal/bytealg.MaxLen"], apart := false }
def VolumeNilSaid : Prop := volumeNilRow.holds Tryz.pinned (OpenSpec.ofChange volumeNilSpec)

/-- ITS FALSE NEIGHBOUR: 'it returns false'. Refute it at one input. -/
def volumeNilWrong : ChangeSpec := { name := "volumeNil", fn := fun _ => fun
  | [d1, d2, d3] => { results := [.lit (.bool false)], args := [d1, d2, d3] }
  | _ => none }
def VolumeNilWrongFalsely : Prop := volumeNilRow.holds Tryz.pinned (OpenSpec.ofChange volumeNilWrong)

/- THE SECOND FORM. 'bulk': how many values and letters a reading holds, each counted each time it is reached (what is shared counts as often as it is met; a slice's spare places count too). A statement '..UptoSaid' is the law's where the arguments, and the package variables that the reading takes, are together of bulk at most 1048576: NARROWER than '..Said'. Prove '..Said' where nothing that the law and all that it calls make is longer than what came in: it says more and counts as full. Else prove '..UptoSaid'. A law counts once. -/
mutual
def uptoBulk {H : Type} : DataW H → Nat
  | .lit (.string bytes) => bytes.length + 1
  | .lit _ => 1
  | .nil => 1
  | .ptr d => uptoBulk d + 1
  | .slice elems spare => uptoBulkAll elems + uptoBulkAll spare + 1
  | .agg parts => uptoBulkAll parts + 1
  | .iface _ d => uptoBulk d + 1
  | .map entries => uptoBulkEntries entries + 1
  | .held _ => 1
def uptoBulkAll {H : Type} : List (DataW H) → Nat
  | [] => 0
  | d :: r => uptoBulk d + uptoBulkAll r
def uptoBulkEntries {H : Type} : List (Lit × DataW H) → Nat
  | [] => 0
  | x :: r => uptoBulkEntry x + uptoBulkEntries r
def uptoBulkEntry {H : Type} : Lit × DataW H → Nat
  | (.string bytes, d) => bytes.length + uptoBulk d + 1
  | (_, d) => uptoBulk d + 1
 end
def uptoSmall : (H : Type) → List (DataW H) → Bool := fun _ ds => decide (uptoBulkAll ds ≤ 1048576)
def OpenSpec.upto (s : _root_.Go.ChangeSpec) : _root_.Go.OpenSpec := { _root_.Go.OpenSpec.ofChange s with cond := some uptoSmall }

/-- 'waggonerlaw14.VolumeNames', WHERE WHAT IT READS IS OF BULK AT MOST 1048576: true; the input reads as it did. -/
def volumeNamesUptoRow : OpenClaim := { program := "ytkhjmjimffmokaagreat", sum := "d9ebfe9e896808da4b497204b767882c88095b70f15a2cf1a350575c5c08a714", func := "waggoner/waggonerlaw14.VolumeNames", spec := "volumeNames", inPlace := ["internal/bytealg.IndexByteString", "internal/bytealg.IndexString"], unfollowed := true, recurses := true, named := ["internal/bytealg.MaxLen"], apart := false, narrowed := true }
def VolumeNamesUptoSaid : Prop := volumeNamesUptoRow.holds Tryz.pinned (OpenSpec.upto volumeNamesSpec)

/-- 'waggonerlaw14.VolumeAnswers', WHERE WHAT IT READS IS OF BULK AT MOST 1048576: true; the input reads as it did. -/
def volumeAnswersUptoRow : OpenClaim := { program := "ytkhjmjimffmokaagreat", sum := "d9ebfe9e896808da4b497204b767882c88095b70f15a2cf1a350575c5c08a714", func := "waggoner/waggonerlaw14.VolumeAnswers", spec := "volumeAnswers", inPlace := ["internal/bytealg.IndexByteString", "internal/bytealg.IndexString"], unfollowed := true, recurses := true, named := ["internal/bytealg.MaxLen"], apart := false, narrowed := true }
def VolumeAnswersUptoSaid : Prop := volumeAnswersUptoRow.holds Tryz.pinned (OpenSpec.upto volumeAnswersSpec)

/-- 'waggonerlaw14.VolumeSame', WHERE WHAT IT READS IS OF BULK AT MOST 1048576: true; the input reads as it did. -/
def volumeSameUptoRow : OpenClaim := { program := "ytkhjmjimffmokaagreat", sum := "d9ebfe9e896808da4b497204b767882c88095b70f15a2cf1a350575c5c08a714", func := "waggoner/waggonerlaw14.VolumeSame", spec := "volumeSame", inPlace := ["internal/bytealg.IndexByteString", "internal/bytealg.IndexString"], unfollowed := true, recurses := true, named := ["internal/bytealg.MaxLen"], apart := false, narrowed := true }
def VolumeSameUptoSaid : Prop := volumeSameUptoRow.holds Tryz.pinned (OpenSpec.upto volumeSameSpec)

/-- 'waggonerlaw14.VolumeBound', WHERE WHAT IT READS IS OF BULK AT MOST 1048576: true; the input reads as it did. -/
def volumeBoundUptoRow : OpenClaim := { program := "ytkhjmjimffmokaagreat", sum := "d9ebfe9e896808da4b497204b767882c88095b70f15a2cf1a350575c5c08a714", func := "waggoner/waggonerlaw14.VolumeBound", spec := "volumeBound", inPlace := ["internal/bytealg.IndexByteString", "internal/bytealg.IndexString"], unfollowed := true, recurses := true, named := ["internal/bytealg.MaxLen"], apart := false, narrowed := true }
def VolumeBoundUptoSaid : Prop := volumeBoundUptoRow.holds Tryz.pinned (OpenSpec.upto volumeBoundSpec)

/-- 'waggonerlaw14.VolumeKeeps', WHERE WHAT IT READS IS OF BULK AT MOST 1048576: true; the input reads as it did. -/
def volumeKeepsUptoRow : OpenClaim := { program := "ytkhjmjimffmokaagreat", sum := "d9ebfe9e896808da4b497204b767882c88095b70f15a2cf1a350575c5c08a714", func := "waggoner/waggonerlaw14.VolumeKeeps", spec := "volumeKeeps", inPlace := ["internal/bytealg.IndexByteString", "internal/bytealg.IndexString"], unfollowed := true, recurses := true, named := ["internal/bytealg.MaxLen"], apart := false, narrowed := true }
def VolumeKeepsUptoSaid : Prop := volumeKeepsUptoRow.holds Tryz.pinned (OpenSpec.upto volumeKeepsSpec)

/-- 'waggonerlaw14.VolumeCrashes', WHERE WHAT IT READS IS OF BULK AT MOST 1048576: true; the input reads as it did. -/
def volumeCrashesUptoRow : OpenClaim := { program := "ytkhjmjimffmokaagreat", sum := "d9ebfe9e896808da4b497204b767882c88095b70f15a2cf1a350575c5c08a714", func := "waggoner/waggonerlaw14.VolumeCrashes", spec := "volumeCrashes", inPlace := ["internal/bytealg.IndexByteString", "internal/bytealg.IndexString"], unfollowed := true, recurses := true, named := ["internal/bytealg.MaxLen"], apart := false, narrowed := true }
def VolumeCrashesUptoSaid : Prop := volumeCrashesUptoRow.holds Tryz.pinned (OpenSpec.upto volumeCrashesSpec)

/-- 'waggonerlaw14.VolumeNil', WHERE WHAT IT READS IS OF BULK AT MOST 1048576: true; the input reads as it did. -/
def volumeNilUptoRow : OpenClaim := { program := "ytkhjmjimffmokaagreat", sum := "d9ebfe9e896808da4b497204b767882c88095b70f15a2cf1a350575c5c08a714", func := "waggoner/waggonerlaw14.VolumeNil", spec := "volumeNil", inPlace := ["internal/bytealg.IndexByteString", "internal/bytealg.IndexString"], unfollowed := true, recurses := true, named := ["internal/bytealg.MaxLen"], apart := false, narrowed := true }
def VolumeNilUptoSaid : Prop := volumeNilUptoRow.holds Tryz.pinned (OpenSpec.upto volumeNilSpec)

end Rows
end Go.Proofs.YtkhjmjimffmokaaGreat
