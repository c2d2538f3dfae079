/-
The functions of the library that are told by plain functions: copies of slices, strings.IndexRune.
-/
import Derived.Test.YtkhjmjimffmokaaGreatProg
import Derived.WalkKit
import Derived.WalkSpells
import Derived.WalkLawsBesides
import Derived.Lib.Walk
import Derived.Lib.SliceRun
import Derived.Deep.LoopGhost
import Derived.KernelRfl
import Derived.Shelf.Strings.Runes
import Derived.Test.YtkhjmjimffmokaaGreatWe

set_option linter.unusedVariables false
set_option linter.unusedSimpArgs false
namespace Go.Proofs.YtkhjmjimffmokaaGreat
open Go.RowKit Go.Lib Go.Proofs

/-- what is known of a copy -/
def Cloned (e size : Nat) (news : List Value) (n : Nat) (w : World) (en : Ending) (w' : World) : Prop :=
  ∃ v', en = .returned v' ∧ w'.ownsRow w.heap.size e size v' n news ∧ v' ≠ .slice none 0 0 ∧ Below w.heap.size w w'

set_option maxHeartbeats 2000000 in
set_option maxRecDepth 100000 in
theorem clone73 (i0 : TypeInfo) (z : Value) (size bytes : Nat) (hi : Tryz.prog.info? 95 = some i0) (hz0 : i0.zero = some z) (hz1 : i0.size = size) (hz2 : i0.bytes = bytes) (hzs : z.cells.size = size) (hsz : 0 < size)
    (a : Addr) (n c : Nat) (news : List Value) (w : World) (hl : news.length = n * size) (hn : n ≤ maxLen) (hbig : n * bytes ≤ 140737488355328)
    (hc : ∀ j u, news[j]? = some u → w.cell? (a.add j) = some u) (h1 : ∀ u ∈ news, u.oneCell' = true) :
    Calls Tryz.prog 73 #[.slice (some a) n c] w (Cloned 95 size news n w) := by
  have mixed : Tryz.prog.follows .mixedOrders = true := by kernel_rfl
  have t4 := Tryz.underlying4; have a4 := Tryz.isAgg4; have z4 := Tryz.sizeOf4; have v4 := Tryz.zeroValue4
  have t22 := Tryz.underlying27; have a22 := Tryz.isAgg27; have z22 := Tryz.sizeOf27; have v22 := Tryz.zeroValue27
  have q22 : ∀ (w : World) (a : Option Addr) (n c n' c' : Nat), (binOp .eql 27 (.slice a n c) (.slice none n' c')).run Tryz.prog w = .ok (.bool a.isNone) w := fun w a n c n' c' => Lib.run_eql_slice_nil w _ _ a n c n' c' Tryz.underlying27
  have u22 : ∀ w, Sem.run Tryz.prog (underlying 27) w = .ok (TypeDesc.slice 95) w := run_underlying t22
  have z23 : ∀ w, Sem.run Tryz.prog (Go.sizeOf 95) w = .ok size w := fun w => by simp [Go.sizeOf, typeInfo, hi, hz1]
  have A : Aside (∀ j u, news[j]? = some u → w.cell? (a.add j) = some u) := hc
  clear hc
  unfold Cloned
  go_enter Tryz.func73, Tryz.ntmps73
  go_wp2_with (at_builtin; refine wpList_append_own _ rfl _ _ 27 rfl w.heap.size 95 i0 z size bytes t22 hi hz0 hz1 hz2 hzs hsz _ _ _ rfl (World.ownsRow_made w #[] 0 (Nat.le_refl _) (Nat.zero_le _) (by simp)) a n c news rfl ?qc1 ?qc2 ?qc3 ?qc4 ?qc5 ?qc6 ?_)
  case qc1 => exact hl
  case qc2 =>
    intro j u hj
    exact Lib.cell?_alloc_some _ (A.out j u hj)
  case qc3 => exact h1
  case qc4 => rw [Nat.zero_add]; exact hn
  case qc5 => rw [Nat.zero_add]; exact hbig
  case qc6 => simp
  intro v' w1 hown hgrow hnil
  go_wp2
  go_ret
  refine ⟨v', rfl, by simpa using hown, ?_, ?_⟩
  · first | exact hnil | (intro e; exact absurd (hnil.1 e).1 (by simp))
  · exact ((Below.refl _ w).alloc (Nat.le_refl _) _).grown hgrow (by simp) (by intro k hk; simp [Value.ownBlock] at hk; omega)

set_option maxHeartbeats 1000000 in
theorem clone73_nil (n c : Nat) (w : World) : Calls Tryz.prog 73 #[.slice none n c] w fun e w' => e = .returned (.slice none 0 0) ∧ w' = w := by
  have mixed : Tryz.prog.follows .mixedOrders = true := by kernel_rfl
  have t4 := Tryz.underlying4; have a4 := Tryz.isAgg4; have z4 := Tryz.sizeOf4; have v4 := Tryz.zeroValue4
  have t22 := Tryz.underlying27; have a22 := Tryz.isAgg27; have z22 := Tryz.sizeOf27; have v22 := Tryz.zeroValue27
  have q22 : ∀ (w : World) (a : Option Addr) (n c n' c' : Nat), (binOp .eql 27 (.slice a n c) (.slice none n' c')).run Tryz.prog w = .ok (.bool a.isNone) w := fun w a n c n' c' => Lib.run_eql_slice_nil w _ _ a n c n' c' Tryz.underlying27
  have u22 : ∀ w, Sem.run Tryz.prog (underlying 27) w = .ok (TypeDesc.slice 95) w := run_underlying t22
  go_enter Tryz.func73, Tryz.ntmps73
  go_wp2
  go_ret
  exact ⟨rfl, rfl⟩

set_option maxHeartbeats 2000000 in
set_option maxRecDepth 100000 in
theorem clone74 (i0 : TypeInfo) (z : Value) (size bytes : Nat) (hi : Tryz.prog.info? 5 = some i0) (hz0 : i0.zero = some z) (hz1 : i0.size = size) (hz2 : i0.bytes = bytes) (hzs : z.cells.size = size) (hsz : 0 < size)
    (a : Addr) (n c : Nat) (news : List Value) (w : World) (hl : news.length = n * size) (hn : n ≤ maxLen) (hbig : n * bytes ≤ 140737488355328)
    (hc : ∀ j u, news[j]? = some u → w.cell? (a.add j) = some u) (h1 : ∀ u ∈ news, u.oneCell' = true) :
    Calls Tryz.prog 74 #[.slice (some a) n c] w (Cloned 5 size news n w) := by
  have mixed : Tryz.prog.follows .mixedOrders = true := by kernel_rfl
  have t4 := Tryz.underlying4; have a4 := Tryz.isAgg4; have z4 := Tryz.sizeOf4; have v4 := Tryz.zeroValue4
  have t22 := Tryz.underlying28; have a22 := Tryz.isAgg28; have z22 := Tryz.sizeOf28; have v22 := Tryz.zeroValue28
  have q22 : ∀ (w : World) (a : Option Addr) (n c n' c' : Nat), (binOp .eql 28 (.slice a n c) (.slice none n' c')).run Tryz.prog w = .ok (.bool a.isNone) w := fun w a n c n' c' => Lib.run_eql_slice_nil w _ _ a n c n' c' Tryz.underlying28
  have u22 : ∀ w, Sem.run Tryz.prog (underlying 28) w = .ok (TypeDesc.slice 5) w := run_underlying t22
  have z23 : ∀ w, Sem.run Tryz.prog (Go.sizeOf 5) w = .ok size w := fun w => by simp [Go.sizeOf, typeInfo, hi, hz1]
  have A : Aside (∀ j u, news[j]? = some u → w.cell? (a.add j) = some u) := hc
  clear hc
  unfold Cloned
  go_enter Tryz.func74, Tryz.ntmps74
  go_wp2_with (at_builtin; refine wpList_append_own _ rfl _ _ 28 rfl w.heap.size 5 i0 z size bytes t22 hi hz0 hz1 hz2 hzs hsz _ _ _ rfl (World.ownsRow_made w #[] 0 (Nat.le_refl _) (Nat.zero_le _) (by simp)) a n c news rfl ?qc1 ?qc2 ?qc3 ?qc4 ?qc5 ?qc6 ?_)
  case qc1 => exact hl
  case qc2 =>
    intro j u hj
    exact Lib.cell?_alloc_some _ (A.out j u hj)
  case qc3 => exact h1
  case qc4 => rw [Nat.zero_add]; exact hn
  case qc5 => rw [Nat.zero_add]; exact hbig
  case qc6 => simp
  intro v' w1 hown hgrow hnil
  go_wp2
  go_ret
  refine ⟨v', rfl, by simpa using hown, ?_, ?_⟩
  · first | exact hnil | (intro e; exact absurd (hnil.1 e).1 (by simp))
  · exact ((Below.refl _ w).alloc (Nat.le_refl _) _).grown hgrow (by simp) (by intro k hk; simp [Value.ownBlock] at hk; omega)

set_option maxHeartbeats 1000000 in
theorem clone74_nil (n c : Nat) (w : World) : Calls Tryz.prog 74 #[.slice none n c] w fun e w' => e = .returned (.slice none 0 0) ∧ w' = w := by
  have mixed : Tryz.prog.follows .mixedOrders = true := by kernel_rfl
  have t4 := Tryz.underlying4; have a4 := Tryz.isAgg4; have z4 := Tryz.sizeOf4; have v4 := Tryz.zeroValue4
  have t22 := Tryz.underlying28; have a22 := Tryz.isAgg28; have z22 := Tryz.sizeOf28; have v22 := Tryz.zeroValue28
  have q22 : ∀ (w : World) (a : Option Addr) (n c n' c' : Nat), (binOp .eql 28 (.slice a n c) (.slice none n' c')).run Tryz.prog w = .ok (.bool a.isNone) w := fun w a n c n' c' => Lib.run_eql_slice_nil w _ _ a n c n' c' Tryz.underlying28
  have u22 : ∀ w, Sem.run Tryz.prog (underlying 28) w = .ok (TypeDesc.slice 5) w := run_underlying t22
  go_enter Tryz.func74, Tryz.ntmps74
  go_wp2
  go_ret
  exact ⟨rfl, rfl⟩

set_option maxHeartbeats 2000000 in
set_option maxRecDepth 100000 in
theorem clone123 (i0 : TypeInfo) (z : Value) (size bytes : Nat) (hi : Tryz.prog.info? 90 = some i0) (hz0 : i0.zero = some z) (hz1 : i0.size = size) (hz2 : i0.bytes = bytes) (hzs : z.cells.size = size) (hsz : 0 < size)
    (a : Addr) (n c : Nat) (news : List Value) (w : World) (hl : news.length = n * size) (hn : n ≤ maxLen) (hbig : n * bytes ≤ 140737488355328)
    (hc : ∀ j u, news[j]? = some u → w.cell? (a.add j) = some u) (h1 : ∀ u ∈ news, u.oneCell' = true) :
    Calls Tryz.prog 123 #[.slice (some a) n c] w (Cloned 90 size news n w) := by
  have mixed : Tryz.prog.follows .mixedOrders = true := by kernel_rfl
  have t4 := Tryz.underlying4; have a4 := Tryz.isAgg4; have z4 := Tryz.sizeOf4; have v4 := Tryz.zeroValue4
  have t22 := Tryz.underlying39; have a22 := Tryz.isAgg39; have z22 := Tryz.sizeOf39; have v22 := Tryz.zeroValue39
  have q22 : ∀ (w : World) (a : Option Addr) (n c n' c' : Nat), (binOp .eql 39 (.slice a n c) (.slice none n' c')).run Tryz.prog w = .ok (.bool a.isNone) w := fun w a n c n' c' => Lib.run_eql_slice_nil w _ _ a n c n' c' Tryz.underlying39
  have u22 : ∀ w, Sem.run Tryz.prog (underlying 39) w = .ok (TypeDesc.slice 90) w := run_underlying t22
  have z23 : ∀ w, Sem.run Tryz.prog (Go.sizeOf 90) w = .ok size w := fun w => by simp [Go.sizeOf, typeInfo, hi, hz1]
  have A : Aside (∀ j u, news[j]? = some u → w.cell? (a.add j) = some u) := hc
  clear hc
  unfold Cloned
  go_enter Tryz.func123, Tryz.ntmps123
  go_wp2_with (at_builtin; refine wpList_append_own _ rfl _ _ 39 rfl w.heap.size 90 i0 z size bytes t22 hi hz0 hz1 hz2 hzs hsz _ _ _ rfl (World.ownsRow_made w #[] 0 (Nat.le_refl _) (Nat.zero_le _) (by simp)) a n c news rfl ?qc1 ?qc2 ?qc3 ?qc4 ?qc5 ?qc6 ?_)
  case qc1 => exact hl
  case qc2 =>
    intro j u hj
    exact Lib.cell?_alloc_some _ (A.out j u hj)
  case qc3 => exact h1
  case qc4 => rw [Nat.zero_add]; exact hn
  case qc5 => rw [Nat.zero_add]; exact hbig
  case qc6 => simp
  intro v' w1 hown hgrow hnil
  go_wp2
  go_ret
  refine ⟨v', rfl, by simpa using hown, ?_, ?_⟩
  · first | exact hnil | (intro e; exact absurd (hnil.1 e).1 (by simp))
  · exact ((Below.refl _ w).alloc (Nat.le_refl _) _).grown hgrow (by simp) (by intro k hk; simp [Value.ownBlock] at hk; omega)

set_option maxHeartbeats 1000000 in
theorem clone123_nil (n c : Nat) (w : World) : Calls Tryz.prog 123 #[.slice none n c] w fun e w' => e = .returned (.slice none 0 0) ∧ w' = w := by
  have mixed : Tryz.prog.follows .mixedOrders = true := by kernel_rfl
  have t4 := Tryz.underlying4; have a4 := Tryz.isAgg4; have z4 := Tryz.sizeOf4; have v4 := Tryz.zeroValue4
  have t22 := Tryz.underlying39; have a22 := Tryz.isAgg39; have z22 := Tryz.sizeOf39; have v22 := Tryz.zeroValue39
  have q22 : ∀ (w : World) (a : Option Addr) (n c n' c' : Nat), (binOp .eql 39 (.slice a n c) (.slice none n' c')).run Tryz.prog w = .ok (.bool a.isNone) w := fun w a n c n' c' => Lib.run_eql_slice_nil w _ _ a n c n' c' Tryz.underlying39
  have u22 : ∀ w, Sem.run Tryz.prog (underlying 39) w = .ok (TypeDesc.slice 90) w := run_underlying t22
  go_enter Tryz.func123, Tryz.ntmps123
  go_wp2
  go_ret
  exact ⟨rfl, rfl⟩

set_option maxHeartbeats 2000000 in
set_option maxRecDepth 100000 in
theorem clone124 (i0 : TypeInfo) (z : Value) (size bytes : Nat) (hi : Tryz.prog.info? 54 = some i0) (hz0 : i0.zero = some z) (hz1 : i0.size = size) (hz2 : i0.bytes = bytes) (hzs : z.cells.size = size) (hsz : 0 < size)
    (a : Addr) (n c : Nat) (news : List Value) (w : World) (hl : news.length = n * size) (hn : n ≤ maxLen) (hbig : n * bytes ≤ 140737488355328)
    (hc : ∀ j u, news[j]? = some u → w.cell? (a.add j) = some u) (h1 : ∀ u ∈ news, u.oneCell' = true) :
    Calls Tryz.prog 124 #[.slice (some a) n c] w (Cloned 54 size news n w) := by
  have mixed : Tryz.prog.follows .mixedOrders = true := by kernel_rfl
  have t4 := Tryz.underlying4; have a4 := Tryz.isAgg4; have z4 := Tryz.sizeOf4; have v4 := Tryz.zeroValue4
  have t22 := Tryz.underlying49; have a22 := Tryz.isAgg49; have z22 := Tryz.sizeOf49; have v22 := Tryz.zeroValue49
  have q22 : ∀ (w : World) (a : Option Addr) (n c n' c' : Nat), (binOp .eql 49 (.slice a n c) (.slice none n' c')).run Tryz.prog w = .ok (.bool a.isNone) w := fun w a n c n' c' => Lib.run_eql_slice_nil w _ _ a n c n' c' Tryz.underlying49
  have u22 : ∀ w, Sem.run Tryz.prog (underlying 49) w = .ok (TypeDesc.slice 54) w := run_underlying t22
  have z23 : ∀ w, Sem.run Tryz.prog (Go.sizeOf 54) w = .ok size w := fun w => by simp [Go.sizeOf, typeInfo, hi, hz1]
  have A : Aside (∀ j u, news[j]? = some u → w.cell? (a.add j) = some u) := hc
  clear hc
  unfold Cloned
  go_enter Tryz.func124, Tryz.ntmps124
  go_wp2_with (at_builtin; refine wpList_append_own _ rfl _ _ 49 rfl w.heap.size 54 i0 z size bytes t22 hi hz0 hz1 hz2 hzs hsz _ _ _ rfl (World.ownsRow_made w #[] 0 (Nat.le_refl _) (Nat.zero_le _) (by simp)) a n c news rfl ?qc1 ?qc2 ?qc3 ?qc4 ?qc5 ?qc6 ?_)
  case qc1 => exact hl
  case qc2 =>
    intro j u hj
    exact Lib.cell?_alloc_some _ (A.out j u hj)
  case qc3 => exact h1
  case qc4 => rw [Nat.zero_add]; exact hn
  case qc5 => rw [Nat.zero_add]; exact hbig
  case qc6 => simp
  intro v' w1 hown hgrow hnil
  go_wp2
  go_ret
  refine ⟨v', rfl, by simpa using hown, ?_, ?_⟩
  · first | exact hnil | (intro e; exact absurd (hnil.1 e).1 (by simp))
  · exact ((Below.refl _ w).alloc (Nat.le_refl _) _).grown hgrow (by simp) (by intro k hk; simp [Value.ownBlock] at hk; omega)

set_option maxHeartbeats 1000000 in
theorem clone124_nil (n c : Nat) (w : World) : Calls Tryz.prog 124 #[.slice none n c] w fun e w' => e = .returned (.slice none 0 0) ∧ w' = w := by
  have mixed : Tryz.prog.follows .mixedOrders = true := by kernel_rfl
  have t4 := Tryz.underlying4; have a4 := Tryz.isAgg4; have z4 := Tryz.sizeOf4; have v4 := Tryz.zeroValue4
  have t22 := Tryz.underlying49; have a22 := Tryz.isAgg49; have z22 := Tryz.sizeOf49; have v22 := Tryz.zeroValue49
  have q22 : ∀ (w : World) (a : Option Addr) (n c n' c' : Nat), (binOp .eql 49 (.slice a n c) (.slice none n' c')).run Tryz.prog w = .ok (.bool a.isNone) w := fun w a n c n' c' => Lib.run_eql_slice_nil w _ _ a n c n' c' Tryz.underlying49
  have u22 : ∀ w, Sem.run Tryz.prog (underlying 49) w = .ok (TypeDesc.slice 54) w := run_underlying t22
  go_enter Tryz.func124, Tryz.ntmps124
  go_wp2
  go_ret
  exact ⟨rfl, rfl⟩

end Go.Proofs.YtkhjmjimffmokaaGreat

set_option linter.unusedVariables false
set_option linter.unusedSimpArgs false
namespace Go.Proofs.YtkhjmjimffmokaaGreat
open Go.RowKit Go.Wm Go.Proofs Go.Shelf

/-- strings.IndexRune and what it calls, by their places here -/
def ren152 : Ren := ⟨fun | 152 => 175 | 137 => 189 | 119 => 190 | 224 => 191 | 225 => 192 | 217 => 203 | 266 => 213 | n => n, fun | 9 => 9 | 21 => 21 | 3 => 3 | 4 => 4 | 5 => 5 | 0 => 0 | 46 => 243 | n => n, fun n => n⟩
theorem lay152 : Lays.n152 Tryz.prog ren152 :=
  { mixed := by kernel_rfl,
    f119 := Tryz.func190.trans (congrArg some (by kernel_rfl)),
    f137 := Tryz.func189.trans (congrArg some (by kernel_rfl)),
    f152 := Tryz.func175.trans (congrArg some (by kernel_rfl)),
    f217 := Tryz.func203.trans (congrArg some (by kernel_rfl)),
    f224 := Tryz.func191.trans (congrArg some (by kernel_rfl)),
    f225 := Tryz.func192.trans (congrArg some (by kernel_rfl)),
    f266 := Tryz.func213.trans (congrArg some (by kernel_rfl)),
    t0 := Tryz.underlying0,
    a0 := Tryz.isAgg0,
    z0 := Tryz.sizeOf0,
    v0 := Tryz.zeroValue0,
    t3 := Tryz.underlying3,
    a3 := Tryz.isAgg3,
    z3 := Tryz.sizeOf3,
    v3 := Tryz.zeroValue3,
    t4 := Tryz.underlying4,
    a4 := Tryz.isAgg4,
    z4 := Tryz.sizeOf4,
    v4 := Tryz.zeroValue4,
    t5 := Tryz.underlying5,
    a5 := Tryz.isAgg5,
    z5 := Tryz.sizeOf5,
    v5 := Tryz.zeroValue5,
    t9 := Tryz.underlying9,
    a9 := Tryz.isAgg9,
    z9 := Tryz.sizeOf9,
    v9 := Tryz.zeroValue9,
    t21 := Tryz.underlying21,
    a21 := Tryz.isAgg21,
    z21 := Tryz.sizeOf21,
    v21 := Tryz.zeroValue21,
    t46 := Tryz.underlying243,
    a46 := Tryz.isAgg243,
    z46 := Tryz.sizeOf243,
    v46 := Tryz.zeroValue243 }

/-- strings.IndexRune at a rune of seven bits: the world is as it was -/
theorem indexRune (s : ByteArray) (r : Int) (w : World) (h0 : 0 ≤ r) (h1 : r < 128) :
    Calls Tryz.prog 175 #[.string s, .int .i32 r] w fun e w' => e = .returned (.int .i64 (Lib.indexByte s.data.toList r.toNat.toUInt8)) ∧ w' = w :=
  Any.strings_IndexRune_ascii lay152 s r w h0 h1

def indexG : List AV → Option AV
  | [.str s, .int .i32 r] => if 0 ≤ r ∧ r < 128 then some (.int .i64 (Lib.indexByte s r.toNat.toUInt8)) else none
  | _ => none

theorem indexG_ext {xs : List AV} {x : AV} (h : indexG xs = some x) {A : Go.Wm.Alike} {w : World} {H : Nat → Option (Array Value)} {us cap : List Value} (hH : ∀ cb a, H cb = some a → ∃ t fz, w.heap[cb]? = some (.cells a t fz))
    (hv : VT (lentSg H) [] 0 xs (us ++ cap)) :
    ∃ F', Begins Tryz.prog w { target := .fn (.func 175) cap.toArray, args := us.toArray } F' ∧ ∀ (caller : Frame) (cs : List Frame), ∃ cv w1,
      Steps Tryz.prog (lone (F' .normal) (caller :: cs) w) (lone (caller.finish cv) cs w1) ∧ PureOut A w H x cv w1 := by
  refine ⟨_, begins_fn Tryz.func175 rfl (by decide) cap.toArray us.toArray, fun caller cs => ?_⟩
  unfold indexG at h
  split at h
  · rename_i s r
    split at h
    · rename_i hr
      cases h
      simp only [VT, V] at hv
      obtain ⟨v, vs', hvs, rfl, v2, vs2, rfl, rfl, rfl⟩ := hv
      have hargs : us.toArray ++ cap.toArray = #[.string ⟨s.toArray⟩, .int .i32 r] := by
        apply Array.ext'
        simpa using hvs
      rw [hargs]
      obtain ⟨v', w', ⟨hv', rfl⟩, hs⟩ := Calls.steps (indexRune ⟨s.toArray⟩ r w hr.1 hr.2) (fun e w' h => ⟨_, h.1⟩) caller cs
      cases hv'
      refine ⟨_, _, hs, lentSg H, [], [], lent_rel hH, fun _ _ h => h, rfl, ?_, List.nodup_nil, by simp⟩
      simp [VX]
    · cases h
  · cases h

def cloneG (t e : Nat) : List AV → Option AV
  | [.imm e' rows] => if e' = e ∧ rows.length ≤ 100000 then some (.new t e rows) else none
  | _ => none

def extF : Nat → Option (List AV → Option AV)
  | 73 => some (cloneG 95 3)
  | 74 => some (cloneG 5 1)
  | 123 => some (cloneG 90 34)
  | 124 => some (cloneG 54 4)
  | 175 => some indexG
  | _ => none

theorem cloneG_some {t e : Nat} {xs : List AV} {x : AV} (h : cloneG t e xs = some x) : ∃ rows, xs = [.imm e rows] ∧ rows.length ≤ 100000 ∧ x = .new t e rows := by
  unfold cloneG at h
  split at h
  · split at h
    · rename_i hc
      cases h
      obtain ⟨rfl, h2⟩ := hc
      exact ⟨_, rfl, h2, rfl⟩
    · cases h
  · cases h

theorem infoOf (e size : Nat) (h : ((Tryz.prog.info? e).map fun i => (i.size == size) && decide (i.bytes ≤ 1000) && ((i.zero.map fun z => z.cells.size == size).getD false)) = some true) :
    ∃ i0 z bytes, Tryz.prog.info? e = some i0 ∧ i0.zero = some z ∧ i0.size = size ∧ i0.bytes = bytes ∧ z.cells.size = size ∧ bytes ≤ 1000 := by
  cases hi : Tryz.prog.info? e with
  | none => rw [hi] at h; cases h
  | some i0 =>
    rw [hi] at h
    simp only [Option.map_some, Option.some.injEq, Bool.and_eq_true, beq_iff_eq, decide_eq_true_eq] at h
    obtain ⟨⟨h1, h2⟩, h3⟩ := h
    cases hz : i0.zero with
    | none => rw [hz] at h3; cases h3
    | some z =>
      rw [hz] at h3
      simp only [Option.map_some, Option.getD_some, beq_iff_eq] at h3
      exact ⟨i0, z, _, rfl, hz, h1, rfl, h3, h2⟩

theorem ext_ok : ExtOK (progA Tryz.prog) Tryz.prog extF := by
  intro f G xs x H w us cap hf hG hH hv
  unfold extF at hf
  split at hf
  · cases hf
    obtain ⟨rows, rfl, hr, rfl⟩ := cloneG_some hG
    obtain ⟨i0, z, bytes, hi, hz0, hz1, hz2, hzs, hby⟩ := infoOf 95 3 (by kernel_rfl)
    exact clone_ext (bytes := bytes) Tryz.func73 rfl (by decide) (fun a n c news w a1 a2 a3 a4 a5 => clone73 i0 z 3 bytes hi hz0 hz1 hz2 hzs (by decide) a n c news w a1 a2 a3 a4 a5) clone73_nil
      (Nat.le_trans (Nat.mul_le_mul hr hby) (by decide)) hH hv
  · cases hf
    obtain ⟨rows, rfl, hr, rfl⟩ := cloneG_some hG
    obtain ⟨i0, z, bytes, hi, hz0, hz1, hz2, hzs, hby⟩ := infoOf 5 1 (by kernel_rfl)
    exact clone_ext (bytes := bytes) Tryz.func74 rfl (by decide) (fun a n c news w a1 a2 a3 a4 a5 => clone74 i0 z 1 bytes hi hz0 hz1 hz2 hzs (by decide) a n c news w a1 a2 a3 a4 a5) clone74_nil
      (Nat.le_trans (Nat.mul_le_mul hr hby) (by decide)) hH hv
  · cases hf
    obtain ⟨rows, rfl, hr, rfl⟩ := cloneG_some hG
    obtain ⟨i0, z, bytes, hi, hz0, hz1, hz2, hzs, hby⟩ := infoOf 90 34 (by kernel_rfl)
    exact clone_ext (bytes := bytes) Tryz.func123 rfl (by decide) (fun a n c news w a1 a2 a3 a4 a5 => clone123 i0 z 34 bytes hi hz0 hz1 hz2 hzs (by decide) a n c news w a1 a2 a3 a4 a5) clone123_nil
      (Nat.le_trans (Nat.mul_le_mul hr hby) (by decide)) hH hv
  · cases hf
    obtain ⟨rows, rfl, hr, rfl⟩ := cloneG_some hG
    obtain ⟨i0, z, bytes, hi, hz0, hz1, hz2, hzs, hby⟩ := infoOf 54 4 (by kernel_rfl)
    exact clone_ext (bytes := bytes) Tryz.func124 rfl (by decide) (fun a n c news w a1 a2 a3 a4 a5 => clone124 i0 z 4 bytes hi hz0 hz1 hz2 hzs (by decide) a n c news w a1 a2 a3 a4 a5) clone124_nil
      (Nat.le_trans (Nat.mul_le_mul hr hby) (by decide)) hH hv
  · cases hf
    exact indexG_ext hG hH hv
  · cases hf

end Go.Proofs.YtkhjmjimffmokaaGreat
