/-
The program's functions as code of the abstract machine, part 2.
-/
import Derived.Test.YtkhjmjimffmokaaGreatWg

set_option linter.unusedVariables false
set_option maxRecDepth 100000
namespace Go.Wm
/-- (*waggoner/volume.Volume).call$1 -/
def i89 : IFn := { ns := 1, nt := 18, res := [], body :=
  (.seq (.kpost (.reg [⟨some 6, .recover, [], none⟩]) [0, 1, 2, 6, 999990, 999991, 999992])
  (.block 0 (.seq (.kpost (.reg [⟨some 8, .bin .eql 5, [.t 6, .c (.nili)], none⟩]) [0, 1, 2, 6, 8, 999990, 999991, 999992])
   (.cond (.t 8)
    (.kpost (.reg [⟨some 3, .mv, [.t 6], none⟩]) [999990, 999991, 999992])
    (.seq (.kpost (.reg [⟨some 9, .tass 146 (.agg [.int .i64 0]) true, [.t 6], none⟩,
         ⟨some 10, .extr 1, [.t 9], none⟩,
         ⟨some 11, .extr 0, [.t 9], none⟩]) [0, 1, 2, 6, 10, 11, 999990, 999991, 999992])
     (.cond (.t 10)
      (.seq (.kpost (.reg [⟨some 4, .alloc 0 146 [.int .i64 0], [], none⟩,
           ⟨none, .store 1, [.t 4, .t 11], none⟩]) [0, 1, 2, 4, 999990, 999991, 999992])
       (.kpost (.reg [⟨some 12, .load none, [.t 2], none⟩,
          ⟨some 13, .fadr 0, [.t 4], none⟩,
          ⟨some 14, .load none, [.t 13], none⟩,
          ⟨some 15, .load (some 6), [.t 0], none⟩,
          ⟨none, .store 1, [.t 1, .t 14], none⟩,
          ⟨some 16, .nilchk, [.t 12], none⟩,
          ⟨some 17, .fadr 7, [.t 16], none⟩,
          ⟨none, .store 6, [.t 17, .t 15], none⟩]) [999990, 999991, 999992]))
      (.seq (.kpost (.reg [⟨some 5, .mv, [.t 6], none⟩]) [5, 999990, 999991, 999992])
       (.kpost (.reg [⟨some 7, .mv, [.t 5], none⟩,
          ⟨none, .panic, [.t 7], none⟩]) [999990, 999991, 999992])))))))) }
/-- waggoner/dev.Do -/
def i90 : IFn := { ns := 24, nt := 10, res := [.cell 4 (some 5), .cell 5 none], body :=
  (.seq (.kpost (.reg [⟨some 2, .box 0 51, [.t 0], none⟩,
      ⟨some 3, .box 1 150, [.t 1], none⟩,
      ⟨some 4, .alloc 2 51 [.int .i64 0, .nils 54 4, .int .i64 0, .bool false, .int .i64 0], [], none⟩,
      ⟨some 5, .alloc 3 31 [.int .i64 0], [], none⟩]) [2, 3, 4, 5])
  (.seq (.kpost (.regD [⟨some 6, .load (some 5), [.t 2], none⟩,
      ⟨some 7, .mkfn 125 0, [.t 5, .t 3], none⟩,
      ⟨some 9, .load none, [.t 5], none⟩,
      ⟨some 8, .call 81 [4, 5, 6, 7, 8, 9, 10, 11, 12, 13, 14, 15, 16, 17, 18, 19, 20, 21, 22, 23] 1, [.t 6, .t 7], none⟩,
      ⟨none, .store 5, [.t 4, .t 8], none⟩,
      ⟨none, .store 1, [.t 5, .t 9], none⟩] [0, 1, 3, 2, 4, 5] (some (false, 3, 1)) [(2, 4)]) [4, 5])
  .ret)) }
/-- waggoner/dev.Crash$1 -/
def i91 : IFn := { ns := 2, nt := 52, res := [], body :=
  (.seq (.seq (.kpost (.reg [⟨some 5, .mv, [.t 0], none⟩,
       ⟨some 6, .nilchk, [.t 5], none⟩,
       ⟨some 7, .load (some 5), [.t 6], none⟩,
       ⟨some 8, .call 92 [] 0, [.t 7], none⟩,
       ⟨some 9, .bnot, [.t 8], none⟩]) [0, 1, 9])
   (.cond (.t 9)
    .ret
    .skip))
  (.seq (.seq (.kpost (.reg [⟨some 10, .mv, [.t 0], none⟩,
       ⟨some 11, .nilchk, [.t 10], none⟩,
       ⟨some 12, .fadr 1, [.t 11], none⟩,
       ⟨some 13, .load none, [.t 12], none⟩,
       ⟨some 14, .len, [.t 13], none⟩,
       ⟨some 15, .mv, [.c (.int .i64 0)], none⟩]) [0, 1, 14, 15])
   (.block 0 (.kpre [0, 1, 14, 15] (.loop (.kpost (.seq (.kpost (.reg [⟨some 16, .bin .lss 0, [.t 15, .t 14], none⟩]) [0, 1, 14, 15, 16])
       (.seq (.cond (.t 16)
         .skip
         (.exit 0))
       (.seq (.block 1 (.seq (.kpost (.reg [⟨some 17, .mv, [.t 15], none⟩,
             ⟨some 3, .mv, [.t 17], none⟩]) [0, 1, 3, 14, 15])
         (.seq (.kpost (.reg [⟨some 4, .mv, [.c (.int .i64 0)], none⟩]) [0, 1, 3, 4, 14, 15])
         (.seq (.seq (.kpost (.reg [⟨some 18, .mv, [.t 3], none⟩,
              ⟨some 19, .load none, [.t 1], none⟩,
              ⟨some 20, .len, [.t 19], none⟩,
              ⟨some 21, .bin .lss 0, [.t 18, .t 20], none⟩]) [0, 1, 3, 4, 14, 15, 21])
          (.cond (.t 21)
           (.kpost (.reg [⟨some 22, .load none, [.t 1], none⟩,
               ⟨some 23, .mv, [.t 3], none⟩,
               ⟨some 24, .iadr 1, [.t 22, .t 23], none⟩,
               ⟨some 25, .load none, [.t 24], none⟩,
               ⟨some 4, .mv, [.t 25], none⟩]) [0, 1, 3, 4, 14, 15])
           .skip))
         (.kpost (.regD [⟨some 26, .mv, [.t 0], none⟩,
            ⟨some 27, .nilchk, [.t 26], none⟩,
            ⟨some 28, .fadr 1, [.t 27], none⟩,
            ⟨some 29, .load none, [.t 28], none⟩,
            ⟨some 30, .mv, [.t 3], none⟩,
            ⟨some 31, .mv, [.t 0], none⟩,
            ⟨some 32, .nilchk, [.t 31], none⟩,
            ⟨some 33, .fadr 1, [.t 32], none⟩,
            ⟨some 34, .load none, [.t 33], none⟩,
            ⟨some 35, .mv, [.t 3], none⟩,
            ⟨some 36, .iadr 4, [.t 34, .t 35], none⟩,
            ⟨some 37, .load (some 4), [.t 36], none⟩,
            ⟨some 38, .mv, [.t 0], none⟩,
            ⟨some 39, .nilchk, [.t 38], none⟩,
            ⟨some 40, .fadr 0, [.t 39], none⟩,
            ⟨some 41, .load none, [.t 40], none⟩,
            ⟨some 42, .mv, [.t 4], none⟩,
            ⟨some 43, .call 93 [0, 1] 1, [.t 37, .t 41, .t 42], none⟩,
            ⟨some 44, .iadr 4, [.t 29, .t 30], none⟩,
            ⟨none, .store 4, [.t 44, .t 43], none⟩] [0, 1, 2, 3, 4, 5, 6, 7, 8, 9, 10, 11, 12, 13, 14, 15, 16, 17, 18, 19] none [(1, 17), (2, 17), (3, 17)]) [0, 1, 14, 15])))))
       (.kpost (.reg [⟨some 45, .bin .add 0, [.t 15, .c (.int .i64 1)], none⟩,
          ⟨some 15, .mv, [.t 45], none⟩]) [0, 1, 14, 15])))) [0, 1, 14, 15])))))
  (.kpost (.reg [⟨some 46, .mv, [.t 0], none⟩,
     ⟨some 47, .mv, [.t 0], none⟩,
     ⟨some 48, .nilchk, [.t 46], none⟩,
     ⟨some 49, .fadr 3, [.t 48], none⟩,
     ⟨none, .store 1, [.t 49, .c (.bool false)], none⟩,
     ⟨some 50, .nilchk, [.t 47], none⟩,
     ⟨some 51, .fadr 2, [.t 50], none⟩,
     ⟨none, .store 1, [.t 51, .c (.int .i64 (-1))], none⟩]) []))) }
/-- waggoner/dev.Check -/
def i92 : IFn := { ns := 19, nt := 32, res := [.t 2], body :=
  (.seq (.kpost (.reg [⟨some 1, .box 0 51, [.t 0], none⟩,
      ⟨some 2, .mv, [.c (.bool false)], none⟩]) [1])
  (.seq (.kpost (.reg [⟨some 4, .fadr 1, [.t 1], none⟩,
      ⟨some 5, .load none, [.t 4], none⟩,
      ⟨some 6, .mkfn 128 0, [.t 1], none⟩,
      ⟨some 7, .call 127 [1, 2, 3, 4, 5, 6, 7, 8, 9, 10, 11, 12, 13, 14, 15, 16, 17, 18] 0, [.t 5, .t 6], none⟩,
      ⟨some 3, .mv, [.t 7], none⟩]) [1, 3])
  (.seq (.kpost (.reg [⟨some 8, .mv, [.t 3], none⟩,
      ⟨some 9, .bnot, [.t 8], none⟩,
      ⟨some 10, .mv, [.t 9], none⟩,
      ⟨some 11, .fadr 1, [.t 1], some (10, true)⟩,
      ⟨some 12, .load none, [.t 11], some (10, true)⟩,
      ⟨some 13, .len, [.t 12], some (10, true)⟩,
      ⟨some 14, .bin .gtr 0, [.t 13, .c (.int .i64 0)], some (10, true)⟩,
      ⟨some 15, .pick, [.t 10, .t 14, .c (.bool false)], none⟩,
      ⟨some 16, .mv, [.t 15], none⟩,
      ⟨some 17, .fadr 1, [.t 1], some (16, true)⟩,
      ⟨some 18, .load none, [.t 17], some (16, true)⟩,
      ⟨some 19, .len, [.t 18], some (16, true)⟩,
      ⟨some 20, .bin .leq 0, [.t 19, .c (.int .i64 64)], some (16, true)⟩,
      ⟨some 21, .pick, [.t 16, .t 20, .c (.bool false)], none⟩,
      ⟨some 22, .mv, [.t 21], none⟩,
      ⟨some 23, .fadr 0, [.t 1], some (22, true)⟩,
      ⟨some 24, .load none, [.t 23], some (22, true)⟩,
      ⟨some 25, .bin .gtr 0, [.t 24, .c (.int .i64 0)], some (22, true)⟩,
      ⟨some 26, .pick, [.t 22, .t 25, .c (.bool false)], none⟩,
      ⟨some 27, .mv, [.t 26], none⟩,
      ⟨some 28, .fadr 0, [.t 1], some (27, true)⟩,
      ⟨some 29, .load none, [.t 28], some (27, true)⟩,
      ⟨some 30, .bin .leq 0, [.t 29, .c (.int .i64 1048576)], some (27, true)⟩,
      ⟨some 31, .pick, [.t 27, .t 30, .c (.bool false)], none⟩,
      ⟨some 2, .mv, [.t 31], none⟩]) [2])
  .ret))) }
/-- waggoner/zone.Crash -/
def i93 : IFn := { ns := 24, nt := 17, res := [.cell 6 (some 4)], body :=
  (.seq (.kpost (.reg [⟨some 3, .box 0 54, [.t 0], none⟩,
      ⟨some 4, .box 1 3, [.t 1], none⟩,
      ⟨some 5, .box 2 3, [.t 2], none⟩,
      ⟨some 6, .alloc 3 54 [.int .i64 0, .int .i64 0, .nils 5 1, .int .i64 0], [], none⟩]) [3, 4, 5, 6])
  (.seq (.kpost (.regD [⟨some 8, .load (some 4), [.t 3], none⟩,
      ⟨some 9, .load (some 4), [.t 3], none⟩,
      ⟨some 10, .load none, [.t 4], none⟩,
      ⟨some 11, .call 129 [] 0, [.t 9, .t 10], none⟩,
      ⟨some 12, .mkfn 131 0, [.t 5, .t 4], none⟩,
      ⟨some 13, .call 130 [4, 5, 6, 7, 8, 9, 10, 11, 12, 13, 14, 15, 16, 17, 18, 19, 20, 21, 22, 23] 1, [.t 8, .t 11, .t 12], none⟩,
      ⟨some 7, .mv, [.t 13], none⟩,
      ⟨some 14, .extr 0, [.t 7], none⟩,
      ⟨some 15, .extr 1, [.t 7], none⟩,
      ⟨none, .store 4, [.t 3, .t 14], none⟩] [0, 1, 2, 3, 4, 5, 6, 7, 8, 9] none [(0, 3)]) [3, 6])
  (.seq (.kpost (.reg [⟨some 16, .load (some 4), [.t 3], none⟩,
      ⟨none, .store 4, [.t 6, .t 16], none⟩]) [6])
  .ret))) }
/-- waggoner/record.Scan -/
def i94 : IFn := { ns := 25, nt := 31, res := [.t 2, .t 3], body :=
  (.seq (.kpost (.reg [⟨some 1, .box 0 28, [.t 0], none⟩,
      ⟨some 2, .mv, [.c (.nils 116 3)], none⟩,
      ⟨some 3, .mv, [.c (.nils 3 1)], none⟩]) [1, 2, 3, 4, 5])
  (.scope (.seq (.kpost (.reg [⟨some 4, .alloc 1 3 [.int .i64 0], [], none⟩,
       ⟨none, .store 1, [.t 4, .c (.int .i64 0)], none⟩]) [1, 2, 3, 4])
   (.seq (.kpost (.reg [⟨some 9, .mkfn 133 0, [.t 1, .t 4], none⟩,
       ⟨some 5, .mv, [.t 9], none⟩]) [2, 3, 4, 5])
   (.seq (.label 0)
   (.seq (.kpost (.reg [⟨some 11, .mv, [.t 5], none⟩,
       ⟨some 12, .callv [2, 3, 4, 5, 6, 7, 8, 9, 10, 11, 12, 13, 14, 15, 16, 17, 18, 19] 1, [.t 11], none⟩,
       ⟨some 10, .mv, [.t 12], none⟩,
       ⟨some 13, .extr 0, [.t 10], none⟩,
       ⟨some 14, .extr 1, [.t 10], none⟩,
       ⟨some 15, .extr 2, [.t 10], none⟩,
       ⟨some 6, .alloc 20 116 [.int .i64 0, .int .i64 0, .nils 5 1], [], none⟩,
       ⟨none, .store 3, [.t 6, .t 13], none⟩,
       ⟨some 7, .mv, [.t 14], none⟩,
       ⟨some 8, .mv, [.t 15], none⟩]) [2, 3, 4, 5, 6, 7, 8])
   (.seq (.seq (.kpost (.reg [⟨some 16, .mv, [.t 8], none⟩,
        ⟨some 17, .bnot, [.t 16], none⟩]) [2, 3, 4, 5, 6, 7, 17])
    (.cond (.t 17)
     (.seq (.kpost (.reg [⟨some 18, .mv, [.t 2], none⟩,
          ⟨some 19, .mv, [.t 3], none⟩,
          ⟨some 2, .mv, [.t 18], none⟩,
          ⟨some 3, .mv, [.t 19], none⟩]) [2, 3])
      .ret)
     .skip))
   (.seq (.kpost (.regD [⟨some 20, .mv, [.t 2], none⟩,
       ⟨some 21, .load (some 3), [.t 6], none⟩,
       ⟨some 22, .bslice 21 116 3 [.int .i64 0, .int .i64 0, .imm 1 []] 1 [0], [.t 21], none⟩,
       ⟨some 23, .app 22 116 3 40, [.t 20, .t 22], none⟩,
       ⟨some 24, .mv, [.t 3], none⟩,
       ⟨some 25, .load none, [.t 4], none⟩,
       ⟨some 26, .bslice 23 3 1 [.int .i64 0] 1 [0], [.t 25], none⟩,
       ⟨some 27, .app 24 3 1 8, [.t 24, .t 26], none⟩,
       ⟨some 2, .mv, [.t 23], none⟩,
       ⟨some 3, .mv, [.t 27], none⟩] [0, 1, 2, 3, 4, 5, 6, 7, 8, 9] none [(1, 6), (2, 5), (2, 6), (3, 5), (3, 6)]) [2, 3, 4, 5, 7])
   (.seq (.kpost (.reg [⟨some 28, .load none, [.t 4], none⟩,
       ⟨some 29, .mv, [.t 7], none⟩,
       ⟨some 30, .bin .add 0, [.t 28, .t 29], none⟩,
       ⟨none, .store 1, [.t 4, .t 30], none⟩]) [2, 3, 4, 5])
   (.goto 0))))))))
   (.kpre [2, 3, 4, 5] (.seq .skip
    (.seq (.kpost (.reg [⟨some 11, .mv, [.t 5], none⟩,
        ⟨some 12, .callv [2, 3, 4, 5, 6, 7, 8, 9, 10, 11, 12, 13, 14, 15, 16, 17, 18, 19] 1, [.t 11], none⟩,
        ⟨some 10, .mv, [.t 12], none⟩,
        ⟨some 13, .extr 0, [.t 10], none⟩,
        ⟨some 14, .extr 1, [.t 10], none⟩,
        ⟨some 15, .extr 2, [.t 10], none⟩,
        ⟨some 6, .alloc 20 116 [.int .i64 0, .int .i64 0, .nils 5 1], [], none⟩,
        ⟨none, .store 3, [.t 6, .t 13], none⟩,
        ⟨some 7, .mv, [.t 14], none⟩,
        ⟨some 8, .mv, [.t 15], none⟩]) [2, 3, 4, 5, 6, 7, 8])
    (.seq (.seq (.kpost (.reg [⟨some 16, .mv, [.t 8], none⟩,
         ⟨some 17, .bnot, [.t 16], none⟩]) [2, 3, 4, 5, 6, 7, 17])
     (.cond (.t 17)
      (.seq (.kpost (.reg [⟨some 18, .mv, [.t 2], none⟩,
           ⟨some 19, .mv, [.t 3], none⟩,
           ⟨some 2, .mv, [.t 18], none⟩,
           ⟨some 3, .mv, [.t 19], none⟩]) [2, 3])
       .ret)
      .skip))
    (.seq (.kpost (.regD [⟨some 20, .mv, [.t 2], none⟩,
        ⟨some 21, .load (some 3), [.t 6], none⟩,
        ⟨some 22, .bslice 21 116 3 [.int .i64 0, .int .i64 0, .imm 1 []] 1 [0], [.t 21], none⟩,
        ⟨some 23, .app 22 116 3 40, [.t 20, .t 22], none⟩,
        ⟨some 24, .mv, [.t 3], none⟩,
        ⟨some 25, .load none, [.t 4], none⟩,
        ⟨some 26, .bslice 23 3 1 [.int .i64 0] 1 [0], [.t 25], none⟩,
        ⟨some 27, .app 24 3 1 8, [.t 24, .t 26], none⟩,
        ⟨some 2, .mv, [.t 23], none⟩,
        ⟨some 3, .mv, [.t 27], none⟩] [0, 1, 2, 3, 4, 5, 6, 7, 8, 9] none [(1, 6), (2, 5), (2, 6), (3, 5), (3, 6)]) [2, 3, 4, 5, 7])
    (.seq (.kpost (.reg [⟨some 28, .load none, [.t 4], none⟩,
        ⟨some 29, .mv, [.t 7], none⟩,
        ⟨some 30, .bin .add 0, [.t 28, .t 29], none⟩,
        ⟨none, .store 1, [.t 4, .t 30], none⟩]) [2, 3, 4, 5])
    (.goto 0))))))) 0)) }
/-- slices.SortStableFunc[[]waggoner/api.Found,waggoner/api.Found] -/
def i95 : IFn := { ns := 18, nt := 9, res := [], body :=
  (.kpost (.reg [⟨some 4, .mv, [.t 0], none⟩,
     ⟨some 5, .mv, [.t 0], none⟩,
     ⟨some 6, .len, [.t 5], none⟩,
     ⟨some 7, .mv, [.t 1], none⟩,
     ⟨some 8, .call 135 [0, 1, 2, 3, 4, 5, 6, 7, 8, 9, 10, 11, 12, 13, 14, 15, 16, 17] 2, [.t 4, .t 6, .t 7], none⟩]) []) }
/-- waggoner/log.All$1 -/
def i96 : IFn := { ns := 2, nt := 12, res := [.t 4], body :=
  (.seq (.kpost (.reg [⟨some 2, .box 0 118, [.t 0], none⟩,
      ⟨some 3, .box 1 118, [.t 1], none⟩,
      ⟨some 4, .mv, [.c (.int .i64 0)], none⟩]) [2, 3])
  (.seq (.kpost (.reg [⟨some 5, .fadr 0, [.t 2], none⟩,
      ⟨some 6, .fadr 1, [.t 5], none⟩,
      ⟨some 7, .load none, [.t 6], none⟩,
      ⟨some 8, .fadr 0, [.t 3], none⟩,
      ⟨some 9, .fadr 1, [.t 8], none⟩,
      ⟨some 10, .load none, [.t 9], none⟩,
      ⟨some 11, .call 97 [] 0, [.t 7, .t 10], none⟩,
      ⟨some 4, .mv, [.t 11], none⟩]) [4])
  .ret)) }
/-- cmp.Compare[int] -/
def i97 : IFn := { ns := 0, nt := 20, res := [.t 4], body :=
  (.seq (.kpost (.reg [⟨some 4, .mv, [.c (.int .i64 0)], none⟩]) [0, 1])
  (.seq (.kpost (.reg [⟨some 7, .mv, [.t 0], none⟩,
      ⟨some 8, .call 136 [] 0, [.t 7], none⟩,
      ⟨some 5, .mv, [.t 8], none⟩]) [0, 1, 5])
  (.seq (.kpost (.reg [⟨some 9, .mv, [.t 1], none⟩,
      ⟨some 10, .call 136 [] 0, [.t 9], none⟩,
      ⟨some 6, .mv, [.t 10], none⟩]) [0, 1, 5, 6])
  (.seq (.seq (.kpost (.reg [⟨some 11, .mv, [.t 5], none⟩]) [0, 1, 6, 11])
   (.cond (.t 11)
    (.seq (.seq (.kpost (.reg [⟨some 12, .mv, [.t 6], none⟩]) [12])
      (.cond (.t 12)
       (.seq (.kpost (.reg [⟨some 4, .mv, [.c (.int .i64 0)], none⟩]) [4])
        .ret)
       .skip))
     (.seq (.kpost (.reg [⟨some 4, .mv, [.c (.int .i64 (-1))], none⟩]) [4])
     .ret))
    .skip))
  (.seq (.seq (.kpost (.reg [⟨some 13, .mv, [.t 6], none⟩]) [0, 1, 13])
   (.cond (.t 13)
    (.seq (.kpost (.reg [⟨some 4, .mv, [.c (.int .i64 1)], none⟩]) [4])
     .ret)
    .skip))
  (.seq (.seq (.kpost (.reg [⟨some 14, .mv, [.t 0], none⟩,
       ⟨some 15, .mv, [.t 1], none⟩,
       ⟨some 16, .bin .lss 0, [.t 14, .t 15], none⟩]) [0, 1, 16])
   (.cond (.t 16)
    (.seq (.kpost (.reg [⟨some 4, .mv, [.c (.int .i64 (-1))], none⟩]) [4])
     .ret)
    .skip))
  (.seq (.seq (.kpost (.reg [⟨some 17, .mv, [.t 0], none⟩,
       ⟨some 18, .mv, [.t 1], none⟩,
       ⟨some 19, .bin .gtr 0, [.t 17, .t 18], none⟩]) [19])
   (.cond (.t 19)
    (.seq (.kpost (.reg [⟨some 4, .mv, [.c (.int .i64 1)], none⟩]) [4])
     .ret)
    .skip))
  (.seq (.kpost (.reg [⟨some 4, .mv, [.c (.int .i64 0)], none⟩]) [4])
  .ret)))))))) }
/-- slices.Backward[[]waggoner/api.Found,waggoner/api.Found] -/
def i98 : IFn := { ns := 1, nt := 4, res := [.t 2], body :=
  (.seq (.kpost (.reg [⟨some 1, .box 0 106, [.t 0], none⟩,
      ⟨some 2, .mv, [.c (.nilf)], none⟩]) [1])
  (.seq (.kpost (.reg [⟨some 3, .mkfn 137 0, [.t 1], none⟩,
      ⟨some 2, .mv, [.t 3], none⟩]) [2])
  .ret)) }
/-- waggoner/le.Take -/
def i99 : IFn := { ns := 2, nt := 37, res := [.t 4, .t 5, .t 6], body :=
  (.seq (.kpost (.reg [⟨some 4, .mv, [.c (.int .u64 0)], none⟩,
      ⟨some 5, .mv, [.c (.nils 5 1)], none⟩,
      ⟨some 6, .mv, [.c (.int .i64 0)], none⟩]) [0, 1, 4])
  (.seq (.seq (.kpost (.reg [⟨some 8, .mv, [.t 1], none⟩,
       ⟨some 9, .call 138 [] 0, [.c (.int .u64 0), .t 8], none⟩,
       ⟨some 10, .bnot, [.t 9], none⟩,
       ⟨some 11, .mv, [.t 10], none⟩,
       ⟨some 12, .mv, [.t 0], some (11, false)⟩,
       ⟨some 13, .len, [.t 12], some (11, false)⟩,
       ⟨some 14, .mv, [.t 1], some (11, false)⟩,
       ⟨some 15, .bin .lss 0, [.t 13, .t 14], some (11, false)⟩,
       ⟨some 16, .pick, [.t 11, .c (.bool true), .t 15], none⟩]) [0, 1, 4, 16])
   (.cond (.t 16)
    (.seq (.kpost (.reg [⟨some 4, .mv, [.c (.int .u64 0)], none⟩,
         ⟨some 5, .mv, [.c (.nils 5 1)], none⟩,
         ⟨some 6, .mv, [.c (.int .i64 10)], none⟩]) [4, 5, 6])
     .ret)
    .skip))
  (.seq (.seq (.kpost (.reg [⟨some 17, .mv, [.t 1], none⟩,
       ⟨some 18, .mv, [.c (.int .i64 0)], none⟩]) [0, 1, 4, 17, 18])
   (.block 0 (.kpre [0, 1, 4, 17, 18] (.loop (.kpost (.seq (.kpost (.reg [⟨some 19, .bin .lss 0, [.t 18, .t 17], none⟩]) [0, 1, 4, 17, 18, 19])
       (.seq (.cond (.t 19)
         .skip
         (.exit 0))
       (.seq (.block 1 (.seq (.kpost (.reg [⟨some 20, .mv, [.t 18], none⟩,
             ⟨some 7, .mv, [.t 20], none⟩]) [0, 1, 4, 7, 17, 18])
         (.kpost (.reg [⟨some 21, .mv, [.t 4], none⟩,
            ⟨some 22, .mv, [.t 0], none⟩,
            ⟨some 23, .mv, [.t 7], none⟩,
            ⟨some 24, .iadr 1, [.t 22, .t 23], none⟩,
            ⟨some 25, .load none, [.t 24], none⟩,
            ⟨some 26, .conv .u64, [.t 25], none⟩,
            ⟨some 27, .mv, [.t 7], none⟩,
            ⟨some 28, .bin .mul 0, [.c (.int .i64 8), .t 27], none⟩,
            ⟨some 29, .bin .shl 0, [.t 26, .t 28], none⟩,
            ⟨some 30, .bin .or 0, [.t 21, .t 29], none⟩,
            ⟨some 4, .mv, [.t 30], none⟩]) [0, 1, 4, 17, 18])))
       (.kpost (.reg [⟨some 31, .bin .add 0, [.t 18, .c (.int .i64 1)], none⟩,
          ⟨some 18, .mv, [.t 31], none⟩]) [0, 1, 4, 17, 18])))) [0, 1, 4, 17, 18])))))
  (.seq (.kpost (.reg [⟨some 32, .mv, [.t 4], none⟩,
      ⟨some 33, .mv, [.t 0], none⟩,
      ⟨some 34, .mv, [.t 1], none⟩,
      ⟨some 35, .slc 5 1 true false false, [.t 33, .t 34], none⟩,
      ⟨some 36, .call 74 [0, 1] 1, [.t 35], none⟩,
      ⟨some 4, .mv, [.t 32], none⟩,
      ⟨some 5, .mv, [.t 36], none⟩,
      ⟨some 6, .mv, [.c (.int .i64 0)], none⟩]) [4, 5, 6])
  .ret)))) }
/-- waggoner/snap.Read -/
def i100 : IFn := { ns := 101, nt := 90, res := [.cell 2 (some 6), .t 3], body :=
  (.seq (.kpost (.reg [⟨some 2, .alloc 0 30 [.int .i64 0, .int .i64 0, .nils 48 5, .nils 95 3, .int .i64 0, .nils 5 1], [], none⟩,
      ⟨some 3, .mv, [.c (.int .i64 0)], none⟩]) [0, 2])
  (.seq (.kpost (.reg [⟨some 13, .mv, [.t 0], none⟩,
      ⟨some 14, .call 139 [1, 2] 1, [.t 13], none⟩,
      ⟨some 12, .mv, [.t 14], none⟩,
      ⟨some 15, .extr 0, [.t 12], none⟩,
      ⟨some 16, .extr 1, [.t 12], none⟩,
      ⟨some 4, .alloc 3 28 [.nils 5 1], [], none⟩,
      ⟨none, .store 1, [.t 4, .t 15], none⟩,
      ⟨some 3, .mv, [.t 16], none⟩]) [2, 3, 4])
  (.seq (.kpost (.reg [⟨some 17, .mv, [.t 3], none⟩,
      ⟨some 18, .bin .neq 0, [.t 17, .c (.int .i64 0)], none⟩,
      ⟨some 5, .alloc 4 4 [.bool false], [], none⟩,
      ⟨none, .store 1, [.t 5, .t 18], none⟩]) [2, 4, 5])
  (.seq (.kpost (.reg [⟨some 19, .mkfn 140 0, [.t 5, .t 4], none⟩,
      ⟨some 6, .alloc 5 203 [.nilf], [], none⟩,
      ⟨none, .store 1, [.t 6, .t 19], none⟩]) [2, 4, 5, 6])
  (.seq (.kpost (.reg [⟨some 20, .mkfn 141 0, [.t 6, .t 5], none⟩,
      ⟨some 7, .alloc 6 207 [.nilf], [], none⟩,
      ⟨none, .store 1, [.t 7, .t 20], none⟩]) [2, 4, 5, 6, 7])
  (.seq (.kpost (.reg [⟨some 21, .mkfn 143 0, [.t 7, .t 6, .t 5], none⟩,
      ⟨some 8, .mv, [.t 21], none⟩]) [2, 4, 5, 6, 7, 8])
  (.seq (.kpost (.reg [⟨some 22, .load none, [.t 7], none⟩,
      ⟨some 23, .callv [7, 8, 9, 10, 11, 12, 13, 14, 15, 16, 17, 18, 19, 20, 21, 22, 23, 24] 1, [.t 22, .c (.str [98, 119, 119, 98, 104]), .c (.int .i64 12)], none⟩,
      ⟨some 9, .mv, [.t 23], none⟩]) [2, 4, 5, 6, 7, 8, 9])
  (.seq (.kpost (.regD [⟨some 36, .load none, [.t 6], none⟩,
      ⟨some 37, .mv, [.t 9], none⟩,
      ⟨some 38, .iadr 1, [.t 37, .c (.int .i64 4)], none⟩,
      ⟨some 39, .load none, [.t 38], none⟩,
      ⟨some 40, .conv .i64, [.t 39], none⟩,
      ⟨some 24, .mv, [.t 9], none⟩,
      ⟨some 25, .iadr 1, [.t 24, .c (.int .i64 0)], none⟩,
      ⟨some 26, .load none, [.t 25], none⟩,
      ⟨some 27, .conv .i64, [.t 26], none⟩,
      ⟨some 28, .mv, [.t 9], none⟩,
      ⟨some 29, .iadr 1, [.t 28, .c (.int .i64 1)], none⟩,
      ⟨some 30, .load none, [.t 29], none⟩,
      ⟨some 31, .conv .i64, [.t 30], none⟩,
      ⟨some 32, .mv, [.t 9], none⟩,
      ⟨some 33, .iadr 1, [.t 32, .c (.int .i64 2)], none⟩,
      ⟨some 34, .load none, [.t 33], none⟩,
      ⟨some 35, .conv .i64, [.t 34], none⟩,
      ⟨some 41, .callv [25, 26, 27, 28, 29, 30, 31, 32, 33, 34, 35, 36, 37, 38, 39, 40, 41, 42] 1, [.t 36, .t 40], none⟩,
      ⟨some 42, .call 74 [43, 44] 1, [.t 41], none⟩,
      ⟨some 43, .build [.int .i64 0, .int .i64 0, .nils 48 5, .nils 95 3, .int .i64 0, .nils 5 1] [(0, 1), (1, 1), (4, 1), (5, 1)], [.t 27, .t 31, .t 35, .t 42], none⟩,
      ⟨none, .store 6, [.t 2, .t 43], none⟩] [12, 13, 14, 15, 16, 0, 1, 2, 3, 4, 5, 6, 7, 8, 9, 10, 11, 17, 18, 19, 20] (some (false, 17, 12)) [(6, 18), (7, 18), (10, 18), (11, 18), (14, 18), (15, 18)]) [2, 4, 5, 7, 8, 9])
  (.seq (.kpost (.reg [⟨some 44, .mv, [.t 8], none⟩,
      ⟨some 45, .callv [45, 46, 47, 48, 49, 50, 51, 52, 53, 54, 55, 56, 57, 58, 59, 60, 61, 62] 1, [.t 44], none⟩,
      ⟨some 46, .fadr 2, [.t 2], none⟩,
      ⟨none, .store 1, [.t 46, .t 45], none⟩]) [2, 4, 5, 7, 8, 9])
  (.seq (.seq (.kpost (.reg [⟨some 10, .mv, [.c (.int .i64 0)], none⟩]) [2, 4, 5, 7, 8, 9, 10])
   (.block 0 (.kpre [2, 4, 5, 7, 8, 9, 10] (.loop (.kpost (.seq (.seq (.kpost (.reg [⟨some 47, .mv, [.t 10], none⟩,
            ⟨some 48, .mv, [.t 9], none⟩,
            ⟨some 49, .iadr 1, [.t 48, .c (.int .i64 3)], none⟩,
            ⟨some 50, .load none, [.t 49], none⟩,
            ⟨some 51, .conv .i64, [.t 50], none⟩,
            ⟨some 52, .bin .lss 0, [.t 47, .t 51], none⟩,
            ⟨some 53, .mv, [.t 52], none⟩,
            ⟨some 54, .load none, [.t 5], some (53, true)⟩,
            ⟨some 55, .bnot, [.t 54], some (53, true)⟩,
            ⟨some 56, .pick, [.t 53, .t 55, .c (.bool false)], none⟩]) [2, 4, 5, 7, 8, 9, 10, 56])
        (.cond (.t 56)
         .skip
         (.exit 0)))
       (.seq (.block 1 (.seq (.kpost (.reg [⟨some 59, .load none, [.t 7], none⟩,
             ⟨some 60, .callv [63, 64, 65, 66, 67, 68, 69, 70, 71, 72, 73, 74, 75, 76, 77, 78, 79, 80] 1, [.t 59, .c (.str [119, 119]), .c (.int .i64 8)], none⟩,
             ⟨some 11, .mv, [.t 60], none⟩]) [2, 4, 5, 7, 8, 9, 10, 11])
         (.kpost (.regD [⟨some 71, .mv, [.t 8], none⟩,
            ⟨some 61, .fadr 3, [.t 2], none⟩,
            ⟨some 62, .load none, [.t 61], none⟩,
            ⟨some 63, .mv, [.t 11], none⟩,
            ⟨some 64, .iadr 1, [.t 63, .c (.int .i64 0)], none⟩,
            ⟨some 65, .load none, [.t 64], none⟩,
            ⟨some 66, .conv .i64, [.t 65], none⟩,
            ⟨some 67, .mv, [.t 11], none⟩,
            ⟨some 68, .iadr 1, [.t 67, .c (.int .i64 1)], none⟩,
            ⟨some 69, .load none, [.t 68], none⟩,
            ⟨some 70, .conv .i64, [.t 69], none⟩,
            ⟨some 72, .callv [81, 82, 83, 84, 85, 86, 87, 88, 89, 90, 91, 92, 93, 94, 95, 96, 97, 98] 1, [.t 71], none⟩,
            ⟨some 73, .build [.int .i64 0, .int .i64 0, .nils 48 5] [(0, 1), (1, 1), (2, 1)], [.t 66, .t 70, .t 72], none⟩,
            ⟨some 74, .bslice 99 95 3 [.int .i64 0, .int .i64 0, .imm 5 []] 1 [0], [.t 73], none⟩,
            ⟨some 75, .app 100 95 3 40, [.t 62, .t 74], none⟩,
            ⟨some 76, .fadr 3, [.t 2], none⟩,
            ⟨none, .store 1, [.t 76, .t 75], none⟩] [10, 0, 1, 2, 3, 4, 5, 6, 7, 8, 9, 11, 12, 13, 14, 15, 16] (some (false, 11, 10)) [(1, 13), (2, 13)]) [2, 4, 5, 7, 8, 9, 10])))
       (.kpost (.reg [⟨some 57, .mv, [.t 10], none⟩,
          ⟨some 58, .bin .add 0, [.t 57, .c (.int .i64 1)], none⟩,
          ⟨some 10, .mv, [.t 58], none⟩]) [2, 4, 5, 7, 8, 9, 10]))) [2, 4, 5, 7, 8, 9, 10])))))
  (.seq (.seq (.kpost (.reg [⟨some 77, .load none, [.t 5], none⟩,
       ⟨some 78, .mv, [.t 77], none⟩,
       ⟨some 79, .load none, [.t 4], some (78, false)⟩,
       ⟨some 80, .len, [.t 79], some (78, false)⟩,
       ⟨some 81, .bin .gtr 0, [.t 80, .c (.int .i64 0)], some (78, false)⟩,
       ⟨some 82, .pick, [.t 78, .c (.bool true), .t 81], none⟩,
       ⟨some 83, .mv, [.t 82], none⟩,
       ⟨some 84, .load (some 6), [.t 2], some (83, false)⟩,
       ⟨some 85, .call 69 [] 0, [.t 84], some (83, false)⟩,
       ⟨some 86, .bin .neq 0, [.t 85, .c (.int .i64 0)], some (83, false)⟩,
       ⟨some 87, .pick, [.t 83, .c (.bool true), .t 86], none⟩]) [2, 87])
   (.cond (.t 87)
    (.seq (.kpost (.reg [⟨some 88, .build [.int .i64 0, .int .i64 0, .nils 48 5, .nils 95 3, .int .i64 0, .nils 5 1] [], [], none⟩,
         ⟨none, .store 6, [.t 2, .t 88], none⟩,
         ⟨some 3, .mv, [.c (.int .i64 120)], none⟩]) [2, 3])
     .ret)
    .skip))
  (.seq (.kpost (.reg [⟨some 89, .load (some 6), [.t 2], none⟩,
      ⟨none, .store 6, [.t 2, .t 89], none⟩,
      ⟨some 3, .mv, [.c (.int .i64 0)], none⟩]) [2, 3])
  .ret)))))))))))) }
/-- waggoner/change.Read -/
def i101 : IFn := { ns := 7, nt := 82, res := [.cell 2 (some 6), .t 3], body :=
  (.seq (.kpost (.reg [⟨some 2, .alloc 0 70 [.int .i64 0, .int .i64 0, .int .i64 0, .int .i64 0, .nils 5 1, .nils 48 5], [], none⟩,
      ⟨some 3, .mv, [.c (.int .i64 0)], none⟩]) [0, 2])
  (.seq (.seq (.kpost (.reg [⟨some 7, .mv, [.t 0], none⟩,
       ⟨some 8, .len, [.t 7], none⟩,
       ⟨some 9, .bin .lss 0, [.t 8, .c (.int .i64 9)], none⟩]) [0, 2, 9])
   (.cond (.t 9)
    (.seq (.kpost (.reg [⟨some 10, .load (some 6), [.t 2], none⟩,
         ⟨none, .store 6, [.t 2, .t 10], none⟩,
         ⟨some 3, .mv, [.c (.int .i64 100)], none⟩]) [2, 3])
     .ret)
    .skip))
  (.seq (.kpost (.reg [⟨some 12, .mv, [.t 0], none⟩,
      ⟨some 13, .slc 5 1 false true false, [.t 12, .c (.int .i64 9)], none⟩,
      ⟨some 14, .call 142 [1, 2] 1, [.c (.str [98, 98, 98, 119, 104]), .t 13], none⟩,
      ⟨some 11, .mv, [.t 14], none⟩,
      ⟨some 15, .extr 0, [.t 11], none⟩,
      ⟨some 16, .extr 1, [.t 11], none⟩,
      ⟨some 4, .mv, [.t 15], none⟩,
      ⟨some 3, .mv, [.t 16], none⟩]) [0, 2, 3, 4])
  (.seq (.seq (.kpost (.reg [⟨some 17, .mv, [.t 3], none⟩,
       ⟨some 18, .bin .neq 0, [.t 17, .c (.int .i64 0)], none⟩,
       ⟨some 19, .mv, [.t 18], none⟩,
       ⟨some 20, .mv, [.t 0], some (19, false)⟩,
       ⟨some 21, .len, [.t 20], some (19, false)⟩,
       ⟨some 22, .bin .sub 0, [.t 21, .c (.int .i64 9)], some (19, false)⟩,
       ⟨some 23, .mv, [.t 4], some (19, false)⟩,
       ⟨some 24, .iadr 1, [.t 23, .c (.int .i64 4)], some (19, false)⟩,
       ⟨some 25, .load none, [.t 24], some (19, false)⟩,
       ⟨some 26, .conv .i64, [.t 25], some (19, false)⟩,
       ⟨some 27, .bin .lss 0, [.t 22, .t 26], some (19, false)⟩,
       ⟨some 28, .pick, [.t 19, .c (.bool true), .t 27], none⟩]) [0, 2, 4, 28])
   (.cond (.t 28)
    (.seq (.kpost (.reg [⟨some 29, .load (some 6), [.t 2], none⟩,
         ⟨none, .store 6, [.t 2, .t 29], none⟩,
         ⟨some 3, .mv, [.c (.int .i64 100)], none⟩]) [2, 3])
     .ret)
    .skip))
  (.seq (.kpost (.reg [⟨some 30, .mv, [.t 4], none⟩,
      ⟨some 31, .iadr 1, [.t 30, .c (.int .i64 4)], none⟩,
      ⟨some 32, .load none, [.t 31], none⟩,
      ⟨some 33, .conv .i64, [.t 32], none⟩,
      ⟨some 34, .bin .add 0, [.c (.int .i64 9), .t 33], none⟩,
      ⟨some 5, .mv, [.t 34], none⟩]) [0, 2, 4, 5])
  (.seq (.kpost (.regD [⟨some 35, .mv, [.t 4], none⟩,
      ⟨some 36, .iadr 1, [.t 35, .c (.int .i64 0)], none⟩,
      ⟨some 37, .load none, [.t 36], none⟩,
      ⟨some 38, .conv .i64, [.t 37], none⟩,
      ⟨some 39, .mv, [.t 4], none⟩,
      ⟨some 40, .iadr 1, [.t 39, .c (.int .i64 1)], none⟩,
      ⟨some 41, .load none, [.t 40], none⟩,
      ⟨some 42, .conv .i64, [.t 41], none⟩,
      ⟨some 43, .mv, [.t 4], none⟩,
      ⟨some 44, .iadr 1, [.t 43, .c (.int .i64 2)], none⟩,
      ⟨some 45, .load none, [.t 44], none⟩,
      ⟨some 46, .conv .i64, [.t 45], none⟩,
      ⟨some 47, .mv, [.t 4], none⟩,
      ⟨some 48, .iadr 1, [.t 47, .c (.int .i64 3)], none⟩,
      ⟨some 49, .load none, [.t 48], none⟩,
      ⟨some 50, .conv .i64, [.t 49], none⟩,
      ⟨some 51, .mv, [.t 0], none⟩,
      ⟨some 52, .mv, [.t 5], none⟩,
      ⟨some 53, .mv, [.t 5], none⟩,
      ⟨some 54, .slc 5 1 true true true, [.t 51, .c (.int .i64 9), .t 52, .t 53], none⟩,
      ⟨some 55, .call 74 [3, 4] 1, [.t 54], none⟩,
      ⟨some 56, .build [.int .i64 0, .int .i64 0, .int .i64 0, .int .i64 0, .nils 5 1, .nils 48 5] [(0, 1), (1, 1), (2, 1), (3, 1), (4, 1)], [.t 38, .t 42, .t 46, .t 50, .t 55], none⟩,
      ⟨none, .store 6, [.t 2, .t 56], none⟩] [0, 1, 2, 3, 4, 5, 6, 7, 8, 9, 10, 11, 12, 13, 14, 15, 16, 17, 18, 19, 20, 21, 22] none [(1, 20), (2, 20), (5, 20), (6, 20), (9, 20), (10, 20), (13, 20), (14, 20)]) [0, 2, 5])
  (.seq (.kpost (.reg [⟨some 57, .mv, [.t 0], none⟩,
      ⟨some 58, .mv, [.t 5], none⟩,
      ⟨some 59, .slc 5 1 true false false, [.t 57, .t 58], none⟩,
      ⟨some 6, .mv, [.t 59], none⟩]) [2, 6])
  (.seq (.seq (.kpost (.reg [⟨some 60, .fadr 0, [.t 2], none⟩,
       ⟨some 61, .load none, [.t 60], none⟩,
       ⟨some 62, .bin .eql 0, [.t 61, .c (.int .i64 8)], none⟩]) [2, 6, 62])
   (.cond (.t 62)
    (.seq (.seq (.kpost (.reg [⟨some 64, .mv, [.t 6], none⟩,
          ⟨some 65, .call 144 [5, 6] 1, [.t 64], none⟩,
          ⟨some 63, .mv, [.t 65], none⟩,
          ⟨some 66, .extr 0, [.t 63], none⟩,
          ⟨some 67, .extr 1, [.t 63], none⟩,
          ⟨some 68, .fadr 5, [.t 2], none⟩,
          ⟨none, .store 1, [.t 68, .t 66], none⟩,
          ⟨some 3, .mv, [.t 67], none⟩]) [2, 3])
      (.seq (.kpost (.reg [⟨some 69, .mv, [.t 3], none⟩,
          ⟨some 70, .bin .neq 0, [.t 69, .c (.int .i64 0)], none⟩]) [2, 70])
      (.cond (.t 70)
       (.seq (.kpost (.reg [⟨some 71, .build [.int .i64 0, .int .i64 0, .int .i64 0, .int .i64 0, .nils 5 1, .nils 48 5] [], [], none⟩,
            ⟨none, .store 6, [.t 2, .t 71], none⟩,
            ⟨some 3, .mv, [.c (.int .i64 100)], none⟩]) [2, 3])
        .ret)
       .skip)))
     (.kpost (.reg [⟨some 6, .mv, [.c (.nils 5 1)], none⟩]) [2, 6]))
    .skip))
  (.seq (.seq (.kpost (.reg [⟨some 72, .mv, [.t 6], none⟩,
       ⟨some 73, .len, [.t 72], none⟩,
       ⟨some 74, .bin .gtr 0, [.t 73, .c (.int .i64 0)], none⟩,
       ⟨some 75, .mv, [.t 74], none⟩,
       ⟨some 76, .load (some 6), [.t 2], some (75, false)⟩,
       ⟨some 77, .call 70 [] 0, [.t 76], some (75, false)⟩,
       ⟨some 78, .bnot, [.t 77], some (75, false)⟩,
       ⟨some 79, .pick, [.t 75, .c (.bool true), .t 78], none⟩]) [2, 79])
   (.cond (.t 79)
    (.seq (.kpost (.reg [⟨some 80, .build [.int .i64 0, .int .i64 0, .int .i64 0, .int .i64 0, .nils 5 1, .nils 48 5] [], [], none⟩,
         ⟨none, .store 6, [.t 2, .t 80], none⟩,
         ⟨some 3, .mv, [.c (.int .i64 100)], none⟩]) [2, 3])
     .ret)
    .skip))
  (.seq (.kpost (.reg [⟨some 81, .load (some 6), [.t 2], none⟩,
      ⟨none, .store 6, [.t 2, .t 81], none⟩,
      ⟨some 3, .mv, [.c (.int .i64 0)], none⟩]) [2, 3])
  .ret)))))))))) }
/-- waggoner/snap.Records -/
def i102 : IFn := { ns := 20, nt := 53, res := [.cell 4 none, .t 5], body :=
  (.seq (.kpost (.reg [⟨some 2, .box 0 30, [.t 0], none⟩,
      ⟨some 3, .box 1 3, [.t 1], none⟩,
      ⟨some 4, .alloc 2 113 [.nils 116 3], [], none⟩,
      ⟨some 5, .mv, [.c (.int .i64 0)], none⟩]) [2, 3, 4])
  (.seq (.kpost (.reg [⟨some 10, .load (some 6), [.t 2], none⟩,
      ⟨some 11, .call 145 [3, 4] 1, [.t 10], none⟩,
      ⟨some 9, .mv, [.t 11], none⟩,
      ⟨some 12, .extr 0, [.t 9], none⟩,
      ⟨some 13, .extr 1, [.t 9], none⟩,
      ⟨some 6, .mv, [.t 12], none⟩,
      ⟨some 5, .mv, [.t 13], none⟩]) [3, 4, 5, 6])
  (.seq (.seq (.kpost (.reg [⟨some 14, .mv, [.t 5], none⟩,
       ⟨some 15, .bin .neq 0, [.t 14, .c (.int .i64 0)], none⟩]) [3, 4, 5, 6, 15])
   (.cond (.t 15)
    (.seq (.kpost (.reg [⟨some 16, .mv, [.t 5], none⟩,
         ⟨none, .store 1, [.t 4, .c (.nils 116 3)], none⟩,
         ⟨some 5, .mv, [.t 16], none⟩]) [4, 5])
     .ret)
    .skip))
  (.seq (.seq (.kpost (.reg [⟨some 17, .load none, [.t 3], none⟩,
       ⟨some 18, .bin .lss 0, [.t 17, .c (.int .i64 0)], none⟩,
       ⟨some 19, .mv, [.t 18], none⟩,
       ⟨some 20, .load none, [.t 3], some (19, false)⟩,
       ⟨some 21, .bin .gtr 0, [.t 20, .c (.int .i64 2305843009213693952)], some (19, false)⟩,
       ⟨some 22, .pick, [.t 19, .c (.bool true), .t 21], none⟩]) [3, 4, 5, 6, 22])
   (.cond (.t 22)
    (.seq (.kpost (.reg [⟨none, .store 1, [.t 4, .c (.nils 116 3)], none⟩,
         ⟨some 5, .mv, [.c (.int .i64 120)], none⟩]) [4, 5])
     .ret)
    .skip))
  (.seq (.seq (.kpost (.reg [⟨some 23, .mv, [.t 6], none⟩,
       ⟨some 24, .call 146 [5, 6, 7, 8, 9, 10] 1, [.t 23], none⟩]) [3, 4, 5, 24])
   (.block 0 (.kpre [3, 4, 5, 24] (.rangeF 11 (.t 24) [25]
      (.kpost (.reg [⟨some 7, .mv, [.t 25], none⟩]) [3, 4, 7])
      (.block 1 (.kpost (.regD [⟨some 26, .load none, [.t 4], none⟩,
          ⟨some 27, .load none, [.t 3], none⟩,
          ⟨some 28, .load none, [.t 4], none⟩,
          ⟨some 29, .len, [.t 28], none⟩,
          ⟨some 30, .bin .add 0, [.t 27, .t 29], none⟩,
          ⟨some 31, .mv, [.t 7], none⟩,
          ⟨some 32, .call 74 [12, 13] 1, [.t 31], none⟩,
          ⟨some 33, .build [.int .i64 0, .int .i64 0, .nils 5 1] [(0, 1), (1, 1), (2, 1)], [.c (.int .i64 2), .t 30, .t 32], none⟩,
          ⟨some 34, .bslice 14 116 3 [.int .i64 0, .int .i64 0, .imm 1 []] 1 [0], [.t 33], none⟩,
          ⟨some 35, .app 15 116 3 40, [.t 26, .t 34], none⟩,
          ⟨none, .store 1, [.t 4, .t 35], none⟩] [0, 1, 2, 3, 4, 5, 6, 7, 8, 9, 10] none [(0, 6), (0, 8), (1, 6), (2, 6), (3, 6), (4, 6)]) []))))))
  (.seq (.kpost (.reg [⟨some 37, .load none, [.t 4], none⟩,
      ⟨some 38, .len, [.t 37], none⟩,
      ⟨some 39, .conv .u64, [.t 38], none⟩,
      ⟨some 40, .call 147 [16, 17] 1, [.c (.nils 5 1), .t 39, .c (.int .i64 2)], none⟩,
      ⟨some 36, .mv, [.t 40], none⟩,
      ⟨some 41, .extr 0, [.t 36], none⟩,
      ⟨some 42, .extr 1, [.t 36], none⟩,
      ⟨some 8, .mv, [.t 41], none⟩,
      ⟨some 5, .mv, [.t 42], none⟩]) [3, 4, 5, 8])
  (.seq (.kpost (.reg [⟨some 43, .load none, [.t 4], none⟩,
      ⟨some 44, .load none, [.t 3], none⟩,
      ⟨some 45, .load none, [.t 4], none⟩,
      ⟨some 46, .len, [.t 45], none⟩,
      ⟨some 47, .bin .add 0, [.t 44, .t 46], none⟩,
      ⟨some 48, .mv, [.t 8], none⟩,
      ⟨some 49, .build [.int .i64 0, .int .i64 0, .nils 5 1] [(0, 1), (1, 1), (2, 1)], [.c (.int .i64 3), .t 47, .t 48], none⟩,
      ⟨some 50, .bslice 18 116 3 [.int .i64 0, .int .i64 0, .imm 1 []] 1 [0], [.t 49], none⟩,
      ⟨some 51, .app 19 116 3 40, [.t 43, .t 50], none⟩,
      ⟨some 52, .mv, [.t 5], none⟩,
      ⟨none, .store 1, [.t 4, .t 51], none⟩,
      ⟨some 5, .mv, [.t 52], none⟩]) [4, 5])
  .ret))))))) }
/-- waggoner/le.Pack -/
def i103 : IFn := { ns := 3, nt := 39, res := [.t 4, .t 5], body :=
  (.seq (.kpost (.reg [⟨some 4, .mv, [.c (.nils 5 1)], none⟩,
      ⟨some 5, .mv, [.c (.int .i64 0)], none⟩]) [0, 1, 4])
  (.seq (.kpost (.reg [⟨some 6, .mv, [.c (.int .i64 0)], none⟩]) [0, 1, 4, 6])
  (.seq (.seq (.kpost (.reg [⟨some 9, .mv, [.t 0], none⟩,
       ⟨some 10, .srange 0, [.t 9], none⟩]) [1, 4, 6, 10])
   (.block 0 (.kpre [1, 4, 6, 10] (.loop (.kpost (.seq (.kpost (.reg [⟨some 11, .next, [.t 10], none⟩,
           ⟨some 12, .extr 0, [.t 11], none⟩]) [1, 4, 6, 10, 11, 12])
       (.seq (.cond (.t 12)
         .skip
         (.exit 0))
       (.block 1 (.seq (.kpost (.reg [⟨some 13, .extr 2, [.t 11], none⟩,
            ⟨some 8, .mv, [.t 13], none⟩]) [1, 4, 6, 8, 10])
        (.seq (.seq (.kpost (.reg [⟨some 14, .mv, [.t 6], none⟩,
             ⟨some 15, .mv, [.t 1], none⟩,
             ⟨some 16, .len, [.t 15], none⟩,
             ⟨some 17, .bin .eql 0, [.t 14, .t 16], none⟩]) [1, 4, 6, 8, 10, 17])
         (.cond (.t 17)
          (.seq (.kpost (.reg [⟨some 4, .mv, [.c (.nils 5 1)], none⟩,
               ⟨some 5, .mv, [.c (.int .i64 10)], none⟩]) [4, 5])
           .ret)
          .skip))
        (.seq (.seq (.kpost (.regD [⟨some 19, .mv, [.t 4], none⟩,
             ⟨some 20, .mv, [.t 1], none⟩,
             ⟨some 21, .mv, [.t 6], none⟩,
             ⟨some 22, .iadr 1, [.t 20, .t 21], none⟩,
             ⟨some 23, .load none, [.t 22], none⟩,
             ⟨some 24, .mv, [.t 8], none⟩,
             ⟨some 25, .call 148 [] 0, [.t 24], none⟩,
             ⟨some 26, .call 147 [1, 2] 1, [.t 19, .t 23, .t 25], none⟩,
             ⟨some 18, .mv, [.t 26], none⟩,
             ⟨some 27, .extr 0, [.t 18], none⟩,
             ⟨some 28, .extr 1, [.t 18], none⟩,
             ⟨some 4, .mv, [.t 27], none⟩,
             ⟨some 5, .mv, [.t 28], none⟩] [0, 1, 2, 3, 4, 5, 6, 7, 8, 9, 10, 11, 12] none [(3, 6), (4, 6)]) [1, 4, 5, 6, 10])
         (.seq (.kpost (.reg [⟨some 29, .mv, [.t 5], none⟩,
             ⟨some 30, .bin .neq 0, [.t 29, .c (.int .i64 0)], none⟩]) [1, 4, 5, 6, 10, 30])
         (.cond (.t 30)
          (.seq (.kpost (.reg [⟨some 31, .mv, [.t 5], none⟩,
               ⟨some 4, .mv, [.c (.nils 5 1)], none⟩,
               ⟨some 5, .mv, [.t 31], none⟩]) [4, 5])
           .ret)
          .skip)))
        (.kpost (.reg [⟨some 32, .mv, [.t 6], none⟩,
           ⟨some 33, .bin .add 0, [.t 32, .c (.int .i64 1)], none⟩,
           ⟨some 6, .mv, [.t 33], none⟩]) [1, 4, 6, 10]))))))) [1, 4, 6, 10])))))
  (.seq (.seq (.kpost (.reg [⟨some 34, .mv, [.t 6], none⟩,
       ⟨some 35, .mv, [.t 1], none⟩,
       ⟨some 36, .len, [.t 35], none⟩,
       ⟨some 37, .bin .lss 0, [.t 34, .t 36], none⟩]) [4, 37])
   (.cond (.t 37)
    (.seq (.kpost (.reg [⟨some 4, .mv, [.c (.nils 5 1)], none⟩,
         ⟨some 5, .mv, [.c (.int .i64 10)], none⟩]) [4, 5])
     .ret)
    .skip))
  (.seq (.kpost (.reg [⟨some 38, .mv, [.t 4], none⟩,
      ⟨some 4, .mv, [.t 38], none⟩,
      ⟨some 5, .mv, [.c (.int .i64 0)], none⟩]) [4, 5])
  .ret))))) }
/-- waggoner/extent.Write -/
def i104 : IFn := { ns := 7, nt := 54, res := [.t 2, .t 3], body :=
  (.seq (.kpost (.reg [⟨some 2, .mv, [.c (.nils 5 1)], none⟩,
      ⟨some 3, .mv, [.c (.int .i64 0)], none⟩]) [0])
  (.seq (.kpost (.reg [⟨some 9, .mv, [.t 0], none⟩,
      ⟨some 10, .len, [.t 9], none⟩,
      ⟨some 11, .conv .u8, [.t 10], none⟩,
      ⟨some 12, .bslice 0 5 1 [.int .u8 0] 1 [0], [.t 11], none⟩,
      ⟨some 4, .mv, [.t 12], none⟩]) [0, 4])
  (.seq (.seq (.kpost (.reg [⟨some 13, .mv, [.t 0], none⟩,
       ⟨some 14, .len, [.t 13], none⟩,
       ⟨some 15, .mv, [.c (.int .i64 0)], none⟩]) [0, 4, 13, 14, 15])
   (.block 0 (.kpre [0, 4, 13, 14, 15] (.loop (.kpost (.seq (.kpost (.reg [⟨some 16, .bin .lss 0, [.t 15, .t 14], none⟩]) [0, 4, 13, 14, 15, 16])
       (.seq (.cond (.t 16)
         .skip
         (.exit 0))
       (.seq (.block 1 (.seq (.kpost (.reg [⟨some 17, .iadr 5, [.t 13, .t 15], none⟩,
             ⟨some 18, .load (some 5), [.t 17], none⟩,
             ⟨some 6, .alloc 1 48 [.int .i64 0, .int .i64 0, .int .i64 0, .int .i64 0, .nils 5 1], [], none⟩,
             ⟨none, .store 5, [.t 6, .t 18], none⟩]) [0, 4, 6, 13, 14, 15])
         (.seq (.kpost (.reg [⟨some 20, .fadr 0, [.t 6], none⟩,
             ⟨some 21, .load none, [.t 20], none⟩,
             ⟨some 22, .conv .u64, [.t 21], none⟩,
             ⟨some 23, .fadr 1, [.t 6], none⟩,
             ⟨some 24, .load none, [.t 23], none⟩,
             ⟨some 25, .conv .u64, [.t 24], none⟩,
             ⟨some 26, .fadr 2, [.t 6], none⟩,
             ⟨some 27, .load none, [.t 26], none⟩,
             ⟨some 28, .conv .u64, [.t 27], none⟩,
             ⟨some 29, .fadr 3, [.t 6], none⟩,
             ⟨some 30, .load none, [.t 29], none⟩,
             ⟨some 31, .conv .u64, [.t 30], none⟩,
             ⟨some 32, .bslice 2 161 1 [.int .u64 0] 4 [0, 1, 2, 3], [.t 22, .t 25, .t 28, .t 31], none⟩,
             ⟨some 33, .call 103 [3, 4] 1, [.c (.str [98, 98, 98, 119]), .t 32], none⟩,
             ⟨some 19, .mv, [.t 33], none⟩,
             ⟨some 34, .extr 0, [.t 19], none⟩,
             ⟨some 35, .extr 1, [.t 19], none⟩,
             ⟨some 7, .mv, [.t 34], none⟩,
             ⟨some 8, .mv, [.t 35], none⟩]) [0, 4, 6, 7, 8, 13, 14, 15])
         (.seq (.seq (.kpost (.reg [⟨some 36, .load (some 5), [.t 6], none⟩,
              ⟨some 37, .call 75 [] 0, [.t 36], none⟩,
              ⟨some 38, .bnot, [.t 37], none⟩,
              ⟨some 39, .mv, [.t 38], none⟩,
              ⟨some 40, .mv, [.t 8], some (39, false)⟩,
              ⟨some 41, .bin .neq 0, [.t 40, .c (.int .i64 0)], some (39, false)⟩,
              ⟨some 42, .pick, [.t 39, .c (.bool true), .t 41], none⟩]) [0, 4, 6, 7, 13, 14, 15, 42])
          (.cond (.t 42)
           (.seq (.kpost (.reg [⟨some 2, .mv, [.c (.nils 5 1)], none⟩,
                ⟨some 3, .mv, [.c (.int .i64 70)], none⟩]) [2, 3])
            .ret)
           .skip))
         (.kpost (.regD [⟨some 43, .mv, [.t 4], none⟩,
            ⟨some 44, .mv, [.t 7], none⟩,
            ⟨some 45, .app 5 5 1 1, [.t 43, .t 44], none⟩,
            ⟨some 46, .fadr 4, [.t 6], none⟩,
            ⟨some 47, .load none, [.t 46], none⟩,
            ⟨some 48, .app 6 5 1 1, [.t 45, .t 47], none⟩,
            ⟨some 4, .mv, [.t 48], none⟩] [0, 1, 2, 3, 4, 5, 6] none [(2, 3), (2, 4)]) [0, 4, 13, 14, 15])))))
       (.kpost (.reg [⟨some 49, .bin .add 0, [.t 15, .c (.int .i64 1)], none⟩,
          ⟨some 15, .mv, [.t 49], none⟩]) [0, 4, 13, 14, 15])))) [0, 4, 13, 14, 15])))))
  (.seq (.seq (.kpost (.reg [⟨some 50, .mv, [.t 0], none⟩,
       ⟨some 51, .len, [.t 50], none⟩,
       ⟨some 52, .bin .gtr 0, [.t 51, .c (.int .i64 64)], none⟩]) [4, 52])
   (.cond (.t 52)
    (.seq (.kpost (.reg [⟨some 2, .mv, [.c (.nils 5 1)], none⟩,
         ⟨some 3, .mv, [.c (.int .i64 70)], none⟩]) [2, 3])
     .ret)
    .skip))
  (.seq (.kpost (.reg [⟨some 53, .mv, [.t 4], none⟩,
      ⟨some 2, .mv, [.t 53], none⟩,
      ⟨some 3, .mv, [.c (.int .i64 0)], none⟩]) [2, 3])
  .ret))))) }
/-- waggoner/log.Append -/
def i105 : IFn := { ns := 9, nt := 39, res := [.cell 4 (some 5), .t 5, .t 6], body :=
  (.seq (.kpost (.reg [⟨some 2, .box 0 51, [.t 0], none⟩,
      ⟨some 4, .alloc 1 51 [.int .i64 0, .nils 54 4, .int .i64 0, .bool false, .int .i64 0], [], none⟩,
      ⟨some 5, .mv, [.c (.nils 216 1)], none⟩,
      ⟨some 6, .mv, [.c (.int .i64 0)], none⟩]) [1, 2, 4, 5])
  (.seq (.kpost (.reg [⟨some 10, .load (some 5), [.t 2], none⟩,
      ⟨some 11, .fadr 2, [.t 2], none⟩,
      ⟨some 12, .load none, [.t 11], none⟩,
      ⟨some 13, .call 42 [2, 3] 1, [.t 10, .t 12], none⟩,
      ⟨none, .store 5, [.t 4, .t 13], none⟩]) [1, 4, 5])
  (.seq (.seq (.kpost (.reg [⟨some 14, .mv, [.t 1], none⟩,
       ⟨some 15, .len, [.t 14], none⟩,
       ⟨some 16, .mv, [.c (.int .i64 0)], none⟩]) [4, 5, 14, 15, 16])
   (.block 0 (.kpre [4, 5, 14, 15, 16] (.loop (.kpost (.seq (.kpost (.reg [⟨some 17, .bin .lss 0, [.t 16, .t 15], none⟩]) [4, 5, 14, 15, 16, 17])
       (.seq (.cond (.t 17)
         .skip
         (.exit 0))
       (.seq (.block 1 (.seq (.kpost (.reg [⟨some 18, .iadr 3, [.t 14, .t 16], none⟩,
             ⟨some 19, .load (some 3), [.t 18], none⟩,
             ⟨some 8, .alloc 4 116 [.int .i64 0, .int .i64 0, .nils 5 1], [], none⟩,
             ⟨none, .store 3, [.t 8, .t 19], none⟩]) [4, 5, 8, 14, 15, 16])
         (.seq (.kpost (.reg [⟨some 9, .mv, [.c (.cpx)], none⟩]) [4, 5, 8, 14, 15, 16])
         (.seq (.seq (.kpost (.reg [⟨some 21, .load (some 5), [.t 4], none⟩,
              ⟨some 22, .load (some 3), [.t 8], none⟩,
              ⟨some 23, .call 149 [5, 6] 1, [.t 21, .t 22], none⟩,
              ⟨some 20, .mv, [.t 23], none⟩,
              ⟨some 24, .extr 0, [.t 20], none⟩,
              ⟨some 25, .extr 1, [.t 20], none⟩,
              ⟨some 26, .extr 2, [.t 20], none⟩,
              ⟨none, .store 5, [.t 4, .t 24], none⟩,
              ⟨some 9, .mv, [.t 25], none⟩,
              ⟨some 6, .mv, [.t 26], none⟩]) [4, 5, 6, 9, 14, 15, 16])
          (.seq (.kpost (.reg [⟨some 27, .mv, [.t 6], none⟩,
              ⟨some 28, .bin .neq 0, [.t 27, .c (.int .i64 0)], none⟩]) [4, 5, 6, 9, 14, 15, 16, 28])
          (.cond (.t 28)
           (.seq (.kpost (.reg [⟨some 29, .load (some 5), [.t 4], none⟩,
                ⟨some 30, .mv, [.t 5], none⟩,
                ⟨some 31, .mv, [.t 6], none⟩,
                ⟨none, .store 5, [.t 4, .t 29], none⟩,
                ⟨some 5, .mv, [.t 30], none⟩,
                ⟨some 6, .mv, [.t 31], none⟩]) [4, 5, 6])
            .ret)
           .skip)))
         (.kpost (.reg [⟨some 32, .mv, [.t 5], none⟩,
            ⟨some 33, .mv, [.t 9], none⟩,
            ⟨some 34, .bslice 7 216 1 [.cpx] 1 [0], [.t 33], none⟩,
            ⟨some 35, .app 8 216 1 16, [.t 32, .t 34], none⟩,
            ⟨some 5, .mv, [.t 35], none⟩]) [4, 5, 14, 15, 16])))))
       (.kpost (.reg [⟨some 36, .bin .add 0, [.t 16, .c (.int .i64 1)], none⟩,
          ⟨some 16, .mv, [.t 36], none⟩]) [4, 5, 14, 15, 16])))) [4, 5, 14, 15, 16])))))
  (.seq (.kpost (.reg [⟨some 37, .load (some 5), [.t 4], none⟩,
      ⟨some 38, .mv, [.t 5], none⟩,
      ⟨none, .store 5, [.t 4, .t 37], none⟩,
      ⟨some 5, .mv, [.t 38], none⟩,
      ⟨some 6, .mv, [.c (.int .i64 0)], none⟩]) [4, 5, 6])
  .ret)))) }
/-- waggoner/state.upto -/
def i106 : IFn := { ns := 19, nt := 16, res := [.t 6], body :=
  (.seq (.kpost (.reg [⟨some 5, .box 0 3, [.t 2], none⟩,
      ⟨some 6, .mv, [.c (.bool false)], none⟩]) [0, 1, 5])
  (.seq (.kpost (.reg [⟨some 7, .mv, [.t 0], none⟩,
      ⟨some 8, .mv, [.t 1], none⟩,
      ⟨some 9, .call 37 [] 0, [.t 7, .t 8], none⟩,
      ⟨some 10, .mv, [.t 9], none⟩,
      ⟨some 11, .mv, [.t 1], some (10, true)⟩,
      ⟨some 12, .mkfn 151 0, [.t 5], some (10, true)⟩,
      ⟨some 13, .call 150 [1, 2, 3, 4, 5, 6, 7, 8, 9, 10, 11, 12, 13, 14, 15, 16, 17, 18] 0, [.t 11, .t 12], some (10, true)⟩,
      ⟨some 14, .bnot, [.t 13], some (10, true)⟩,
      ⟨some 15, .pick, [.t 10, .t 14, .c (.bool false)], none⟩,
      ⟨some 6, .mv, [.t 15], none⟩]) [6])
  .ret)) }
/-- waggoner/state.within -/
def i107 : IFn := { ns := 0, nt := 15, res := [.t 6], body :=
  (.seq (.kpost (.reg [⟨some 6, .mv, [.c (.bool false)], none⟩]) [0, 1, 2])
  (.seq (.kpost (.reg [⟨some 7, .mv, [.t 0], none⟩,
      ⟨some 8, .mv, [.t 1], none⟩,
      ⟨some 9, .bin .geq 0, [.t 7, .t 8], none⟩,
      ⟨some 10, .mv, [.t 9], none⟩,
      ⟨some 11, .mv, [.t 0], some (10, true)⟩,
      ⟨some 12, .mv, [.t 2], some (10, true)⟩,
      ⟨some 13, .bin .leq 0, [.t 11, .t 12], some (10, true)⟩,
      ⟨some 14, .pick, [.t 10, .t 13, .c (.bool false)], none⟩,
      ⟨some 6, .mv, [.t 14], none⟩]) [6])
  .ret)) }
/-- waggoner/state.kept -/
def i108 : IFn := { ns := 8, nt := 73, res := [.t 6], body :=
  (.seq (.kpost (.reg [⟨some 6, .mv, [.c (.bool false)], none⟩]) [0, 1, 2])
  (.seq (.seq (.kpost (.reg [⟨some 15, .mv, [.t 1], none⟩,
       ⟨some 16, .len, [.t 15], none⟩,
       ⟨some 17, .mv, [.c (.int .i64 0)], none⟩]) [0, 2, 15, 16, 17])
   (.block 0 (.kpre [0, 2, 15, 16, 17] (.loop (.kpost (.seq (.kpost (.reg [⟨some 18, .bin .lss 0, [.t 17, .t 16], none⟩]) [0, 2, 15, 16, 17, 18])
       (.seq (.cond (.t 18)
         .skip
         (.exit 0))
       (.seq (.block 1 (.seq (.kpost (.reg [⟨some 19, .iadr 5, [.t 15, .t 17], none⟩,
             ⟨some 20, .load (some 5), [.t 19], none⟩,
             ⟨some 8, .alloc 0 48 [.int .i64 0, .int .i64 0, .int .i64 0, .int .i64 0, .nils 5 1], [], none⟩,
             ⟨none, .store 5, [.t 8, .t 20], none⟩]) [0, 2, 8, 15, 16, 17])
         (.seq (.seq (.kpost (.reg [⟨some 21, .fadr 3, [.t 8], none⟩,
              ⟨some 22, .load none, [.t 21], none⟩,
              ⟨some 23, .mv, [.t 2], none⟩,
              ⟨some 24, .bin .gtr 0, [.t 22, .t 23], none⟩]) [0, 2, 8, 15, 16, 17, 24])
          (.cond (.t 24)
           (.exit 1)
           .skip))
         (.seq (.kpost (.reg [⟨some 25, .mv, [.t 0], none⟩,
             ⟨some 26, .len, [.t 25], none⟩,
             ⟨some 27, .mv, [.c (.int .i64 0)], none⟩]) [0, 2, 8, 15, 16, 17, 25, 26, 27])
         (.block 2 (.kpre [0, 2, 8, 15, 16, 17, 25, 26, 27] (.loop (.kpost (.seq (.kpost (.reg [⟨some 28, .bin .lss 0, [.t 27, .t 26], none⟩]) [0, 2, 8, 15, 16, 17, 25, 26, 27, 28])
             (.seq (.cond (.t 28)
               .skip
               (.exit 2))
             (.seq (.block 3 (.seq (.kpost (.reg [⟨some 29, .iadr 5, [.t 25, .t 27], none⟩,
                   ⟨some 30, .load (some 5), [.t 29], none⟩,
                   ⟨some 10, .alloc 1 48 [.int .i64 0, .int .i64 0, .int .i64 0, .int .i64 0, .nils 5 1], [], none⟩,
                   ⟨none, .store 5, [.t 10, .t 30], none⟩]) [0, 2, 8, 10, 15, 16, 17, 25, 26, 27])
               (.seq (.kpost (.reg [⟨some 32, .load (some 5), [.t 10], none⟩,
                   ⟨some 33, .fadr 0, [.t 8], none⟩,
                   ⟨some 34, .load none, [.t 33], none⟩,
                   ⟨some 35, .fadr 1, [.t 8], none⟩,
                   ⟨some 36, .load none, [.t 35], none⟩,
                   ⟨some 37, .call 152 [2, 3] 1, [.t 32, .t 34, .t 36], none⟩,
                   ⟨some 31, .mv, [.t 37], none⟩,
                   ⟨some 38, .extr 0, [.t 31], none⟩,
                   ⟨some 39, .extr 1, [.t 31], none⟩,
                   ⟨some 11, .alloc 4 48 [.int .i64 0, .int .i64 0, .int .i64 0, .int .i64 0, .nils 5 1], [], none⟩,
                   ⟨none, .store 5, [.t 11, .t 38], none⟩,
                   ⟨some 12, .mv, [.t 39], none⟩]) [0, 2, 8, 11, 12, 15, 16, 17, 25, 26, 27])
               (.seq (.seq (.kpost (.reg [⟨some 40, .mv, [.t 12], none⟩,
                    ⟨some 41, .bnot, [.t 40], none⟩]) [0, 2, 8, 11, 15, 16, 17, 25, 26, 27, 41])
                (.cond (.t 41)
                 (.exit 3)
                 .skip))
               (.seq (.kpost (.reg [⟨some 43, .load (some 5), [.t 8], none⟩,
                   ⟨some 44, .fadr 0, [.t 11], none⟩,
                   ⟨some 45, .load none, [.t 44], none⟩,
                   ⟨some 46, .fadr 1, [.t 11], none⟩,
                   ⟨some 47, .load none, [.t 46], none⟩,
                   ⟨some 48, .call 152 [5, 6] 1, [.t 43, .t 45, .t 47], none⟩,
                   ⟨some 42, .mv, [.t 48], none⟩,
                   ⟨some 49, .extr 0, [.t 42], none⟩,
                   ⟨some 50, .extr 1, [.t 42], none⟩,
                   ⟨some 13, .alloc 7 48 [.int .i64 0, .int .i64 0, .int .i64 0, .int .i64 0, .nils 5 1], [], none⟩,
                   ⟨none, .store 5, [.t 13, .t 49], none⟩,
                   ⟨some 14, .mv, [.t 50], none⟩]) [0, 2, 8, 11, 13, 15, 16, 17, 25, 26, 27])
               (.seq (.kpost (.reg [⟨some 51, .fadr 2, [.t 13], none⟩,
                   ⟨some 52, .load none, [.t 51], none⟩,
                   ⟨some 53, .fadr 2, [.t 11], none⟩,
                   ⟨some 54, .load none, [.t 53], none⟩,
                   ⟨some 55, .bin .neq 0, [.t 52, .t 54], none⟩,
                   ⟨some 56, .mv, [.t 55], none⟩,
                   ⟨some 57, .fadr 3, [.t 13], some (56, false)⟩,
                   ⟨some 58, .load none, [.t 57], some (56, false)⟩,
                   ⟨some 59, .fadr 3, [.t 11], some (56, false)⟩,
                   ⟨some 60, .load none, [.t 59], some (56, false)⟩,
                   ⟨some 61, .bin .neq 0, [.t 58, .t 60], some (56, false)⟩,
                   ⟨some 62, .pick, [.t 56, .c (.bool true), .t 61], none⟩,
                   ⟨some 63, .mv, [.t 62], none⟩,
                   ⟨some 64, .fadr 4, [.t 13], some (63, false)⟩,
                   ⟨some 65, .load none, [.t 64], some (63, false)⟩,
                   ⟨some 66, .fadr 4, [.t 11], some (63, false)⟩,
                   ⟨some 67, .load none, [.t 66], some (63, false)⟩,
                   ⟨some 68, .call 153 [] 0, [.t 65, .t 67], some (63, false)⟩,
                   ⟨some 69, .bnot, [.t 68], some (63, false)⟩,
                   ⟨some 70, .pick, [.t 63, .c (.bool true), .t 69], none⟩]) [0, 2, 8, 15, 16, 17, 25, 26, 27, 70])
               (.cond (.t 70)
                (.seq (.kpost (.reg [⟨some 6, .mv, [.c (.bool false)], none⟩]) [6])
                 .ret)
                .skip)))))))
             (.kpost (.reg [⟨some 71, .bin .add 0, [.t 27, .c (.int .i64 1)], none⟩,
                ⟨some 27, .mv, [.t 71], none⟩]) [0, 2, 8, 15, 16, 17, 25, 26, 27])))) [0, 2, 8, 15, 16, 17, 25, 26, 27]))))))))
       (.kpost (.reg [⟨some 72, .bin .add 0, [.t 17, .c (.int .i64 1)], none⟩,
          ⟨some 17, .mv, [.t 72], none⟩]) [0, 2, 15, 16, 17])))) [0, 2, 15, 16, 17])))))
  (.seq (.kpost (.reg [⟨some 6, .mv, [.c (.bool true)], none⟩]) [6])
  .ret))) }
/-- waggoner/change.within -/
def i109 : IFn := { ns := 0, nt := 15, res := [.t 6], body :=
  (.seq (.kpost (.reg [⟨some 6, .mv, [.c (.bool false)], none⟩]) [0, 1, 2])
  (.seq (.kpost (.reg [⟨some 7, .mv, [.t 0], none⟩,
      ⟨some 8, .mv, [.t 1], none⟩,
      ⟨some 9, .bin .geq 0, [.t 7, .t 8], none⟩,
      ⟨some 10, .mv, [.t 9], none⟩,
      ⟨some 11, .mv, [.t 0], some (10, true)⟩,
      ⟨some 12, .mv, [.t 2], some (10, true)⟩,
      ⟨some 13, .bin .leq 0, [.t 11, .t 12], some (10, true)⟩,
      ⟨some 14, .pick, [.t 10, .t 13, .c (.bool false)], none⟩,
      ⟨some 6, .mv, [.t 14], none⟩]) [6])
  .ret)) }
/-- waggoner/change.kinds -/
def i110 : IFn := { ns := 1, nt := 21, res := [.cell 0 (some 36)], body :=
  (.seq (.kpost (.reg [⟨some 0, .alloc 0 179 [.bool false, .bool false, .bool false, .nilf, .bool false, .bool false, .bool false, .nilf, .bool false, .bool false, .bool false, .nilf, .bool false, .bool false, .bool false, .nilf, .bool false, .bool false, .bool false, .nilf, .bool false, .bool false, .bool false, .nilf, .bool false, .bool false, .bool false, .nilf, .bool false, .bool false, .bool false, .nilf, .bool false, .bool false, .bool false, .nilf], [], none⟩]) [0])
  (.seq (.kpost (.reg [⟨some 1, .mv, [.c (.fn 154 [] [])], none⟩]) [0, 1])
  (.seq (.kpost (.reg [⟨some 2, .mv, [.c (.fn 155 [] [])], none⟩]) [0, 1, 2])
  (.seq (.kpost (.reg [⟨some 3, .mv, [.c (.fn 156 [] [])], none⟩]) [0, 1, 2, 3])
  (.seq (.kpost (.reg [⟨some 4, .mv, [.t 3], none⟩,
      ⟨some 5, .build [.bool false, .bool false, .bool false, .nilf] [(0, 1), (3, 1)], [.c (.bool true), .t 4], none⟩,
      ⟨some 6, .mv, [.t 1], none⟩,
      ⟨some 7, .build [.bool false, .bool false, .bool false, .nilf] [(0, 1), (3, 1)], [.c (.bool true), .t 6], none⟩,
      ⟨some 8, .mv, [.t 1], none⟩,
      ⟨some 9, .build [.bool false, .bool false, .bool false, .nilf] [(0, 1), (3, 1)], [.c (.bool true), .t 8], none⟩,
      ⟨some 10, .mv, [.t 1], none⟩,
      ⟨some 11, .build [.bool false, .bool false, .bool false, .nilf] [(1, 1), (3, 1)], [.c (.bool true), .t 10], none⟩,
      ⟨some 12, .mv, [.t 1], none⟩,
      ⟨some 13, .build [.bool false, .bool false, .bool false, .nilf] [(1, 1), (3, 1)], [.c (.bool true), .t 12], none⟩,
      ⟨some 14, .mv, [.t 2], none⟩,
      ⟨some 15, .build [.bool false, .bool false, .bool false, .nilf] [(3, 1)], [.t 14], none⟩,
      ⟨some 16, .mv, [.t 1], none⟩,
      ⟨some 17, .build [.bool false, .bool false, .bool false, .nilf] [(3, 1)], [.t 16], none⟩,
      ⟨some 18, .mv, [.t 1], none⟩,
      ⟨some 19, .build [.bool false, .bool false, .bool false, .nilf] [(1, 1), (2, 1), (3, 1)], [.c (.bool true), .c (.bool true), .t 18], none⟩,
      ⟨some 20, .build [.bool false, .bool false, .bool false, .nilf, .bool false, .bool false, .bool false, .nilf, .bool false, .bool false, .bool false, .nilf, .bool false, .bool false, .bool false, .nilf, .bool false, .bool false, .bool false, .nilf, .bool false, .bool false, .bool false, .nilf, .bool false, .bool false, .bool false, .nilf, .bool false, .bool false, .bool false, .nilf, .bool false, .bool false, .bool false, .nilf] [(4, 4), (8, 4), (12, 4), (16, 4), (20, 4), (24, 4), (28, 4), (32, 4)], [.t 5, .t 7, .t 9, .t 11, .t 13, .t 15, .t 17, .t 19], none⟩,
      ⟨none, .store 36, [.t 0, .t 20], none⟩]) [0])
  .ret))))) }
/-- waggoner/change.follows -/
def i111 : IFn := { ns := 1, nt := 30, res := [.t 2], body :=
  (.seq (.kpost (.reg [⟨some 2, .mv, [.c (.bool false)], none⟩]) [0])
  (.seq (.kpost (.reg [⟨some 3, .mv, [.c (.int .i64 0)], none⟩]) [0, 3])
  (.seq (.seq (.kpost (.reg [⟨some 6, .mv, [.t 0], none⟩,
       ⟨some 7, .len, [.t 6], none⟩,
       ⟨some 8, .mv, [.c (.int .i64 0)], none⟩]) [0, 3, 6, 7, 8])
   (.block 0 (.kpre [0, 3, 6, 7, 8] (.loop (.kpost (.seq (.kpost (.reg [⟨some 9, .bin .lss 0, [.t 8, .t 7], none⟩]) [0, 3, 6, 7, 8, 9])
       (.seq (.cond (.t 9)
         .skip
         (.exit 0))
       (.seq (.block 1 (.seq (.kpost (.reg [⟨some 10, .iadr 5, [.t 6, .t 8], none⟩,
             ⟨some 11, .load (some 5), [.t 10], none⟩,
             ⟨some 5, .alloc 0 48 [.int .i64 0, .int .i64 0, .int .i64 0, .int .i64 0, .nils 5 1], [], none⟩,
             ⟨none, .store 5, [.t 5, .t 11], none⟩]) [0, 3, 5, 6, 7, 8])
         (.seq (.seq (.kpost (.reg [⟨some 12, .load (some 5), [.t 5], none⟩,
              ⟨some 13, .call 75 [] 0, [.t 12], none⟩,
              ⟨some 14, .bnot, [.t 13], none⟩,
              ⟨some 15, .mv, [.t 14], none⟩,
              ⟨some 16, .fadr 0, [.t 5], some (15, false)⟩,
              ⟨some 17, .load none, [.t 16], some (15, false)⟩,
              ⟨some 18, .mv, [.t 3], some (15, false)⟩,
              ⟨some 19, .bin .lss 0, [.t 17, .t 18], some (15, false)⟩,
              ⟨some 20, .pick, [.t 15, .c (.bool true), .t 19], none⟩]) [0, 5, 6, 7, 8, 20])
          (.cond (.t 20)
           (.seq (.kpost (.reg [⟨some 2, .mv, [.c (.bool false)], none⟩]) [2])
            .ret)
           .skip))
         (.kpost (.reg [⟨some 21, .fadr 0, [.t 5], none⟩,
            ⟨some 22, .load none, [.t 21], none⟩,
            ⟨some 23, .fadr 1, [.t 5], none⟩,
            ⟨some 24, .load none, [.t 23], none⟩,
            ⟨some 25, .bin .add 0, [.t 22, .t 24], none⟩,
            ⟨some 3, .mv, [.t 25], none⟩]) [0, 3, 6, 7, 8]))))
       (.kpost (.reg [⟨some 26, .bin .add 0, [.t 8, .c (.int .i64 1)], none⟩,
          ⟨some 8, .mv, [.t 26], none⟩]) [0, 3, 6, 7, 8])))) [0, 3, 6, 7, 8])))))
  (.seq (.kpost (.reg [⟨some 27, .mv, [.t 0], none⟩,
      ⟨some 28, .len, [.t 27], none⟩,
      ⟨some 29, .bin .leq 0, [.t 28, .c (.int .i64 64)], none⟩,
      ⟨some 2, .mv, [.t 29], none⟩]) [2])
  .ret)))) }
/-- (*waggoner/state.volume).write -/
def i112 : IFn := { ns := 10, nt := 15, res := [.t 4], body :=
  (.seq (.kpost (.reg [⟨some 3, .box 0 70, [.t 1], none⟩,
      ⟨some 4, .mv, [.c (.int .i64 0)], none⟩]) [0, 3])
  (.seq (.kpost (.reg [⟨some 5, .mv, [.t 0], none⟩,
      ⟨some 6, .fadr 1, [.t 3], none⟩,
      ⟨some 7, .load none, [.t 6], none⟩,
      ⟨some 8, .fadr 2, [.t 3], none⟩,
      ⟨some 9, .load none, [.t 8], none⟩,
      ⟨some 10, .fadr 4, [.t 3], none⟩,
      ⟨some 11, .load none, [.t 10], none⟩,
      ⟨some 12, .build [.int .i64 0, .int .i64 0, .int .i64 0, .int .i64 0, .nils 5 1] [(0, 1), (1, 1), (2, 1), (4, 1)], [.t 7, .t 9, .c (.int .i64 2), .t 11], none⟩,
      ⟨some 13, .bslice 1 48 5 [.int .i64 0, .int .i64 0, .int .i64 0, .int .i64 0, .imm 1 []] 1 [0], [.t 12], none⟩,
      ⟨some 14, .call 157 [2, 3, 4, 5, 6, 7, 8, 9] 0, [.t 5, .t 13], none⟩,
      ⟨some 4, .mv, [.t 14], none⟩]) [4])
  .ret)) }
/-- (*waggoner/state.volume).zero -/
def i113 : IFn := { ns := 10, nt := 13, res := [.t 4], body :=
  (.seq (.kpost (.reg [⟨some 3, .box 0 70, [.t 1], none⟩,
      ⟨some 4, .mv, [.c (.int .i64 0)], none⟩]) [0, 3])
  (.seq (.kpost (.reg [⟨some 5, .mv, [.t 0], none⟩,
      ⟨some 6, .fadr 1, [.t 3], none⟩,
      ⟨some 7, .load none, [.t 6], none⟩,
      ⟨some 8, .fadr 2, [.t 3], none⟩,
      ⟨some 9, .load none, [.t 8], none⟩,
      ⟨some 10, .build [.int .i64 0, .int .i64 0, .int .i64 0, .int .i64 0, .nils 5 1] [(0, 1), (1, 1), (2, 1)], [.t 7, .t 9, .c (.int .i64 1)], none⟩,
      ⟨some 11, .bslice 1 48 5 [.int .i64 0, .int .i64 0, .int .i64 0, .int .i64 0, .imm 1 []] 1 [0], [.t 10], none⟩,
      ⟨some 12, .call 157 [2, 3, 4, 5, 6, 7, 8, 9] 0, [.t 5, .t 11], none⟩,
      ⟨some 4, .mv, [.t 12], none⟩]) [4])
  .ret)) }
/-- (*waggoner/state.volume).trim -/
def i114 : IFn := { ns := 10, nt := 13, res := [.t 4], body :=
  (.seq (.kpost (.reg [⟨some 3, .box 0 70, [.t 1], none⟩,
      ⟨some 4, .mv, [.c (.int .i64 0)], none⟩]) [0, 3])
  (.seq (.kpost (.reg [⟨some 5, .mv, [.t 0], none⟩,
      ⟨some 6, .fadr 1, [.t 3], none⟩,
      ⟨some 7, .load none, [.t 6], none⟩,
      ⟨some 8, .fadr 2, [.t 3], none⟩,
      ⟨some 9, .load none, [.t 8], none⟩,
      ⟨some 10, .build [.int .i64 0, .int .i64 0, .int .i64 0, .int .i64 0, .nils 5 1] [(0, 1), (1, 1)], [.t 7, .t 9], none⟩,
      ⟨some 11, .bslice 1 48 5 [.int .i64 0, .int .i64 0, .int .i64 0, .int .i64 0, .imm 1 []] 1 [0], [.t 10], none⟩,
      ⟨some 12, .call 157 [2, 3, 4, 5, 6, 7, 8, 9] 0, [.t 5, .t 11], none⟩,
      ⟨some 4, .mv, [.t 12], none⟩]) [4])
  .ret)) }
/-- (*waggoner/state.volume).point -/
def i115 : IFn := { ns := 5, nt := 60, res := [.t 4], body :=
  (.seq (.kpost (.reg [⟨some 3, .box 0 70, [.t 1], none⟩,
      ⟨some 4, .mv, [.c (.int .i64 0)], none⟩]) [0, 3])
  (.seq (.block 0 (.seq (.kpost (.regD [⟨some 6, .fadr 3, [.t 3], none⟩,
        ⟨some 7, .load none, [.t 6], none⟩,
        ⟨some 8, .mv, [.t 0], none⟩,
        ⟨some 9, .nilchk, [.t 8], none⟩,
        ⟨some 10, .fadr 4, [.t 9], none⟩,
        ⟨some 11, .load none, [.t 10], none⟩,
        ⟨some 12, .bin .leq 0, [.t 7, .t 11], none⟩,
        ⟨some 5, .mv, [.t 12], none⟩] [0, 1, 2, 3, 4, 5, 6, 7] none []) [0, 3, 5])
    (.cond (.t 5)
     (.seq (.kpost (.reg [⟨some 4, .mv, [.c (.int .i64 112)], none⟩]) [4])
      .ret)
     (.seq (.kpost (.reg [⟨some 14, .mv, [.t 0], none⟩,
          ⟨some 15, .nilchk, [.t 14], none⟩,
          ⟨some 16, .fadr 3, [.t 15], none⟩,
          ⟨some 17, .load none, [.t 16], none⟩,
          ⟨some 18, .len, [.t 17], none⟩,
          ⟨some 19, .bin .eql 0, [.t 18, .c (.int .i64 4)], none⟩,
          ⟨some 20, .mv, [.t 19], none⟩,
          ⟨some 21, .mv, [.t 0], some (20, false)⟩,
          ⟨some 22, .nilchk, [.t 21], some (20, false)⟩,
          ⟨some 23, .fadr 1, [.t 22], some (20, false)⟩,
          ⟨some 24, .load none, [.t 23], some (20, false)⟩,
          ⟨some 25, .bin .eql 0, [.t 24, .c (.int .i64 2147483647)], some (20, false)⟩,
          ⟨some 26, .pick, [.t 20, .c (.bool true), .t 25], none⟩,
          ⟨some 13, .mv, [.t 26], none⟩]) [0, 3, 13])
      (.cond (.t 13)
       (.seq (.kpost (.reg [⟨some 4, .mv, [.c (.int .i64 113)], none⟩]) [4])
        .ret)
       .skip)))))
  (.seq (.kpost (.regD [⟨some 27, .mv, [.t 0], none⟩,
      ⟨some 28, .mv, [.t 0], none⟩,
      ⟨some 29, .nilchk, [.t 28], none⟩,
      ⟨some 30, .fadr 3, [.t 29], none⟩,
      ⟨some 31, .load none, [.t 30], none⟩,
      ⟨some 32, .fadr 3, [.t 3], none⟩,
      ⟨some 33, .load none, [.t 32], none⟩,
      ⟨some 34, .mv, [.t 0], none⟩,
      ⟨some 35, .nilchk, [.t 34], none⟩,
      ⟨some 36, .fadr 1, [.t 35], none⟩,
      ⟨some 37, .load none, [.t 36], none⟩,
      ⟨some 38, .mv, [.t 0], none⟩,
      ⟨some 39, .nilchk, [.t 38], none⟩,
      ⟨some 40, .fadr 2, [.t 39], none⟩,
      ⟨some 41, .load none, [.t 40], none⟩,
      ⟨some 42, .call 72 [1, 2] 1, [.t 41], none⟩,
      ⟨some 43, .build [.int .i64 0, .int .i64 0, .nils 48 5] [(0, 1), (1, 1), (2, 1)], [.t 33, .t 37, .t 42], none⟩,
      ⟨some 44, .bslice 3 95 3 [.int .i64 0, .int .i64 0, .imm 5 []] 1 [0], [.t 43], none⟩,
      ⟨some 45, .app 4 95 3 40, [.t 31, .t 44], none⟩,
      ⟨some 46, .nilchk, [.t 27], none⟩,
      ⟨some 47, .fadr 3, [.t 46], none⟩,
      ⟨none, .store 1, [.t 47, .t 45], none⟩] [0, 1, 2, 3, 4, 5, 6, 7, 8, 9, 10, 11, 12, 13, 14, 15, 16, 17, 18, 19, 20, 21] none [(2, 15), (2, 17), (3, 15), (3, 17), (4, 15), (4, 17), (5, 15), (6, 15), (8, 15), (9, 15), (10, 15)]) [0, 3])
  (.seq (.kpost (.reg [⟨some 48, .mv, [.t 0], none⟩,
      ⟨some 49, .fadr 3, [.t 3], none⟩,
      ⟨some 50, .load none, [.t 49], none⟩,
      ⟨some 51, .nilchk, [.t 48], none⟩,
      ⟨some 52, .fadr 4, [.t 51], none⟩,
      ⟨none, .store 1, [.t 52, .t 50], none⟩]) [0])
  (.seq (.kpost (.reg [⟨some 53, .mv, [.t 0], none⟩,
      ⟨some 54, .nilchk, [.t 53], none⟩,
      ⟨some 55, .fadr 1, [.t 54], none⟩,
      ⟨some 56, .load none, [.t 55], none⟩,
      ⟨some 57, .bin .add 0, [.t 56, .c (.int .i64 1)], none⟩,
      ⟨some 58, .nilchk, [.t 53], none⟩,
      ⟨some 59, .fadr 1, [.t 58], none⟩,
      ⟨none, .store 1, [.t 59, .t 57], none⟩]) [])
  (.seq (.kpost (.reg [⟨some 4, .mv, [.c (.int .i64 0)], none⟩]) [4])
  .ret)))))) }
/-- (*waggoner/state.volume).drop -/
def i116 : IFn := { ns := 23, nt := 25, res := [.t 4], body :=
  (.seq (.kpost (.reg [⟨some 3, .box 0 70, [.t 1], none⟩,
      ⟨some 4, .mv, [.c (.int .i64 0)], none⟩]) [0, 3])
  (.seq (.kpost (.reg [⟨some 6, .mv, [.t 0], none⟩,
      ⟨some 7, .nilchk, [.t 6], none⟩,
      ⟨some 8, .fadr 3, [.t 7], none⟩,
      ⟨some 9, .load none, [.t 8], none⟩,
      ⟨some 10, .mkfn 159 0, [.t 3], none⟩,
      ⟨some 11, .call 158 [1, 2, 3, 4, 5, 6, 7, 8, 9, 10, 11, 12, 13, 14, 15, 16, 17, 18] 0, [.t 9, .t 10], none⟩,
      ⟨some 5, .mv, [.t 11], none⟩]) [0, 5])
  (.seq (.seq (.kpost (.reg [⟨some 12, .mv, [.t 5], none⟩,
       ⟨some 13, .bin .lss 0, [.t 12, .c (.int .i64 0)], none⟩]) [0, 5, 13])
   (.cond (.t 13)
    (.seq (.kpost (.reg [⟨some 4, .mv, [.c (.int .i64 111)], none⟩]) [4])
     .ret)
    .skip))
  (.seq (.kpost (.reg [⟨some 14, .mv, [.t 0], none⟩,
      ⟨some 15, .mv, [.t 0], none⟩,
      ⟨some 16, .nilchk, [.t 15], none⟩,
      ⟨some 17, .fadr 3, [.t 16], none⟩,
      ⟨some 18, .load none, [.t 17], none⟩,
      ⟨some 19, .mv, [.t 5], none⟩,
      ⟨some 20, .mv, [.t 5], none⟩,
      ⟨some 21, .bin .add 0, [.t 20, .c (.int .i64 1)], none⟩,
      ⟨some 22, .call 160 [19, 20, 21, 22] 2, [.t 18, .t 19, .t 21], none⟩,
      ⟨some 23, .nilchk, [.t 14], none⟩,
      ⟨some 24, .fadr 3, [.t 23], none⟩,
      ⟨none, .store 1, [.t 24, .t 22], none⟩]) [])
  (.seq (.kpost (.reg [⟨some 4, .mv, [.c (.int .i64 0)], none⟩]) [4])
  .ret))))) }
/-- (*waggoner/state.volume).stage -/
def i117 : IFn := { ns := 2, nt := 25, res := [.t 4], body :=
  (.seq (.kpost (.reg [⟨some 3, .box 0 70, [.t 1], none⟩,
      ⟨some 4, .mv, [.c (.int .i64 0)], none⟩]) [0, 3])
  (.seq (.seq (.kpost (.regD [⟨some 5, .fadr 4, [.t 3], none⟩,
       ⟨some 6, .load none, [.t 5], none⟩,
       ⟨some 7, .len, [.t 6], none⟩,
       ⟨some 8, .mv, [.t 0], none⟩,
       ⟨some 9, .nilchk, [.t 8], none⟩,
       ⟨some 10, .fadr 5, [.t 9], none⟩,
       ⟨some 11, .load none, [.t 10], none⟩,
       ⟨some 12, .len, [.t 11], none⟩,
       ⟨some 13, .bin .sub 0, [.c (.int .i64 4000), .t 12], none⟩,
       ⟨some 14, .bin .gtr 0, [.t 7, .t 13], none⟩] [0, 1, 2, 3, 4, 5, 6, 7, 8, 9] none []) [0, 3, 14])
   (.cond (.t 14)
    (.seq (.kpost (.reg [⟨some 4, .mv, [.c (.int .i64 113)], none⟩]) [4])
     .ret)
    .skip))
  (.seq (.kpost (.regD [⟨some 15, .mv, [.t 0], none⟩,
      ⟨some 16, .mv, [.t 0], none⟩,
      ⟨some 17, .nilchk, [.t 16], none⟩,
      ⟨some 18, .fadr 5, [.t 17], none⟩,
      ⟨some 19, .load none, [.t 18], none⟩,
      ⟨some 20, .fadr 4, [.t 3], none⟩,
      ⟨some 21, .load none, [.t 20], none⟩,
      ⟨some 22, .app 1 5 1 1, [.t 19, .t 21], none⟩,
      ⟨some 23, .nilchk, [.t 15], none⟩,
      ⟨some 24, .fadr 5, [.t 23], none⟩,
      ⟨none, .store 1, [.t 24, .t 22], none⟩] [0, 1, 2, 3, 4, 5, 6, 7, 8, 9, 10] none []) [])
  (.seq (.kpost (.reg [⟨some 4, .mv, [.c (.int .i64 0)], none⟩]) [4])
  .ret)))) }
/-- (*waggoner/state.volume).abort -/
def i118 : IFn := { ns := 1, nt := 8, res := [.t 4], body :=
  (.seq (.kpost (.reg [⟨some 3, .box 0 70, [.t 1], none⟩,
      ⟨some 4, .mv, [.c (.int .i64 0)], none⟩]) [0])
  (.seq (.kpost (.reg [⟨some 5, .mv, [.t 0], none⟩,
      ⟨some 6, .nilchk, [.t 5], none⟩,
      ⟨some 7, .fadr 5, [.t 6], none⟩,
      ⟨none, .store 1, [.t 7, .c (.nils 5 1)], none⟩]) [])
  (.seq (.kpost (.reg [⟨some 4, .mv, [.c (.int .i64 0)], none⟩]) [4])
  .ret))) }
/-- (*waggoner/state.volume).apply -/
def i119 : IFn := { ns := 25, nt := 23, res := [.t 4], body :=
  (.seq (.kpost (.reg [⟨some 3, .box 0 70, [.t 1], none⟩,
      ⟨some 4, .mv, [.c (.int .i64 0)], none⟩]) [0, 3])
  (.seq (.seq (.kpost (.reg [⟨some 7, .mv, [.t 0], none⟩,
       ⟨some 8, .fadr 5, [.t 3], none⟩,
       ⟨some 9, .load none, [.t 8], none⟩,
       ⟨some 10, .call 157 [1, 2, 3, 4, 5, 6, 7, 8] 0, [.t 7, .t 9], none⟩,
       ⟨some 5, .mv, [.t 10], none⟩]) [0, 3, 5])
   (.seq (.kpost (.reg [⟨some 11, .mv, [.t 5], none⟩,
       ⟨some 12, .bin .neq 0, [.t 11, .c (.int .i64 0)], none⟩]) [0, 3, 5, 12])
   (.cond (.t 12)
    (.seq (.kpost (.reg [⟨some 13, .mv, [.t 5], none⟩,
         ⟨some 4, .mv, [.t 13], none⟩]) [4])
     .ret)
    .skip)))
  (.seq (.seq (.kpost (.reg [⟨some 14, .mv, [.t 0], none⟩,
       ⟨some 15, .load (some 6), [.t 3], none⟩,
       ⟨some 16, .call 115 [9, 10, 11, 12, 13, 14, 15, 16] 0, [.t 14, .t 15], none⟩,
       ⟨some 6, .mv, [.t 16], none⟩]) [0, 3, 6])
   (.seq (.kpost (.reg [⟨some 17, .mv, [.t 6], none⟩,
       ⟨some 18, .bin .neq 0, [.t 17, .c (.int .i64 0)], none⟩]) [0, 3, 6, 18])
   (.cond (.t 18)
    (.seq (.kpost (.reg [⟨some 19, .mv, [.t 6], none⟩,
         ⟨some 4, .mv, [.t 19], none⟩]) [4])
     .ret)
    .skip)))
  (.seq (.kpost (.reg [⟨some 20, .mv, [.t 0], none⟩,
      ⟨some 21, .load (some 6), [.t 3], none⟩,
      ⟨some 22, .call 118 [17, 18, 19, 20, 21, 22, 23, 24] 0, [.t 20, .t 21], none⟩,
      ⟨some 4, .mv, [.t 22], none⟩]) [4])
  .ret)))) }
/-- waggoner/extent.within -/
def i120 : IFn := { ns := 0, nt := 15, res := [.t 6], body :=
  (.seq (.kpost (.reg [⟨some 6, .mv, [.c (.bool false)], none⟩]) [0, 1, 2])
  (.seq (.kpost (.reg [⟨some 7, .mv, [.t 0], none⟩,
      ⟨some 8, .mv, [.t 1], none⟩,
      ⟨some 9, .bin .geq 0, [.t 7, .t 8], none⟩,
      ⟨some 10, .mv, [.t 9], none⟩,
      ⟨some 11, .mv, [.t 0], some (10, true)⟩,
      ⟨some 12, .mv, [.t 2], some (10, true)⟩,
      ⟨some 13, .bin .leq 0, [.t 11, .t 12], some (10, true)⟩,
      ⟨some 14, .pick, [.t 10, .t 13, .c (.bool false)], none⟩,
      ⟨some 6, .mv, [.t 14], none⟩]) [6])
  .ret)) }
/-- waggoner/extent.data -/
def i121 : IFn := { ns := 1, nt := 9, res := [.t 2], body :=
  (.seq (.kpost (.reg [⟨some 1, .box 0 48, [.t 0], none⟩,
      ⟨some 2, .mv, [.c (.int .i64 0)], none⟩]) [1])
  (.seq (.seq (.kpost (.reg [⟨some 3, .fadr 2, [.t 1], none⟩,
       ⟨some 4, .load none, [.t 3], none⟩,
       ⟨some 5, .bin .eql 0, [.t 4, .c (.int .i64 2)], none⟩]) [1, 5])
   (.cond (.t 5)
    (.seq (.kpost (.reg [⟨some 6, .fadr 1, [.t 1], none⟩,
         ⟨some 7, .load none, [.t 6], none⟩,
         ⟨some 8, .bin .mul 0, [.t 7, .c (.int .i64 32)], none⟩,
         ⟨some 2, .mv, [.t 8], none⟩]) [2])
     .ret)
    .skip))
  (.seq (.kpost (.reg [⟨some 2, .mv, [.c (.int .i64 0)], none⟩]) [2])
  .ret))) }
/-- waggoner/image.Check -/
def i122 : IFn := { ns := 18, nt := 11, res := [.t 2], body :=
  (.seq (.kpost (.reg [⟨some 2, .mv, [.c (.bool false)], none⟩]) [0])
  (.seq (.kpost (.reg [⟨some 3, .mv, [.t 0], none⟩,
      ⟨some 4, .len, [.t 3], none⟩,
      ⟨some 5, .call 78 [] 0, [.t 4, .c (.int .i64 1), .c (.int .i64 64)], none⟩,
      ⟨some 6, .mv, [.t 5], none⟩,
      ⟨some 7, .mv, [.t 0], some (6, true)⟩,
      ⟨some 8, .call 161 [0, 1, 2, 3, 4, 5, 6, 7, 8, 9, 10, 11, 12, 13, 14, 15, 16, 17] 0, [.t 7, .c (.fn 162 [] [])], some (6, true)⟩,
      ⟨some 9, .bnot, [.t 8], some (6, true)⟩,
      ⟨some 10, .pick, [.t 6, .t 9, .c (.bool false)], none⟩,
      ⟨some 2, .mv, [.t 10], none⟩]) [2])
  .ret)) }
/-- slices.Clone[[]waggoner/api.Cell,waggoner/api.Cell] -/
def i123 : IFn := { ns := 2, nt := 8, res := [.t 2], body :=
  (.seq (.kpost (.reg [⟨some 2, .mv, [.c (.nils 90 34)], none⟩]) [0])
  (.seq (.seq (.kpost (.reg [⟨some 3, .mv, [.t 0], none⟩,
       ⟨some 4, .bin .eql 7, [.t 3, .c (.nils 90 34)], none⟩]) [0, 4])
   (.cond (.t 4)
    (.seq (.kpost (.reg [⟨some 2, .mv, [.c (.nils 90 34)], none⟩]) [2])
     .ret)
    .skip))
  (.seq (.kpost (.reg [⟨some 5, .bslice 0 90 34 [.int .i64 0, .int .i64 0, .int .u8 0, .int .u8 0, .int .u8 0, .int .u8 0, .int .u8 0, .int .u8 0, .int .u8 0, .int .u8 0, .int .u8 0, .int .u8 0, .int .u8 0, .int .u8 0, .int .u8 0, .int .u8 0, .int .u8 0, .int .u8 0, .int .u8 0, .int .u8 0, .int .u8 0, .int .u8 0, .int .u8 0, .int .u8 0, .int .u8 0, .int .u8 0, .int .u8 0, .int .u8 0, .int .u8 0, .int .u8 0, .int .u8 0, .int .u8 0, .int .u8 0, .int .u8 0] 0 [], [], none⟩,
      ⟨some 6, .mv, [.t 0], none⟩,
      ⟨some 7, .app 1 90 34 48, [.t 5, .t 6], none⟩,
      ⟨some 2, .mv, [.t 7], none⟩]) [2])
  .ret))) }
/-- slices.Clone[[]waggoner/api.Zone,waggoner/api.Zone] -/
def i124 : IFn := { ns := 2, nt := 8, res := [.t 2], body :=
  (.seq (.kpost (.reg [⟨some 2, .mv, [.c (.nils 54 4)], none⟩]) [0])
  (.seq (.seq (.kpost (.reg [⟨some 3, .mv, [.t 0], none⟩,
       ⟨some 4, .bin .eql 7, [.t 3, .c (.nils 54 4)], none⟩]) [0, 4])
   (.cond (.t 4)
    (.seq (.kpost (.reg [⟨some 2, .mv, [.c (.nils 54 4)], none⟩]) [2])
     .ret)
    .skip))
  (.seq (.kpost (.reg [⟨some 5, .bslice 0 54 4 [.int .i64 0, .int .i64 0, .imm 1 [], .int .i64 0] 0 [], [], none⟩,
      ⟨some 6, .mv, [.t 0], none⟩,
      ⟨some 7, .app 1 54 4 48, [.t 5, .t 6], none⟩,
      ⟨some 2, .mv, [.t 7], none⟩]) [2])
  .ret))) }
/-- waggoner/dev.Do$1 -/
def i125 : IFn := { ns := 4, nt := 48, res := [], body :=
  (.seq (.block 0 (.seq (.kpost (.reg [⟨some 5, .mv, [.t 0], none⟩,
        ⟨some 6, .nilchk, [.t 5], none⟩,
        ⟨some 7, .load (some 5), [.t 6], none⟩,
        ⟨some 8, .call 92 [] 0, [.t 7], none⟩,
        ⟨some 9, .bnot, [.t 8], none⟩,
        ⟨some 4, .mv, [.t 9], none⟩]) [0, 1, 2, 4])
    (.cond (.t 4)
     (.seq (.kpost (.reg [⟨none, .store 1, [.t 1, .c (.int .i64 1)], none⟩]) [])
      .ret)
     (.seq (.kpost (.reg [⟨some 11, .mv, [.t 0], none⟩,
          ⟨some 12, .nilchk, [.t 11], none⟩,
          ⟨some 13, .fadr 3, [.t 12], none⟩,
          ⟨some 14, .load none, [.t 13], none⟩,
          ⟨some 15, .mv, [.t 14], none⟩,
          ⟨some 16, .mv, [.t 0], some (15, false)⟩,
          ⟨some 17, .nilchk, [.t 16], some (15, false)⟩,
          ⟨some 18, .fadr 2, [.t 17], some (15, false)⟩,
          ⟨some 19, .load none, [.t 18], some (15, false)⟩,
          ⟨some 20, .bin .eql 0, [.t 19, .c (.int .i64 0)], some (15, false)⟩,
          ⟨some 21, .pick, [.t 15, .c (.bool true), .t 20], none⟩,
          ⟨some 10, .mv, [.t 21], none⟩]) [0, 1, 2, 10])
      (.cond (.t 10)
       (.seq (.kpost (.reg [⟨some 22, .mv, [.t 0], none⟩,
            ⟨some 23, .nilchk, [.t 22], none⟩,
            ⟨some 24, .fadr 3, [.t 23], none⟩,
            ⟨none, .store 1, [.t 24, .c (.bool true)], none⟩,
            ⟨none, .store 1, [.t 1, .c (.int .i64 40)], none⟩]) [])
        .ret)
       (.seq (.kpost (.reg [⟨some 26, .mv, [.t 0], none⟩,
            ⟨some 27, .nilchk, [.t 26], none⟩,
            ⟨some 28, .fadr 2, [.t 27], none⟩,
            ⟨some 29, .load none, [.t 28], none⟩,
            ⟨some 30, .bin .gtr 0, [.t 29, .c (.int .i64 0)], none⟩,
            ⟨some 25, .mv, [.t 30], none⟩]) [0, 1, 2, 25])
        (.cond (.t 25)
         (.kpost (.reg [⟨some 31, .mv, [.t 0], none⟩,
             ⟨some 32, .nilchk, [.t 31], none⟩,
             ⟨some 33, .fadr 2, [.t 32], none⟩,
             ⟨some 34, .load none, [.t 33], none⟩,
             ⟨some 35, .bin .sub 0, [.t 34, .c (.int .i64 1)], none⟩,
             ⟨some 36, .nilchk, [.t 31], none⟩,
             ⟨some 37, .fadr 2, [.t 36], none⟩,
             ⟨none, .store 1, [.t 37, .t 35], none⟩]) [0, 1, 2])
         .skip)))))))
  (.seq (.kpost (.reg [⟨some 38, .mv, [.t 0], none⟩,
      ⟨some 39, .nilchk, [.t 38], none⟩,
      ⟨some 40, .fadr 4, [.t 39], none⟩,
      ⟨some 41, .load none, [.t 40], none⟩,
      ⟨some 42, .bin .add 0, [.t 41, .c (.int .i64 1)], none⟩,
      ⟨some 43, .nilchk, [.t 38], none⟩,
      ⟨some 44, .fadr 4, [.t 43], none⟩,
      ⟨none, .store 1, [.t 44, .t 42], none⟩]) [0, 1, 2])
  (.kpost (.reg [⟨some 45, .mv, [.t 0], none⟩,
     ⟨some 46, .load (some 3), [.t 2], none⟩,
     ⟨some 47, .call 126 [0, 1, 2, 3] 0, [.t 45, .t 46], none⟩,
     ⟨none, .store 1, [.t 1, .t 47], none⟩]) []))) }
/-- waggoner/dev.done -/
def i126 : IFn := { ns := 25, nt := 85, res := [.t 4], body :=
  (.seq (.kpost (.reg [⟨some 3, .box 0 150, [.t 1], none⟩,
      ⟨some 4, .mv, [.c (.int .i64 0)], none⟩]) [0, 3])
  (.seq (.kpost (.regD [⟨some 12, .call 163 [1, 2] 1, [], none⟩,
      ⟨some 13, .fadr 0, [.t 3], none⟩,
      ⟨some 14, .load none, [.t 13], none⟩,
      ⟨some 15, .look .nilf true, [.t 12, .t 14], none⟩,
      ⟨some 11, .mv, [.t 15], none⟩,
      ⟨some 16, .extr 0, [.t 11], none⟩,
      ⟨some 17, .extr 1, [.t 11], none⟩,
      ⟨some 5, .mv, [.t 16], none⟩,
      ⟨some 6, .mv, [.t 17], none⟩] [0, 1, 2, 3, 4, 5, 6, 7, 8] none [(0, 1), (0, 2)]) [0, 3, 5, 6])
  (.seq (.block 0 (.seq (.kpost (.reg [⟨some 19, .fadr 0, [.t 3], none⟩,
        ⟨some 20, .load none, [.t 19], none⟩,
        ⟨some 21, .bin .eql 0, [.t 20, .c (.int .i64 5)], none⟩,
        ⟨some 18, .mv, [.t 21], none⟩]) [0, 3, 5, 6, 18])
    (.cond (.t 18)
     (.seq (.seq (.kpost (.reg [⟨some 22, .mv, [.t 0], none⟩,
           ⟨some 23, .nilchk, [.t 22], none⟩,
           ⟨some 24, .fadr 1, [.t 23], none⟩,
           ⟨some 25, .load none, [.t 24], none⟩,
           ⟨some 26, .len, [.t 25], none⟩,
           ⟨some 27, .mv, [.c (.int .i64 0)], none⟩]) [0, 25, 26, 27])
       (.block 1 (.kpre [0, 25, 26, 27] (.loop (.kpost (.seq (.kpost (.reg [⟨some 28, .bin .lss 0, [.t 27, .t 26], none⟩]) [0, 25, 26, 27, 28])
           (.seq (.cond (.t 28)
             .skip
             (.exit 1))
           (.seq (.block 2 (.seq (.kpost (.reg [⟨some 29, .mv, [.t 27], none⟩,
                 ⟨some 30, .iadr 4, [.t 25, .t 27], none⟩,
                 ⟨some 31, .load (some 4), [.t 30], none⟩,
                 ⟨some 8, .alloc 3 54 [.int .i64 0, .int .i64 0, .nils 5 1, .int .i64 0], [], none⟩,
                 ⟨some 7, .mv, [.t 29], none⟩,
                 ⟨none, .store 4, [.t 8, .t 31], none⟩]) [0, 7, 8, 25, 26, 27])
             (.kpost (.regD [⟨some 32, .mv, [.t 0], none⟩,
                ⟨some 33, .nilchk, [.t 32], none⟩,
                ⟨some 34, .fadr 1, [.t 33], none⟩,
                ⟨some 35, .load none, [.t 34], none⟩,
                ⟨some 36, .mv, [.t 7], none⟩,
                ⟨some 37, .load (some 4), [.t 8], none⟩,
                ⟨some 38, .call 164 [4, 5] 1, [.t 37], none⟩,
                ⟨some 39, .iadr 4, [.t 35, .t 36], none⟩,
                ⟨none, .store 4, [.t 39, .t 38], none⟩] [0, 1, 2, 3, 4, 5, 6, 7, 8] none [(1, 6), (2, 6), (3, 6)]) [0, 25, 26, 27])))
           (.kpost (.reg [⟨some 40, .bin .add 0, [.t 27, .c (.int .i64 1)], none⟩,
              ⟨some 27, .mv, [.t 40], none⟩]) [0, 25, 26, 27])))) [0, 25, 26, 27])))))
      (.seq (.kpost (.reg [⟨some 4, .mv, [.c (.int .i64 0)], none⟩]) [4])
      .ret))
     (.seq (.kpost (.regD [⟨some 42, .mv, [.t 6], none⟩,
          ⟨some 43, .bnot, [.t 42], none⟩,
          ⟨some 44, .mv, [.t 43], none⟩,
          ⟨some 45, .fadr 1, [.t 3], some (44, false)⟩,
          ⟨some 46, .load none, [.t 45], some (44, false)⟩,
          ⟨some 47, .bin .lss 0, [.t 46, .c (.int .i64 0)], some (44, false)⟩,
          ⟨some 48, .pick, [.t 44, .c (.bool true), .t 47], none⟩,
          ⟨some 49, .mv, [.t 48], none⟩,
          ⟨some 50, .fadr 1, [.t 3], some (49, false)⟩,
          ⟨some 51, .load none, [.t 50], some (49, false)⟩,
          ⟨some 52, .mv, [.t 0], some (49, false)⟩,
          ⟨some 53, .nilchk, [.t 52], some (49, false)⟩,
          ⟨some 54, .fadr 1, [.t 53], some (49, false)⟩,
          ⟨some 55, .load none, [.t 54], some (49, false)⟩,
          ⟨some 56, .len, [.t 55], some (49, false)⟩,
          ⟨some 57, .bin .geq 0, [.t 51, .t 56], some (49, false)⟩,
          ⟨some 58, .pick, [.t 49, .c (.bool true), .t 57], none⟩,
          ⟨some 41, .mv, [.t 58], none⟩] [0, 1, 2, 3, 4, 5, 6, 7, 8, 9, 10, 11, 12, 13, 14, 15, 16, 17] none []) [0, 3, 5, 41])
      (.cond (.t 41)
       (.seq (.kpost (.reg [⟨some 4, .mv, [.c (.int .i64 1)], none⟩]) [4])
        .ret)
       .skip)))))
  (.seq (.kpost (.regD [⟨some 60, .mv, [.t 5], none⟩,
      ⟨some 61, .load (some 3), [.t 3], none⟩,
      ⟨some 62, .mv, [.t 0], none⟩,
      ⟨some 63, .mv, [.t 0], none⟩,
      ⟨some 64, .nilchk, [.t 63], none⟩,
      ⟨some 65, .fadr 1, [.t 64], none⟩,
      ⟨some 66, .load none, [.t 65], none⟩,
      ⟨some 67, .fadr 1, [.t 3], none⟩,
      ⟨some 68, .load none, [.t 67], none⟩,
      ⟨some 69, .iadr 4, [.t 66, .t 68], none⟩,
      ⟨some 70, .load (some 4), [.t 69], none⟩,
      ⟨some 71, .callv [6, 7, 8, 9, 10, 11, 12, 13, 14, 15, 16, 17, 18, 19, 20, 21, 22, 23] 1, [.t 60, .t 61, .t 62, .t 70], none⟩,
      ⟨some 59, .mv, [.t 71], none⟩,
      ⟨some 72, .extr 0, [.t 59], none⟩,
      ⟨some 73, .extr 1, [.t 59], none⟩,
      ⟨some 9, .alloc 24 54 [.int .i64 0, .int .i64 0, .nils 5 1, .int .i64 0], [], none⟩,
      ⟨none, .store 4, [.t 9, .t 72], none⟩,
      ⟨some 10, .mv, [.t 73], none⟩] [0, 1, 2, 3, 4, 5, 6, 7, 8, 9, 10, 11, 12, 13, 14, 15, 16, 17] (some (true, 11, 15)) [(1, 15), (4, 15), (5, 15), (6, 15), (7, 15), (8, 15), (9, 15), (10, 15)]) [0, 3, 9, 10])
  (.seq (.seq (.kpost (.reg [⟨some 74, .mv, [.t 10], none⟩,
       ⟨some 75, .bin .eql 0, [.t 74, .c (.int .i64 0)], none⟩]) [0, 3, 9, 10, 75])
   (.cond (.t 75)
    (.kpost (.regD [⟨some 76, .mv, [.t 0], none⟩,
        ⟨some 77, .nilchk, [.t 76], none⟩,
        ⟨some 78, .fadr 1, [.t 77], none⟩,
        ⟨some 79, .load none, [.t 78], none⟩,
        ⟨some 80, .fadr 1, [.t 3], none⟩,
        ⟨some 81, .load none, [.t 80], none⟩,
        ⟨some 82, .load (some 4), [.t 9], none⟩,
        ⟨some 83, .iadr 4, [.t 79, .t 81], none⟩,
        ⟨none, .store 4, [.t 83, .t 82], none⟩] [0, 1, 2, 3, 4, 5, 6, 7, 8] none []) [10])
    .skip))
  (.seq (.kpost (.reg [⟨some 84, .mv, [.t 10], none⟩,
      ⟨some 4, .mv, [.t 84], none⟩]) [4])
  .ret)))))) }
/-- slices.ContainsFunc[[]waggoner/api.Zone,waggoner/api.Zone] -/
def i127 : IFn := { ns := 18, nt := 9, res := [.t 4], body :=
  (.seq (.kpost (.reg [⟨some 4, .mv, [.c (.bool false)], none⟩]) [0, 1])
  (.seq (.kpost (.reg [⟨some 5, .mv, [.t 0], none⟩,
      ⟨some 6, .mv, [.t 1], none⟩,
      ⟨some 7, .call 165 [0, 1, 2, 3, 4, 5, 6, 7, 8, 9, 10, 11, 12, 13, 14, 15, 16, 17] 0, [.t 5, .t 6], none⟩,
      ⟨some 8, .bin .geq 0, [.t 7, .c (.int .i64 0)], none⟩,
      ⟨some 4, .mv, [.t 8], none⟩]) [4])
  .ret)) }
/-- waggoner/dev.Check$1 -/
def i128 : IFn := { ns := 1, nt := 9, res := [.t 3], body :=
  (.seq (.kpost (.reg [⟨some 2, .box 0 54, [.t 0], none⟩,
      ⟨some 3, .mv, [.c (.bool false)], none⟩]) [1, 2])
  (.seq (.kpost (.reg [⟨some 4, .load (some 4), [.t 2], none⟩,
      ⟨some 5, .fadr 0, [.t 1], none⟩,
      ⟨some 6, .load none, [.t 5], none⟩,
      ⟨some 7, .call 129 [] 0, [.t 4, .t 6], none⟩,
      ⟨some 8, .bnot, [.t 7], none⟩,
      ⟨some 3, .mv, [.t 8], none⟩]) [3])
  .ret)) }
/-- waggoner/zone.Check -/
def i129 : IFn := { ns := 1, nt := 60, res := [.t 4], body :=
  (.seq (.kpost (.reg [⟨some 2, .box 0 54, [.t 0], none⟩,
      ⟨some 4, .mv, [.c (.bool false)], none⟩]) [1, 2])
  (.seq (.kpost (.reg [⟨some 6, .fadr 2, [.t 2], none⟩,
      ⟨some 7, .load none, [.t 6], none⟩,
      ⟨some 8, .len, [.t 7], none⟩,
      ⟨some 5, .mv, [.t 8], none⟩]) [1, 2, 5])
  (.seq (.seq (.kpost (.reg [⟨some 9, .mv, [.t 1], none⟩,
       ⟨some 10, .bin .lss 0, [.t 9, .c (.int .i64 1)], none⟩,
       ⟨some 11, .mv, [.t 10], none⟩,
       ⟨some 12, .mv, [.t 1], some (11, false)⟩,
       ⟨some 13, .bin .gtr 0, [.t 12, .c (.int .i64 1048576)], some (11, false)⟩,
       ⟨some 14, .pick, [.t 11, .c (.bool true), .t 13], none⟩,
       ⟨some 15, .mv, [.t 14], none⟩,
       ⟨some 16, .mv, [.t 5], some (15, false)⟩,
       ⟨some 17, .mv, [.t 1], some (15, false)⟩,
       ⟨some 18, .bin .gtr 0, [.t 16, .t 17], some (15, false)⟩,
       ⟨some 19, .pick, [.t 15, .c (.bool true), .t 18], none⟩,
       ⟨some 20, .mv, [.t 19], none⟩,
       ⟨some 21, .fadr 3, [.t 2], some (20, false)⟩,
       ⟨some 22, .load none, [.t 21], some (20, false)⟩,
       ⟨some 23, .bin .lss 0, [.t 22, .c (.int .i64 0)], some (20, false)⟩,
       ⟨some 24, .pick, [.t 20, .c (.bool true), .t 23], none⟩,
       ⟨some 25, .mv, [.t 24], none⟩,
       ⟨some 26, .fadr 3, [.t 2], some (25, false)⟩,
       ⟨some 27, .load none, [.t 26], some (25, false)⟩,
       ⟨some 28, .mv, [.t 5], some (25, false)⟩,
       ⟨some 29, .bin .gtr 0, [.t 27, .t 28], some (25, false)⟩,
       ⟨some 30, .pick, [.t 25, .c (.bool true), .t 29], none⟩,
       ⟨some 31, .mv, [.t 30], none⟩,
       ⟨some 32, .fadr 1, [.t 2], some (31, false)⟩,
       ⟨some 33, .load none, [.t 32], some (31, false)⟩,
       ⟨some 34, .bin .lss 0, [.t 33, .c (.int .i64 0)], some (31, false)⟩,
       ⟨some 35, .pick, [.t 31, .c (.bool true), .t 34], none⟩,
       ⟨some 36, .mv, [.t 35], none⟩,
       ⟨some 37, .fadr 1, [.t 2], some (36, false)⟩,
       ⟨some 38, .load none, [.t 37], some (36, false)⟩,
       ⟨some 39, .bin .gtr 0, [.t 38, .c (.int .i64 1073741824)], some (36, false)⟩,
       ⟨some 40, .pick, [.t 36, .c (.bool true), .t 39], none⟩]) [1, 2, 5, 40])
   (.cond (.t 40)
    (.seq (.kpost (.reg [⟨some 4, .mv, [.c (.bool false)], none⟩]) [4])
     .ret)
    .skip))
  (.seq (.block 0 (.seq (.kpost (.reg [⟨some 42, .fadr 0, [.t 2], none⟩,
        ⟨some 43, .load none, [.t 42], none⟩,
        ⟨some 44, .bin .eql 0, [.t 43, .c (.int .i64 0)], none⟩,
        ⟨some 41, .mv, [.t 44], none⟩]) [1, 2, 5, 41])
    (.cond (.t 41)
     (.seq (.kpost (.reg [⟨some 45, .mv, [.t 5], none⟩,
          ⟨some 46, .bin .eql 0, [.t 45, .c (.int .i64 0)], none⟩,
          ⟨some 4, .mv, [.t 46], none⟩]) [4])
      .ret)
     (.seq (.kpost (.reg [⟨some 48, .load (some 4), [.t 2], none⟩,
          ⟨some 49, .call 166 [] 0, [.t 48], none⟩,
          ⟨some 47, .mv, [.t 49], none⟩]) [1, 2, 5, 47])
      (.cond (.t 47)
       (.seq (.kpost (.reg [⟨some 50, .mv, [.t 5], none⟩,
            ⟨some 51, .bin .gtr 0, [.t 50, .c (.int .i64 0)], none⟩,
            ⟨some 52, .mv, [.t 51], none⟩,
            ⟨some 53, .mv, [.t 5], some (52, true)⟩,
            ⟨some 54, .mv, [.t 1], some (52, true)⟩,
            ⟨some 55, .bin .lss 0, [.t 53, .t 54], some (52, true)⟩,
            ⟨some 56, .pick, [.t 52, .t 55, .c (.bool false)], none⟩,
            ⟨some 4, .mv, [.t 56], none⟩]) [4])
        .ret)
       .skip)))))
  (.seq (.kpost (.reg [⟨some 57, .fadr 0, [.t 2], none⟩,
      ⟨some 58, .load none, [.t 57], none⟩,
      ⟨some 59, .bin .eql 0, [.t 58, .c (.int .i64 3)], none⟩,
      ⟨some 4, .mv, [.t 59], none⟩]) [4])
  .ret))))) }
/-- waggoner/zone.done -/
def i130 : IFn := { ns := 20, nt := 19, res := [.cell 6 (some 4), .t 7], body :=
  (.seq (.kpost (.reg [⟨some 3, .box 0 54, [.t 0], none⟩,
      ⟨some 6, .alloc 1 54 [.int .i64 0, .int .i64 0, .nils 5 1, .int .i64 0], [], none⟩,
      ⟨some 7, .mv, [.c (.int .i64 0)], none⟩]) [1, 2, 3, 6])
  (.seq (.kpost (.reg [⟨some 8, .bslice 2 5 1 [.int .u8 0] 0 [], [], none⟩,
      ⟨some 9, .fadr 2, [.t 3], none⟩,
      ⟨some 10, .load none, [.t 9], none⟩,
      ⟨some 11, .app 3 5 1 1, [.t 8, .t 10], none⟩,
      ⟨some 12, .fadr 2, [.t 3], none⟩,
      ⟨none, .store 1, [.t 12, .t 11], none⟩]) [1, 2, 3, 6])
  (.seq (.seq (.kpost (.reg [⟨some 13, .mv, [.t 1], none⟩,
       ⟨some 14, .bnot, [.t 13], none⟩]) [2, 3, 6, 14])
   (.cond (.t 14)
    (.seq (.kpost (.reg [⟨some 15, .load (some 4), [.t 3], none⟩,
         ⟨none, .store 4, [.t 6, .t 15], none⟩,
         ⟨some 7, .mv, [.c (.int .i64 30)], none⟩]) [6, 7])
     .ret)
    .skip))
  (.seq (.kpost (.reg [⟨some 16, .mv, [.t 2], none⟩,
      ⟨some 17, .callv [4, 5, 6, 7, 8, 9, 10, 11, 12, 13, 14, 15, 16, 17, 18, 19] 0, [.t 16, .t 3], none⟩]) [3, 6])
  (.seq (.kpost (.reg [⟨some 18, .load (some 4), [.t 3], none⟩,
      ⟨none, .store 4, [.t 6, .t 18], none⟩,
      ⟨some 7, .mv, [.c (.int .i64 0)], none⟩]) [6, 7])
  .ret))))) }
/-- waggoner/zone.Crash$1 -/
def i131 : IFn := { ns := 0, nt := 46, res := [], body :=
  (.seq (.kpost (.reg [⟨some 4, .mv, [.c (.int .i64 2)], none⟩]) [0, 1, 2, 4])
  (.seq (.seq (.kpost (.reg [⟨some 5, .mv, [.t 0], none⟩,
       ⟨some 6, .nilchk, [.t 5], none⟩,
       ⟨some 7, .fadr 0, [.t 6], none⟩,
       ⟨some 8, .load none, [.t 7], none⟩,
       ⟨some 9, .bin .eql 0, [.t 8, .c (.int .i64 3)], none⟩]) [0, 1, 2, 4, 9])
   (.cond (.t 9)
    (.kpost (.reg [⟨some 4, .mv, [.c (.int .i64 3)], none⟩]) [0, 1, 2, 4])
    .skip))
  (.seq (.kpost (.regD [⟨some 10, .mv, [.t 0], none⟩,
      ⟨some 11, .load none, [.t 1], none⟩,
      ⟨some 12, .mv, [.t 0], none⟩,
      ⟨some 13, .nilchk, [.t 12], none⟩,
      ⟨some 14, .fadr 3, [.t 13], none⟩,
      ⟨some 15, .load none, [.t 14], none⟩,
      ⟨some 16, .max2, [.t 11, .t 15], none⟩,
      ⟨some 17, .mv, [.t 0], none⟩,
      ⟨some 18, .nilchk, [.t 17], none⟩,
      ⟨some 19, .fadr 2, [.t 18], none⟩,
      ⟨some 20, .load none, [.t 19], none⟩,
      ⟨some 21, .len, [.t 20], none⟩,
      ⟨some 22, .min2, [.t 16, .t 21], none⟩,
      ⟨some 23, .nilchk, [.t 10], none⟩,
      ⟨some 24, .fadr 3, [.t 23], none⟩,
      ⟨none, .store 1, [.t 24, .t 22], none⟩] [0, 1, 2, 3, 4, 5, 6, 7, 8, 9, 10, 11, 12, 13, 14, 15] none []) [0, 2, 4])
  (.seq (.kpost (.regD [⟨some 25, .mv, [.t 0], none⟩,
      ⟨some 26, .mv, [.t 0], none⟩,
      ⟨some 27, .nilchk, [.t 26], none⟩,
      ⟨some 28, .fadr 2, [.t 27], none⟩,
      ⟨some 29, .load none, [.t 28], none⟩,
      ⟨some 30, .mv, [.t 0], none⟩,
      ⟨some 31, .nilchk, [.t 30], none⟩,
      ⟨some 32, .fadr 3, [.t 31], none⟩,
      ⟨some 33, .load none, [.t 32], none⟩,
      ⟨some 34, .slc 5 1 false true false, [.t 29, .t 33], none⟩,
      ⟨some 35, .nilchk, [.t 25], none⟩,
      ⟨some 36, .fadr 2, [.t 35], none⟩,
      ⟨none, .store 1, [.t 36, .t 34], none⟩] [0, 1, 2, 3, 4, 5, 6, 7, 8, 9, 10, 11, 12] none []) [0, 2, 4])
  (.kpost (.regD [⟨some 37, .mv, [.t 0], none⟩,
     ⟨some 38, .mv, [.t 0], none⟩,
     ⟨some 39, .nilchk, [.t 38], none⟩,
     ⟨some 40, .load (some 4), [.t 39], none⟩,
     ⟨some 41, .load none, [.t 2], none⟩,
     ⟨some 42, .mv, [.t 4], none⟩,
     ⟨some 43, .call 132 [] 0, [.t 40, .t 41, .t 42], none⟩,
     ⟨some 44, .nilchk, [.t 37], none⟩,
     ⟨some 45, .fadr 0, [.t 44], none⟩,
     ⟨none, .store 1, [.t 45, .t 43], none⟩] [0, 1, 2, 3, 4, 5, 6, 7, 8, 9] none []) []))))) }
/-- waggoner/zone.filled -/
def i132 : IFn := { ns := 1, nt := 16, res := [.t 6], body :=
  (.seq (.kpost (.reg [⟨some 3, .box 0 54, [.t 0], none⟩,
      ⟨some 6, .mv, [.c (.int .i64 0)], none⟩]) [1, 2, 3])
  (.seq (.seq (.kpost (.reg [⟨some 7, .fadr 2, [.t 3], none⟩,
       ⟨some 8, .load none, [.t 7], none⟩,
       ⟨some 9, .len, [.t 8], none⟩]) [1, 2, 9])
   (.block 0 (.seq (.kpost (.reg [⟨some 11, .bin .eql 0, [.t 9, .c (.int .i64 0)], none⟩,
        ⟨some 10, .mv, [.t 11], none⟩]) [1, 2, 9, 10])
    (.cond (.t 10)
     (.seq (.kpost (.reg [⟨some 6, .mv, [.c (.int .i64 0)], none⟩]) [6])
      .ret)
     (.seq (.kpost (.reg [⟨some 13, .mv, [.t 1], none⟩,
          ⟨some 14, .bin .eql 0, [.t 9, .t 13], none⟩,
          ⟨some 12, .mv, [.t 14], none⟩]) [2, 12])
      (.cond (.t 12)
       (.seq (.kpost (.reg [⟨some 6, .mv, [.c (.int .i64 3)], none⟩]) [6])
        .ret)
       .skip))))))
  (.seq (.kpost (.reg [⟨some 15, .mv, [.t 2], none⟩,
      ⟨some 6, .mv, [.t 15], none⟩]) [6])
  .ret))) }
/-- waggoner/record.Scan$1 -/
def i133 : IFn := { ns := 3, nt := 18, res := [.cell 2 (some 3), .t 3, .t 4], body :=
  (.seq (.kpost (.reg [⟨some 2, .alloc 0 116 [.int .i64 0, .int .i64 0, .nils 5 1], [], none⟩,
      ⟨some 3, .mv, [.c (.int .i64 0)], none⟩,
      ⟨some 4, .mv, [.c (.bool false)], none⟩]) [0, 1, 2])
  (.seq (.kpost (.reg [⟨some 7, .load none, [.t 0], none⟩,
      ⟨some 8, .load none, [.t 1], none⟩,
      ⟨some 9, .slc 5 1 true false false, [.t 7, .t 8], none⟩,
      ⟨some 10, .call 134 [1, 2] 1, [.t 9], none⟩,
      ⟨some 6, .mv, [.t 10], none⟩,
      ⟨some 11, .extr 0, [.t 6], none⟩,
      ⟨some 12, .extr 1, [.t 6], none⟩,
      ⟨some 13, .extr 2, [.t 6], none⟩,
      ⟨none, .store 3, [.t 2, .t 11], none⟩,
      ⟨some 3, .mv, [.t 12], none⟩,
      ⟨some 5, .mv, [.t 13], none⟩]) [2, 3, 5])
  (.seq (.kpost (.reg [⟨some 14, .load (some 3), [.t 2], none⟩,
      ⟨some 15, .mv, [.t 3], none⟩,
      ⟨some 16, .mv, [.t 5], none⟩,
      ⟨some 17, .bin .eql 0, [.t 16, .c (.int .i64 0)], none⟩,
      ⟨none, .store 3, [.t 2, .t 14], none⟩,
      ⟨some 3, .mv, [.t 15], none⟩,
      ⟨some 4, .mv, [.t 17], none⟩]) [2, 3, 4])
  .ret))) }
/-- waggoner/record.Read -/
def i134 : IFn := { ns := 7, nt := 74, res := [.cell 2 (some 3), .t 3, .t 4], body :=
  (.seq (.kpost (.reg [⟨some 2, .alloc 0 116 [.int .i64 0, .int .i64 0, .nils 5 1], [], none⟩,
      ⟨some 3, .mv, [.c (.int .i64 0)], none⟩,
      ⟨some 4, .mv, [.c (.int .i64 0)], none⟩]) [0, 2])
  (.seq (.seq (.kpost (.reg [⟨some 7, .mv, [.t 0], none⟩,
       ⟨some 8, .len, [.t 7], none⟩,
       ⟨some 9, .bin .lss 0, [.t 8, .c (.int .i64 16)], none⟩]) [0, 2, 9])
   (.cond (.t 9)
    (.seq (.kpost (.reg [⟨some 10, .load (some 3), [.t 2], none⟩,
         ⟨none, .store 3, [.t 2, .t 10], none⟩,
         ⟨some 3, .mv, [.c (.int .i64 0)], none⟩,
         ⟨some 4, .mv, [.c (.int .i64 50)], none⟩]) [2, 3, 4])
     .ret)
    .skip))
  (.seq (.kpost (.reg [⟨some 12, .mv, [.t 0], none⟩,
      ⟨some 13, .slc 5 1 false true false, [.t 12, .c (.int .i64 16)], none⟩,
      ⟨some 14, .call 142 [1, 2] 1, [.c (.str [119, 104, 104, 113]), .t 13], none⟩,
      ⟨some 11, .mv, [.t 14], none⟩,
      ⟨some 15, .extr 0, [.t 11], none⟩,
      ⟨some 16, .extr 1, [.t 11], none⟩,
      ⟨some 5, .mv, [.t 15], none⟩,
      ⟨some 4, .mv, [.t 16], none⟩]) [0, 2, 4, 5])
  (.seq (.seq (.kpost (.reg [⟨some 17, .mv, [.t 4], none⟩,
       ⟨some 18, .bin .neq 0, [.t 17, .c (.int .i64 0)], none⟩,
       ⟨some 19, .mv, [.t 18], none⟩,
       ⟨some 20, .mv, [.t 5], some (19, false)⟩,
       ⟨some 21, .iadr 1, [.t 20, .c (.int .i64 0)], some (19, false)⟩,
       ⟨some 22, .load none, [.t 21], some (19, false)⟩,
       ⟨some 23, .bin .neq 0, [.t 22, .c (.int .u64 1196184151)], some (19, false)⟩,
       ⟨some 24, .pick, [.t 19, .c (.bool true), .t 23], none⟩,
       ⟨some 25, .mv, [.t 24], none⟩,
       ⟨some 26, .mv, [.t 5], some (25, false)⟩,
       ⟨some 27, .iadr 1, [.t 26, .c (.int .i64 3)], some (25, false)⟩,
       ⟨some 28, .load none, [.t 27], some (25, false)⟩,
       ⟨some 29, .bin .gtr 0, [.t 28, .c (.int .u64 4611686018427387903)], some (25, false)⟩,
       ⟨some 30, .pick, [.t 25, .c (.bool true), .t 29], none⟩]) [0, 2, 5, 30])
   (.cond (.t 30)
    (.seq (.kpost (.reg [⟨some 31, .load (some 3), [.t 2], none⟩,
         ⟨none, .store 3, [.t 2, .t 31], none⟩,
         ⟨some 3, .mv, [.c (.int .i64 0)], none⟩,
         ⟨some 4, .mv, [.c (.int .i64 50)], none⟩]) [2, 3, 4])
     .ret)
    .skip))
  (.seq (.kpost (.reg [⟨some 32, .mv, [.t 5], none⟩,
      ⟨some 33, .iadr 1, [.t 32, .c (.int .i64 2)], none⟩,
      ⟨some 34, .load none, [.t 33], none⟩,
      ⟨some 35, .conv .i64, [.t 34], none⟩,
      ⟨some 36, .call 88 [] 0, [.t 35], none⟩,
      ⟨some 3, .mv, [.t 36], none⟩]) [0, 2, 3, 5])
  (.seq (.seq (.kpost (.reg [⟨some 37, .mv, [.t 3], none⟩,
       ⟨some 38, .bin .eql 0, [.t 37, .c (.int .i64 0)], none⟩,
       ⟨some 39, .mv, [.t 38], none⟩,
       ⟨some 40, .mv, [.t 0], some (39, false)⟩,
       ⟨some 41, .len, [.t 40], some (39, false)⟩,
       ⟨some 42, .mv, [.t 3], some (39, false)⟩,
       ⟨some 43, .bin .lss 0, [.t 41, .t 42], some (39, false)⟩,
       ⟨some 44, .pick, [.t 39, .c (.bool true), .t 43], none⟩]) [0, 2, 3, 5, 44])
   (.cond (.t 44)
    (.seq (.kpost (.reg [⟨some 45, .load (some 3), [.t 2], none⟩,
         ⟨none, .store 3, [.t 2, .t 45], none⟩,
         ⟨some 3, .mv, [.c (.int .i64 0)], none⟩,
         ⟨some 4, .mv, [.c (.int .i64 50)], none⟩]) [2, 3, 4])
     .ret)
    .skip))
  (.seq (.kpost (.reg [⟨some 47, .mv, [.t 0], none⟩,
      ⟨some 48, .mv, [.t 3], none⟩,
      ⟨some 49, .slc 5 1 false true false, [.t 47, .t 48], none⟩,
      ⟨some 50, .call 139 [3, 4] 1, [.t 49], none⟩,
      ⟨some 46, .mv, [.t 50], none⟩,
      ⟨some 51, .extr 0, [.t 46], none⟩,
      ⟨some 52, .extr 1, [.t 46], none⟩,
      ⟨some 6, .mv, [.t 51], none⟩,
      ⟨some 4, .mv, [.t 52], none⟩]) [2, 3, 4, 5, 6])
  (.seq (.seq (.kpost (.reg [⟨some 53, .mv, [.t 4], none⟩,
       ⟨some 54, .bin .neq 0, [.t 53, .c (.int .i64 0)], none⟩]) [2, 3, 5, 6, 54])
   (.cond (.t 54)
    (.seq (.kpost (.reg [⟨some 55, .load (some 3), [.t 2], none⟩,
         ⟨none, .store 3, [.t 2, .t 55], none⟩,
         ⟨some 3, .mv, [.c (.int .i64 0)], none⟩,
         ⟨some 4, .mv, [.c (.int .i64 50)], none⟩]) [2, 3, 4])
     .ret)
    .skip))
  (.seq (.kpost (.regD [⟨some 56, .mv, [.t 5], none⟩,
      ⟨some 57, .iadr 1, [.t 56, .c (.int .i64 1)], none⟩,
      ⟨some 58, .load none, [.t 57], none⟩,
      ⟨some 59, .conv .i64, [.t 58], none⟩,
      ⟨some 60, .mv, [.t 5], none⟩,
      ⟨some 61, .iadr 1, [.t 60, .c (.int .i64 3)], none⟩,
      ⟨some 62, .load none, [.t 61], none⟩,
      ⟨some 63, .conv .i64, [.t 62], none⟩,
      ⟨some 64, .mv, [.t 6], none⟩,
      ⟨some 65, .slc 5 1 true false false, [.t 64, .c (.int .i64 16)], none⟩,
      ⟨some 66, .call 74 [5, 6] 1, [.t 65], none⟩,
      ⟨some 67, .build [.int .i64 0, .int .i64 0, .nils 5 1] [(0, 1), (1, 1), (2, 1)], [.t 59, .t 63, .t 66], none⟩,
      ⟨none, .store 3, [.t 2, .t 67], none⟩] [0, 1, 2, 3, 4, 5, 6, 7, 8, 9, 10, 11, 12] none [(1, 10), (2, 10), (5, 10), (6, 10)]) [2, 3])
  (.seq (.seq (.kpost (.reg [⟨some 68, .load (some 3), [.t 2], none⟩,
       ⟨some 69, .call 167 [] 0, [.t 68], none⟩,
       ⟨some 70, .bin .neq 0, [.t 69, .c (.int .i64 0)], none⟩]) [2, 3, 70])
   (.cond (.t 70)
    (.seq (.kpost (.reg [⟨some 71, .build [.int .i64 0, .int .i64 0, .nils 5 1] [], [], none⟩,
         ⟨none, .store 3, [.t 2, .t 71], none⟩,
         ⟨some 3, .mv, [.c (.int .i64 0)], none⟩,
         ⟨some 4, .mv, [.c (.int .i64 50)], none⟩]) [2, 3, 4])
     .ret)
    .skip))
  (.seq (.kpost (.reg [⟨some 72, .load (some 3), [.t 2], none⟩,
      ⟨some 73, .mv, [.t 3], none⟩,
      ⟨none, .store 3, [.t 2, .t 72], none⟩,
      ⟨some 3, .mv, [.t 73], none⟩,
      ⟨some 4, .mv, [.c (.int .i64 0)], none⟩]) [2, 3, 4])
  .ret))))))))))) }
/-- slices.stableCmpFunc[waggoner/api.Found] -/
def i135 : IFn := { ns := 72, nt := 63, res := [], body :=
  (.seq (.kpost (.reg [⟨some 6, .mv, [.c (.int .i64 20)], none⟩]) [0, 1, 2, 6])
  (.seq (.kpost (.reg [⟨some 10, .mv, [.t 6], none⟩,
      ⟨some 7, .mv, [.c (.int .i64 0)], none⟩,
      ⟨some 8, .mv, [.t 10], none⟩]) [0, 1, 2, 6, 7, 8])
  (.seq (.block 0 (.kpre [0, 1, 2, 6, 7, 8] (.loop (.kpost (.seq (.seq (.kpost (.reg [⟨some 11, .mv, [.t 8], none⟩,
            ⟨some 12, .mv, [.t 1], none⟩,
            ⟨some 13, .bin .leq 0, [.t 11, .t 12], none⟩]) [0, 1, 2, 6, 7, 8, 13])
        (.cond (.t 13)
         .skip
         (.exit 0)))
       (.block 1 (.seq (.kpost (.reg [⟨some 14, .mv, [.t 0], none⟩,
            ⟨some 15, .mv, [.t 7], none⟩,
            ⟨some 16, .mv, [.t 8], none⟩,
            ⟨some 17, .mv, [.t 2], none⟩,
            ⟨some 18, .call 168 [0, 1, 2, 3, 4, 5, 6, 7, 8, 9, 10, 11, 12, 13, 14, 15, 16, 17] 2, [.t 14, .t 15, .t 16, .t 17], none⟩]) [0, 1, 2, 6, 8])
        (.seq (.kpost (.reg [⟨some 19, .mv, [.t 8], none⟩,
            ⟨some 7, .mv, [.t 19], none⟩]) [0, 1, 2, 6, 7, 8])
        (.kpost (.reg [⟨some 20, .mv, [.t 8], none⟩,
           ⟨some 21, .mv, [.t 6], none⟩,
           ⟨some 22, .bin .add 0, [.t 20, .t 21], none⟩,
           ⟨some 8, .mv, [.t 22], none⟩]) [0, 1, 2, 6, 7, 8]))))) [0, 1, 2, 6, 7, 8]))))
  (.seq (.kpost (.reg [⟨some 23, .mv, [.t 0], none⟩,
      ⟨some 24, .mv, [.t 7], none⟩,
      ⟨some 25, .mv, [.t 1], none⟩,
      ⟨some 26, .mv, [.t 2], none⟩,
      ⟨some 27, .call 168 [18, 19, 20, 21, 22, 23, 24, 25, 26, 27, 28, 29, 30, 31, 32, 33, 34, 35] 2, [.t 23, .t 24, .t 25, .t 26], none⟩]) [0, 1, 2, 6])
  (.block 2 (.kpre [0, 1, 2, 6] (.loop (.kpost (.seq (.seq (.kpost (.reg [⟨some 28, .mv, [.t 6], none⟩,
           ⟨some 29, .mv, [.t 1], none⟩,
           ⟨some 30, .bin .lss 0, [.t 28, .t 29], none⟩]) [0, 1, 2, 6, 30])
       (.cond (.t 30)
        .skip
        (.exit 2)))
      (.block 3 (.seq (.kpost (.reg [⟨some 31, .mv, [.t 6], none⟩,
           ⟨some 32, .bin .mul 0, [.c (.int .i64 2), .t 31], none⟩,
           ⟨some 7, .mv, [.c (.int .i64 0)], none⟩,
           ⟨some 8, .mv, [.t 32], none⟩]) [0, 1, 2, 6, 7, 8])
       (.seq (.block 4 (.kpre [0, 1, 2, 6, 7, 8] (.loop (.kpost (.seq (.seq (.kpost (.reg [⟨some 33, .mv, [.t 8], none⟩,
                 ⟨some 34, .mv, [.t 1], none⟩,
                 ⟨some 35, .bin .leq 0, [.t 33, .t 34], none⟩]) [0, 1, 2, 6, 7, 8, 35])
             (.cond (.t 35)
              .skip
              (.exit 4)))
            (.block 5 (.seq (.kpost (.reg [⟨some 36, .mv, [.t 0], none⟩,
                 ⟨some 37, .mv, [.t 7], none⟩,
                 ⟨some 38, .mv, [.t 7], none⟩,
                 ⟨some 39, .mv, [.t 6], none⟩,
                 ⟨some 40, .bin .add 0, [.t 38, .t 39], none⟩,
                 ⟨some 41, .mv, [.t 8], none⟩,
                 ⟨some 42, .mv, [.t 2], none⟩,
                 ⟨some 43, .call 169 [36, 37, 38, 39, 40, 41, 42, 43, 44, 45, 46, 47, 48, 49, 50, 51, 52, 53] 2, [.t 36, .t 37, .t 40, .t 41, .t 42], none⟩]) [0, 1, 2, 6, 8])
             (.seq (.kpost (.reg [⟨some 44, .mv, [.t 8], none⟩,
                 ⟨some 7, .mv, [.t 44], none⟩]) [0, 1, 2, 6, 7, 8])
             (.kpost (.reg [⟨some 45, .mv, [.t 8], none⟩,
                ⟨some 46, .mv, [.t 6], none⟩,
                ⟨some 47, .bin .mul 0, [.c (.int .i64 2), .t 46], none⟩,
                ⟨some 48, .bin .add 0, [.t 45, .t 47], none⟩,
                ⟨some 8, .mv, [.t 48], none⟩]) [0, 1, 2, 6, 7, 8]))))) [0, 1, 2, 6, 7, 8]))))
       (.seq (.seq (.kpost (.reg [⟨some 49, .mv, [.t 7], none⟩,
            ⟨some 50, .mv, [.t 6], none⟩,
            ⟨some 51, .bin .add 0, [.t 49, .t 50], none⟩,
            ⟨some 9, .mv, [.t 51], none⟩]) [0, 1, 2, 6, 7, 9])
        (.seq (.kpost (.reg [⟨some 52, .mv, [.t 9], none⟩,
            ⟨some 53, .mv, [.t 1], none⟩,
            ⟨some 54, .bin .lss 0, [.t 52, .t 53], none⟩]) [0, 1, 2, 6, 7, 9, 54])
        (.cond (.t 54)
         (.kpost (.reg [⟨some 55, .mv, [.t 0], none⟩,
             ⟨some 56, .mv, [.t 7], none⟩,
             ⟨some 57, .mv, [.t 9], none⟩,
             ⟨some 58, .mv, [.t 1], none⟩,
             ⟨some 59, .mv, [.t 2], none⟩,
             ⟨some 60, .call 169 [54, 55, 56, 57, 58, 59, 60, 61, 62, 63, 64, 65, 66, 67, 68, 69, 70, 71] 2, [.t 55, .t 56, .t 57, .t 58, .t 59], none⟩]) [0, 1, 2, 6])
         .skip)))
       (.kpost (.reg [⟨some 61, .mv, [.t 6], none⟩,
          ⟨some 62, .bin .mul 0, [.t 61, .c (.int .i64 2)], none⟩,
          ⟨some 6, .mv, [.t 62], none⟩]) [0, 1, 2, 6])))))) [0, 1, 2, 6])))))))) }
/-- cmp.isNaN[int] -/
def i136 : IFn := { ns := 0, nt := 6, res := [.t 2], body :=
  (.seq (.kpost (.reg [⟨some 2, .mv, [.c (.bool false)], none⟩]) [0])
  (.seq (.kpost (.reg [⟨some 3, .mv, [.t 0], none⟩,
      ⟨some 4, .mv, [.t 0], none⟩,
      ⟨some 5, .bin .neq 0, [.t 3, .t 4], none⟩,
      ⟨some 2, .mv, [.t 5], none⟩]) [2])
  .ret)) }
/-- slices.Backward[[]waggoner/api.Found,waggoner/api.Found]$1 -/
def i137 : IFn := { ns := 16, nt := 19, res := [], body :=
  (.seq (.kpost (.reg [⟨some 4, .load none, [.t 1], none⟩,
      ⟨some 5, .len, [.t 4], none⟩,
      ⟨some 6, .bin .sub 0, [.t 5, .c (.int .i64 1)], none⟩,
      ⟨some 3, .mv, [.t 6], none⟩]) [0, 1, 3])
  (.block 0 (.kpre [0, 1, 3] (.loop (.kpost (.seq (.seq (.kpost (.reg [⟨some 7, .mv, [.t 3], none⟩,
           ⟨some 8, .bin .geq 0, [.t 7, .c (.int .i64 0)], none⟩]) [0, 1, 3, 8])
       (.cond (.t 8)
        .skip
        (.exit 0)))
      (.seq (.block 1 (.seq (.kpost (.reg [⟨some 11, .mv, [.t 0], none⟩,
            ⟨some 12, .mv, [.t 3], none⟩,
            ⟨some 13, .load none, [.t 1], none⟩,
            ⟨some 14, .mv, [.t 3], none⟩,
            ⟨some 15, .iadr 5, [.t 13, .t 14], none⟩,
            ⟨some 16, .load (some 5), [.t 15], none⟩,
            ⟨some 17, .callv [0, 1, 2, 3, 4, 5, 6, 7, 8, 9, 10, 11, 12, 13, 14, 15] 0, [.t 11, .t 12, .t 16], none⟩,
            ⟨some 18, .bnot, [.t 17], none⟩]) [0, 1, 3, 18])
        (.cond (.t 18)
         .ret
         .skip)))
      (.kpost (.reg [⟨some 9, .mv, [.t 3], none⟩,
         ⟨some 10, .bin .sub 0, [.t 9, .c (.int .i64 1)], none⟩,
         ⟨some 3, .mv, [.t 10], none⟩]) [0, 1, 3]))) [0, 1, 3]))))) }
/-- waggoner/le.may -/
def i138 : IFn := { ns := 0, nt := 17, res := [.t 4], body :=
  (.seq (.kpost (.reg [⟨some 4, .mv, [.c (.bool false)], none⟩]) [0, 1])
  (.seq (.seq (.kpost (.reg [⟨some 5, .mv, [.t 1], none⟩]) [0, 1, 5])
   (.block 0 (.seq (.seq (.kpost (.reg [⟨some 7, .bin .eql 0, [.t 5, .c (.int .i64 1)], none⟩,
         ⟨some 6, .mv, [.t 7], none⟩]) [0, 1, 5, 6])
     (.cond (.t 6)
      .skip
      (.seq (.kpost (.reg [⟨some 8, .bin .eql 0, [.t 5, .c (.int .i64 2)], none⟩,
           ⟨some 6, .mv, [.t 8], none⟩]) [0, 1, 5, 6])
       (.cond (.t 6)
        .skip
        (.kpost (.reg [⟨some 9, .bin .eql 0, [.t 5, .c (.int .i64 4)], none⟩,
            ⟨some 6, .mv, [.t 9], none⟩]) [0, 1, 6])))))
    (.cond (.t 6)
     (.seq (.kpost (.reg [⟨some 10, .mv, [.t 0], none⟩,
          ⟨some 11, .mv, [.t 1], none⟩,
          ⟨some 12, .bin .mul 0, [.c (.int .i64 8), .t 11], none⟩,
          ⟨some 13, .bin .shr 0, [.t 10, .t 12], none⟩,
          ⟨some 14, .bin .eql 0, [.t 13, .c (.int .u64 0)], none⟩,
          ⟨some 4, .mv, [.t 14], none⟩]) [4])
      .ret)
     .skip))))
  (.seq (.kpost (.reg [⟨some 15, .mv, [.t 1], none⟩,
      ⟨some 16, .bin .eql 0, [.t 15, .c (.int .i64 8)], none⟩,
      ⟨some 4, .mv, [.t 16], none⟩]) [4])
  .ret))) }
/-- waggoner/crc.Open -/
def i139 : IFn := { ns := 4, nt := 24, res := [.t 2, .t 3], body :=
  (.seq (.kpost (.reg [⟨some 2, .mv, [.c (.nils 5 1)], none⟩,
      ⟨some 3, .mv, [.c (.int .i64 0)], none⟩]) [0])
  (.seq (.kpost (.reg [⟨some 5, .mv, [.t 0], none⟩,
      ⟨some 6, .len, [.t 5], none⟩,
      ⟨some 7, .bin .sub 0, [.t 6, .c (.int .i64 4)], none⟩,
      ⟨some 4, .mv, [.t 7], none⟩]) [0, 4])
  (.seq (.seq (.kpost (.reg [⟨some 8, .mv, [.t 4], none⟩,
       ⟨some 9, .bin .lss 0, [.t 8, .c (.int .i64 0)], none⟩,
       ⟨some 10, .mv, [.t 9], none⟩,
       ⟨some 11, .mv, [.t 0], some (10, false)⟩,
       ⟨some 12, .mv, [.t 4], some (10, false)⟩,
       ⟨some 13, .slc 5 1 false true false, [.t 11, .t 12], some (10, false)⟩,
       ⟨some 14, .call 170 [0, 1] 1, [.t 13], some (10, false)⟩,
       ⟨some 15, .mv, [.t 0], some (10, false)⟩,
       ⟨some 16, .call 153 [] 0, [.t 14, .t 15], some (10, false)⟩,
       ⟨some 17, .bnot, [.t 16], some (10, false)⟩,
       ⟨some 18, .pick, [.t 10, .c (.bool true), .t 17], none⟩]) [0, 4, 18])
   (.cond (.t 18)
    (.seq (.kpost (.reg [⟨some 2, .mv, [.c (.nils 5 1)], none⟩,
         ⟨some 3, .mv, [.c (.int .i64 20)], none⟩]) [2, 3])
     .ret)
    .skip))
  (.seq (.kpost (.reg [⟨some 19, .bslice 2 5 1 [.int .u8 0] 0 [], [], none⟩,
      ⟨some 20, .mv, [.t 0], none⟩,
      ⟨some 21, .mv, [.t 4], none⟩,
      ⟨some 22, .slc 5 1 false true false, [.t 20, .t 21], none⟩,
      ⟨some 23, .app 3 5 1 1, [.t 19, .t 22], none⟩,
      ⟨some 2, .mv, [.t 23], none⟩,
      ⟨some 3, .mv, [.c (.int .i64 0)], none⟩]) [2, 3])
  .ret)))) }
/-- waggoner/snap.Read$1 -/
def i140 : IFn := { ns := 0, nt := 22, res := [.t 4], body :=
  (.seq (.kpost (.reg [⟨some 4, .mv, [.c (.nils 5 1)], none⟩]) [0, 1, 2, 4])
  (.seq (.seq (.kpost (.reg [⟨some 5, .load none, [.t 1], none⟩,
       ⟨some 6, .mv, [.t 5], none⟩,
       ⟨some 7, .mv, [.t 0], some (6, false)⟩,
       ⟨some 8, .load none, [.t 2], some (6, false)⟩,
       ⟨some 9, .len, [.t 8], some (6, false)⟩,
       ⟨some 10, .bin .gtr 0, [.t 7, .t 9], some (6, false)⟩,
       ⟨some 11, .pick, [.t 6, .c (.bool true), .t 10], none⟩,
       ⟨none, .store 1, [.t 1, .t 11], none⟩]) [0, 1, 2, 4])
   (.seq (.kpost (.reg [⟨some 12, .load none, [.t 1], none⟩,
       ⟨some 13, .bnot, [.t 12], none⟩]) [0, 2, 4, 13])
   (.cond (.t 13)
    (.kpost (.regD [⟨some 14, .load none, [.t 2], none⟩,
        ⟨some 15, .mv, [.t 0], none⟩,
        ⟨some 16, .mv, [.t 0], none⟩,
        ⟨some 17, .slc 5 1 false true true, [.t 14, .t 15, .t 16], none⟩,
        ⟨some 18, .load none, [.t 2], none⟩,
        ⟨some 19, .mv, [.t 0], none⟩,
        ⟨some 20, .slc 5 1 true false false, [.t 18, .t 19], none⟩,
        ⟨some 4, .mv, [.t 17], none⟩,
        ⟨none, .store 1, [.t 2, .t 20], none⟩] [0, 1, 2, 3, 4, 5, 6, 7, 8] none []) [4])
    .skip)))
  (.seq (.kpost (.reg [⟨some 21, .mv, [.t 4], none⟩,
      ⟨some 4, .mv, [.t 21], none⟩]) [4])
  .ret))) }
/-- waggoner/snap.Read$2 -/
def i141 : IFn := { ns := 21, nt := 27, res := [.t 6], body :=
  (.seq (.kpost (.reg [⟨some 6, .mv, [.c (.nils 161 1)], none⟩]) [0, 1, 2, 3])
  (.seq (.kpost (.reg [⟨some 10, .mv, [.t 0], none⟩,
      ⟨some 11, .load none, [.t 2], none⟩,
      ⟨some 12, .mv, [.t 1], none⟩,
      ⟨some 13, .callv [0, 1, 2, 3, 4, 5, 6, 7, 8, 9, 10, 11, 12, 13, 14, 15, 16, 17] 1, [.t 11, .t 12], none⟩,
      ⟨some 14, .call 142 [18, 19] 1, [.t 10, .t 13], none⟩,
      ⟨some 9, .mv, [.t 14], none⟩,
      ⟨some 15, .extr 0, [.t 9], none⟩,
      ⟨some 16, .extr 1, [.t 9], none⟩,
      ⟨some 7, .mv, [.t 15], none⟩,
      ⟨some 8, .mv, [.t 16], none⟩]) [0, 3, 7, 8])
  (.seq (.kpost (.reg [⟨some 17, .load none, [.t 3], none⟩,
      ⟨some 18, .mv, [.t 17], none⟩,
      ⟨some 19, .mv, [.t 8], some (18, false)⟩,
      ⟨some 20, .bin .neq 0, [.t 19, .c (.int .i64 0)], some (18, false)⟩,
      ⟨some 21, .pick, [.t 18, .c (.bool true), .t 20], none⟩,
      ⟨none, .store 1, [.t 3, .t 21], none⟩]) [0, 3, 7])
  (.seq (.seq (.kpost (.reg [⟨some 22, .load none, [.t 3], none⟩]) [0, 7, 22])
   (.cond (.t 22)
    (.seq (.kpost (.reg [⟨some 23, .mv, [.t 0], none⟩,
         ⟨some 24, .lens, [.t 23], none⟩,
         ⟨some 25, .mkslice 20 161 1 8 [.int .u64 0], [.t 24, .t 24], none⟩,
         ⟨some 6, .mv, [.t 25], none⟩]) [6])
     .ret)
    .skip))
  (.seq (.kpost (.reg [⟨some 26, .mv, [.t 7], none⟩,
      ⟨some 6, .mv, [.t 26], none⟩]) [6])
  .ret))))) }
/-- waggoner/le.Unpack -/
def i142 : IFn := { ns := 5, nt := 33, res := [.t 4, .t 5], body :=
  (.seq (.kpost (.reg [⟨some 4, .mv, [.c (.nils 161 1)], none⟩,
      ⟨some 5, .mv, [.c (.int .i64 0)], none⟩]) [0, 1, 4])
  (.seq (.seq (.kpost (.reg [⟨some 9, .mv, [.t 0], none⟩,
       ⟨some 10, .srange 0, [.t 9], none⟩]) [1, 4, 10])
   (.block 0 (.kpre [1, 4, 10] (.loop (.kpost (.seq (.kpost (.reg [⟨some 11, .next, [.t 10], none⟩,
           ⟨some 12, .extr 0, [.t 11], none⟩]) [1, 4, 10, 11, 12])
       (.seq (.cond (.t 12)
         .skip
         (.exit 0))
       (.block 1 (.seq (.kpost (.reg [⟨some 13, .extr 2, [.t 11], none⟩,
            ⟨some 7, .mv, [.t 13], none⟩]) [1, 4, 7, 10])
        (.seq (.kpost (.reg [⟨some 8, .mv, [.c (.int .u64 0)], none⟩]) [1, 4, 7, 10])
        (.seq (.seq (.kpost (.reg [⟨some 15, .mv, [.t 1], none⟩,
             ⟨some 16, .mv, [.t 7], none⟩,
             ⟨some 17, .call 148 [] 0, [.t 16], none⟩,
             ⟨some 18, .call 99 [1, 2] 1, [.t 15, .t 17], none⟩,
             ⟨some 14, .mv, [.t 18], none⟩,
             ⟨some 19, .extr 0, [.t 14], none⟩,
             ⟨some 20, .extr 1, [.t 14], none⟩,
             ⟨some 21, .extr 2, [.t 14], none⟩,
             ⟨some 8, .mv, [.t 19], none⟩,
             ⟨some 1, .mv, [.t 20], none⟩,
             ⟨some 5, .mv, [.t 21], none⟩]) [1, 4, 5, 8, 10])
         (.seq (.kpost (.reg [⟨some 22, .mv, [.t 5], none⟩,
             ⟨some 23, .bin .neq 0, [.t 22, .c (.int .i64 0)], none⟩]) [1, 4, 5, 8, 10, 23])
         (.cond (.t 23)
          (.seq (.kpost (.reg [⟨some 24, .mv, [.t 5], none⟩,
               ⟨some 4, .mv, [.c (.nils 161 1)], none⟩,
               ⟨some 5, .mv, [.t 24], none⟩]) [4, 5])
           .ret)
          .skip)))
        (.kpost (.reg [⟨some 25, .mv, [.t 4], none⟩,
           ⟨some 26, .mv, [.t 8], none⟩,
           ⟨some 27, .bslice 3 161 1 [.int .u64 0] 1 [0], [.t 26], none⟩,
           ⟨some 28, .app 4 161 1 8, [.t 25, .t 27], none⟩,
           ⟨some 4, .mv, [.t 28], none⟩]) [1, 4, 10]))))))) [1, 4, 10])))))
  (.seq (.seq (.kpost (.reg [⟨some 29, .mv, [.t 1], none⟩,
       ⟨some 30, .len, [.t 29], none⟩,
       ⟨some 31, .bin .gtr 0, [.t 30, .c (.int .i64 0)], none⟩]) [4, 31])
   (.cond (.t 31)
    (.seq (.kpost (.reg [⟨some 4, .mv, [.c (.nils 161 1)], none⟩,
         ⟨some 5, .mv, [.c (.int .i64 10)], none⟩]) [4, 5])
     .ret)
    .skip))
  (.seq (.kpost (.reg [⟨some 32, .mv, [.t 4], none⟩,
      ⟨some 4, .mv, [.t 32], none⟩,
      ⟨some 5, .mv, [.c (.int .i64 0)], none⟩]) [4, 5])
  .ret)))) }
/-- waggoner/snap.Read$3 -/
def i143 : IFn := { ns := 38, nt := 25, res := [.t 3], body :=
  (.seq (.kpost (.reg [⟨some 3, .mv, [.c (.nils 48 5)], none⟩]) [0, 1, 2])
  (.seq (.kpost (.reg [⟨some 7, .load none, [.t 0], none⟩,
      ⟨some 8, .callv [0, 1, 2, 3, 4, 5, 6, 7, 8, 9, 10, 11, 12, 13, 14, 15, 16, 17] 1, [.t 7, .c (.str [104]), .c (.int .i64 2)], none⟩,
      ⟨some 4, .mv, [.t 8], none⟩]) [1, 2, 4])
  (.seq (.kpost (.regD [⟨some 10, .load none, [.t 1], none⟩,
      ⟨some 11, .mv, [.t 4], none⟩,
      ⟨some 12, .iadr 1, [.t 11, .c (.int .i64 0)], none⟩,
      ⟨some 13, .load none, [.t 12], none⟩,
      ⟨some 14, .conv .i64, [.t 13], none⟩,
      ⟨some 15, .callv [18, 19, 20, 21, 22, 23, 24, 25, 26, 27, 28, 29, 30, 31, 32, 33, 34, 35] 1, [.t 10, .t 14], none⟩,
      ⟨some 16, .call 144 [36, 37] 1, [.t 15], none⟩,
      ⟨some 9, .mv, [.t 16], none⟩,
      ⟨some 17, .extr 0, [.t 9], none⟩,
      ⟨some 18, .extr 1, [.t 9], none⟩,
      ⟨some 5, .mv, [.t 17], none⟩,
      ⟨some 6, .mv, [.t 18], none⟩] [0, 1, 2, 3, 4, 5, 6, 7, 8, 9, 10, 11] none []) [2, 5, 6])
  (.seq (.kpost (.reg [⟨some 19, .load none, [.t 2], none⟩,
      ⟨some 20, .mv, [.t 19], none⟩,
      ⟨some 21, .mv, [.t 6], some (20, false)⟩,
      ⟨some 22, .bin .neq 0, [.t 21, .c (.int .i64 0)], some (20, false)⟩,
      ⟨some 23, .pick, [.t 20, .c (.bool true), .t 22], none⟩,
      ⟨none, .store 1, [.t 2, .t 23], none⟩]) [5])
  (.seq (.kpost (.reg [⟨some 24, .mv, [.t 5], none⟩,
      ⟨some 3, .mv, [.t 24], none⟩]) [3])
  .ret))))) }
/-- waggoner/extent.Read -/
def i144 : IFn := { ns := 22, nt := 43, res := [.t 2, .t 3], body :=
  (.seq (.kpost (.reg [⟨some 1, .box 0 28, [.t 0], none⟩,
      ⟨some 2, .mv, [.c (.nils 48 5)], none⟩,
      ⟨some 3, .mv, [.c (.int .i64 0)], none⟩]) [1, 2, 4, 5])
  (.scope (.seq (.seq (.kpost (.reg [⟨some 8, .load none, [.t 1], none⟩,
        ⟨some 9, .len, [.t 8], none⟩,
        ⟨some 10, .bin .eql 0, [.t 9, .c (.int .i64 0)], none⟩,
        ⟨some 11, .mv, [.t 10], none⟩,
        ⟨some 12, .load none, [.t 1], some (11, false)⟩,
        ⟨some 13, .iadr 1, [.t 12, .c (.int .i64 0)], some (11, false)⟩,
        ⟨some 14, .load none, [.t 13], some (11, false)⟩,
        ⟨some 15, .bin .gtr 0, [.t 14, .c (.int .u8 64)], some (11, false)⟩,
        ⟨some 16, .pick, [.t 11, .c (.bool true), .t 15], none⟩]) [1, 2, 16])
    (.cond (.t 16)
     (.seq (.kpost (.reg [⟨some 2, .mv, [.c (.nils 48 5)], none⟩,
          ⟨some 3, .mv, [.c (.int .i64 70)], none⟩]) [2, 3])
      .ret)
     .skip))
   (.seq (.kpost (.reg [⟨some 17, .load none, [.t 1], none⟩,
       ⟨some 18, .iadr 1, [.t 17, .c (.int .i64 0)], none⟩,
       ⟨some 19, .load none, [.t 18], none⟩,
       ⟨some 20, .conv .i64, [.t 19], none⟩,
       ⟨some 4, .mv, [.t 20], none⟩]) [1, 2, 4])
   (.seq (.kpost (.reg [⟨some 21, .load none, [.t 1], none⟩,
       ⟨some 22, .slc 5 1 true false false, [.t 21, .c (.int .i64 1)], none⟩,
       ⟨none, .store 1, [.t 1, .t 22], none⟩]) [1, 2, 4])
   (.seq (.kpost (.reg [⟨some 23, .mkfn 171 0, [.t 1], none⟩,
       ⟨some 5, .mv, [.t 23], none⟩]) [1, 2, 4, 5])
   (.seq (.label 0)
   (.seq (.seq (.kpost (.reg [⟨some 24, .mv, [.t 2], none⟩,
        ⟨some 25, .len, [.t 24], none⟩,
        ⟨some 26, .mv, [.t 4], none⟩,
        ⟨some 27, .bin .eql 0, [.t 25, .t 26], none⟩]) [1, 2, 4, 5, 27])
    (.cond (.t 27)
     (.seq (.seq (.kpost (.reg [⟨some 28, .load none, [.t 1], none⟩,
           ⟨some 29, .len, [.t 28], none⟩,
           ⟨some 30, .bin .gtr 0, [.t 29, .c (.int .i64 0)], none⟩]) [2, 30])
       (.cond (.t 30)
        (.seq (.kpost (.reg [⟨some 2, .mv, [.c (.nils 48 5)], none⟩,
             ⟨some 3, .mv, [.c (.int .i64 70)], none⟩]) [2, 3])
         .ret)
        .skip))
      (.seq (.kpost (.reg [⟨some 31, .mv, [.t 2], none⟩,
          ⟨some 2, .mv, [.t 31], none⟩,
          ⟨some 3, .mv, [.c (.int .i64 0)], none⟩]) [2, 3])
      .ret))
     .skip))
   (.seq (.kpost (.reg [⟨some 33, .mv, [.t 5], none⟩,
       ⟨some 34, .callv [1, 2, 3, 4, 5, 6, 7, 8, 9, 10, 11, 12, 13, 14, 15, 16, 17, 18] 1, [.t 33], none⟩,
       ⟨some 32, .mv, [.t 34], none⟩,
       ⟨some 35, .extr 0, [.t 32], none⟩,
       ⟨some 36, .extr 1, [.t 32], none⟩,
       ⟨some 6, .alloc 19 48 [.int .i64 0, .int .i64 0, .int .i64 0, .int .i64 0, .nils 5 1], [], none⟩,
       ⟨none, .store 5, [.t 6, .t 35], none⟩,
       ⟨some 7, .mv, [.t 36], none⟩]) [1, 2, 4, 5, 6, 7])
   (.seq (.seq (.kpost (.reg [⟨some 37, .mv, [.t 7], none⟩,
        ⟨some 38, .bnot, [.t 37], none⟩]) [1, 2, 4, 5, 6, 38])
    (.cond (.t 38)
     (.seq (.kpost (.reg [⟨some 2, .mv, [.c (.nils 48 5)], none⟩,
          ⟨some 3, .mv, [.c (.int .i64 70)], none⟩]) [2, 3])
      .ret)
     .skip))
   (.seq (.kpost (.reg [⟨some 39, .mv, [.t 2], none⟩,
       ⟨some 40, .load (some 5), [.t 6], none⟩,
       ⟨some 41, .bslice 20 48 5 [.int .i64 0, .int .i64 0, .int .i64 0, .int .i64 0, .imm 1 []] 1 [0], [.t 40], none⟩,
       ⟨some 42, .app 21 48 5 56, [.t 39, .t 41], none⟩,
       ⟨some 2, .mv, [.t 42], none⟩]) [1, 2, 4, 5])
   (.goto 0))))))))))
   (.kpre [1, 2, 4, 5] (.seq .skip
    (.seq (.seq (.kpost (.reg [⟨some 24, .mv, [.t 2], none⟩,
         ⟨some 25, .len, [.t 24], none⟩,
         ⟨some 26, .mv, [.t 4], none⟩,
         ⟨some 27, .bin .eql 0, [.t 25, .t 26], none⟩]) [1, 2, 4, 5, 27])
     (.cond (.t 27)
      (.seq (.seq (.kpost (.reg [⟨some 28, .load none, [.t 1], none⟩,
            ⟨some 29, .len, [.t 28], none⟩,
            ⟨some 30, .bin .gtr 0, [.t 29, .c (.int .i64 0)], none⟩]) [2, 30])
        (.cond (.t 30)
         (.seq (.kpost (.reg [⟨some 2, .mv, [.c (.nils 48 5)], none⟩,
              ⟨some 3, .mv, [.c (.int .i64 70)], none⟩]) [2, 3])
          .ret)
         .skip))
       (.seq (.kpost (.reg [⟨some 31, .mv, [.t 2], none⟩,
           ⟨some 2, .mv, [.t 31], none⟩,
           ⟨some 3, .mv, [.c (.int .i64 0)], none⟩]) [2, 3])
       .ret))
      .skip))
    (.seq (.kpost (.reg [⟨some 33, .mv, [.t 5], none⟩,
        ⟨some 34, .callv [1, 2, 3, 4, 5, 6, 7, 8, 9, 10, 11, 12, 13, 14, 15, 16, 17, 18] 1, [.t 33], none⟩,
        ⟨some 32, .mv, [.t 34], none⟩,
        ⟨some 35, .extr 0, [.t 32], none⟩,
        ⟨some 36, .extr 1, [.t 32], none⟩,
        ⟨some 6, .alloc 19 48 [.int .i64 0, .int .i64 0, .int .i64 0, .int .i64 0, .nils 5 1], [], none⟩,
        ⟨none, .store 5, [.t 6, .t 35], none⟩,
        ⟨some 7, .mv, [.t 36], none⟩]) [1, 2, 4, 5, 6, 7])
    (.seq (.seq (.kpost (.reg [⟨some 37, .mv, [.t 7], none⟩,
         ⟨some 38, .bnot, [.t 37], none⟩]) [1, 2, 4, 5, 6, 38])
     (.cond (.t 38)
      (.seq (.kpost (.reg [⟨some 2, .mv, [.c (.nils 48 5)], none⟩,
           ⟨some 3, .mv, [.c (.int .i64 70)], none⟩]) [2, 3])
       .ret)
      .skip))
    (.seq (.kpost (.reg [⟨some 39, .mv, [.t 2], none⟩,
        ⟨some 40, .load (some 5), [.t 6], none⟩,
        ⟨some 41, .bslice 20 48 5 [.int .i64 0, .int .i64 0, .int .i64 0, .int .i64 0, .imm 1 []] 1 [0], [.t 40], none⟩,
        ⟨some 42, .app 21 48 5 56, [.t 39, .t 41], none⟩,
        ⟨some 2, .mv, [.t 42], none⟩]) [1, 2, 4, 5])
    (.goto 0))))))) 0)) }
/-- waggoner/snap.Write -/
def i145 : IFn := { ns := 93, nt := 77, res := [.t 2, .t 3], body :=
  (.seq (.kpost (.reg [⟨some 1, .box 0 30, [.t 0], none⟩,
      ⟨some 2, .mv, [.c (.nils 5 1)], none⟩,
      ⟨some 3, .mv, [.c (.int .i64 0)], none⟩]) [1])
  (.seq (.seq (.kpost (.reg [⟨some 11, .load (some 6), [.t 1], none⟩,
       ⟨some 12, .call 69 [] 0, [.t 11], none⟩,
       ⟨some 4, .mv, [.t 12], none⟩]) [1, 4])
   (.seq (.kpost (.reg [⟨some 13, .mv, [.t 4], none⟩,
       ⟨some 14, .bin .neq 0, [.t 13, .c (.int .i64 0)], none⟩]) [1, 4, 14])
   (.cond (.t 14)
    (.seq (.kpost (.reg [⟨some 15, .mv, [.t 4], none⟩,
         ⟨some 2, .mv, [.c (.nils 5 1)], none⟩,
         ⟨some 3, .mv, [.t 15], none⟩]) [2, 3])
     .ret)
    .skip)))
  (.seq (.kpost (.reg [⟨some 5, .alloc 1 28 [.nils 5 1], [], none⟩]) [1, 5])
  (.seq (.kpost (.reg [⟨some 6, .alloc 2 31 [.int .i64 0], [], none⟩]) [1, 5, 6])
  (.seq (.kpost (.reg [⟨some 16, .mkfn 172 0, [.t 5, .t 6], none⟩,
      ⟨some 7, .alloc 3 240 [.nilf], [], none⟩,
      ⟨none, .store 1, [.t 7, .t 16], none⟩]) [1, 5, 6, 7])
  (.seq (.kpost (.reg [⟨some 17, .mkfn 173 0, [.t 7], none⟩,
      ⟨some 8, .mv, [.t 17], none⟩]) [1, 5, 6, 7, 8])
  (.seq (.kpost (.regD [⟨some 18, .load none, [.t 7], none⟩,
      ⟨some 19, .fadr 0, [.t 1], none⟩,
      ⟨some 20, .load none, [.t 19], none⟩,
      ⟨some 21, .conv .u64, [.t 20], none⟩,
      ⟨some 22, .fadr 1, [.t 1], none⟩,
      ⟨some 23, .load none, [.t 22], none⟩,
      ⟨some 24, .conv .u64, [.t 23], none⟩,
      ⟨some 25, .fadr 4, [.t 1], none⟩,
      ⟨some 26, .load none, [.t 25], none⟩,
      ⟨some 27, .conv .u64, [.t 26], none⟩,
      ⟨some 28, .fadr 3, [.t 1], none⟩,
      ⟨some 29, .load none, [.t 28], none⟩,
      ⟨some 30, .len, [.t 29], none⟩,
      ⟨some 31, .conv .u64, [.t 30], none⟩,
      ⟨some 32, .fadr 5, [.t 1], none⟩,
      ⟨some 33, .load none, [.t 32], none⟩,
      ⟨some 34, .len, [.t 33], none⟩,
      ⟨some 35, .conv .u64, [.t 34], none⟩,
      ⟨some 36, .bslice 4 161 1 [.int .u64 0] 5 [0, 1, 2, 3, 4], [.t 21, .t 24, .t 27, .t 31, .t 35], none⟩,
      ⟨some 37, .call 103 [5, 6] 1, [.c (.str [98, 119, 119, 98, 104]), .t 36], none⟩,
      ⟨some 38, .extr 0, [.t 37], none⟩,
      ⟨some 39, .extr 1, [.t 37], none⟩,
      ⟨some 40, .callv [7, 8, 9, 10, 11, 12, 13, 14, 15, 16, 17, 18, 19, 20, 21, 22] 0, [.t 18, .t 38, .t 39], none⟩] [0, 1, 2, 3, 4, 5, 6, 7, 8, 9, 10, 11, 12, 13, 14, 15, 16, 17, 18, 19, 20, 21, 22] none [(0, 18), (0, 19)]) [1, 5, 6, 7, 8])
  (.seq (.kpost (.reg [⟨some 41, .load none, [.t 7], none⟩,
      ⟨some 42, .fadr 5, [.t 1], none⟩,
      ⟨some 43, .load none, [.t 42], none⟩,
      ⟨some 44, .callv [23, 24, 25, 26, 27, 28, 29, 30, 31, 32, 33, 34, 35, 36, 37, 38] 0, [.t 41, .t 43, .c (.int .i64 0)], none⟩]) [1, 5, 6, 7, 8])
  (.seq (.kpost (.reg [⟨some 45, .mv, [.t 8], none⟩,
      ⟨some 46, .fadr 2, [.t 1], none⟩,
      ⟨some 47, .load none, [.t 46], none⟩,
      ⟨some 48, .callv [39, 40, 41, 42, 43, 44, 45, 46, 47, 48, 49, 50, 51, 52, 53, 54] 0, [.t 45, .t 47], none⟩]) [1, 5, 6, 7, 8])
  (.seq (.seq (.kpost (.reg [⟨some 49, .fadr 3, [.t 1], none⟩,
       ⟨some 50, .load none, [.t 49], none⟩,
       ⟨some 51, .len, [.t 50], none⟩,
       ⟨some 52, .mv, [.c (.int .i64 0)], none⟩]) [5, 6, 7, 8, 50, 51, 52])
   (.block 0 (.kpre [5, 6, 7, 8, 50, 51, 52] (.loop (.kpost (.seq (.kpost (.reg [⟨some 53, .bin .lss 0, [.t 52, .t 51], none⟩]) [5, 6, 7, 8, 50, 51, 52, 53])
       (.seq (.cond (.t 53)
         .skip
         (.exit 0))
       (.seq (.block 1 (.seq (.kpost (.reg [⟨some 54, .iadr 3, [.t 50, .t 52], none⟩,
             ⟨some 55, .load (some 3), [.t 54], none⟩,
             ⟨some 10, .alloc 55 95 [.int .i64 0, .int .i64 0, .nils 48 5], [], none⟩,
             ⟨none, .store 3, [.t 10, .t 55], none⟩]) [5, 6, 7, 8, 10, 50, 51, 52])
         (.seq (.kpost (.regD [⟨some 56, .load none, [.t 7], none⟩,
             ⟨some 57, .fadr 0, [.t 10], none⟩,
             ⟨some 58, .load none, [.t 57], none⟩,
             ⟨some 59, .conv .u64, [.t 58], none⟩,
             ⟨some 60, .fadr 1, [.t 10], none⟩,
             ⟨some 61, .load none, [.t 60], none⟩,
             ⟨some 62, .conv .u64, [.t 61], none⟩,
             ⟨some 63, .bslice 56 161 1 [.int .u64 0] 2 [0, 1], [.t 59, .t 62], none⟩,
             ⟨some 64, .call 103 [57, 58] 1, [.c (.str [119, 119]), .t 63], none⟩,
             ⟨some 65, .extr 0, [.t 64], none⟩,
             ⟨some 66, .extr 1, [.t 64], none⟩,
             ⟨some 67, .callv [59, 60, 61, 62, 63, 64, 65, 66, 67, 68, 69, 70, 71, 72, 73, 74] 0, [.t 56, .t 65, .t 66], none⟩] [0, 1, 2, 3, 4, 5, 6, 7, 8, 9, 10, 11] none [(0, 7), (0, 8)]) [5, 6, 7, 8, 10, 50, 51, 52])
         (.kpost (.reg [⟨some 68, .mv, [.t 8], none⟩,
            ⟨some 69, .fadr 2, [.t 10], none⟩,
            ⟨some 70, .load none, [.t 69], none⟩,
            ⟨some 71, .callv [75, 76, 77, 78, 79, 80, 81, 82, 83, 84, 85, 86, 87, 88, 89, 90] 0, [.t 68, .t 70], none⟩]) [5, 6, 7, 8, 50, 51, 52]))))
       (.kpost (.reg [⟨some 72, .bin .add 0, [.t 52, .c (.int .i64 1)], none⟩,
          ⟨some 52, .mv, [.t 72], none⟩]) [5, 6, 7, 8, 50, 51, 52])))) [5, 6, 7, 8, 50, 51, 52])))))
  (.seq (.seq (.kpost (.reg [⟨some 73, .load none, [.t 6], none⟩,
       ⟨some 74, .bin .neq 0, [.t 73, .c (.int .i64 0)], none⟩]) [5, 74])
   (.cond (.t 74)
    (.seq (.kpost (.reg [⟨some 2, .mv, [.c (.nils 5 1)], none⟩,
         ⟨some 3, .mv, [.c (.int .i64 110)], none⟩]) [2, 3])
     .ret)
    .skip))
  (.seq (.kpost (.reg [⟨some 75, .load none, [.t 5], none⟩,
      ⟨some 76, .call 170 [91, 92] 1, [.t 75], none⟩,
      ⟨some 2, .mv, [.t 76], none⟩,
      ⟨some 3, .mv, [.c (.int .i64 0)], none⟩]) [2, 3])
  .ret)))))))))))) }
/-- waggoner/snap.parts -/
def i146 : IFn := { ns := 6, nt := 5, res := [.t 2], body :=
  (.seq (.kpost (.reg [⟨some 2, .mv, [.c (.nilf)], none⟩]) [0])
  (.seq (.kpost (.reg [⟨some 3, .mv, [.t 0], none⟩,
      ⟨some 4, .call 174 [0, 1, 2, 3, 4, 5] 1, [.t 3, .c (.int .i64 4096)], none⟩,
      ⟨some 2, .mv, [.t 4], none⟩]) [2])
  .ret)) }
/-- waggoner/le.Put -/
def i147 : IFn := { ns := 4, nt := 27, res := [.t 6, .t 7], body :=
  (.seq (.kpost (.reg [⟨some 6, .mv, [.c (.nils 5 1)], none⟩,
      ⟨some 7, .mv, [.c (.int .i64 0)], none⟩]) [0, 1, 2])
  (.seq (.seq (.kpost (.reg [⟨some 9, .mv, [.t 1], none⟩,
       ⟨some 10, .mv, [.t 2], none⟩,
       ⟨some 11, .call 138 [] 0, [.t 9, .t 10], none⟩,
       ⟨some 12, .bnot, [.t 11], none⟩]) [0, 1, 2, 12])
   (.cond (.t 12)
    (.seq (.kpost (.reg [⟨some 6, .mv, [.c (.nils 5 1)], none⟩,
         ⟨some 7, .mv, [.c (.int .i64 10)], none⟩]) [6, 7])
     .ret)
    .skip))
  (.seq (.kpost (.reg [⟨some 13, .mv, [.t 0], none⟩,
      ⟨some 14, .call 74 [0, 1] 1, [.t 13], none⟩,
      ⟨some 8, .mv, [.t 14], none⟩]) [1, 2, 8])
  (.seq (.seq (.kpost (.reg [⟨some 15, .mv, [.t 2], none⟩,
       ⟨some 16, .mv, [.c (.int .i64 0)], none⟩]) [1, 8, 15, 16])
   (.block 0 (.kpre [1, 8, 15, 16] (.loop (.kpost (.seq (.kpost (.reg [⟨some 17, .bin .lss 0, [.t 16, .t 15], none⟩]) [1, 8, 15, 16, 17])
       (.seq (.cond (.t 17)
         .skip
         (.exit 0))
       (.seq (.block 1 (.seq (.kpost (.reg [⟨some 18, .mv, [.t 8], none⟩,
             ⟨some 19, .mv, [.t 1], none⟩,
             ⟨some 20, .conv .u8, [.t 19], none⟩,
             ⟨some 21, .bslice 2 5 1 [.int .u8 0] 1 [0], [.t 20], none⟩,
             ⟨some 22, .app 3 5 1 1, [.t 18, .t 21], none⟩,
             ⟨some 8, .mv, [.t 22], none⟩]) [1, 8, 15, 16])
         (.kpost (.reg [⟨some 23, .mv, [.t 1], none⟩,
            ⟨some 24, .bin .shr 0, [.t 23, .c (.int .u64 8)], none⟩,
            ⟨some 1, .mv, [.t 24], none⟩]) [1, 8, 15, 16])))
       (.kpost (.reg [⟨some 25, .bin .add 0, [.t 16, .c (.int .i64 1)], none⟩,
          ⟨some 16, .mv, [.t 25], none⟩]) [1, 8, 15, 16])))) [1, 8, 15, 16])))))
  (.seq (.kpost (.reg [⟨some 26, .mv, [.t 8], none⟩,
      ⟨some 6, .mv, [.t 26], none⟩,
      ⟨some 7, .mv, [.c (.int .i64 0)], none⟩]) [6, 7])
  .ret))))) }
/-- waggoner/le.size -/
def i148 : IFn := { ns := 0, nt := 10, res := [.t 2], body :=
  (.seq (.kpost (.reg [⟨some 2, .mv, [.c (.int .i64 0)], none⟩]) [0])
  (.seq (.seq (.kpost (.reg [⟨some 4, .mv, [.t 0], none⟩,
       ⟨some 5, .call 175 [] 0, [.c (.str [98, 104, 119, 113]), .t 4], none⟩,
       ⟨some 3, .mv, [.t 5], none⟩]) [3])
   (.seq (.kpost (.reg [⟨some 6, .mv, [.t 3], none⟩,
       ⟨some 7, .bin .geq 0, [.t 6, .c (.int .i64 0)], none⟩]) [3, 7])
   (.cond (.t 7)
    (.seq (.kpost (.reg [⟨some 8, .mv, [.t 3], none⟩,
         ⟨some 9, .bin .shl 0, [.c (.int .i64 1), .t 8], none⟩,
         ⟨some 2, .mv, [.t 9], none⟩]) [2])
     .ret)
    .skip)))
  (.seq (.kpost (.reg [⟨some 2, .mv, [.c (.int .i64 0)], none⟩]) [2])
  .ret))) }
/-- waggoner/log.one -/
def i149 : IFn := { ns := 12, nt := 69, res := [.cell 4 (some 5), .t 5, .t 6], body :=
  (.seq (.kpost (.reg [⟨some 2, .box 0 51, [.t 0], none⟩,
      ⟨some 3, .box 1 116, [.t 1], none⟩,
      ⟨some 4, .alloc 2 51 [.int .i64 0, .nils 54 4, .int .i64 0, .bool false, .int .i64 0], [], none⟩,
      ⟨some 5, .mv, [.c (.cpx)], none⟩,
      ⟨some 6, .mv, [.c (.int .i64 0)], none⟩]) [2, 3, 4, 7, 8, 9, 10, 11])
  (.scope (.seq (.kpost (.reg [⟨some 15, .load (some 3), [.t 3], none⟩,
       ⟨some 16, .call 176 [3, 4] 1, [.t 15], none⟩,
       ⟨some 14, .mv, [.t 16], none⟩,
       ⟨some 17, .extr 0, [.t 14], none⟩,
       ⟨some 18, .extr 1, [.t 14], none⟩,
       ⟨some 7, .mv, [.t 17], none⟩,
       ⟨some 8, .mv, [.t 18], none⟩]) [2, 4, 7, 8])
   (.seq (.seq (.kpost (.reg [⟨some 19, .mv, [.t 8], none⟩,
        ⟨some 20, .bin .neq 0, [.t 19, .c (.int .i64 0)], none⟩]) [2, 4, 7, 8, 20])
    (.cond (.t 20)
     (.seq (.kpost (.reg [⟨some 21, .load (some 5), [.t 2], none⟩,
          ⟨some 22, .mv, [.t 8], none⟩,
          ⟨none, .store 5, [.t 4, .t 21], none⟩,
          ⟨some 5, .mv, [.c (.cpx)], none⟩,
          ⟨some 6, .mv, [.t 22], none⟩]) [4, 5, 6])
      .ret)
     .skip))
   (.seq (.kpost (.reg [⟨some 24, .load (some 5), [.t 2], none⟩,
       ⟨some 25, .mv, [.t 7], none⟩,
       ⟨some 26, .len, [.t 25], none⟩,
       ⟨some 27, .call 177 [5, 6] 1, [.t 24, .t 26], none⟩,
       ⟨some 23, .mv, [.t 27], none⟩,
       ⟨some 28, .extr 0, [.t 23], none⟩,
       ⟨some 29, .extr 1, [.t 23], none⟩,
       ⟨some 30, .extr 2, [.t 23], none⟩,
       ⟨some 9, .mv, [.t 28], none⟩,
       ⟨some 10, .mv, [.t 29], none⟩,
       ⟨some 8, .mv, [.t 30], none⟩]) [2, 4, 7, 8, 9, 10])
   (.seq (.seq (.kpost (.reg [⟨some 31, .mv, [.t 8], none⟩,
        ⟨some 32, .bin .neq 0, [.t 31, .c (.int .i64 0)], none⟩]) [2, 4, 7, 8, 9, 10, 32])
    (.cond (.t 32)
     (.seq (.kpost (.reg [⟨some 33, .load (some 5), [.t 2], none⟩,
          ⟨some 34, .mv, [.t 8], none⟩,
          ⟨none, .store 5, [.t 4, .t 33], none⟩,
          ⟨some 5, .mv, [.c (.cpx)], none⟩,
          ⟨some 6, .mv, [.t 34], none⟩]) [4, 5, 6])
      .ret)
     .skip))
   (.seq (.kpost (.reg [⟨some 35, .mv, [.t 9], none⟩,
       ⟨some 36, .cflt, [.t 35], none⟩,
       ⟨some 37, .fadr 1, [.t 2], none⟩,
       ⟨some 38, .load none, [.t 37], none⟩,
       ⟨some 39, .mv, [.t 9], none⟩,
       ⟨some 40, .iadr 4, [.t 38, .t 39], none⟩,
       ⟨some 41, .fadr 2, [.t 40], none⟩,
       ⟨some 42, .load none, [.t 41], none⟩,
       ⟨some 43, .len, [.t 42], none⟩,
       ⟨some 44, .cflt, [.t 43], none⟩,
       ⟨some 45, .ccpx, [.t 36, .t 44], none⟩,
       ⟨some 11, .mv, [.t 45], none⟩]) [2, 4, 7, 8, 9, 10, 11])
   (.seq (.label 0)
   (.seq (.seq (.kpost (.reg [⟨some 46, .mv, [.t 10], none⟩,
        ⟨some 47, .mv, [.t 9], none⟩,
        ⟨some 48, .mv, [.t 7], none⟩,
        ⟨some 49, .build [.int .i64 0, .int .i64 0, .nils 5 1] [(0, 1), (1, 1), (2, 1)], [.c (.int .i64 1), .t 47, .t 48], none⟩,
        ⟨some 50, .bslice 7 150 3 [.int .i64 0, .int .i64 0, .imm 1 []] 1 [0], [.t 49], none⟩,
        ⟨some 51, .app 8 150 3 40, [.t 46, .t 50], none⟩,
        ⟨some 52, .len, [.t 51], none⟩,
        ⟨some 53, .mv, [.c (.int .i64 0)], none⟩]) [2, 4, 8, 11, 51, 52, 53])
    (.block 0 (.kpre [2, 4, 8, 11, 51, 52, 53] (.loop (.kpost (.seq (.kpost (.reg [⟨some 54, .bin .lss 0, [.t 53, .t 52], none⟩]) [2, 4, 8, 11, 51, 52, 53, 54])
        (.seq (.cond (.t 54)
          .skip
          (.exit 0))
        (.seq (.block 1 (.seq (.kpost (.reg [⟨some 55, .iadr 3, [.t 51, .t 53], none⟩,
              ⟨some 56, .load (some 3), [.t 55], none⟩,
              ⟨some 13, .alloc 9 150 [.int .i64 0, .int .i64 0, .nils 5 1], [], none⟩,
              ⟨none, .store 3, [.t 13, .t 56], none⟩]) [2, 4, 11, 13, 51, 52, 53])
          (.seq (.kpost (.reg [⟨some 58, .load (some 5), [.t 2], none⟩,
              ⟨some 59, .load (some 3), [.t 13], none⟩,
              ⟨some 60, .call 90 [10, 11] 1, [.t 58, .t 59], none⟩,
              ⟨some 57, .mv, [.t 60], none⟩,
              ⟨some 61, .extr 0, [.t 57], none⟩,
              ⟨some 62, .extr 1, [.t 57], none⟩,
              ⟨none, .store 5, [.t 2, .t 61], none⟩,
              ⟨some 8, .mv, [.t 62], none⟩]) [2, 4, 8, 11, 51, 52, 53])
          (.seq (.kpost (.reg [⟨some 63, .mv, [.t 8], none⟩,
              ⟨some 64, .bin .neq 0, [.t 63, .c (.int .i64 0)], none⟩]) [2, 4, 8, 11, 51, 52, 53, 64])
          (.cond (.t 64)
           (.exit 0)
           .skip)))))
        (.kpost (.reg [⟨some 65, .bin .add 0, [.t 53, .c (.int .i64 1)], none⟩,
           ⟨some 53, .mv, [.t 65], none⟩]) [2, 4, 8, 11, 51, 52, 53])))) [2, 4, 8, 11, 51, 52, 53])))))
   (.seq (.kpost (.reg [⟨some 66, .load (some 5), [.t 2], none⟩,
       ⟨some 67, .mv, [.t 11], none⟩,
       ⟨some 68, .mv, [.t 8], none⟩,
       ⟨none, .store 5, [.t 4, .t 66], none⟩,
       ⟨some 5, .mv, [.t 67], none⟩,
       ⟨some 6, .mv, [.t 68], none⟩]) [4, 5, 6])
   .ret))))))))
   (.kpre [2, 4, 7, 8, 9, 10, 11] (.seq .skip
    (.seq (.seq (.kpost (.reg [⟨some 46, .mv, [.t 10], none⟩,
         ⟨some 47, .mv, [.t 9], none⟩,
         ⟨some 48, .mv, [.t 7], none⟩,
         ⟨some 49, .build [.int .i64 0, .int .i64 0, .nils 5 1] [(0, 1), (1, 1), (2, 1)], [.c (.int .i64 1), .t 47, .t 48], none⟩,
         ⟨some 50, .bslice 7 150 3 [.int .i64 0, .int .i64 0, .imm 1 []] 1 [0], [.t 49], none⟩,
         ⟨some 51, .app 8 150 3 40, [.t 46, .t 50], none⟩,
         ⟨some 52, .len, [.t 51], none⟩,
         ⟨some 53, .mv, [.c (.int .i64 0)], none⟩]) [2, 4, 8, 11, 51, 52, 53])
     (.block 0 (.kpre [2, 4, 8, 11, 51, 52, 53] (.loop (.kpost (.seq (.kpost (.reg [⟨some 54, .bin .lss 0, [.t 53, .t 52], none⟩]) [2, 4, 8, 11, 51, 52, 53, 54])
         (.seq (.cond (.t 54)
           .skip
           (.exit 0))
         (.seq (.block 1 (.seq (.kpost (.reg [⟨some 55, .iadr 3, [.t 51, .t 53], none⟩,
               ⟨some 56, .load (some 3), [.t 55], none⟩,
               ⟨some 13, .alloc 9 150 [.int .i64 0, .int .i64 0, .nils 5 1], [], none⟩,
               ⟨none, .store 3, [.t 13, .t 56], none⟩]) [2, 4, 11, 13, 51, 52, 53])
           (.seq (.kpost (.reg [⟨some 58, .load (some 5), [.t 2], none⟩,
               ⟨some 59, .load (some 3), [.t 13], none⟩,
               ⟨some 60, .call 90 [10, 11] 1, [.t 58, .t 59], none⟩,
               ⟨some 57, .mv, [.t 60], none⟩,
               ⟨some 61, .extr 0, [.t 57], none⟩,
               ⟨some 62, .extr 1, [.t 57], none⟩,
               ⟨none, .store 5, [.t 2, .t 61], none⟩,
               ⟨some 8, .mv, [.t 62], none⟩]) [2, 4, 8, 11, 51, 52, 53])
           (.seq (.kpost (.reg [⟨some 63, .mv, [.t 8], none⟩,
               ⟨some 64, .bin .neq 0, [.t 63, .c (.int .i64 0)], none⟩]) [2, 4, 8, 11, 51, 52, 53, 64])
           (.cond (.t 64)
            (.exit 0)
            .skip)))))
         (.kpost (.reg [⟨some 65, .bin .add 0, [.t 53, .c (.int .i64 1)], none⟩,
            ⟨some 53, .mv, [.t 65], none⟩]) [2, 4, 8, 11, 51, 52, 53])))) [2, 4, 8, 11, 51, 52, 53])))))
    (.seq (.kpost (.reg [⟨some 66, .load (some 5), [.t 2], none⟩,
        ⟨some 67, .mv, [.t 11], none⟩,
        ⟨some 68, .mv, [.t 8], none⟩,
        ⟨none, .store 5, [.t 4, .t 66], none⟩,
        ⟨some 5, .mv, [.t 67], none⟩,
        ⟨some 6, .mv, [.t 68], none⟩]) [4, 5, 6])
    .ret)))) 0)) }
/-- slices.ContainsFunc[[]waggoner/api.Extent,waggoner/api.Extent] -/
def i150 : IFn := { ns := 18, nt := 9, res := [.t 4], body :=
  (.seq (.kpost (.reg [⟨some 4, .mv, [.c (.bool false)], none⟩]) [0, 1])
  (.seq (.kpost (.reg [⟨some 5, .mv, [.t 0], none⟩,
      ⟨some 6, .mv, [.t 1], none⟩,
      ⟨some 7, .call 178 [0, 1, 2, 3, 4, 5, 6, 7, 8, 9, 10, 11, 12, 13, 14, 15, 16, 17] 0, [.t 5, .t 6], none⟩,
      ⟨some 8, .bin .geq 0, [.t 7, .c (.int .i64 0)], none⟩,
      ⟨some 4, .mv, [.t 8], none⟩]) [4])
  .ret)) }
/-- waggoner/state.upto$1 -/
def i151 : IFn := { ns := 1, nt := 8, res := [.t 3], body :=
  (.seq (.kpost (.reg [⟨some 2, .box 0 48, [.t 0], none⟩,
      ⟨some 3, .mv, [.c (.bool false)], none⟩]) [1, 2])
  (.seq (.kpost (.reg [⟨some 4, .fadr 3, [.t 2], none⟩,
      ⟨some 5, .load none, [.t 4], none⟩,
      ⟨some 6, .load none, [.t 1], none⟩,
      ⟨some 7, .bin .gtr 0, [.t 5, .t 6], none⟩,
      ⟨some 3, .mv, [.t 7], none⟩]) [3])
  .ret)) }
/-- waggoner/extent.Cut -/
def i152 : IFn := { ns := 4, nt := 69, res := [.cell 6 (some 5), .t 7], body :=
  (.seq (.kpost (.reg [⟨some 3, .box 0 48, [.t 0], none⟩,
      ⟨some 6, .alloc 1 48 [.int .i64 0, .int .i64 0, .int .i64 0, .int .i64 0, .nils 5 1], [], none⟩,
      ⟨some 7, .mv, [.c (.bool false)], none⟩]) [1, 2, 3, 6])
  (.seq (.seq (.kpost (.reg [⟨some 11, .load (some 5), [.t 3], none⟩,
       ⟨some 12, .call 75 [] 0, [.t 11], none⟩,
       ⟨some 13, .bnot, [.t 12], none⟩,
       ⟨some 14, .mv, [.t 13], none⟩,
       ⟨some 15, .mv, [.t 1], some (14, false)⟩,
       ⟨some 16, .call 120 [] 0, [.t 15, .c (.int .i64 0), .c (.int .i64 64)], some (14, false)⟩,
       ⟨some 17, .bnot, [.t 16], some (14, false)⟩,
       ⟨some 18, .pick, [.t 14, .c (.bool true), .t 17], none⟩,
       ⟨some 19, .mv, [.t 18], none⟩,
       ⟨some 20, .mv, [.t 2], some (19, false)⟩,
       ⟨some 21, .call 120 [] 0, [.t 20, .c (.int .i64 0), .c (.int .i64 64)], some (19, false)⟩,
       ⟨some 22, .bnot, [.t 21], some (19, false)⟩,
       ⟨some 23, .pick, [.t 19, .c (.bool true), .t 22], none⟩]) [1, 2, 3, 6, 23])
   (.cond (.t 23)
    (.seq (.kpost (.reg [⟨some 24, .build [.int .i64 0, .int .i64 0, .int .i64 0, .int .i64 0, .nils 5 1] [], [], none⟩,
         ⟨none, .store 5, [.t 6, .t 24], none⟩,
         ⟨some 7, .mv, [.c (.bool false)], none⟩]) [6, 7])
     .ret)
    .skip))
  (.seq (.kpost (.regD [⟨some 25, .fadr 0, [.t 3], none⟩,
      ⟨some 26, .load none, [.t 25], none⟩,
      ⟨some 27, .mv, [.t 1], none⟩,
      ⟨some 28, .max2, [.t 26, .t 27], none⟩,
      ⟨some 29, .fadr 0, [.t 3], none⟩,
      ⟨some 30, .load none, [.t 29], none⟩,
      ⟨some 31, .fadr 1, [.t 3], none⟩,
      ⟨some 32, .load none, [.t 31], none⟩,
      ⟨some 33, .bin .add 0, [.t 30, .t 32], none⟩,
      ⟨some 34, .mv, [.t 1], none⟩,
      ⟨some 35, .mv, [.t 2], none⟩,
      ⟨some 36, .bin .add 0, [.t 34, .t 35], none⟩,
      ⟨some 37, .min2, [.t 33, .t 36], none⟩,
      ⟨some 8, .mv, [.t 28], none⟩,
      ⟨some 9, .mv, [.t 37], none⟩] [0, 1, 2, 3, 4, 5, 6, 7, 8, 9, 10, 11, 12, 13, 14] none []) [3, 6, 8, 9])
  (.seq (.seq (.kpost (.reg [⟨some 38, .mv, [.t 8], none⟩,
       ⟨some 39, .mv, [.t 9], none⟩,
       ⟨some 40, .bin .geq 0, [.t 38, .t 39], none⟩]) [3, 6, 8, 9, 40])
   (.cond (.t 40)
    (.seq (.kpost (.reg [⟨some 41, .build [.int .i64 0, .int .i64 0, .int .i64 0, .int .i64 0, .nils 5 1] [], [], none⟩,
         ⟨none, .store 5, [.t 6, .t 41], none⟩,
         ⟨some 7, .mv, [.c (.bool false)], none⟩]) [6, 7])
     .ret)
    .skip))
  (.seq (.kpost (.reg [⟨some 42, .fadr 4, [.t 3], none⟩,
      ⟨some 43, .load none, [.t 42], none⟩,
      ⟨some 10, .mv, [.t 43], none⟩]) [3, 6, 8, 9, 10])
  (.seq (.seq (.kpost (.reg [⟨some 44, .fadr 4, [.t 3], none⟩,
       ⟨none, .store 1, [.t 44, .c (.nils 5 1)], none⟩]) [3, 6, 8, 9, 10])
   (.seq (.kpost (.reg [⟨some 45, .fadr 2, [.t 3], none⟩,
       ⟨some 46, .load none, [.t 45], none⟩,
       ⟨some 47, .bin .eql 0, [.t 46, .c (.int .i64 2)], none⟩]) [3, 6, 8, 9, 10, 47])
   (.cond (.t 47)
    (.kpost (.reg [⟨some 48, .mv, [.t 10], none⟩,
        ⟨some 49, .mv, [.t 8], none⟩,
        ⟨some 50, .fadr 0, [.t 3], none⟩,
        ⟨some 51, .load none, [.t 50], none⟩,
        ⟨some 52, .bin .sub 0, [.t 49, .t 51], none⟩,
        ⟨some 53, .bin .mul 0, [.t 52, .c (.int .i64 32)], none⟩,
        ⟨some 54, .mv, [.t 9], none⟩,
        ⟨some 55, .fadr 0, [.t 3], none⟩,
        ⟨some 56, .load none, [.t 55], none⟩,
        ⟨some 57, .bin .sub 0, [.t 54, .t 56], none⟩,
        ⟨some 58, .bin .mul 0, [.t 57, .c (.int .i64 32)], none⟩,
        ⟨some 59, .slc 5 1 true true false, [.t 48, .t 53, .t 58], none⟩,
        ⟨some 60, .call 74 [2, 3] 1, [.t 59], none⟩,
        ⟨some 61, .fadr 4, [.t 3], none⟩,
        ⟨none, .store 1, [.t 61, .t 60], none⟩]) [3, 6, 8, 9])
    .skip)))
  (.seq (.kpost (.reg [⟨some 62, .mv, [.t 8], none⟩,
      ⟨some 63, .mv, [.t 9], none⟩,
      ⟨some 64, .mv, [.t 8], none⟩,
      ⟨some 65, .bin .sub 0, [.t 63, .t 64], none⟩,
      ⟨some 66, .fadr 0, [.t 3], none⟩,
      ⟨none, .store 1, [.t 66, .t 62], none⟩,
      ⟨some 67, .fadr 1, [.t 3], none⟩,
      ⟨none, .store 1, [.t 67, .t 65], none⟩]) [3, 6])
  (.seq (.kpost (.reg [⟨some 68, .load (some 5), [.t 3], none⟩,
      ⟨none, .store 5, [.t 6, .t 68], none⟩,
      ⟨some 7, .mv, [.c (.bool true)], none⟩]) [6, 7])
  .ret)))))))) }
/-- bytes.Equal -/
def i153 : IFn := { ns := 0, nt := 10, res := [.t 4], body :=
  (.seq (.kpost (.reg [⟨some 4, .mv, [.c (.bool false)], none⟩]) [0, 1])
  (.seq (.kpost (.reg [⟨some 5, .mv, [.t 0], none⟩,
      ⟨some 6, .tostr, [.t 5], none⟩,
      ⟨some 7, .mv, [.t 1], none⟩,
      ⟨some 8, .tostr, [.t 7], none⟩,
      ⟨some 9, .bin .eql 2, [.t 6, .t 8], none⟩,
      ⟨some 4, .mv, [.t 9], none⟩]) [4])
  .ret)) }
/-- waggoner/change.kinds$1 -/
def i154 : IFn := { ns := 1, nt := 7, res := [.t 2], body :=
  (.seq (.kpost (.reg [⟨some 1, .box 0 70, [.t 0], none⟩,
      ⟨some 2, .mv, [.c (.bool false)], none⟩]) [1])
  (.seq (.kpost (.reg [⟨some 3, .fadr 4, [.t 1], none⟩,
      ⟨some 4, .load none, [.t 3], none⟩,
      ⟨some 5, .len, [.t 4], none⟩,
      ⟨some 6, .bin .eql 0, [.t 5, .c (.int .i64 0)], none⟩,
      ⟨some 2, .mv, [.t 6], none⟩]) [2])
  .ret)) }
/-- waggoner/change.kinds$2 -/
def i155 : IFn := { ns := 1, nt := 7, res := [.t 2], body :=
  (.seq (.kpost (.reg [⟨some 1, .box 0 70, [.t 0], none⟩,
      ⟨some 2, .mv, [.c (.bool false)], none⟩]) [1])
  (.seq (.kpost (.reg [⟨some 3, .fadr 4, [.t 1], none⟩,
      ⟨some 4, .load none, [.t 3], none⟩,
      ⟨some 5, .len, [.t 4], none⟩,
      ⟨some 6, .call 109 [] 0, [.t 5, .c (.int .i64 1), .c (.int .i64 1000)], none⟩,
      ⟨some 2, .mv, [.t 6], none⟩]) [2])
  .ret)) }
/-- waggoner/change.kinds$3 -/
def i156 : IFn := { ns := 1, nt := 10, res := [.t 2], body :=
  (.seq (.kpost (.reg [⟨some 1, .box 0 70, [.t 0], none⟩,
      ⟨some 2, .mv, [.c (.bool false)], none⟩]) [1])
  (.seq (.kpost (.reg [⟨some 3, .fadr 4, [.t 1], none⟩,
      ⟨some 4, .load none, [.t 3], none⟩,
      ⟨some 5, .len, [.t 4], none⟩,
      ⟨some 6, .fadr 2, [.t 1], none⟩,
      ⟨some 7, .load none, [.t 6], none⟩,
      ⟨some 8, .bin .mul 0, [.t 7, .c (.int .i64 32)], none⟩,
      ⟨some 9, .bin .eql 0, [.t 5, .t 8], none⟩,
      ⟨some 2, .mv, [.t 9], none⟩]) [2])
  .ret)) }
/-- (*waggoner/state.volume).lay -/
def i157 : IFn := { ns := 4, nt := 45, res := [.t 4], body :=
  (.seq (.kpost (.reg [⟨some 4, .mv, [.c (.int .i64 0)], none⟩]) [0, 1])
  (.seq (.kpost (.reg [⟨some 9, .mv, [.t 1], none⟩,
      ⟨some 10, .call 72 [0, 1] 1, [.t 9], none⟩,
      ⟨some 5, .mv, [.t 10], none⟩]) [0, 5])
  (.seq (.seq (.kpost (.reg [⟨some 11, .mv, [.t 5], none⟩,
       ⟨some 12, .len, [.t 11], none⟩,
       ⟨some 13, .mv, [.c (.int .i64 0)], none⟩]) [0, 5, 12, 13])
   (.block 0 (.kpre [0, 5, 12, 13] (.loop (.kpost (.seq (.kpost (.reg [⟨some 14, .bin .lss 0, [.t 13, .t 12], none⟩]) [0, 5, 12, 13, 14])
       (.seq (.cond (.t 14)
         .skip
         (.exit 0))
       (.seq (.block 1 (.seq (.kpost (.reg [⟨some 15, .mv, [.t 13], none⟩,
             ⟨some 6, .mv, [.t 15], none⟩]) [0, 5, 6, 12, 13])
         (.kpost (.reg [⟨some 16, .mv, [.t 5], none⟩,
            ⟨some 17, .mv, [.t 6], none⟩,
            ⟨some 18, .mv, [.t 0], none⟩,
            ⟨some 19, .nilchk, [.t 18], none⟩,
            ⟨some 20, .fadr 1, [.t 19], none⟩,
            ⟨some 21, .load none, [.t 20], none⟩,
            ⟨some 22, .iadr 5, [.t 16, .t 17], none⟩,
            ⟨some 23, .fadr 3, [.t 22], none⟩,
            ⟨none, .store 1, [.t 23, .t 21], none⟩]) [0, 5, 12, 13])))
       (.kpost (.reg [⟨some 24, .bin .add 0, [.t 13, .c (.int .i64 1)], none⟩,
          ⟨some 13, .mv, [.t 24], none⟩]) [0, 5, 12, 13])))) [0, 5, 12, 13])))))
  (.seq (.kpost (.regD [⟨some 26, .mv, [.t 0], none⟩,
      ⟨some 27, .nilchk, [.t 26], none⟩,
      ⟨some 28, .fadr 0, [.t 27], none⟩,
      ⟨some 29, .load none, [.t 28], none⟩,
      ⟨some 30, .mv, [.t 0], none⟩,
      ⟨some 31, .nilchk, [.t 30], none⟩,
      ⟨some 32, .fadr 2, [.t 31], none⟩,
      ⟨some 33, .load none, [.t 32], none⟩,
      ⟨some 34, .mv, [.t 5], none⟩,
      ⟨some 35, .call 179 [2, 3] 1, [.t 29, .t 33, .t 34], none⟩,
      ⟨some 25, .mv, [.t 35], none⟩,
      ⟨some 36, .extr 0, [.t 25], none⟩,
      ⟨some 37, .extr 1, [.t 25], none⟩,
      ⟨some 7, .mv, [.t 36], none⟩,
      ⟨some 8, .mv, [.t 37], none⟩] [0, 1, 2, 3, 4, 5, 6, 7, 8, 9, 10, 11, 12, 13, 14] none []) [0, 7, 8])
  (.seq (.seq (.kpost (.reg [⟨some 38, .mv, [.t 8], none⟩,
       ⟨some 39, .bin .eql 0, [.t 38, .c (.int .i64 0)], none⟩]) [0, 7, 8, 39])
   (.cond (.t 39)
    (.kpost (.reg [⟨some 40, .mv, [.t 0], none⟩,
        ⟨some 41, .mv, [.t 7], none⟩,
        ⟨some 42, .nilchk, [.t 40], none⟩,
        ⟨some 43, .fadr 2, [.t 42], none⟩,
        ⟨none, .store 1, [.t 43, .t 41], none⟩]) [8])
    .skip))
  (.seq (.kpost (.reg [⟨some 44, .mv, [.t 8], none⟩,
      ⟨some 4, .mv, [.t 44], none⟩]) [4])
  .ret)))))) }
/-- slices.IndexFunc[[]waggoner/api.Point,waggoner/api.Point] -/
def i158 : IFn := { ns := 16, nt := 19, res := [.t 4], body :=
  (.seq (.kpost (.reg [⟨some 4, .mv, [.c (.int .i64 0)], none⟩]) [0, 1])
  (.seq (.seq (.kpost (.reg [⟨some 6, .mv, [.t 0], none⟩,
       ⟨some 7, .len, [.t 6], none⟩,
       ⟨some 8, .mv, [.c (.int .i64 0)], none⟩]) [0, 1, 7, 8])
   (.block 0 (.kpre [0, 1, 7, 8] (.loop (.kpost (.seq (.kpost (.reg [⟨some 9, .bin .lss 0, [.t 8, .t 7], none⟩]) [0, 1, 7, 8, 9])
       (.seq (.cond (.t 9)
         .skip
         (.exit 0))
       (.seq (.block 1 (.seq (.kpost (.reg [⟨some 10, .mv, [.t 8], none⟩,
             ⟨some 5, .mv, [.t 10], none⟩]) [0, 1, 5, 7, 8])
         (.seq (.kpost (.reg [⟨some 11, .mv, [.t 1], none⟩,
             ⟨some 12, .mv, [.t 0], none⟩,
             ⟨some 13, .mv, [.t 5], none⟩,
             ⟨some 14, .iadr 3, [.t 12, .t 13], none⟩,
             ⟨some 15, .load (some 3), [.t 14], none⟩,
             ⟨some 16, .callv [0, 1, 2, 3, 4, 5, 6, 7, 8, 9, 10, 11, 12, 13, 14, 15] 0, [.t 11, .t 15], none⟩]) [0, 1, 5, 7, 8, 16])
         (.cond (.t 16)
          (.seq (.kpost (.reg [⟨some 17, .mv, [.t 5], none⟩,
               ⟨some 4, .mv, [.t 17], none⟩]) [4])
           .ret)
          .skip))))
       (.kpost (.reg [⟨some 18, .bin .add 0, [.t 8, .c (.int .i64 1)], none⟩,
          ⟨some 8, .mv, [.t 18], none⟩]) [0, 1, 7, 8])))) [0, 1, 7, 8])))))
  (.seq (.kpost (.reg [⟨some 4, .mv, [.c (.int .i64 (-1))], none⟩]) [4])
  .ret))) }
/-- (*waggoner/state.volume).drop$1 -/
def i159 : IFn := { ns := 1, nt := 9, res := [.t 3], body :=
  (.seq (.kpost (.reg [⟨some 2, .box 0 95, [.t 0], none⟩,
      ⟨some 3, .mv, [.c (.bool false)], none⟩]) [1, 2])
  (.seq (.kpost (.reg [⟨some 4, .fadr 0, [.t 2], none⟩,
      ⟨some 5, .load none, [.t 4], none⟩,
      ⟨some 6, .fadr 3, [.t 1], none⟩,
      ⟨some 7, .load none, [.t 6], none⟩,
      ⟨some 8, .bin .eql 0, [.t 5, .t 7], none⟩,
      ⟨some 3, .mv, [.t 8], none⟩]) [3])
  .ret)) }
/-- slices.Delete[[]waggoner/api.Point,waggoner/api.Point] -/
def i160 : IFn := { ns := 1, nt := 33, res := [.t 6], body :=
  (.seq (.kpost (.reg [⟨some 6, .mv, [.c (.nils 95 3)], none⟩]) [0, 1, 2])
  (.seq (.kpost (.reg [⟨some 8, .mv, [.t 0], none⟩,
      ⟨some 9, .mv, [.t 1], none⟩,
      ⟨some 10, .mv, [.t 2], none⟩,
      ⟨some 11, .mv, [.t 0], none⟩,
      ⟨some 12, .len, [.t 11], none⟩,
      ⟨some 13, .slc 95 3 true true true, [.t 8, .t 9, .t 10, .t 12], none⟩]) [0, 1, 2])
  (.seq (.seq (.kpost (.reg [⟨some 14, .mv, [.t 1], none⟩,
       ⟨some 15, .mv, [.t 2], none⟩,
       ⟨some 16, .bin .eql 0, [.t 14, .t 15], none⟩]) [0, 1, 2, 16])
   (.cond (.t 16)
    (.seq (.kpost (.reg [⟨some 17, .mv, [.t 0], none⟩,
         ⟨some 6, .mv, [.t 17], none⟩]) [6])
     .ret)
    .skip))
  (.seq (.kpost (.reg [⟨some 18, .mv, [.t 0], none⟩,
      ⟨some 19, .len, [.t 18], none⟩,
      ⟨some 7, .mv, [.t 19], none⟩]) [0, 1, 2, 7])
  (.seq (.kpost (.regD [⟨some 20, .mv, [.t 0], none⟩,
      ⟨some 21, .mv, [.t 1], none⟩,
      ⟨some 22, .slc 95 3 false true false, [.t 20, .t 21], none⟩,
      ⟨some 23, .mv, [.t 0], none⟩,
      ⟨some 24, .mv, [.t 2], none⟩,
      ⟨some 25, .slc 95 3 true false false, [.t 23, .t 24], none⟩,
      ⟨some 26, .app 0 95 3 40, [.t 22, .t 25], none⟩,
      ⟨some 0, .mv, [.t 26], none⟩] [0, 1, 2, 3, 4, 5, 6, 7] none []) [0, 7])
  (.seq (.kpost (.reg [⟨some 27, .mv, [.t 0], none⟩,
      ⟨some 28, .mv, [.t 0], none⟩,
      ⟨some 29, .len, [.t 28], none⟩,
      ⟨some 30, .mv, [.t 7], none⟩,
      ⟨some 31, .slc 95 3 true true false, [.t 27, .t 29, .t 30], none⟩,
      ⟨none, .clear [.int .i64 0, .int .i64 0, .imm 5 []], [.t 31], none⟩]) [0])
  (.seq (.kpost (.reg [⟨some 32, .mv, [.t 0], none⟩,
      ⟨some 6, .mv, [.t 32], none⟩]) [6])
  .ret))))))) }
/-- slices.ContainsFunc[[]waggoner/api.Cell,waggoner/api.Cell] -/
def i161 : IFn := { ns := 18, nt := 9, res := [.t 4], body :=
  (.seq (.kpost (.reg [⟨some 4, .mv, [.c (.bool false)], none⟩]) [0, 1])
  (.seq (.kpost (.reg [⟨some 5, .mv, [.t 0], none⟩,
      ⟨some 6, .mv, [.t 1], none⟩,
      ⟨some 7, .call 180 [0, 1, 2, 3, 4, 5, 6, 7, 8, 9, 10, 11, 12, 13, 14, 15, 16, 17] 0, [.t 5, .t 6], none⟩,
      ⟨some 8, .bin .geq 0, [.t 7, .c (.int .i64 0)], none⟩,
      ⟨some 4, .mv, [.t 8], none⟩]) [4])
  .ret)) }
/-- waggoner/image.Check$1 -/
def i162 : IFn := { ns := 1, nt := 24, res := [.t 2], body :=
  (.seq (.kpost (.reg [⟨some 1, .box 0 90, [.t 0], none⟩,
      ⟨some 2, .mv, [.c (.bool false)], none⟩]) [1])
  (.seq (.kpost (.reg [⟨some 3, .fadr 0, [.t 1], none⟩,
      ⟨some 4, .load none, [.t 3], none⟩,
      ⟨some 5, .call 78 [] 0, [.t 4, .c (.int .i64 0), .c (.int .i64 2)], none⟩,
      ⟨some 6, .bnot, [.t 5], none⟩,
      ⟨some 7, .mv, [.t 6], none⟩,
      ⟨some 8, .fadr 1, [.t 1], some (7, false)⟩,
      ⟨some 9, .load none, [.t 8], some (7, false)⟩,
      ⟨some 10, .call 78 [] 0, [.t 9, .c (.int .i64 0), .c (.int .i64 2147483647)], some (7, false)⟩,
      ⟨some 11, .bnot, [.t 10], some (7, false)⟩,
      ⟨some 12, .pick, [.t 7, .c (.bool true), .t 11], none⟩,
      ⟨some 13, .mv, [.t 12], none⟩,
      ⟨some 14, .fadr 0, [.t 1], some (13, false)⟩,
      ⟨some 15, .load none, [.t 14], some (13, false)⟩,
      ⟨some 16, .bin .neq 0, [.t 15, .c (.int .i64 2)], some (13, false)⟩,
      ⟨some 17, .mv, [.t 16], some (13, false)⟩,
      ⟨some 18, .fadr 2, [.t 1], some (17, true)⟩,
      ⟨some 19, .load (some 32), [.t 18], some (17, true)⟩,
      ⟨some 20, .build [.int .u8 0, .int .u8 0, .int .u8 0, .int .u8 0, .int .u8 0, .int .u8 0, .int .u8 0, .int .u8 0, .int .u8 0, .int .u8 0, .int .u8 0, .int .u8 0, .int .u8 0, .int .u8 0, .int .u8 0, .int .u8 0, .int .u8 0, .int .u8 0, .int .u8 0, .int .u8 0, .int .u8 0, .int .u8 0, .int .u8 0, .int .u8 0, .int .u8 0, .int .u8 0, .int .u8 0, .int .u8 0, .int .u8 0, .int .u8 0, .int .u8 0, .int .u8 0] [], [], some (17, true)⟩,
      ⟨some 21, .eqs true [0, 0, 0, 0, 0, 0, 0, 0, 0, 0, 0, 0, 0, 0, 0, 0, 0, 0, 0, 0, 0, 0, 0, 0, 0, 0, 0, 0, 0, 0, 0, 0], [.t 19, .t 20], some (17, true)⟩,
      ⟨some 22, .pick, [.t 17, .t 21, .c (.bool false)], some (13, false)⟩,
      ⟨some 23, .pick, [.t 13, .c (.bool true), .t 22], none⟩,
      ⟨some 2, .mv, [.t 23], none⟩]) [2])
  .ret)) }
/-- waggoner/dev.does -/
def i163 : IFn := { ns := 1, nt := 3, res := [.t 0], body :=
  (.seq (.kpost (.reg [⟨some 0, .mv, [.c (.nilm)], none⟩]) [])
  (.seq (.kpost (.reg [⟨some 1, .mkmap 0, [], none⟩,
      ⟨none, .mapset, [.t 1, .c (.int .i64 1), .c (.fn 181 [] [])], none⟩,
      ⟨none, .mapset, [.t 1, .c (.int .i64 2), .c (.fn 182 [] [])], none⟩,
      ⟨none, .mapset, [.t 1, .c (.int .i64 3), .c (.fn 183 [] [])], none⟩,
      ⟨none, .mapset, [.t 1, .c (.int .i64 4), .c (.fn 184 [] [])], none⟩,
      ⟨some 2, .mv, [.t 1], none⟩,
      ⟨some 0, .mv, [.t 2], none⟩]) [0])
  .ret)) }
/-- waggoner/zone.Flush -/
def i164 : IFn := { ns := 22, nt := 9, res := [.cell 2 (some 4)], body :=
  (.seq (.kpost (.reg [⟨some 1, .box 0 54, [.t 0], none⟩,
      ⟨some 2, .alloc 1 54 [.int .i64 0, .int .i64 0, .nils 5 1, .int .i64 0], [], none⟩]) [1, 2])
  (.seq (.kpost (.reg [⟨some 4, .load (some 4), [.t 1], none⟩,
      ⟨some 5, .call 130 [2, 3, 4, 5, 6, 7, 8, 9, 10, 11, 12, 13, 14, 15, 16, 17, 18, 19, 20, 21] 1, [.t 4, .c (.bool true), .c (.fn 185 [] [])], none⟩,
      ⟨some 3, .mv, [.t 5], none⟩,
      ⟨some 6, .extr 0, [.t 3], none⟩,
      ⟨some 7, .extr 1, [.t 3], none⟩,
      ⟨none, .store 4, [.t 1, .t 6], none⟩]) [1, 2])
  (.seq (.kpost (.reg [⟨some 8, .load (some 4), [.t 1], none⟩,
      ⟨none, .store 4, [.t 2, .t 8], none⟩]) [2])
  .ret))) }
/-- slices.IndexFunc[[]waggoner/api.Zone,waggoner/api.Zone] -/
def i165 : IFn := { ns := 16, nt := 19, res := [.t 4], body :=
  (.seq (.kpost (.reg [⟨some 4, .mv, [.c (.int .i64 0)], none⟩]) [0, 1])
  (.seq (.seq (.kpost (.reg [⟨some 6, .mv, [.t 0], none⟩,
       ⟨some 7, .len, [.t 6], none⟩,
       ⟨some 8, .mv, [.c (.int .i64 0)], none⟩]) [0, 1, 7, 8])
   (.block 0 (.kpre [0, 1, 7, 8] (.loop (.kpost (.seq (.kpost (.reg [⟨some 9, .bin .lss 0, [.t 8, .t 7], none⟩]) [0, 1, 7, 8, 9])
       (.seq (.cond (.t 9)
         .skip
         (.exit 0))
       (.seq (.block 1 (.seq (.kpost (.reg [⟨some 10, .mv, [.t 8], none⟩,
             ⟨some 5, .mv, [.t 10], none⟩]) [0, 1, 5, 7, 8])
         (.seq (.kpost (.reg [⟨some 11, .mv, [.t 1], none⟩,
             ⟨some 12, .mv, [.t 0], none⟩,
             ⟨some 13, .mv, [.t 5], none⟩,
             ⟨some 14, .iadr 4, [.t 12, .t 13], none⟩,
             ⟨some 15, .load (some 4), [.t 14], none⟩,
             ⟨some 16, .callv [0, 1, 2, 3, 4, 5, 6, 7, 8, 9, 10, 11, 12, 13, 14, 15] 0, [.t 11, .t 15], none⟩]) [0, 1, 5, 7, 8, 16])
         (.cond (.t 16)
          (.seq (.kpost (.reg [⟨some 17, .mv, [.t 5], none⟩,
               ⟨some 4, .mv, [.t 17], none⟩]) [4])
           .ret)
          .skip))))
       (.kpost (.reg [⟨some 18, .bin .add 0, [.t 8, .c (.int .i64 1)], none⟩,
          ⟨some 8, .mv, [.t 18], none⟩]) [0, 1, 7, 8])))) [0, 1, 7, 8])))))
  (.seq (.kpost (.reg [⟨some 4, .mv, [.c (.int .i64 (-1))], none⟩]) [4])
  .ret))) }
/-- waggoner/zone.takes -/
def i166 : IFn := { ns := 1, nt := 10, res := [.t 2], body :=
  (.seq (.kpost (.reg [⟨some 1, .box 0 54, [.t 0], none⟩,
      ⟨some 2, .mv, [.c (.bool false)], none⟩]) [1])
  (.seq (.seq (.kpost (.reg [⟨some 3, .fadr 0, [.t 1], none⟩,
       ⟨some 4, .load none, [.t 3], none⟩]) [4])
   (.block 0 (.seq (.block 2 (.block 1 (.seq (.seq (.seq (.kpost (.reg [⟨some 6, .bin .eql 0, [.t 4, .c (.int .i64 0)], none⟩,
             ⟨some 5, .mv, [.t 6], none⟩]) [4, 5])
         (.cond (.t 5)
          (.exit 1)
          .skip))
        (.seq (.seq (.kpost (.reg [⟨some 8, .bin .eql 0, [.t 4, .c (.int .i64 1)], none⟩,
             ⟨some 7, .mv, [.t 8], none⟩]) [4, 7])
         (.cond (.t 7)
          .skip
          (.kpost (.reg [⟨some 9, .bin .eql 0, [.t 4, .c (.int .i64 2)], none⟩,
              ⟨some 7, .mv, [.t 9], none⟩]) [7])))
        (.cond (.t 7)
         (.exit 2)
         .skip)))
       (.exit 0))))
    (.seq (.seq (.kpost (.reg [⟨some 2, .mv, [.c (.bool true)], none⟩]) [2])
     .ret)
    (.exit 0)))))
  (.seq (.kpost (.reg [⟨some 2, .mv, [.c (.bool false)], none⟩]) [2])
  .ret))) }
/-- waggoner/record.Check -/
def i167 : IFn := { ns := 1, nt := 27, res := [.t 2], body :=
  (.seq (.kpost (.reg [⟨some 1, .box 0 116, [.t 0], none⟩,
      ⟨some 2, .mv, [.c (.int .i64 0)], none⟩]) [1])
  (.seq (.seq (.kpost (.reg [⟨some 3, .fadr 0, [.t 1], none⟩,
       ⟨some 4, .load none, [.t 3], none⟩,
       ⟨some 5, .bin .lss 0, [.t 4, .c (.int .i64 1)], none⟩,
       ⟨some 6, .mv, [.t 5], none⟩,
       ⟨some 7, .fadr 0, [.t 1], some (6, false)⟩,
       ⟨some 8, .load none, [.t 7], some (6, false)⟩,
       ⟨some 9, .bin .gtr 0, [.t 8, .c (.int .i64 5)], some (6, false)⟩,
       ⟨some 10, .pick, [.t 6, .c (.bool true), .t 9], none⟩,
       ⟨some 11, .mv, [.t 10], none⟩,
       ⟨some 12, .fadr 1, [.t 1], some (11, false)⟩,
       ⟨some 13, .load none, [.t 12], some (11, false)⟩,
       ⟨some 14, .bin .lss 0, [.t 13, .c (.int .i64 0)], some (11, false)⟩,
       ⟨some 15, .pick, [.t 11, .c (.bool true), .t 14], none⟩,
       ⟨some 16, .mv, [.t 15], none⟩,
       ⟨some 17, .fadr 1, [.t 1], some (16, false)⟩,
       ⟨some 18, .load none, [.t 17], some (16, false)⟩,
       ⟨some 19, .bin .gtr 0, [.t 18, .c (.int .i64 4611686018427387903)], some (16, false)⟩,
       ⟨some 20, .pick, [.t 16, .c (.bool true), .t 19], none⟩,
       ⟨some 21, .mv, [.t 20], none⟩,
       ⟨some 22, .fadr 2, [.t 1], some (21, false)⟩,
       ⟨some 23, .load none, [.t 22], some (21, false)⟩,
       ⟨some 24, .len, [.t 23], some (21, false)⟩,
       ⟨some 25, .bin .gtr 0, [.t 24, .c (.int .i64 4096)], some (21, false)⟩,
       ⟨some 26, .pick, [.t 21, .c (.bool true), .t 25], none⟩]) [26])
   (.cond (.t 26)
    (.seq (.kpost (.reg [⟨some 2, .mv, [.c (.int .i64 50)], none⟩]) [2])
     .ret)
    .skip))
  (.seq (.kpost (.reg [⟨some 2, .mv, [.c (.int .i64 0)], none⟩]) [2])
  .ret))) }
/-- slices.insertionSortCmpFunc[waggoner/api.Found] -/
def i168 : IFn := { ns := 16, nt := 53, res := [], body :=
  (.seq (.kpost (.reg [⟨some 10, .mv, [.t 1], none⟩,
      ⟨some 11, .bin .add 0, [.t 10, .c (.int .i64 1)], none⟩,
      ⟨some 8, .mv, [.t 11], none⟩]) [0, 1, 2, 3, 8])
  (.block 0 (.kpre [0, 1, 2, 3, 8] (.loop (.kpost (.seq (.seq (.kpost (.reg [⟨some 12, .mv, [.t 8], none⟩,
           ⟨some 13, .mv, [.t 2], none⟩,
           ⟨some 14, .bin .lss 0, [.t 12, .t 13], none⟩]) [0, 1, 2, 3, 8, 14])
       (.cond (.t 14)
        .skip
        (.exit 0)))
      (.seq (.block 1 (.seq (.kpost (.reg [⟨some 17, .mv, [.t 8], none⟩,
            ⟨some 9, .mv, [.t 17], none⟩]) [0, 1, 2, 3, 8, 9])
        (.block 2 (.kpre [0, 1, 2, 3, 8, 9] (.loop (.kpost (.seq (.seq (.kpost (.regD [⟨some 18, .mv, [.t 9], none⟩,
                 ⟨some 19, .mv, [.t 1], none⟩,
                 ⟨some 20, .bin .gtr 0, [.t 18, .t 19], none⟩,
                 ⟨some 21, .mv, [.t 20], none⟩,
                 ⟨some 22, .mv, [.t 3], some (21, true)⟩,
                 ⟨some 23, .mv, [.t 0], some (21, true)⟩,
                 ⟨some 24, .mv, [.t 9], some (21, true)⟩,
                 ⟨some 25, .iadr 5, [.t 23, .t 24], some (21, true)⟩,
                 ⟨some 26, .load (some 5), [.t 25], some (21, true)⟩,
                 ⟨some 27, .mv, [.t 0], some (21, true)⟩,
                 ⟨some 28, .mv, [.t 9], some (21, true)⟩,
                 ⟨some 29, .bin .sub 0, [.t 28, .c (.int .i64 1)], some (21, true)⟩,
                 ⟨some 30, .iadr 5, [.t 27, .t 29], some (21, true)⟩,
                 ⟨some 31, .load (some 5), [.t 30], some (21, true)⟩,
                 ⟨some 32, .callv [0, 1, 2, 3, 4, 5, 6, 7, 8, 9, 10, 11, 12, 13, 14, 15] 0, [.t 22, .t 26, .t 31], some (21, true)⟩,
                 ⟨some 33, .bin .lss 0, [.t 32, .c (.int .i64 0)], some (21, true)⟩,
                 ⟨some 34, .pick, [.t 21, .t 33, .c (.bool false)], none⟩] [0, 1, 2, 3, 4, 5, 6, 7, 8, 9, 10, 11, 12, 13, 14, 15, 16] none []) [0, 1, 2, 3, 8, 9, 34])
             (.cond (.t 34)
              .skip
              (.exit 2)))
            (.seq (.block 3 (.kpost (.regD [⟨some 37, .mv, [.t 0], none⟩,
                 ⟨some 38, .mv, [.t 9], none⟩,
                 ⟨some 39, .mv, [.t 0], none⟩,
                 ⟨some 40, .mv, [.t 9], none⟩,
                 ⟨some 41, .bin .sub 0, [.t 40, .c (.int .i64 1)], none⟩,
                 ⟨some 42, .mv, [.t 0], none⟩,
                 ⟨some 43, .mv, [.t 9], none⟩,
                 ⟨some 44, .bin .sub 0, [.t 43, .c (.int .i64 1)], none⟩,
                 ⟨some 45, .iadr 5, [.t 42, .t 44], none⟩,
                 ⟨some 46, .load (some 5), [.t 45], none⟩,
                 ⟨some 47, .mv, [.t 0], none⟩,
                 ⟨some 48, .mv, [.t 9], none⟩,
                 ⟨some 49, .iadr 5, [.t 47, .t 48], none⟩,
                 ⟨some 50, .load (some 5), [.t 49], none⟩,
                 ⟨some 51, .iadr 5, [.t 37, .t 38], none⟩,
                 ⟨none, .store 5, [.t 51, .t 46], none⟩,
                 ⟨some 52, .iadr 5, [.t 39, .t 41], none⟩,
                 ⟨none, .store 5, [.t 52, .t 50], none⟩] [0, 1, 2, 3, 4, 5, 6, 7, 8, 9, 10, 11, 12, 13, 14, 15, 16, 17] none [(4, 15)]) [0, 1, 2, 3, 8, 9]))
            (.kpost (.reg [⟨some 35, .mv, [.t 9], none⟩,
               ⟨some 36, .bin .sub 0, [.t 35, .c (.int .i64 1)], none⟩,
               ⟨some 9, .mv, [.t 36], none⟩]) [0, 1, 2, 3, 8, 9]))) [0, 1, 2, 3, 8, 9]))))))
      (.kpost (.reg [⟨some 15, .mv, [.t 8], none⟩,
         ⟨some 16, .bin .add 0, [.t 15, .c (.int .i64 1)], none⟩,
         ⟨some 8, .mv, [.t 16], none⟩]) [0, 1, 2, 3, 8]))) [0, 1, 2, 3, 8]))))) }
/-- slices.symMergeCmpFunc[waggoner/api.Found] -/
def i169 : IFn := { ns := 102, nt := 220, res := [], body :=
  (.seq (.seq (.kpost (.reg [⟨some 25, .mv, [.t 2], none⟩,
       ⟨some 26, .mv, [.t 1], none⟩,
       ⟨some 27, .bin .sub 0, [.t 25, .t 26], none⟩,
       ⟨some 28, .bin .eql 0, [.t 27, .c (.int .i64 1)], none⟩]) [0, 1, 2, 3, 4, 28])
   (.cond (.t 28)
    (.seq (.kpost (.reg [⟨some 29, .mv, [.t 2], none⟩,
         ⟨some 10, .mv, [.t 29], none⟩]) [0, 1, 3, 4, 10])
     (.seq (.kpost (.reg [⟨some 30, .mv, [.t 3], none⟩,
         ⟨some 11, .mv, [.t 30], none⟩]) [0, 1, 4, 10, 11])
     (.seq (.block 0 (.kpre [0, 1, 4, 10, 11] (.loop (.kpost (.seq (.seq (.kpost (.reg [⟨some 31, .mv, [.t 10], none⟩,
               ⟨some 32, .mv, [.t 11], none⟩,
               ⟨some 33, .bin .lss 0, [.t 31, .t 32], none⟩]) [0, 1, 4, 10, 11, 33])
           (.cond (.t 33)
            .skip
            (.exit 0)))
          (.block 1 (.seq (.kpost (.reg [⟨some 34, .mv, [.t 10], none⟩,
               ⟨some 35, .mv, [.t 11], none⟩,
               ⟨some 36, .bin .add 0, [.t 34, .t 35], none⟩,
               ⟨some 37, .conv .u64, [.t 36], none⟩,
               ⟨some 38, .bin .shr 0, [.t 37, .c (.int .u64 1)], none⟩,
               ⟨some 39, .conv .i64, [.t 38], none⟩,
               ⟨some 12, .mv, [.t 39], none⟩]) [0, 1, 4, 10, 11, 12])
           (.seq (.kpost (.regD [⟨some 40, .mv, [.t 4], none⟩,
               ⟨some 41, .mv, [.t 0], none⟩,
               ⟨some 42, .mv, [.t 12], none⟩,
               ⟨some 43, .iadr 5, [.t 41, .t 42], none⟩,
               ⟨some 44, .load (some 5), [.t 43], none⟩,
               ⟨some 45, .mv, [.t 0], none⟩,
               ⟨some 46, .mv, [.t 1], none⟩,
               ⟨some 47, .iadr 5, [.t 45, .t 46], none⟩,
               ⟨some 48, .load (some 5), [.t 47], none⟩,
               ⟨some 49, .callv [0, 1, 2, 3, 4, 5, 6, 7, 8, 9, 10, 11, 12, 13, 14, 15] 0, [.t 40, .t 44, .t 48], none⟩,
               ⟨some 50, .bin .lss 0, [.t 49, .c (.int .i64 0)], none⟩] [0, 1, 2, 3, 4, 5, 6, 7, 8, 9, 10] none []) [0, 1, 4, 10, 11, 12, 50])
           (.cond (.t 50)
            (.kpost (.reg [⟨some 51, .mv, [.t 12], none⟩,
                ⟨some 52, .bin .add 0, [.t 51, .c (.int .i64 1)], none⟩,
                ⟨some 10, .mv, [.t 52], none⟩]) [0, 1, 4, 10, 11])
            (.kpost (.reg [⟨some 53, .mv, [.t 12], none⟩,
                ⟨some 11, .mv, [.t 53], none⟩]) [0, 1, 4, 10, 11])))))) [0, 1, 4, 10, 11]))))
     (.seq (.seq (.kpost (.reg [⟨some 54, .mv, [.t 1], none⟩,
          ⟨some 13, .mv, [.t 54], none⟩]) [0, 10, 13])
      (.block 2 (.kpre [0, 10, 13] (.loop (.kpost (.seq (.seq (.kpost (.reg [⟨some 55, .mv, [.t 13], none⟩,
               ⟨some 56, .mv, [.t 10], none⟩,
               ⟨some 57, .bin .sub 0, [.t 56, .c (.int .i64 1)], none⟩,
               ⟨some 58, .bin .lss 0, [.t 55, .t 57], none⟩]) [0, 10, 13, 58])
           (.cond (.t 58)
            .skip
            (.exit 2)))
          (.seq (.block 3 (.kpost (.regD [⟨some 61, .mv, [.t 0], none⟩,
               ⟨some 62, .mv, [.t 13], none⟩,
               ⟨some 63, .mv, [.t 0], none⟩,
               ⟨some 64, .mv, [.t 13], none⟩,
               ⟨some 65, .bin .add 0, [.t 64, .c (.int .i64 1)], none⟩,
               ⟨some 66, .mv, [.t 0], none⟩,
               ⟨some 67, .mv, [.t 13], none⟩,
               ⟨some 68, .bin .add 0, [.t 67, .c (.int .i64 1)], none⟩,
               ⟨some 69, .iadr 5, [.t 66, .t 68], none⟩,
               ⟨some 70, .load (some 5), [.t 69], none⟩,
               ⟨some 71, .mv, [.t 0], none⟩,
               ⟨some 72, .mv, [.t 13], none⟩,
               ⟨some 73, .iadr 5, [.t 71, .t 72], none⟩,
               ⟨some 74, .load (some 5), [.t 73], none⟩,
               ⟨some 75, .iadr 5, [.t 61, .t 62], none⟩,
               ⟨none, .store 5, [.t 75, .t 70], none⟩,
               ⟨some 76, .iadr 5, [.t 63, .t 65], none⟩,
               ⟨none, .store 5, [.t 76, .t 74], none⟩] [0, 1, 2, 3, 4, 5, 6, 7, 8, 9, 10, 11, 12, 13, 14, 15, 16, 17] none [(4, 15)]) [0, 10, 13]))
          (.kpost (.reg [⟨some 59, .mv, [.t 13], none⟩,
             ⟨some 60, .bin .add 0, [.t 59, .c (.int .i64 1)], none⟩,
             ⟨some 13, .mv, [.t 60], none⟩]) [0, 10, 13]))) [0, 10, 13])))))
     .ret))))
    .skip))
  (.seq (.seq (.kpost (.reg [⟨some 77, .mv, [.t 3], none⟩,
       ⟨some 78, .mv, [.t 2], none⟩,
       ⟨some 79, .bin .sub 0, [.t 77, .t 78], none⟩,
       ⟨some 80, .bin .eql 0, [.t 79, .c (.int .i64 1)], none⟩]) [0, 1, 2, 3, 4, 80])
   (.cond (.t 80)
    (.seq (.kpost (.reg [⟨some 81, .mv, [.t 1], none⟩,
         ⟨some 14, .mv, [.t 81], none⟩]) [0, 2, 4, 14])
     (.seq (.kpost (.reg [⟨some 82, .mv, [.t 2], none⟩,
         ⟨some 15, .mv, [.t 82], none⟩]) [0, 2, 4, 14, 15])
     (.seq (.block 4 (.kpre [0, 2, 4, 14, 15] (.loop (.kpost (.seq (.seq (.kpost (.reg [⟨some 83, .mv, [.t 14], none⟩,
               ⟨some 84, .mv, [.t 15], none⟩,
               ⟨some 85, .bin .lss 0, [.t 83, .t 84], none⟩]) [0, 2, 4, 14, 15, 85])
           (.cond (.t 85)
            .skip
            (.exit 4)))
          (.block 5 (.seq (.kpost (.reg [⟨some 86, .mv, [.t 14], none⟩,
               ⟨some 87, .mv, [.t 15], none⟩,
               ⟨some 88, .bin .add 0, [.t 86, .t 87], none⟩,
               ⟨some 89, .conv .u64, [.t 88], none⟩,
               ⟨some 90, .bin .shr 0, [.t 89, .c (.int .u64 1)], none⟩,
               ⟨some 91, .conv .i64, [.t 90], none⟩,
               ⟨some 16, .mv, [.t 91], none⟩]) [0, 2, 4, 14, 15, 16])
           (.seq (.kpost (.regD [⟨some 92, .mv, [.t 4], none⟩,
               ⟨some 93, .mv, [.t 0], none⟩,
               ⟨some 94, .mv, [.t 2], none⟩,
               ⟨some 95, .iadr 5, [.t 93, .t 94], none⟩,
               ⟨some 96, .load (some 5), [.t 95], none⟩,
               ⟨some 97, .mv, [.t 0], none⟩,
               ⟨some 98, .mv, [.t 16], none⟩,
               ⟨some 99, .iadr 5, [.t 97, .t 98], none⟩,
               ⟨some 100, .load (some 5), [.t 99], none⟩,
               ⟨some 101, .callv [16, 17, 18, 19, 20, 21, 22, 23, 24, 25, 26, 27, 28, 29, 30, 31] 0, [.t 92, .t 96, .t 100], none⟩,
               ⟨some 102, .bin .lss 0, [.t 101, .c (.int .i64 0)], none⟩,
               ⟨some 103, .bnot, [.t 102], none⟩] [0, 1, 2, 3, 4, 5, 6, 7, 8, 9, 10, 11] none []) [0, 2, 4, 14, 15, 16, 103])
           (.cond (.t 103)
            (.kpost (.reg [⟨some 104, .mv, [.t 16], none⟩,
                ⟨some 105, .bin .add 0, [.t 104, .c (.int .i64 1)], none⟩,
                ⟨some 14, .mv, [.t 105], none⟩]) [0, 2, 4, 14, 15])
            (.kpost (.reg [⟨some 106, .mv, [.t 16], none⟩,
                ⟨some 15, .mv, [.t 106], none⟩]) [0, 2, 4, 14, 15])))))) [0, 2, 4, 14, 15]))))
     (.seq (.seq (.kpost (.reg [⟨some 107, .mv, [.t 2], none⟩,
          ⟨some 17, .mv, [.t 107], none⟩]) [0, 14, 17])
      (.block 6 (.kpre [0, 14, 17] (.loop (.kpost (.seq (.seq (.kpost (.reg [⟨some 108, .mv, [.t 17], none⟩,
               ⟨some 109, .mv, [.t 14], none⟩,
               ⟨some 110, .bin .gtr 0, [.t 108, .t 109], none⟩]) [0, 14, 17, 110])
           (.cond (.t 110)
            .skip
            (.exit 6)))
          (.seq (.block 7 (.kpost (.regD [⟨some 113, .mv, [.t 0], none⟩,
               ⟨some 114, .mv, [.t 17], none⟩,
               ⟨some 115, .mv, [.t 0], none⟩,
               ⟨some 116, .mv, [.t 17], none⟩,
               ⟨some 117, .bin .sub 0, [.t 116, .c (.int .i64 1)], none⟩,
               ⟨some 118, .mv, [.t 0], none⟩,
               ⟨some 119, .mv, [.t 17], none⟩,
               ⟨some 120, .bin .sub 0, [.t 119, .c (.int .i64 1)], none⟩,
               ⟨some 121, .iadr 5, [.t 118, .t 120], none⟩,
               ⟨some 122, .load (some 5), [.t 121], none⟩,
               ⟨some 123, .mv, [.t 0], none⟩,
               ⟨some 124, .mv, [.t 17], none⟩,
               ⟨some 125, .iadr 5, [.t 123, .t 124], none⟩,
               ⟨some 126, .load (some 5), [.t 125], none⟩,
               ⟨some 127, .iadr 5, [.t 113, .t 114], none⟩,
               ⟨none, .store 5, [.t 127, .t 122], none⟩,
               ⟨some 128, .iadr 5, [.t 115, .t 117], none⟩,
               ⟨none, .store 5, [.t 128, .t 126], none⟩] [0, 1, 2, 3, 4, 5, 6, 7, 8, 9, 10, 11, 12, 13, 14, 15, 16, 17] none [(4, 15)]) [0, 14, 17]))
          (.kpost (.reg [⟨some 111, .mv, [.t 17], none⟩,
             ⟨some 112, .bin .sub 0, [.t 111, .c (.int .i64 1)], none⟩,
             ⟨some 17, .mv, [.t 112], none⟩]) [0, 14, 17]))) [0, 14, 17])))))
     .ret))))
    .skip))
  (.seq (.kpost (.reg [⟨some 129, .mv, [.t 1], none⟩,
      ⟨some 130, .mv, [.t 3], none⟩,
      ⟨some 131, .bin .add 0, [.t 129, .t 130], none⟩,
      ⟨some 132, .conv .u64, [.t 131], none⟩,
      ⟨some 133, .bin .shr 0, [.t 132, .c (.int .u64 1)], none⟩,
      ⟨some 134, .conv .i64, [.t 133], none⟩,
      ⟨some 18, .mv, [.t 134], none⟩]) [0, 1, 2, 3, 4, 18])
  (.seq (.kpost (.reg [⟨some 135, .mv, [.t 18], none⟩,
      ⟨some 136, .mv, [.t 2], none⟩,
      ⟨some 137, .bin .add 0, [.t 135, .t 136], none⟩,
      ⟨some 19, .mv, [.t 137], none⟩]) [0, 1, 2, 3, 4, 18, 19])
  (.seq (.kpost (.reg [⟨some 20, .mv, [.c (.int .i64 0)], none⟩,
      ⟨some 21, .mv, [.c (.int .i64 0)], none⟩]) [0, 1, 2, 3, 4, 18, 19])
  (.seq (.seq (.kpost (.reg [⟨some 138, .mv, [.t 2], none⟩,
       ⟨some 139, .mv, [.t 18], none⟩,
       ⟨some 140, .bin .gtr 0, [.t 138, .t 139], none⟩]) [0, 1, 2, 3, 4, 18, 19, 140])
   (.cond (.t 140)
    (.seq (.kpost (.reg [⟨some 141, .mv, [.t 19], none⟩,
         ⟨some 142, .mv, [.t 3], none⟩,
         ⟨some 143, .bin .sub 0, [.t 141, .t 142], none⟩,
         ⟨some 20, .mv, [.t 143], none⟩]) [0, 1, 2, 3, 4, 18, 19, 20])
     (.kpost (.reg [⟨some 144, .mv, [.t 18], none⟩,
        ⟨some 21, .mv, [.t 144], none⟩]) [0, 1, 2, 3, 4, 18, 19, 20, 21]))
    (.seq (.kpost (.reg [⟨some 145, .mv, [.t 1], none⟩,
         ⟨some 20, .mv, [.t 145], none⟩]) [0, 1, 2, 3, 4, 18, 19, 20])
     (.kpost (.reg [⟨some 146, .mv, [.t 2], none⟩,
        ⟨some 21, .mv, [.t 146], none⟩]) [0, 1, 2, 3, 4, 18, 19, 20, 21]))))
  (.seq (.kpost (.reg [⟨some 147, .mv, [.t 19], none⟩,
      ⟨some 148, .bin .sub 0, [.t 147, .c (.int .i64 1)], none⟩,
      ⟨some 22, .mv, [.t 148], none⟩]) [0, 1, 2, 3, 4, 18, 19, 20, 21, 22])
  (.seq (.block 8 (.kpre [0, 1, 2, 3, 4, 18, 19, 20, 21, 22] (.loop (.kpost (.seq (.seq (.kpost (.reg [⟨some 149, .mv, [.t 20], none⟩,
            ⟨some 150, .mv, [.t 21], none⟩,
            ⟨some 151, .bin .lss 0, [.t 149, .t 150], none⟩]) [0, 1, 2, 3, 4, 18, 19, 20, 21, 22, 151])
        (.cond (.t 151)
         .skip
         (.exit 8)))
       (.block 9 (.seq (.kpost (.reg [⟨some 152, .mv, [.t 20], none⟩,
            ⟨some 153, .mv, [.t 21], none⟩,
            ⟨some 154, .bin .add 0, [.t 152, .t 153], none⟩,
            ⟨some 155, .conv .u64, [.t 154], none⟩,
            ⟨some 156, .bin .shr 0, [.t 155, .c (.int .u64 1)], none⟩,
            ⟨some 157, .conv .i64, [.t 156], none⟩,
            ⟨some 23, .mv, [.t 157], none⟩]) [0, 1, 2, 3, 4, 18, 19, 20, 21, 22, 23])
        (.seq (.kpost (.regD [⟨some 158, .mv, [.t 4], none⟩,
            ⟨some 159, .mv, [.t 0], none⟩,
            ⟨some 160, .mv, [.t 22], none⟩,
            ⟨some 161, .mv, [.t 23], none⟩,
            ⟨some 162, .bin .sub 0, [.t 160, .t 161], none⟩,
            ⟨some 163, .iadr 5, [.t 159, .t 162], none⟩,
            ⟨some 164, .load (some 5), [.t 163], none⟩,
            ⟨some 165, .mv, [.t 0], none⟩,
            ⟨some 166, .mv, [.t 23], none⟩,
            ⟨some 167, .iadr 5, [.t 165, .t 166], none⟩,
            ⟨some 168, .load (some 5), [.t 167], none⟩,
            ⟨some 169, .callv [32, 33, 34, 35, 36, 37, 38, 39, 40, 41, 42, 43, 44, 45, 46, 47] 0, [.t 158, .t 164, .t 168], none⟩,
            ⟨some 170, .bin .lss 0, [.t 169, .c (.int .i64 0)], none⟩,
            ⟨some 171, .bnot, [.t 170], none⟩] [0, 1, 2, 3, 4, 5, 6, 7, 8, 9, 10, 11, 12, 13] none []) [0, 1, 2, 3, 4, 18, 19, 20, 21, 22, 23, 171])
        (.cond (.t 171)
         (.kpost (.reg [⟨some 172, .mv, [.t 23], none⟩,
             ⟨some 173, .bin .add 0, [.t 172, .c (.int .i64 1)], none⟩,
             ⟨some 20, .mv, [.t 173], none⟩]) [0, 1, 2, 3, 4, 18, 19, 20, 21, 22])
         (.kpost (.reg [⟨some 174, .mv, [.t 23], none⟩,
             ⟨some 21, .mv, [.t 174], none⟩]) [0, 1, 2, 3, 4, 18, 19, 20, 21, 22])))))) [0, 1, 2, 3, 4, 18, 19, 20, 21, 22]))))
  (.seq (.kpost (.reg [⟨some 175, .mv, [.t 19], none⟩,
      ⟨some 176, .mv, [.t 20], none⟩,
      ⟨some 177, .bin .sub 0, [.t 175, .t 176], none⟩,
      ⟨some 24, .mv, [.t 177], none⟩]) [0, 1, 2, 3, 4, 18, 20, 24])
  (.seq (.seq (.kpost (.reg [⟨some 178, .mv, [.t 20], none⟩,
       ⟨some 179, .mv, [.t 2], none⟩,
       ⟨some 180, .bin .lss 0, [.t 178, .t 179], none⟩,
       ⟨some 181, .mv, [.t 180], none⟩,
       ⟨some 182, .mv, [.t 2], some (181, true)⟩,
       ⟨some 183, .mv, [.t 24], some (181, true)⟩,
       ⟨some 184, .bin .lss 0, [.t 182, .t 183], some (181, true)⟩,
       ⟨some 185, .pick, [.t 181, .t 184, .c (.bool false)], none⟩]) [0, 1, 2, 3, 4, 18, 20, 24, 185])
   (.cond (.t 185)
    (.kpost (.reg [⟨some 186, .mv, [.t 0], none⟩,
        ⟨some 187, .mv, [.t 20], none⟩,
        ⟨some 188, .mv, [.t 2], none⟩,
        ⟨some 189, .mv, [.t 24], none⟩,
        ⟨some 190, .mv, [.t 4], none⟩,
        ⟨some 191, .call 186 [48, 49, 50, 51, 52, 53, 54, 55, 56, 57, 58, 59, 60, 61, 62, 63, 64, 65] 2, [.t 186, .t 187, .t 188, .t 189, .t 190], none⟩]) [0, 1, 3, 4, 18, 20, 24])
    .skip))
  (.seq (.seq (.kpost (.reg [⟨some 192, .mv, [.t 1], none⟩,
       ⟨some 193, .mv, [.t 20], none⟩,
       ⟨some 194, .bin .lss 0, [.t 192, .t 193], none⟩,
       ⟨some 195, .mv, [.t 194], none⟩,
       ⟨some 196, .mv, [.t 20], some (195, true)⟩,
       ⟨some 197, .mv, [.t 18], some (195, true)⟩,
       ⟨some 198, .bin .lss 0, [.t 196, .t 197], some (195, true)⟩,
       ⟨some 199, .pick, [.t 195, .t 198, .c (.bool false)], none⟩]) [0, 1, 3, 4, 18, 20, 24, 199])
   (.cond (.t 199)
    (.kpost (.reg [⟨some 200, .mv, [.t 0], none⟩,
        ⟨some 201, .mv, [.t 1], none⟩,
        ⟨some 202, .mv, [.t 20], none⟩,
        ⟨some 203, .mv, [.t 18], none⟩,
        ⟨some 204, .mv, [.t 4], none⟩,
        ⟨some 205, .call 169 [66, 67, 68, 69, 70, 71, 72, 73, 74, 75, 76, 77, 78, 79, 80, 81, 82, 83] 2, [.t 200, .t 201, .t 202, .t 203, .t 204], none⟩]) [0, 3, 4, 18, 24])
    .skip))
  (.seq (.kpost (.reg [⟨some 206, .mv, [.t 18], none⟩,
      ⟨some 207, .mv, [.t 24], none⟩,
      ⟨some 208, .bin .lss 0, [.t 206, .t 207], none⟩,
      ⟨some 209, .mv, [.t 208], none⟩,
      ⟨some 210, .mv, [.t 24], some (209, true)⟩,
      ⟨some 211, .mv, [.t 3], some (209, true)⟩,
      ⟨some 212, .bin .lss 0, [.t 210, .t 211], some (209, true)⟩,
      ⟨some 213, .pick, [.t 209, .t 212, .c (.bool false)], none⟩]) [0, 3, 4, 18, 24, 213])
  (.cond (.t 213)
   (.kpost (.reg [⟨some 214, .mv, [.t 0], none⟩,
       ⟨some 215, .mv, [.t 18], none⟩,
       ⟨some 216, .mv, [.t 24], none⟩,
       ⟨some 217, .mv, [.t 3], none⟩,
       ⟨some 218, .mv, [.t 4], none⟩,
       ⟨some 219, .call 169 [84, 85, 86, 87, 88, 89, 90, 91, 92, 93, 94, 95, 96, 97, 98, 99, 100, 101] 2, [.t 214, .t 215, .t 216, .t 217, .t 218], none⟩]) [])
   .skip))))))))))))) }
/-- waggoner/crc.Seal -/
def i170 : IFn := { ns := 2, nt := 14, res := [.t 2], body :=
  (.seq (.kpost (.reg [⟨some 2, .mv, [.c (.nils 5 1)], none⟩]) [0])
  (.seq (.kpost (.reg [⟨some 6, .mv, [.t 0], none⟩,
      ⟨some 7, .mv, [.t 0], none⟩,
      ⟨some 8, .call 187 [] 0, [.t 7], none⟩,
      ⟨some 9, .conv .u64, [.t 8], none⟩,
      ⟨some 10, .call 147 [0, 1] 1, [.t 6, .t 9, .c (.int .i64 4)], none⟩,
      ⟨some 5, .mv, [.t 10], none⟩,
      ⟨some 11, .extr 0, [.t 5], none⟩,
      ⟨some 12, .extr 1, [.t 5], none⟩,
      ⟨some 3, .mv, [.t 11], none⟩,
      ⟨some 4, .mv, [.t 12], none⟩]) [3])
  (.seq (.kpost (.reg [⟨some 13, .mv, [.t 3], none⟩,
      ⟨some 2, .mv, [.t 13], none⟩]) [2])
  .ret))) }
/-- waggoner/extent.Read$1 -/
def i171 : IFn := { ns := 5, nt := 59, res := [.cell 1 (some 5), .t 2], body :=
  (.seq (.kpost (.reg [⟨some 1, .alloc 0 48 [.int .i64 0, .int .i64 0, .int .i64 0, .int .i64 0, .nils 5 1], [], none⟩,
      ⟨some 2, .mv, [.c (.bool false)], none⟩]) [0, 1])
  (.seq (.seq (.kpost (.reg [⟨some 6, .load none, [.t 0], none⟩,
       ⟨some 7, .len, [.t 6], none⟩,
       ⟨some 8, .bin .lss 0, [.t 7, .c (.int .i64 7)], none⟩]) [0, 1, 8])
   (.cond (.t 8)
    (.seq (.kpost (.reg [⟨some 9, .load (some 5), [.t 1], none⟩,
         ⟨none, .store 5, [.t 1, .t 9], none⟩,
         ⟨some 2, .mv, [.c (.bool false)], none⟩]) [1, 2])
     .ret)
    .skip))
  (.seq (.kpost (.reg [⟨some 11, .load none, [.t 0], none⟩,
      ⟨some 12, .slc 5 1 false true false, [.t 11, .c (.int .i64 7)], none⟩,
      ⟨some 13, .call 142 [1, 2] 1, [.c (.str [98, 98, 98, 119]), .t 12], none⟩,
      ⟨some 10, .mv, [.t 13], none⟩,
      ⟨some 14, .extr 0, [.t 10], none⟩,
      ⟨some 15, .extr 1, [.t 10], none⟩,
      ⟨some 3, .mv, [.t 14], none⟩,
      ⟨some 4, .mv, [.t 15], none⟩]) [0, 1, 3, 4])
  (.seq (.seq (.kpost (.reg [⟨some 16, .mv, [.t 4], none⟩,
       ⟨some 17, .bin .neq 0, [.t 16, .c (.int .i64 0)], none⟩]) [0, 1, 3, 17])
   (.cond (.t 17)
    (.seq (.kpost (.reg [⟨some 18, .load (some 5), [.t 1], none⟩,
         ⟨none, .store 5, [.t 1, .t 18], none⟩,
         ⟨some 2, .mv, [.c (.bool false)], none⟩]) [1, 2])
     .ret)
    .skip))
  (.seq (.kpost (.regD [⟨some 19, .mv, [.t 3], none⟩,
      ⟨some 20, .iadr 1, [.t 19, .c (.int .i64 0)], none⟩,
      ⟨some 21, .load none, [.t 20], none⟩,
      ⟨some 22, .conv .i64, [.t 21], none⟩,
      ⟨some 23, .mv, [.t 3], none⟩,
      ⟨some 24, .iadr 1, [.t 23, .c (.int .i64 1)], none⟩,
      ⟨some 25, .load none, [.t 24], none⟩,
      ⟨some 26, .conv .i64, [.t 25], none⟩,
      ⟨some 27, .mv, [.t 3], none⟩,
      ⟨some 28, .iadr 1, [.t 27, .c (.int .i64 2)], none⟩,
      ⟨some 29, .load none, [.t 28], none⟩,
      ⟨some 30, .conv .i64, [.t 29], none⟩,
      ⟨some 31, .mv, [.t 3], none⟩,
      ⟨some 32, .iadr 1, [.t 31, .c (.int .i64 3)], none⟩,
      ⟨some 33, .load none, [.t 32], none⟩,
      ⟨some 34, .conv .i64, [.t 33], none⟩,
      ⟨some 35, .build [.int .i64 0, .int .i64 0, .int .i64 0, .int .i64 0, .nils 5 1] [(0, 1), (1, 1), (2, 1), (3, 1)], [.t 22, .t 26, .t 30, .t 34], none⟩,
      ⟨some 36, .load none, [.t 0], none⟩,
      ⟨some 37, .slc 5 1 true false false, [.t 36, .c (.int .i64 7)], none⟩,
      ⟨none, .store 5, [.t 1, .t 35], none⟩,
      ⟨none, .store 1, [.t 0, .t 37], none⟩] [0, 1, 2, 3, 4, 5, 6, 7, 8, 9, 10, 11, 12, 13, 14, 15, 16, 17, 18, 19, 20] none [(17, 19), (18, 19)]) [0, 1])
  (.seq (.seq (.kpost (.reg [⟨some 38, .load (some 5), [.t 1], none⟩,
       ⟨some 39, .call 121 [] 0, [.t 38], none⟩,
       ⟨some 5, .mv, [.t 39], none⟩]) [0, 1, 5])
   (.seq (.kpost (.reg [⟨some 40, .mv, [.t 5], none⟩,
       ⟨some 41, .bin .gtr 0, [.t 40, .c (.int .i64 0)], none⟩,
       ⟨some 42, .mv, [.t 41], none⟩,
       ⟨some 43, .mv, [.t 5], some (42, true)⟩,
       ⟨some 44, .load none, [.t 0], some (42, true)⟩,
       ⟨some 45, .len, [.t 44], some (42, true)⟩,
       ⟨some 46, .bin .leq 0, [.t 43, .t 45], some (42, true)⟩,
       ⟨some 47, .pick, [.t 42, .t 46, .c (.bool false)], none⟩]) [0, 1, 5, 47])
   (.cond (.t 47)
    (.kpost (.regD [⟨some 48, .load none, [.t 0], none⟩,
        ⟨some 49, .mv, [.t 5], none⟩,
        ⟨some 50, .slc 5 1 false true false, [.t 48, .t 49], none⟩,
        ⟨some 51, .call 74 [3, 4] 1, [.t 50], none⟩,
        ⟨some 52, .load none, [.t 0], none⟩,
        ⟨some 53, .mv, [.t 5], none⟩,
        ⟨some 54, .slc 5 1 true false false, [.t 52, .t 53], none⟩,
        ⟨some 55, .fadr 4, [.t 1], none⟩,
        ⟨none, .store 1, [.t 55, .t 51], none⟩,
        ⟨none, .store 1, [.t 0, .t 54], none⟩] [0, 1, 2, 3, 4, 5, 6, 7, 8, 9] none [(3, 4), (3, 6), (4, 8), (6, 8)]) [1])
    .skip)))
  (.seq (.kpost (.regD [⟨some 56, .load (some 5), [.t 1], none⟩,
      ⟨some 57, .load (some 5), [.t 1], none⟩,
      ⟨some 58, .call 75 [] 0, [.t 57], none⟩,
      ⟨none, .store 5, [.t 1, .t 56], none⟩,
      ⟨some 2, .mv, [.t 58], none⟩] [0, 1, 2, 3, 4] none [(0, 2)]) [1, 2])
  .ret))))))) }
/-- waggoner/snap.Write$1 -/
def i172 : IFn := { ns := 1, nt := 12, res := [], body :=
  (.kpost (.regD [⟨some 6, .load none, [.t 2], none⟩,
     ⟨some 7, .mv, [.t 0], none⟩,
     ⟨some 8, .app 0 5 1 1, [.t 6, .t 7], none⟩,
     ⟨some 9, .load none, [.t 3], none⟩,
     ⟨some 10, .mv, [.t 1], none⟩,
     ⟨some 11, .max2, [.t 9, .t 10], none⟩,
     ⟨none, .store 1, [.t 2, .t 8], none⟩,
     ⟨none, .store 1, [.t 3, .t 11], none⟩] [0, 1, 2, 3, 4, 5, 6, 7] none [(2, 3), (3, 6)]) []) }
/-- waggoner/snap.Write$2 -/
def i173 : IFn := { ns := 36, nt := 22, res := [], body :=
  (.seq (.kpost (.reg [⟨some 6, .mv, [.t 0], none⟩,
      ⟨some 7, .call 104 [0, 1] 1, [.t 6], none⟩,
      ⟨some 5, .mv, [.t 7], none⟩,
      ⟨some 8, .extr 0, [.t 5], none⟩,
      ⟨some 9, .extr 1, [.t 5], none⟩,
      ⟨some 3, .mv, [.t 8], none⟩,
      ⟨some 4, .mv, [.t 9], none⟩]) [1, 3, 4])
  (.seq (.kpost (.regD [⟨some 10, .load none, [.t 1], none⟩,
      ⟨some 11, .mv, [.t 3], none⟩,
      ⟨some 12, .len, [.t 11], none⟩,
      ⟨some 13, .conv .u64, [.t 12], none⟩,
      ⟨some 14, .call 147 [2, 3] 1, [.c (.nils 5 1), .t 13, .c (.int .i64 2)], none⟩,
      ⟨some 15, .extr 0, [.t 14], none⟩,
      ⟨some 16, .extr 1, [.t 14], none⟩,
      ⟨some 17, .callv [4, 5, 6, 7, 8, 9, 10, 11, 12, 13, 14, 15, 16, 17, 18, 19] 0, [.t 10, .t 15, .t 16], none⟩] [0, 1, 2, 3, 4, 5, 6, 7] none [(0, 4)]) [1, 3, 4])
  (.kpost (.reg [⟨some 18, .load none, [.t 1], none⟩,
     ⟨some 19, .mv, [.t 3], none⟩,
     ⟨some 20, .mv, [.t 4], none⟩,
     ⟨some 21, .callv [20, 21, 22, 23, 24, 25, 26, 27, 28, 29, 30, 31, 32, 33, 34, 35] 0, [.t 18, .t 19, .t 20], none⟩]) []))) }
/-- slices.Chunk[[]byte,byte] -/
def i174 : IFn := { ns := 2, nt := 9, res := [.t 4], body :=
  (.seq (.kpost (.reg [⟨some 2, .box 0 28, [.t 0], none⟩,
      ⟨some 3, .box 1 3, [.t 1], none⟩,
      ⟨some 4, .mv, [.c (.nilf)], none⟩]) [2, 3])
  (.seq (.seq (.kpost (.reg [⟨some 5, .load none, [.t 3], none⟩,
       ⟨some 6, .bin .lss 0, [.t 5, .c (.int .i64 1)], none⟩]) [2, 3, 6])
   (.cond (.t 6)
    (.kpost (.reg [⟨some 7, .mkifc 9, [.c (.str [99, 97, 110, 110, 111, 116, 32, 98, 101, 32, 108, 101, 115, 115, 32, 116, 104, 97, 110, 32, 49])], none⟩,
        ⟨none, .panic, [.t 7], none⟩]) [2, 3])
    .skip))
  (.seq (.kpost (.reg [⟨some 8, .mkfn 188 0, [.t 2, .t 3], none⟩,
      ⟨some 4, .mv, [.t 8], none⟩]) [4])
  .ret))) }
/-- waggoner/record.Write -/
def i176 : IFn := { ns := 7, nt := 34, res := [.t 2, .t 3], body :=
  (.seq (.kpost (.reg [⟨some 1, .box 0 116, [.t 0], none⟩,
      ⟨some 2, .mv, [.c (.nils 5 1)], none⟩,
      ⟨some 3, .mv, [.c (.int .i64 0)], none⟩]) [1])
  (.seq (.seq (.kpost (.reg [⟨some 7, .load (some 3), [.t 1], none⟩,
       ⟨some 8, .call 167 [] 0, [.t 7], none⟩,
       ⟨some 4, .mv, [.t 8], none⟩]) [1, 4])
   (.seq (.kpost (.reg [⟨some 9, .mv, [.t 4], none⟩,
       ⟨some 10, .bin .neq 0, [.t 9, .c (.int .i64 0)], none⟩]) [1, 4, 10])
   (.cond (.t 10)
    (.seq (.kpost (.reg [⟨some 11, .mv, [.t 4], none⟩,
         ⟨some 2, .mv, [.c (.nils 5 1)], none⟩,
         ⟨some 3, .mv, [.t 11], none⟩]) [2, 3])
     .ret)
    .skip)))
  (.seq (.kpost (.reg [⟨some 13, .fadr 0, [.t 1], none⟩,
      ⟨some 14, .load none, [.t 13], none⟩,
      ⟨some 15, .conv .u64, [.t 14], none⟩,
      ⟨some 16, .fadr 2, [.t 1], none⟩,
      ⟨some 17, .load none, [.t 16], none⟩,
      ⟨some 18, .len, [.t 17], none⟩,
      ⟨some 19, .conv .u64, [.t 18], none⟩,
      ⟨some 20, .fadr 1, [.t 1], none⟩,
      ⟨some 21, .load none, [.t 20], none⟩,
      ⟨some 22, .conv .u64, [.t 21], none⟩,
      ⟨some 23, .bslice 1 161 1 [.int .u64 0] 4 [0, 1, 2, 3], [.c (.int .u64 1196184151), .t 15, .t 19, .t 22], none⟩,
      ⟨some 24, .call 103 [2, 3] 1, [.c (.str [119, 104, 104, 113]), .t 23], none⟩,
      ⟨some 12, .mv, [.t 24], none⟩,
      ⟨some 25, .extr 0, [.t 12], none⟩,
      ⟨some 26, .extr 1, [.t 12], none⟩,
      ⟨some 5, .mv, [.t 25], none⟩,
      ⟨some 6, .mv, [.t 26], none⟩]) [1, 5, 6])
  (.seq (.seq (.kpost (.reg [⟨some 27, .mv, [.t 6], none⟩,
       ⟨some 28, .bin .neq 0, [.t 27, .c (.int .i64 0)], none⟩]) [1, 5, 28])
   (.cond (.t 28)
    (.seq (.kpost (.reg [⟨some 2, .mv, [.c (.nils 5 1)], none⟩,
         ⟨some 3, .mv, [.c (.int .i64 50)], none⟩]) [2, 3])
     .ret)
    .skip))
  (.seq (.kpost (.reg [⟨some 29, .mv, [.t 5], none⟩,
      ⟨some 30, .fadr 2, [.t 1], none⟩,
      ⟨some 31, .load none, [.t 30], none⟩,
      ⟨some 32, .app 4 5 1 1, [.t 29, .t 31], none⟩,
      ⟨some 33, .call 170 [5, 6] 1, [.t 32], none⟩,
      ⟨some 2, .mv, [.t 33], none⟩,
      ⟨some 3, .mv, [.c (.int .i64 0)], none⟩]) [2, 3])
  .ret))))) }
/-- waggoner/log.Place -/
def i177 : IFn := { ns := 2, nt := 44, res := [.t 4, .t 5, .t 6], body :=
  (.seq (.kpost (.reg [⟨some 2, .box 0 51, [.t 0], none⟩,
      ⟨some 4, .mv, [.c (.int .i64 0)], none⟩,
      ⟨some 5, .mv, [.c (.nils 150 3)], none⟩,
      ⟨some 6, .mv, [.c (.int .i64 0)], none⟩]) [1, 2])
  (.seq (.seq (.kpost (.reg [⟨some 9, .load (some 5), [.t 2], none⟩,
       ⟨some 10, .call 92 [] 0, [.t 9], none⟩,
       ⟨some 11, .bnot, [.t 10], none⟩,
       ⟨some 12, .mv, [.t 11], none⟩,
       ⟨some 13, .mv, [.t 1], some (12, false)⟩,
       ⟨some 14, .bin .lss 0, [.t 13, .c (.int .i64 1)], some (12, false)⟩,
       ⟨some 15, .pick, [.t 12, .c (.bool true), .t 14], none⟩,
       ⟨some 16, .mv, [.t 15], none⟩,
       ⟨some 17, .mv, [.t 1], some (16, false)⟩,
       ⟨some 18, .fadr 0, [.t 2], some (16, false)⟩,
       ⟨some 19, .load none, [.t 18], some (16, false)⟩,
       ⟨some 20, .bin .gtr 0, [.t 17, .t 19], some (16, false)⟩,
       ⟨some 21, .pick, [.t 16, .c (.bool true), .t 20], none⟩]) [1, 2, 21])
   (.cond (.t 21)
    (.seq (.kpost (.reg [⟨some 4, .mv, [.c (.int .i64 0)], none⟩,
         ⟨some 5, .mv, [.c (.nils 150 3)], none⟩,
         ⟨some 6, .mv, [.c (.int .i64 1)], none⟩]) [4, 5, 6])
     .ret)
    .skip))
  (.seq (.seq (.kpost (.reg [⟨some 22, .load (some 5), [.t 2], none⟩,
       ⟨some 23, .mv, [.t 1], none⟩,
       ⟨some 24, .call 193 [] 0, [.t 22, .c (.int .i64 1), .t 23], none⟩,
       ⟨some 7, .mv, [.t 24], none⟩]) [1, 2, 7])
   (.seq (.kpost (.reg [⟨some 25, .mv, [.t 7], none⟩,
       ⟨some 26, .bin .geq 0, [.t 25, .c (.int .i64 0)], none⟩]) [1, 2, 7, 26])
   (.cond (.t 26)
    (.seq (.kpost (.reg [⟨some 27, .mv, [.t 7], none⟩,
         ⟨some 4, .mv, [.t 27], none⟩,
         ⟨some 5, .mv, [.c (.nils 150 3)], none⟩,
         ⟨some 6, .mv, [.c (.int .i64 0)], none⟩]) [4, 5, 6])
     .ret)
    .skip)))
  (.seq (.kpost (.reg [⟨some 28, .load (some 5), [.t 2], none⟩,
      ⟨some 29, .mv, [.t 1], none⟩,
      ⟨some 30, .call 193 [] 0, [.t 28, .c (.int .i64 0), .t 29], none⟩,
      ⟨some 8, .mv, [.t 30], none⟩]) [2, 8])
  (.seq (.block 0 (.seq (.kpost (.reg [⟨some 32, .mv, [.t 8], none⟩,
        ⟨some 33, .bin .lss 0, [.t 32, .c (.int .i64 0)], none⟩,
        ⟨some 31, .mv, [.t 33], none⟩]) [2, 8, 31])
    (.cond (.t 31)
     (.seq (.kpost (.reg [⟨some 4, .mv, [.c (.int .i64 0)], none⟩,
          ⟨some 5, .mv, [.c (.nils 150 3)], none⟩,
          ⟨some 6, .mv, [.c (.int .i64 60)], none⟩]) [4, 5, 6])
      .ret)
     (.seq (.kpost (.reg [⟨some 35, .load (some 5), [.t 2], none⟩,
          ⟨some 36, .call 194 [] 0, [.t 35], none⟩,
          ⟨some 37, .bin .geq 0, [.t 36, .c (.int .i64 3)], none⟩,
          ⟨some 34, .mv, [.t 37], none⟩]) [2, 8, 34])
      (.cond (.t 34)
       (.seq (.kpost (.reg [⟨some 38, .mv, [.t 8], none⟩,
            ⟨some 39, .load (some 5), [.t 2], none⟩,
            ⟨some 40, .call 193 [] 0, [.t 39, .c (.int .i64 1), .c (.int .i64 0)], none⟩,
            ⟨some 41, .build [.int .i64 0, .int .i64 0, .nils 5 1] [(0, 1), (1, 1)], [.c (.int .i64 3), .t 40], none⟩,
            ⟨some 42, .bslice 1 150 3 [.int .i64 0, .int .i64 0, .imm 1 []] 1 [0], [.t 41], none⟩,
            ⟨some 4, .mv, [.t 38], none⟩,
            ⟨some 5, .mv, [.t 42], none⟩,
            ⟨some 6, .mv, [.c (.int .i64 0)], none⟩]) [4, 5, 6])
        .ret)
       .skip)))))
  (.seq (.kpost (.reg [⟨some 43, .mv, [.t 8], none⟩,
      ⟨some 4, .mv, [.t 43], none⟩,
      ⟨some 5, .mv, [.c (.nils 150 3)], none⟩,
      ⟨some 6, .mv, [.c (.int .i64 0)], none⟩]) [4, 5, 6])
  .ret)))))) }
/-- slices.IndexFunc[[]waggoner/api.Extent,waggoner/api.Extent] -/
def i178 : IFn := { ns := 16, nt := 19, res := [.t 4], body :=
  (.seq (.kpost (.reg [⟨some 4, .mv, [.c (.int .i64 0)], none⟩]) [0, 1])
  (.seq (.seq (.kpost (.reg [⟨some 6, .mv, [.t 0], none⟩,
       ⟨some 7, .len, [.t 6], none⟩,
       ⟨some 8, .mv, [.c (.int .i64 0)], none⟩]) [0, 1, 7, 8])
   (.block 0 (.kpre [0, 1, 7, 8] (.loop (.kpost (.seq (.kpost (.reg [⟨some 9, .bin .lss 0, [.t 8, .t 7], none⟩]) [0, 1, 7, 8, 9])
       (.seq (.cond (.t 9)
         .skip
         (.exit 0))
       (.seq (.block 1 (.seq (.kpost (.reg [⟨some 10, .mv, [.t 8], none⟩,
             ⟨some 5, .mv, [.t 10], none⟩]) [0, 1, 5, 7, 8])
         (.seq (.kpost (.reg [⟨some 11, .mv, [.t 1], none⟩,
             ⟨some 12, .mv, [.t 0], none⟩,
             ⟨some 13, .mv, [.t 5], none⟩,
             ⟨some 14, .iadr 5, [.t 12, .t 13], none⟩,
             ⟨some 15, .load (some 5), [.t 14], none⟩,
             ⟨some 16, .callv [0, 1, 2, 3, 4, 5, 6, 7, 8, 9, 10, 11, 12, 13, 14, 15] 0, [.t 11, .t 15], none⟩]) [0, 1, 5, 7, 8, 16])
         (.cond (.t 16)
          (.seq (.kpost (.reg [⟨some 17, .mv, [.t 5], none⟩,
               ⟨some 4, .mv, [.t 17], none⟩]) [4])
           .ret)
          .skip))))
       (.kpost (.reg [⟨some 18, .bin .add 0, [.t 8, .c (.int .i64 1)], none⟩,
          ⟨some 8, .mv, [.t 18], none⟩]) [0, 1, 7, 8])))) [0, 1, 7, 8])))))
  (.seq (.kpost (.reg [⟨some 4, .mv, [.c (.int .i64 (-1))], none⟩]) [4])
  .ret))) }
/-- waggoner/extmap.Lay -/
def i179 : IFn := { ns := 6, nt := 41, res := [.t 6, .t 7], body :=
  (.seq (.kpost (.reg [⟨some 6, .mv, [.c (.nils 48 5)], none⟩,
      ⟨some 7, .mv, [.c (.int .i64 0)], none⟩]) [0, 1, 2, 8, 9])
  (.scope (.seq (.seq (.kpost (.reg [⟨some 12, .mv, [.t 0], none⟩,
        ⟨some 13, .mv, [.t 1], none⟩,
        ⟨some 14, .call 37 [] 0, [.t 12, .t 13], none⟩,
        ⟨some 15, .bnot, [.t 14], none⟩]) [0, 1, 2, 15])
    (.cond (.t 15)
     (.seq (.kpost (.reg [⟨some 6, .mv, [.c (.nils 48 5)], none⟩,
          ⟨some 7, .mv, [.c (.int .i64 80)], none⟩]) [6, 7])
      .ret)
     .skip))
   (.seq (.kpost (.reg [⟨some 16, .mv, [.t 1], none⟩,
       ⟨some 17, .call 195 [0, 1] 1, [.t 16], none⟩,
       ⟨some 8, .mv, [.t 17], none⟩,
       ⟨some 9, .mv, [.c (.int .i64 0)], none⟩]) [0, 1, 2, 8, 9])
   (.seq (.label 0)
   (.seq (.seq (.kpost (.reg [⟨some 18, .mv, [.t 9], none⟩,
        ⟨some 19, .mv, [.t 2], none⟩,
        ⟨some 20, .len, [.t 19], none⟩,
        ⟨some 21, .bin .eql 0, [.t 18, .t 20], none⟩]) [0, 1, 2, 8, 9, 21])
    (.cond (.t 21)
     (.seq (.kpost (.reg [⟨some 22, .mv, [.t 8], none⟩,
          ⟨some 6, .mv, [.t 22], none⟩,
          ⟨some 7, .mv, [.c (.int .i64 0)], none⟩]) [6, 7])
      .ret)
     .skip))
   (.seq (.kpost (.reg [⟨some 24, .mv, [.t 0], none⟩,
       ⟨some 25, .mv, [.t 8], none⟩,
       ⟨some 26, .mv, [.t 2], none⟩,
       ⟨some 27, .mv, [.t 9], none⟩,
       ⟨some 28, .iadr 5, [.t 26, .t 27], none⟩,
       ⟨some 29, .load (some 5), [.t 28], none⟩,
       ⟨some 30, .call 196 [2, 3] 1, [.t 24, .t 25, .t 29], none⟩,
       ⟨some 23, .mv, [.t 30], none⟩,
       ⟨some 31, .extr 0, [.t 23], none⟩,
       ⟨some 32, .extr 1, [.t 23], none⟩,
       ⟨some 10, .mv, [.t 31], none⟩,
       ⟨some 11, .mv, [.t 32], none⟩]) [0, 1, 2, 9, 10, 11])
   (.seq (.seq (.kpost (.reg [⟨some 33, .mv, [.t 11], none⟩,
        ⟨some 34, .bin .neq 0, [.t 33, .c (.int .i64 0)], none⟩]) [0, 1, 2, 9, 10, 11, 34])
    (.cond (.t 34)
     (.seq (.kpost (.reg [⟨some 35, .mv, [.t 1], none⟩,
          ⟨some 36, .call 195 [4, 5] 1, [.t 35], none⟩,
          ⟨some 37, .mv, [.t 11], none⟩,
          ⟨some 6, .mv, [.t 36], none⟩,
          ⟨some 7, .mv, [.t 37], none⟩]) [6, 7])
      .ret)
     .skip))
   (.seq (.kpost (.reg [⟨some 38, .mv, [.t 10], none⟩,
       ⟨some 8, .mv, [.t 38], none⟩]) [0, 1, 2, 8, 9])
   (.seq (.kpost (.reg [⟨some 39, .mv, [.t 9], none⟩,
       ⟨some 40, .bin .add 0, [.t 39, .c (.int .i64 1)], none⟩,
       ⟨some 9, .mv, [.t 40], none⟩]) [0, 1, 2, 8, 9])
   (.goto 0)))))))))
   (.kpre [0, 1, 2, 8, 9] (.seq .skip
    (.seq (.seq (.kpost (.reg [⟨some 18, .mv, [.t 9], none⟩,
         ⟨some 19, .mv, [.t 2], none⟩,
         ⟨some 20, .len, [.t 19], none⟩,
         ⟨some 21, .bin .eql 0, [.t 18, .t 20], none⟩]) [0, 1, 2, 8, 9, 21])
     (.cond (.t 21)
      (.seq (.kpost (.reg [⟨some 22, .mv, [.t 8], none⟩,
           ⟨some 6, .mv, [.t 22], none⟩,
           ⟨some 7, .mv, [.c (.int .i64 0)], none⟩]) [6, 7])
       .ret)
      .skip))
    (.seq (.kpost (.reg [⟨some 24, .mv, [.t 0], none⟩,
        ⟨some 25, .mv, [.t 8], none⟩,
        ⟨some 26, .mv, [.t 2], none⟩,
        ⟨some 27, .mv, [.t 9], none⟩,
        ⟨some 28, .iadr 5, [.t 26, .t 27], none⟩,
        ⟨some 29, .load (some 5), [.t 28], none⟩,
        ⟨some 30, .call 196 [2, 3] 1, [.t 24, .t 25, .t 29], none⟩,
        ⟨some 23, .mv, [.t 30], none⟩,
        ⟨some 31, .extr 0, [.t 23], none⟩,
        ⟨some 32, .extr 1, [.t 23], none⟩,
        ⟨some 10, .mv, [.t 31], none⟩,
        ⟨some 11, .mv, [.t 32], none⟩]) [0, 1, 2, 9, 10, 11])
    (.seq (.seq (.kpost (.reg [⟨some 33, .mv, [.t 11], none⟩,
         ⟨some 34, .bin .neq 0, [.t 33, .c (.int .i64 0)], none⟩]) [0, 1, 2, 9, 10, 11, 34])
     (.cond (.t 34)
      (.seq (.kpost (.reg [⟨some 35, .mv, [.t 1], none⟩,
           ⟨some 36, .call 195 [4, 5] 1, [.t 35], none⟩,
           ⟨some 37, .mv, [.t 11], none⟩,
           ⟨some 6, .mv, [.t 36], none⟩,
           ⟨some 7, .mv, [.t 37], none⟩]) [6, 7])
       .ret)
      .skip))
    (.seq (.kpost (.reg [⟨some 38, .mv, [.t 10], none⟩,
        ⟨some 8, .mv, [.t 38], none⟩]) [0, 1, 2, 8, 9])
    (.seq (.kpost (.reg [⟨some 39, .mv, [.t 9], none⟩,
        ⟨some 40, .bin .add 0, [.t 39, .c (.int .i64 1)], none⟩,
        ⟨some 9, .mv, [.t 40], none⟩]) [0, 1, 2, 8, 9])
    (.goto 0)))))))) 0)) }
/-- slices.IndexFunc[[]waggoner/api.Cell,waggoner/api.Cell] -/
def i180 : IFn := { ns := 16, nt := 19, res := [.t 4], body :=
  (.seq (.kpost (.reg [⟨some 4, .mv, [.c (.int .i64 0)], none⟩]) [0, 1])
  (.seq (.seq (.kpost (.reg [⟨some 6, .mv, [.t 0], none⟩,
       ⟨some 7, .len, [.t 6], none⟩,
       ⟨some 8, .mv, [.c (.int .i64 0)], none⟩]) [0, 1, 7, 8])
   (.block 0 (.kpre [0, 1, 7, 8] (.loop (.kpost (.seq (.kpost (.reg [⟨some 9, .bin .lss 0, [.t 8, .t 7], none⟩]) [0, 1, 7, 8, 9])
       (.seq (.cond (.t 9)
         .skip
         (.exit 0))
       (.seq (.block 1 (.seq (.kpost (.reg [⟨some 10, .mv, [.t 8], none⟩,
             ⟨some 5, .mv, [.t 10], none⟩]) [0, 1, 5, 7, 8])
         (.seq (.kpost (.reg [⟨some 11, .mv, [.t 1], none⟩,
             ⟨some 12, .mv, [.t 0], none⟩,
             ⟨some 13, .mv, [.t 5], none⟩,
             ⟨some 14, .iadr 34, [.t 12, .t 13], none⟩,
             ⟨some 15, .load (some 34), [.t 14], none⟩,
             ⟨some 16, .callv [0, 1, 2, 3, 4, 5, 6, 7, 8, 9, 10, 11, 12, 13, 14, 15] 0, [.t 11, .t 15], none⟩]) [0, 1, 5, 7, 8, 16])
         (.cond (.t 16)
          (.seq (.kpost (.reg [⟨some 17, .mv, [.t 5], none⟩,
               ⟨some 4, .mv, [.t 17], none⟩]) [4])
           .ret)
          .skip))))
       (.kpost (.reg [⟨some 18, .bin .add 0, [.t 8, .c (.int .i64 1)], none⟩,
          ⟨some 8, .mv, [.t 18], none⟩]) [0, 1, 7, 8])))) [0, 1, 7, 8])))))
  (.seq (.kpost (.reg [⟨some 4, .mv, [.c (.int .i64 (-1))], none⟩]) [4])
  .ret))) }
/-- (waggoner/dev.command).append -/
def i181 : IFn := { ns := 5, nt := 29, res := [.cell 6 (some 4), .t 7], body :=
  (.seq (.kpost (.reg [⟨some 3, .box 0 234, [.t 0], none⟩,
      ⟨some 5, .box 1 54, [.t 2], none⟩,
      ⟨some 6, .alloc 2 54 [.int .i64 0, .int .i64 0, .nils 5 1, .int .i64 0], [], none⟩,
      ⟨some 7, .mv, [.c (.int .i64 0)], none⟩]) [1, 3, 5, 6])
  (.seq (.seq (.kpost (.reg [⟨some 8, .fadr 0, [.t 5], none⟩,
       ⟨some 9, .load none, [.t 8], none⟩,
       ⟨some 10, .bin .neq 0, [.t 9, .c (.int .i64 1)], none⟩,
       ⟨some 11, .mv, [.t 10], none⟩,
       ⟨some 12, .mv, [.t 1], some (11, true)⟩,
       ⟨some 13, .nilchk, [.t 12], some (11, true)⟩,
       ⟨some 14, .load (some 5), [.t 13], some (11, true)⟩,
       ⟨some 15, .call 194 [] 0, [.t 14], some (11, true)⟩,
       ⟨some 16, .bin .geq 0, [.t 15, .c (.int .i64 3)], some (11, true)⟩,
       ⟨some 17, .pick, [.t 11, .t 16, .c (.bool false)], none⟩]) [1, 3, 5, 6, 17])
   (.cond (.t 17)
    (.seq (.kpost (.reg [⟨some 18, .load (some 4), [.t 5], none⟩,
         ⟨none, .store 4, [.t 6, .t 18], none⟩,
         ⟨some 7, .mv, [.c (.int .i64 30)], none⟩]) [6, 7])
     .ret)
    .skip))
  (.seq (.kpost (.regD [⟨some 19, .load (some 4), [.t 5], none⟩,
      ⟨some 20, .mv, [.t 1], none⟩,
      ⟨some 21, .nilchk, [.t 20], none⟩,
      ⟨some 22, .fadr 0, [.t 21], none⟩,
      ⟨some 23, .load none, [.t 22], none⟩,
      ⟨some 24, .fadr 2, [.t 3], none⟩,
      ⟨some 25, .load none, [.t 24], none⟩,
      ⟨some 26, .call 197 [3, 4] 1, [.t 19, .t 23, .t 25], none⟩,
      ⟨some 27, .extr 0, [.t 26], none⟩,
      ⟨some 28, .extr 1, [.t 26], none⟩,
      ⟨none, .store 4, [.t 6, .t 27], none⟩,
      ⟨some 7, .mv, [.t 28], none⟩] [0, 1, 2, 3, 4, 5, 6, 7, 8, 9, 10, 11] none []) [6, 7])
  .ret))) }
/-- (waggoner/dev.command).reset -/
def i182 : IFn := { ns := 5, nt := 12, res := [.cell 6 (some 4), .t 7], body :=
  (.seq (.kpost (.reg [⟨some 3, .box 0 234, [.t 0], none⟩,
      ⟨some 5, .box 1 54, [.t 2], none⟩,
      ⟨some 6, .alloc 2 54 [.int .i64 0, .int .i64 0, .nils 5 1, .int .i64 0], [], none⟩,
      ⟨some 7, .mv, [.c (.int .i64 0)], none⟩]) [5, 6])
  (.seq (.kpost (.reg [⟨some 8, .load (some 4), [.t 5], none⟩,
      ⟨some 9, .call 198 [3, 4] 1, [.t 8], none⟩,
      ⟨some 10, .extr 0, [.t 9], none⟩,
      ⟨some 11, .extr 1, [.t 9], none⟩,
      ⟨none, .store 4, [.t 6, .t 10], none⟩,
      ⟨some 7, .mv, [.t 11], none⟩]) [6, 7])
  .ret)) }
/-- (waggoner/dev.command).finish -/
def i183 : IFn := { ns := 5, nt := 12, res := [.cell 6 (some 4), .t 7], body :=
  (.seq (.kpost (.reg [⟨some 3, .box 0 234, [.t 0], none⟩,
      ⟨some 5, .box 1 54, [.t 2], none⟩,
      ⟨some 6, .alloc 2 54 [.int .i64 0, .int .i64 0, .nils 5 1, .int .i64 0], [], none⟩,
      ⟨some 7, .mv, [.c (.int .i64 0)], none⟩]) [5, 6])
  (.seq (.kpost (.reg [⟨some 8, .load (some 4), [.t 5], none⟩,
      ⟨some 9, .call 199 [3, 4] 1, [.t 8], none⟩,
      ⟨some 10, .extr 0, [.t 9], none⟩,
      ⟨some 11, .extr 1, [.t 9], none⟩,
      ⟨none, .store 4, [.t 6, .t 10], none⟩,
      ⟨some 7, .mv, [.t 11], none⟩]) [6, 7])
  .ret)) }
/-- (waggoner/dev.command).close -/
def i184 : IFn := { ns := 5, nt := 12, res := [.cell 6 (some 4), .t 7], body :=
  (.seq (.kpost (.reg [⟨some 3, .box 0 234, [.t 0], none⟩,
      ⟨some 5, .box 1 54, [.t 2], none⟩,
      ⟨some 6, .alloc 2 54 [.int .i64 0, .int .i64 0, .nils 5 1, .int .i64 0], [], none⟩,
      ⟨some 7, .mv, [.c (.int .i64 0)], none⟩]) [5, 6])
  (.seq (.kpost (.reg [⟨some 8, .load (some 4), [.t 5], none⟩,
      ⟨some 9, .call 200 [3, 4] 1, [.t 8], none⟩,
      ⟨some 10, .extr 0, [.t 9], none⟩,
      ⟨some 11, .extr 1, [.t 9], none⟩,
      ⟨none, .store 4, [.t 6, .t 10], none⟩,
      ⟨some 7, .mv, [.t 11], none⟩]) [6, 7])
  .ret)) }
/-- waggoner/zone.Flush$1 -/
def i185 : IFn := { ns := 0, nt := 10, res := [], body :=
  (.kpost (.reg [⟨some 2, .mv, [.t 0], none⟩,
     ⟨some 3, .mv, [.t 0], none⟩,
     ⟨some 4, .nilchk, [.t 3], none⟩,
     ⟨some 5, .fadr 2, [.t 4], none⟩,
     ⟨some 6, .load none, [.t 5], none⟩,
     ⟨some 7, .len, [.t 6], none⟩,
     ⟨some 8, .nilchk, [.t 2], none⟩,
     ⟨some 9, .fadr 3, [.t 8], none⟩,
     ⟨none, .store 1, [.t 9, .t 7], none⟩]) []) }
/-- slices.rotateCmpFunc[waggoner/api.Found] -/
def i186 : IFn := { ns := 54, nt := 58, res := [], body :=
  (.seq (.kpost (.reg [⟨some 12, .mv, [.t 2], none⟩,
      ⟨some 13, .mv, [.t 1], none⟩,
      ⟨some 14, .bin .sub 0, [.t 12, .t 13], none⟩,
      ⟨some 10, .mv, [.t 14], none⟩]) [0, 2, 3, 4, 10])
  (.seq (.kpost (.reg [⟨some 15, .mv, [.t 3], none⟩,
      ⟨some 16, .mv, [.t 2], none⟩,
      ⟨some 17, .bin .sub 0, [.t 15, .t 16], none⟩,
      ⟨some 11, .mv, [.t 17], none⟩]) [0, 2, 4, 10, 11])
  (.seq (.block 0 (.kpre [0, 2, 4, 10, 11] (.loop (.kpost (.seq (.seq (.kpost (.reg [⟨some 18, .mv, [.t 10], none⟩,
            ⟨some 19, .mv, [.t 11], none⟩,
            ⟨some 20, .bin .neq 0, [.t 18, .t 19], none⟩]) [0, 2, 4, 10, 11, 20])
        (.cond (.t 20)
         .skip
         (.exit 0)))
       (.block 1 (.seq (.kpost (.reg [⟨some 21, .mv, [.t 10], none⟩,
            ⟨some 22, .mv, [.t 11], none⟩,
            ⟨some 23, .bin .gtr 0, [.t 21, .t 22], none⟩]) [0, 2, 4, 10, 11, 23])
        (.cond (.t 23)
         (.seq (.kpost (.reg [⟨some 24, .mv, [.t 0], none⟩,
              ⟨some 25, .mv, [.t 2], none⟩,
              ⟨some 26, .mv, [.t 10], none⟩,
              ⟨some 27, .bin .sub 0, [.t 25, .t 26], none⟩,
              ⟨some 28, .mv, [.t 2], none⟩,
              ⟨some 29, .mv, [.t 11], none⟩,
              ⟨some 30, .mv, [.t 4], none⟩,
              ⟨some 31, .call 201 [0, 1, 2, 3, 4, 5, 6, 7, 8, 9, 10, 11, 12, 13, 14, 15, 16, 17] 2, [.t 24, .t 27, .t 28, .t 29, .t 30], none⟩]) [0, 2, 4, 10, 11])
          (.kpost (.reg [⟨some 32, .mv, [.t 10], none⟩,
             ⟨some 33, .mv, [.t 11], none⟩,
             ⟨some 34, .bin .sub 0, [.t 32, .t 33], none⟩,
             ⟨some 10, .mv, [.t 34], none⟩]) [0, 2, 4, 10, 11]))
         (.seq (.kpost (.reg [⟨some 35, .mv, [.t 0], none⟩,
              ⟨some 36, .mv, [.t 2], none⟩,
              ⟨some 37, .mv, [.t 10], none⟩,
              ⟨some 38, .bin .sub 0, [.t 36, .t 37], none⟩,
              ⟨some 39, .mv, [.t 2], none⟩,
              ⟨some 40, .mv, [.t 11], none⟩,
              ⟨some 41, .bin .add 0, [.t 39, .t 40], none⟩,
              ⟨some 42, .mv, [.t 10], none⟩,
              ⟨some 43, .bin .sub 0, [.t 41, .t 42], none⟩,
              ⟨some 44, .mv, [.t 10], none⟩,
              ⟨some 45, .mv, [.t 4], none⟩,
              ⟨some 46, .call 201 [18, 19, 20, 21, 22, 23, 24, 25, 26, 27, 28, 29, 30, 31, 32, 33, 34, 35] 2, [.t 35, .t 38, .t 43, .t 44, .t 45], none⟩]) [0, 2, 4, 10, 11])
          (.kpost (.reg [⟨some 47, .mv, [.t 11], none⟩,
             ⟨some 48, .mv, [.t 10], none⟩,
             ⟨some 49, .bin .sub 0, [.t 47, .t 48], none⟩,
             ⟨some 11, .mv, [.t 49], none⟩]) [0, 2, 4, 10, 11])))))) [0, 2, 4, 10, 11]))))
  (.kpost (.reg [⟨some 50, .mv, [.t 0], none⟩,
     ⟨some 51, .mv, [.t 2], none⟩,
     ⟨some 52, .mv, [.t 10], none⟩,
     ⟨some 53, .bin .sub 0, [.t 51, .t 52], none⟩,
     ⟨some 54, .mv, [.t 2], none⟩,
     ⟨some 55, .mv, [.t 10], none⟩,
     ⟨some 56, .mv, [.t 4], none⟩,
     ⟨some 57, .call 201 [36, 37, 38, 39, 40, 41, 42, 43, 44, 45, 46, 47, 48, 49, 50, 51, 52, 53] 2, [.t 50, .t 53, .t 54, .t 55, .t 56], none⟩]) [])))) }
/-- waggoner/crc.Sum -/
def i187 : IFn := { ns := 0, nt := 5, res := [.t 2], body :=
  (.seq (.kpost (.reg [⟨some 2, .mv, [.c (.int .u32 0)], none⟩]) [0])
  (.seq (.kpost (.reg [⟨some 3, .mv, [.t 0], none⟩,
      ⟨some 4, .call 202 [] 0, [.c (.int .u32 0), .t 3], none⟩,
      ⟨some 2, .mv, [.t 4], none⟩]) [2])
  .ret)) }
/-- slices.Chunk[[]byte,byte]$1 -/
def i188 : IFn := { ns := 16, nt := 31, res := [], body :=
  (.seq (.kpost (.reg [⟨some 4, .mv, [.c (.int .i64 0)], none⟩]) [0, 1, 2, 4])
  (.block 0 (.kpre [0, 1, 2, 4] (.loop (.kpost (.seq (.seq (.kpost (.reg [⟨some 6, .mv, [.t 4], none⟩,
           ⟨some 7, .load none, [.t 1], none⟩,
           ⟨some 8, .len, [.t 7], none⟩,
           ⟨some 9, .bin .lss 0, [.t 6, .t 8], none⟩]) [0, 1, 2, 4, 9])
       (.cond (.t 9)
        .skip
        (.exit 0)))
      (.seq (.block 1 (.seq (.kpost (.regD [⟨some 13, .load none, [.t 2], none⟩,
            ⟨some 14, .load none, [.t 1], none⟩,
            ⟨some 15, .mv, [.t 4], none⟩,
            ⟨some 16, .slc 5 1 true false false, [.t 14, .t 15], none⟩,
            ⟨some 17, .len, [.t 16], none⟩,
            ⟨some 18, .min2, [.t 13, .t 17], none⟩,
            ⟨some 5, .mv, [.t 18], none⟩] [0, 1, 2, 3, 4, 5, 6] none []) [0, 1, 2, 4, 5])
        (.seq (.kpost (.reg [⟨some 19, .mv, [.t 0], none⟩,
            ⟨some 20, .load none, [.t 1], none⟩,
            ⟨some 21, .mv, [.t 4], none⟩,
            ⟨some 22, .mv, [.t 4], none⟩,
            ⟨some 23, .mv, [.t 5], none⟩,
            ⟨some 24, .bin .add 0, [.t 22, .t 23], none⟩,
            ⟨some 25, .mv, [.t 4], none⟩,
            ⟨some 26, .mv, [.t 5], none⟩,
            ⟨some 27, .bin .add 0, [.t 25, .t 26], none⟩,
            ⟨some 28, .slc 5 1 true true true, [.t 20, .t 21, .t 24, .t 27], none⟩,
            ⟨some 29, .callv [0, 1, 2, 3, 4, 5, 6, 7, 8, 9, 10, 11, 12, 13, 14, 15] 0, [.t 19, .t 28], none⟩,
            ⟨some 30, .bnot, [.t 29], none⟩]) [0, 1, 2, 4, 30])
        (.cond (.t 30)
         .ret
         .skip))))
      (.kpost (.reg [⟨some 10, .mv, [.t 4], none⟩,
         ⟨some 11, .load none, [.t 2], none⟩,
         ⟨some 12, .bin .add 0, [.t 10, .t 11], none⟩,
         ⟨some 4, .mv, [.t 12], none⟩]) [0, 1, 2, 4]))) [0, 1, 2, 4]))))) }
/-- strings.IndexByte -/
def i189 : IFn := { ns := 0, nt := 8, res := [.t 4], body :=
  (.seq (.kpost (.reg [⟨some 4, .mv, [.c (.int .i64 0)], none⟩]) [0, 1])
  (.seq (.kpost (.reg [⟨some 5, .mv, [.t 0], none⟩,
      ⟨some 6, .mv, [.t 1], none⟩,
      ⟨some 7, .call 203 [] 0, [.t 5, .t 6], none⟩,
      ⟨some 4, .mv, [.t 7], none⟩]) [4])
  .ret)) }
/-- unicode/utf8.ValidRune -/
def i190 : IFn := { ns := 0, nt := 17, res := [.t 2], body :=
  (.seq (.kpost (.reg [⟨some 2, .mv, [.c (.bool false)], none⟩]) [0])
  (.seq (.block 0 (.seq (.kpost (.reg [⟨some 4, .mv, [.t 0], none⟩,
        ⟨some 5, .bin .leq 0, [.c (.int .i32 0), .t 4], none⟩,
        ⟨some 6, .mv, [.t 5], none⟩,
        ⟨some 7, .mv, [.t 0], some (6, true)⟩,
        ⟨some 8, .bin .lss 0, [.t 7, .c (.int .i32 55296)], some (6, true)⟩,
        ⟨some 9, .pick, [.t 6, .t 8, .c (.bool false)], none⟩,
        ⟨some 3, .mv, [.t 9], none⟩]) [0, 3])
    (.cond (.t 3)
     (.seq (.kpost (.reg [⟨some 2, .mv, [.c (.bool true)], none⟩]) [2])
      .ret)
     (.seq (.kpost (.reg [⟨some 11, .mv, [.t 0], none⟩,
          ⟨some 12, .bin .lss 0, [.c (.int .i32 57343), .t 11], none⟩,
          ⟨some 13, .mv, [.t 12], none⟩,
          ⟨some 14, .mv, [.t 0], some (13, true)⟩,
          ⟨some 15, .bin .leq 0, [.t 14, .c (.int .i32 1114111)], some (13, true)⟩,
          ⟨some 16, .pick, [.t 13, .t 15, .c (.bool false)], none⟩,
          ⟨some 10, .mv, [.t 16], none⟩]) [10])
      (.cond (.t 10)
       (.seq (.kpost (.reg [⟨some 2, .mv, [.c (.bool true)], none⟩]) [2])
        .ret)
       .skip)))))
  (.seq (.kpost (.reg [⟨some 2, .mv, [.c (.bool false)], none⟩]) [2])
  .ret))) }
/-- internal/bytealg.Cutover -/
def i191 : IFn := { ns := 0, nt := 6, res := [.t 2], body :=
  (.seq (.kpost (.reg [⟨some 2, .mv, [.c (.int .i64 0)], none⟩]) [0])
  (.seq (.kpost (.reg [⟨some 3, .mv, [.t 0], none⟩,
      ⟨some 4, .bin .add 0, [.t 3, .c (.int .i64 16)], none⟩,
      ⟨some 5, .bin .quo 0, [.t 4, .c (.int .i64 8)], none⟩,
      ⟨some 2, .mv, [.t 5], none⟩]) [2])
  .ret)) }
/-- waggoner/log.first -/
def i193 : IFn := { ns := 21, nt := 11, res := [.t 6], body :=
  (.seq (.kpost (.reg [⟨some 3, .box 0 51, [.t 0], none⟩,
      ⟨some 4, .box 1 3, [.t 1], none⟩,
      ⟨some 5, .box 2 3, [.t 2], none⟩,
      ⟨some 6, .mv, [.c (.int .i64 0)], none⟩]) [3, 4, 5])
  (.seq (.kpost (.reg [⟨some 7, .fadr 1, [.t 3], none⟩,
      ⟨some 8, .load none, [.t 7], none⟩,
      ⟨some 9, .mkfn 204 0, [.t 4, .t 3, .t 5], none⟩,
      ⟨some 10, .call 165 [3, 4, 5, 6, 7, 8, 9, 10, 11, 12, 13, 14, 15, 16, 17, 18, 19, 20] 0, [.t 8, .t 9], none⟩,
      ⟨some 6, .mv, [.t 10], none⟩]) [6])
  .ret)) }
/-- waggoner/dev.Open -/
def i194 : IFn := { ns := 2, nt := 19, res := [.t 2], body :=
  (.seq (.kpost (.reg [⟨some 1, .box 0 51, [.t 0], none⟩,
      ⟨some 2, .mv, [.c (.int .i64 0)], none⟩]) [1, 2])
  (.seq (.seq (.kpost (.reg [⟨some 5, .fadr 1, [.t 1], none⟩,
       ⟨some 6, .load none, [.t 5], none⟩,
       ⟨some 7, .len, [.t 6], none⟩,
       ⟨some 8, .mv, [.c (.int .i64 0)], none⟩]) [2, 6, 7, 8])
   (.block 0 (.kpre [2, 6, 7, 8] (.loop (.kpost (.seq (.kpost (.reg [⟨some 9, .bin .lss 0, [.t 8, .t 7], none⟩]) [2, 6, 7, 8, 9])
       (.seq (.cond (.t 9)
         .skip
         (.exit 0))
       (.seq (.block 1 (.seq (.kpost (.reg [⟨some 10, .iadr 4, [.t 6, .t 8], none⟩,
             ⟨some 11, .load (some 4), [.t 10], none⟩,
             ⟨some 4, .alloc 1 54 [.int .i64 0, .int .i64 0, .nils 5 1, .int .i64 0], [], none⟩,
             ⟨none, .store 4, [.t 4, .t 11], none⟩]) [2, 4, 6, 7, 8])
         (.seq (.kpost (.reg [⟨some 12, .fadr 0, [.t 4], none⟩,
             ⟨some 13, .load none, [.t 12], none⟩,
             ⟨some 14, .bin .eql 0, [.t 13, .c (.int .i64 1)], none⟩]) [2, 6, 7, 8, 14])
         (.cond (.t 14)
          (.kpost (.reg [⟨some 15, .mv, [.t 2], none⟩,
              ⟨some 16, .bin .add 0, [.t 15, .c (.int .i64 1)], none⟩,
              ⟨some 2, .mv, [.t 16], none⟩]) [2, 6, 7, 8])
          .skip))))
       (.kpost (.reg [⟨some 17, .bin .add 0, [.t 8, .c (.int .i64 1)], none⟩,
          ⟨some 8, .mv, [.t 17], none⟩]) [2, 6, 7, 8])))) [2, 6, 7, 8])))))
  (.seq (.kpost (.reg [⟨some 18, .mv, [.t 2], none⟩,
      ⟨some 2, .mv, [.t 18], none⟩]) [2])
  .ret))) }
/-- waggoner/extmap.own -/
def i195 : IFn := { ns := 4, nt := 21, res := [.t 2], body :=
  (.seq (.kpost (.reg [⟨some 2, .mv, [.c (.nils 48 5)], none⟩]) [0, 2])
  (.seq (.seq (.kpost (.reg [⟨some 5, .mv, [.t 0], none⟩,
       ⟨some 6, .len, [.t 5], none⟩,
       ⟨some 7, .mv, [.c (.int .i64 0)], none⟩]) [2, 5, 6, 7])
   (.block 0 (.kpre [2, 5, 6, 7] (.loop (.kpost (.seq (.kpost (.reg [⟨some 8, .bin .lss 0, [.t 7, .t 6], none⟩]) [2, 5, 6, 7, 8])
       (.seq (.cond (.t 8)
         .skip
         (.exit 0))
       (.seq (.block 1 (.seq (.kpost (.reg [⟨some 9, .iadr 5, [.t 5, .t 7], none⟩,
             ⟨some 10, .load (some 5), [.t 9], none⟩,
             ⟨some 4, .alloc 0 48 [.int .i64 0, .int .i64 0, .int .i64 0, .int .i64 0, .nils 5 1], [], none⟩,
             ⟨none, .store 5, [.t 4, .t 10], none⟩]) [2, 4, 5, 6, 7])
         (.seq (.kpost (.reg [⟨some 11, .fadr 4, [.t 4], none⟩,
             ⟨some 12, .load none, [.t 11], none⟩,
             ⟨some 13, .app 1 5 1 1, [.c (.nils 5 1), .t 12], none⟩,
             ⟨some 14, .fadr 4, [.t 4], none⟩,
             ⟨none, .store 1, [.t 14, .t 13], none⟩]) [2, 4, 5, 6, 7])
         (.kpost (.reg [⟨some 15, .mv, [.t 2], none⟩,
            ⟨some 16, .load (some 5), [.t 4], none⟩,
            ⟨some 17, .bslice 2 48 5 [.int .i64 0, .int .i64 0, .int .i64 0, .int .i64 0, .imm 1 []] 1 [0], [.t 16], none⟩,
            ⟨some 18, .app 3 48 5 56, [.t 15, .t 17], none⟩,
            ⟨some 2, .mv, [.t 18], none⟩]) [2, 5, 6, 7]))))
       (.kpost (.reg [⟨some 19, .bin .add 0, [.t 7, .c (.int .i64 1)], none⟩,
          ⟨some 7, .mv, [.t 19], none⟩]) [2, 5, 6, 7])))) [2, 5, 6, 7])))))
  (.seq (.kpost (.reg [⟨some 20, .mv, [.t 2], none⟩,
      ⟨some 2, .mv, [.t 20], none⟩]) [2])
  .ret))) }
/-- waggoner/extmap.Put -/
def i196 : IFn := { ns := 19, nt := 63, res := [.cell 6 none, .t 7], body :=
  (.seq (.kpost (.reg [⟨some 5, .box 0 48, [.t 2], none⟩,
      ⟨some 6, .alloc 1 26 [.nils 48 5], [], none⟩,
      ⟨some 7, .mv, [.c (.int .i64 0)], none⟩]) [0, 1, 5, 6, 7])
  (.seq (.block 0 (.seq (.kpost (.reg [⟨some 13, .mv, [.t 0], none⟩,
        ⟨some 14, .mv, [.t 1], none⟩,
        ⟨some 15, .call 37 [] 0, [.t 13, .t 14], none⟩,
        ⟨some 16, .bnot, [.t 15], none⟩,
        ⟨some 12, .mv, [.t 16], none⟩]) [0, 1, 5, 6, 7, 12])
    (.cond (.t 12)
     (.seq (.kpost (.reg [⟨none, .store 1, [.t 6, .c (.nils 48 5)], none⟩,
          ⟨some 7, .mv, [.c (.int .i64 80)], none⟩]) [6, 7])
      .ret)
     (.seq (.kpost (.reg [⟨some 18, .load (some 5), [.t 5], none⟩,
          ⟨some 19, .call 75 [] 0, [.t 18], none⟩,
          ⟨some 20, .bnot, [.t 19], none⟩,
          ⟨some 21, .mv, [.t 20], none⟩,
          ⟨some 22, .fadr 0, [.t 5], some (21, false)⟩,
          ⟨some 23, .load none, [.t 22], some (21, false)⟩,
          ⟨some 24, .fadr 1, [.t 5], some (21, false)⟩,
          ⟨some 25, .load none, [.t 24], some (21, false)⟩,
          ⟨some 26, .bin .add 0, [.t 23, .t 25], some (21, false)⟩,
          ⟨some 27, .mv, [.t 0], some (21, false)⟩,
          ⟨some 28, .bin .gtr 0, [.t 26, .t 27], some (21, false)⟩,
          ⟨some 29, .pick, [.t 21, .c (.bool true), .t 28], none⟩,
          ⟨some 17, .mv, [.t 29], none⟩]) [1, 5, 6, 7, 17])
      (.cond (.t 17)
       (.seq (.kpost (.reg [⟨some 30, .mv, [.t 1], none⟩,
            ⟨some 31, .call 195 [2, 3] 1, [.t 30], none⟩,
            ⟨none, .store 1, [.t 6, .t 31], none⟩,
            ⟨some 7, .mv, [.c (.int .i64 81)], none⟩]) [6, 7])
        .ret)
       .skip)))))
  (.seq (.seq (.kpost (.reg [⟨some 32, .mv, [.t 1], none⟩,
       ⟨some 33, .load (some 5), [.t 5], none⟩,
       ⟨some 34, .call 206 [4, 5, 6, 7, 8, 9] 1, [.t 32, .t 33], none⟩]) [6, 7, 34])
   (.block 1 (.kpre [6, 7, 34] (.rangeF 10 (.t 34) [35]
      (.kpost (.reg [⟨some 8, .alloc 11 48 [.int .i64 0, .int .i64 0, .int .i64 0, .int .i64 0, .nils 5 1], [], none⟩,
         ⟨none, .store 5, [.t 8, .t 35], none⟩]) [6, 8])
      (.block 2 (.seq (.seq (.kpost (.reg [⟨some 36, .load none, [.t 6], none⟩,
            ⟨some 37, .len, [.t 36], none⟩,
            ⟨some 9, .mv, [.t 37], none⟩]) [6, 8, 9])
        (.seq (.kpost (.reg [⟨some 38, .mv, [.t 9], none⟩,
            ⟨some 39, .bin .gtr 0, [.t 38, .c (.int .i64 0)], none⟩]) [6, 8, 9, 39])
        (.cond (.t 39)
         (.seq (.kpost (.regD [⟨some 41, .load none, [.t 6], none⟩,
              ⟨some 42, .mv, [.t 9], none⟩,
              ⟨some 43, .bin .sub 0, [.t 42, .c (.int .i64 1)], none⟩,
              ⟨some 44, .iadr 5, [.t 41, .t 43], none⟩,
              ⟨some 45, .load (some 5), [.t 44], none⟩,
              ⟨some 46, .load (some 5), [.t 8], none⟩,
              ⟨some 47, .call 207 [12, 13] 1, [.t 45, .t 46], none⟩,
              ⟨some 40, .mv, [.t 47], none⟩,
              ⟨some 48, .extr 0, [.t 40], none⟩,
              ⟨some 49, .extr 1, [.t 40], none⟩,
              ⟨some 10, .alloc 14 48 [.int .i64 0, .int .i64 0, .int .i64 0, .int .i64 0, .nils 5 1], [], none⟩,
              ⟨none, .store 5, [.t 10, .t 48], none⟩,
              ⟨some 11, .mv, [.t 49], none⟩] [0, 1, 2, 3, 4, 5, 6, 7, 8, 9, 10, 11, 12] none [(0, 10), (2, 10), (3, 10), (4, 10), (5, 10), (6, 10)]) [6, 8, 9, 10, 11])
          (.seq (.kpost (.reg [⟨some 50, .mv, [.t 11], none⟩,
              ⟨some 51, .bin .eql 0, [.t 50, .c (.int .i64 0)], none⟩]) [6, 8, 9, 10, 51])
          (.cond (.t 51)
           (.seq (.kpost (.reg [⟨some 52, .load none, [.t 6], none⟩,
                ⟨some 53, .mv, [.t 9], none⟩,
                ⟨some 54, .bin .sub 0, [.t 53, .c (.int .i64 1)], none⟩,
                ⟨some 55, .load (some 5), [.t 10], none⟩,
                ⟨some 56, .iadr 5, [.t 52, .t 54], none⟩,
                ⟨none, .store 5, [.t 56, .t 55], none⟩]) [])
            (.exit 2))
           .skip)))
         .skip)))
       (.kpost (.reg [⟨some 57, .load none, [.t 6], none⟩,
          ⟨some 58, .load (some 5), [.t 8], none⟩,
          ⟨some 59, .bslice 15 48 5 [.int .i64 0, .int .i64 0, .int .i64 0, .int .i64 0, .imm 1 []] 1 [0], [.t 58], none⟩,
          ⟨some 60, .app 16 48 5 56, [.t 57, .t 59], none⟩,
          ⟨none, .store 1, [.t 6, .t 60], none⟩]) [])))))))
  (.seq (.kpost (.reg [⟨some 61, .load none, [.t 6], none⟩,
      ⟨some 62, .call 195 [17, 18] 1, [.t 61], none⟩,
      ⟨none, .store 1, [.t 6, .t 62], none⟩,
      ⟨some 7, .mv, [.c (.int .i64 0)], none⟩]) [6, 7])
  .ret)))) }
/-- waggoner/zone.Append -/
def i197 : IFn := { ns := 26, nt := 33, res := [.cell 6 (some 4), .t 7], body :=
  (.seq (.kpost (.reg [⟨some 3, .box 0 54, [.t 0], none⟩,
      ⟨some 4, .box 1 3, [.t 1], none⟩,
      ⟨some 5, .box 2 28, [.t 2], none⟩,
      ⟨some 6, .alloc 3 54 [.int .i64 0, .int .i64 0, .nils 5 1, .int .i64 0], [], none⟩,
      ⟨some 7, .mv, [.c (.int .i64 0)], none⟩]) [3, 4, 5, 6])
  (.seq (.seq (.kpost (.reg [⟨some 8, .load (some 4), [.t 3], none⟩,
       ⟨some 9, .load none, [.t 4], none⟩,
       ⟨some 10, .call 129 [] 0, [.t 8, .t 9], none⟩,
       ⟨some 11, .bnot, [.t 10], none⟩,
       ⟨some 12, .mv, [.t 11], none⟩,
       ⟨some 13, .load none, [.t 5], some (12, false)⟩,
       ⟨some 14, .len, [.t 13], some (12, false)⟩,
       ⟨some 15, .bin .eql 0, [.t 14, .c (.int .i64 0)], some (12, false)⟩,
       ⟨some 16, .pick, [.t 12, .c (.bool true), .t 15], none⟩]) [3, 4, 5, 6, 16])
   (.cond (.t 16)
    (.seq (.kpost (.reg [⟨some 17, .fadr 2, [.t 3], none⟩,
         ⟨some 18, .load none, [.t 17], none⟩,
         ⟨some 19, .call 74 [4, 5] 1, [.t 18], none⟩,
         ⟨some 20, .fadr 2, [.t 3], none⟩,
         ⟨none, .store 1, [.t 20, .t 19], none⟩]) [3, 6])
     (.seq (.kpost (.reg [⟨some 21, .load (some 4), [.t 3], none⟩,
         ⟨none, .store 4, [.t 6, .t 21], none⟩,
         ⟨some 7, .mv, [.c (.int .i64 1)], none⟩]) [6, 7])
     .ret))
    .skip))
  (.seq (.kpost (.regD [⟨some 22, .load (some 4), [.t 3], none⟩,
      ⟨some 23, .load none, [.t 5], none⟩,
      ⟨some 24, .len, [.t 23], none⟩,
      ⟨some 25, .load (some 4), [.t 3], none⟩,
      ⟨some 26, .load none, [.t 4], none⟩,
      ⟨some 27, .call 205 [] 0, [.t 25, .t 26], none⟩,
      ⟨some 28, .bin .leq 0, [.t 24, .t 27], none⟩,
      ⟨some 29, .mkfn 208 0, [.t 5, .t 4], none⟩,
      ⟨some 30, .call 130 [6, 7, 8, 9, 10, 11, 12, 13, 14, 15, 16, 17, 18, 19, 20, 21, 22, 23, 24, 25] 1, [.t 22, .t 28, .t 29], none⟩,
      ⟨some 31, .extr 0, [.t 30], none⟩,
      ⟨some 32, .extr 1, [.t 30], none⟩,
      ⟨none, .store 4, [.t 6, .t 31], none⟩,
      ⟨some 7, .mv, [.t 32], none⟩] [0, 1, 2, 3, 4, 5, 6, 7, 8, 9, 10, 11, 12] none [(0, 5), (1, 5), (2, 5)]) [6, 7])
  .ret))) }
/-- waggoner/zone.Reset -/
def i198 : IFn := { ns := 22, nt := 27, res := [.cell 2 (some 4), .t 3], body :=
  (.seq (.kpost (.reg [⟨some 1, .box 0 54, [.t 0], none⟩,
      ⟨some 2, .alloc 1 54 [.int .i64 0, .int .i64 0, .nils 5 1, .int .i64 0], [], none⟩,
      ⟨some 3, .mv, [.c (.int .i64 0)], none⟩]) [1, 2])
  (.seq (.kpost (.reg [⟨some 5, .load (some 4), [.t 1], none⟩,
      ⟨some 6, .call 166 [] 0, [.t 5], none⟩,
      ⟨some 7, .mv, [.t 6], none⟩,
      ⟨some 8, .fadr 0, [.t 1], some (7, false)⟩,
      ⟨some 9, .load none, [.t 8], some (7, false)⟩,
      ⟨some 10, .bin .eql 0, [.t 9, .c (.int .i64 3)], some (7, false)⟩,
      ⟨some 11, .pick, [.t 7, .c (.bool true), .t 10], none⟩,
      ⟨some 12, .mv, [.t 11], none⟩,
      ⟨some 13, .fadr 1, [.t 1], some (12, true)⟩,
      ⟨some 14, .load none, [.t 13], some (12, true)⟩,
      ⟨some 15, .bin .geq 0, [.t 14, .c (.int .i64 0)], some (12, true)⟩,
      ⟨some 16, .pick, [.t 12, .t 15, .c (.bool false)], none⟩,
      ⟨some 17, .mv, [.t 16], none⟩,
      ⟨some 18, .fadr 1, [.t 1], some (17, true)⟩,
      ⟨some 19, .load none, [.t 18], some (17, true)⟩,
      ⟨some 20, .bin .lss 0, [.t 19, .c (.int .i64 1073741824)], some (17, true)⟩,
      ⟨some 21, .pick, [.t 17, .t 20, .c (.bool false)], none⟩,
      ⟨some 4, .mv, [.t 21], none⟩]) [1, 2, 4])
  (.seq (.kpost (.reg [⟨some 22, .load (some 4), [.t 1], none⟩,
      ⟨some 23, .mv, [.t 4], none⟩,
      ⟨some 24, .call 130 [2, 3, 4, 5, 6, 7, 8, 9, 10, 11, 12, 13, 14, 15, 16, 17, 18, 19, 20, 21] 1, [.t 22, .t 23, .c (.fn 209 [] [])], none⟩,
      ⟨some 25, .extr 0, [.t 24], none⟩,
      ⟨some 26, .extr 1, [.t 24], none⟩,
      ⟨none, .store 4, [.t 2, .t 25], none⟩,
      ⟨some 3, .mv, [.t 26], none⟩]) [2, 3])
  .ret))) }
/-- waggoner/zone.Finish -/
def i199 : IFn := { ns := 22, nt := 15, res := [.cell 2 (some 4), .t 3], body :=
  (.seq (.kpost (.reg [⟨some 1, .box 0 54, [.t 0], none⟩,
      ⟨some 2, .alloc 1 54 [.int .i64 0, .int .i64 0, .nils 5 1, .int .i64 0], [], none⟩,
      ⟨some 3, .mv, [.c (.int .i64 0)], none⟩]) [1, 2])
  (.seq (.kpost (.regD [⟨some 4, .load (some 4), [.t 1], none⟩,
      ⟨some 5, .load (some 4), [.t 1], none⟩,
      ⟨some 6, .call 166 [] 0, [.t 5], none⟩,
      ⟨some 7, .mv, [.t 6], none⟩,
      ⟨some 8, .fadr 0, [.t 1], some (7, true)⟩,
      ⟨some 9, .load none, [.t 8], some (7, true)⟩,
      ⟨some 10, .bin .neq 0, [.t 9, .c (.int .i64 0)], some (7, true)⟩,
      ⟨some 11, .pick, [.t 7, .t 10, .c (.bool false)], none⟩,
      ⟨some 12, .call 130 [2, 3, 4, 5, 6, 7, 8, 9, 10, 11, 12, 13, 14, 15, 16, 17, 18, 19, 20, 21] 1, [.t 4, .t 11, .c (.fn 210 [] [])], none⟩,
      ⟨some 13, .extr 0, [.t 12], none⟩,
      ⟨some 14, .extr 1, [.t 12], none⟩,
      ⟨none, .store 4, [.t 2, .t 13], none⟩,
      ⟨some 3, .mv, [.t 14], none⟩] [0, 1, 2, 3, 4, 5, 6, 7, 8, 9, 10, 11, 12] none [(0, 2)]) [2, 3])
  .ret)) }
/-- waggoner/zone.Close -/
def i200 : IFn := { ns := 22, nt := 11, res := [.cell 2 (some 4), .t 3], body :=
  (.seq (.kpost (.reg [⟨some 1, .box 0 54, [.t 0], none⟩,
      ⟨some 2, .alloc 1 54 [.int .i64 0, .int .i64 0, .nils 5 1, .int .i64 0], [], none⟩,
      ⟨some 3, .mv, [.c (.int .i64 0)], none⟩]) [1, 2])
  (.seq (.kpost (.reg [⟨some 4, .load (some 4), [.t 1], none⟩,
      ⟨some 5, .fadr 0, [.t 1], none⟩,
      ⟨some 6, .load none, [.t 5], none⟩,
      ⟨some 7, .bin .eql 0, [.t 6, .c (.int .i64 1)], none⟩,
      ⟨some 8, .call 130 [2, 3, 4, 5, 6, 7, 8, 9, 10, 11, 12, 13, 14, 15, 16, 17, 18, 19, 20, 21] 1, [.t 4, .t 7, .c (.fn 211 [] [])], none⟩,
      ⟨some 9, .extr 0, [.t 8], none⟩,
      ⟨some 10, .extr 1, [.t 8], none⟩,
      ⟨none, .store 4, [.t 2, .t 9], none⟩,
      ⟨some 3, .mv, [.t 10], none⟩]) [2, 3])
  .ret)) }
/-- slices.swapRangeCmpFunc[waggoner/api.Found] -/
def i201 : IFn := { ns := 0, nt := 38, res := [], body :=
  (.seq (.kpost (.reg [⟨some 10, .mv, [.c (.int .i64 0)], none⟩]) [0, 1, 2, 3, 10])
  (.block 0 (.kpre [0, 1, 2, 3, 10] (.loop (.kpost (.seq (.seq (.kpost (.reg [⟨some 11, .mv, [.t 10], none⟩,
           ⟨some 12, .mv, [.t 3], none⟩,
           ⟨some 13, .bin .lss 0, [.t 11, .t 12], none⟩]) [0, 1, 2, 3, 10, 13])
       (.cond (.t 13)
        .skip
        (.exit 0)))
      (.seq (.block 1 (.kpost (.regD [⟨some 16, .mv, [.t 0], none⟩,
           ⟨some 17, .mv, [.t 1], none⟩,
           ⟨some 18, .mv, [.t 10], none⟩,
           ⟨some 19, .bin .add 0, [.t 17, .t 18], none⟩,
           ⟨some 20, .mv, [.t 0], none⟩,
           ⟨some 21, .mv, [.t 2], none⟩,
           ⟨some 22, .mv, [.t 10], none⟩,
           ⟨some 23, .bin .add 0, [.t 21, .t 22], none⟩,
           ⟨some 24, .mv, [.t 0], none⟩,
           ⟨some 25, .mv, [.t 2], none⟩,
           ⟨some 26, .mv, [.t 10], none⟩,
           ⟨some 27, .bin .add 0, [.t 25, .t 26], none⟩,
           ⟨some 28, .iadr 5, [.t 24, .t 27], none⟩,
           ⟨some 29, .load (some 5), [.t 28], none⟩,
           ⟨some 30, .mv, [.t 0], none⟩,
           ⟨some 31, .mv, [.t 1], none⟩,
           ⟨some 32, .mv, [.t 10], none⟩,
           ⟨some 33, .bin .add 0, [.t 31, .t 32], none⟩,
           ⟨some 34, .iadr 5, [.t 30, .t 33], none⟩,
           ⟨some 35, .load (some 5), [.t 34], none⟩,
           ⟨some 36, .iadr 5, [.t 16, .t 19], none⟩,
           ⟨none, .store 5, [.t 36, .t 29], none⟩,
           ⟨some 37, .iadr 5, [.t 20, .t 23], none⟩,
           ⟨none, .store 5, [.t 37, .t 35], none⟩] [0, 1, 2, 3, 4, 5, 6, 7, 8, 9, 10, 11, 12, 13, 14, 15, 16, 17, 18, 19, 20, 21, 22, 23] none [(7, 21)]) [0, 1, 2, 3, 10]))
      (.kpost (.reg [⟨some 14, .mv, [.t 10], none⟩,
         ⟨some 15, .bin .add 0, [.t 14, .c (.int .i64 1)], none⟩,
         ⟨some 10, .mv, [.t 15], none⟩]) [0, 1, 2, 3, 10]))) [0, 1, 2, 3, 10]))))) }
/-- waggoner/crc.More -/
def i202 : IFn := { ns := 1, nt := 38, res := [.t 4], body :=
  (.seq (.kpost (.reg [⟨some 4, .mv, [.c (.int .u32 0)], none⟩]) [0, 1])
  (.seq (.kpost (.reg [⟨some 8, .call 212 [] 0, [], none⟩,
      ⟨some 5, .alloc 0 271 [.int .u32 0, .int .u32 0, .int .u32 0, .int .u32 0, .int .u32 0, .int .u32 0, .int .u32 0, .int .u32 0, .int .u32 0, .int .u32 0, .int .u32 0, .int .u32 0, .int .u32 0, .int .u32 0, .int .u32 0, .int .u32 0], [], none⟩,
      ⟨none, .store 16, [.t 5, .t 8], none⟩]) [0, 1, 5])
  (.seq (.kpost (.reg [⟨some 9, .mv, [.t 0], none⟩,
      ⟨some 10, .bin .xor 0, [.t 9, .c (.int .u32 4294967295)], none⟩,
      ⟨some 0, .mv, [.t 10], none⟩]) [0, 1, 5])
  (.seq (.seq (.kpost (.reg [⟨some 11, .mv, [.t 1], none⟩,
       ⟨some 12, .len, [.t 11], none⟩,
       ⟨some 13, .mv, [.c (.int .i64 0)], none⟩]) [0, 5, 11, 12, 13])
   (.block 0 (.kpre [0, 5, 11, 12, 13] (.loop (.kpost (.seq (.kpost (.reg [⟨some 14, .bin .lss 0, [.t 13, .t 12], none⟩]) [0, 5, 11, 12, 13, 14])
       (.seq (.cond (.t 14)
         .skip
         (.exit 0))
       (.seq (.block 1 (.seq (.kpost (.reg [⟨some 15, .iadr 1, [.t 11, .t 13], none⟩,
             ⟨some 16, .load none, [.t 15], none⟩,
             ⟨some 7, .mv, [.t 16], none⟩]) [0, 5, 7, 11, 12, 13])
         (.seq (.kpost (.reg [⟨some 17, .mv, [.t 0], none⟩,
             ⟨some 18, .mv, [.t 7], none⟩,
             ⟨some 19, .conv .u32, [.t 18], none⟩,
             ⟨some 20, .bin .xor 0, [.t 17, .t 19], none⟩,
             ⟨some 0, .mv, [.t 20], none⟩]) [0, 5, 11, 12, 13])
         (.seq (.kpost (.reg [⟨some 21, .mv, [.t 0], none⟩,
             ⟨some 22, .bin .shr 0, [.t 21, .c (.int .u64 4)], none⟩,
             ⟨some 23, .mv, [.t 0], none⟩,
             ⟨some 24, .bin .and 0, [.t 23, .c (.int .u32 15)], none⟩,
             ⟨some 25, .iadra 1 16, [.t 5, .t 24], none⟩,
             ⟨some 26, .load none, [.t 25], none⟩,
             ⟨some 27, .bin .xor 0, [.t 22, .t 26], none⟩,
             ⟨some 0, .mv, [.t 27], none⟩]) [0, 5, 11, 12, 13])
         (.kpost (.reg [⟨some 28, .mv, [.t 0], none⟩,
            ⟨some 29, .bin .shr 0, [.t 28, .c (.int .u64 4)], none⟩,
            ⟨some 30, .mv, [.t 0], none⟩,
            ⟨some 31, .bin .and 0, [.t 30, .c (.int .u32 15)], none⟩,
            ⟨some 32, .iadra 1 16, [.t 5, .t 31], none⟩,
            ⟨some 33, .load none, [.t 32], none⟩,
            ⟨some 34, .bin .xor 0, [.t 29, .t 33], none⟩,
            ⟨some 0, .mv, [.t 34], none⟩]) [0, 5, 11, 12, 13])))))
       (.kpost (.reg [⟨some 35, .bin .add 0, [.t 13, .c (.int .i64 1)], none⟩,
          ⟨some 13, .mv, [.t 35], none⟩]) [0, 5, 11, 12, 13])))) [0, 5, 11, 12, 13])))))
  (.seq (.kpost (.reg [⟨some 36, .mv, [.t 0], none⟩,
      ⟨some 37, .bin .xor 0, [.t 36, .c (.int .u32 4294967295)], none⟩,
      ⟨some 4, .mv, [.t 37], none⟩]) [4])
  .ret))))) }
/-- internal/stringslite.IndexByte -/
def i203 : IFn := { ns := 0, nt := 8, res := [.t 4], body :=
  (.seq (.kpost (.reg [⟨some 4, .mv, [.c (.int .i64 0)], none⟩]) [0, 1])
  (.seq (.kpost (.reg [⟨some 5, .mv, [.t 0], none⟩,
      ⟨some 6, .mv, [.t 1], none⟩,
      ⟨some 7, .call 213 [] 0, [.t 5, .t 6], none⟩,
      ⟨some 4, .mv, [.t 7], none⟩]) [4])
  .ret)) }
/-- waggoner/log.first$1 -/
def i204 : IFn := { ns := 1, nt := 18, res := [.t 5], body :=
  (.seq (.kpost (.reg [⟨some 4, .box 0 54, [.t 0], none⟩,
      ⟨some 5, .mv, [.c (.bool false)], none⟩]) [1, 2, 3, 4])
  (.seq (.kpost (.regD [⟨some 6, .fadr 0, [.t 4], none⟩,
      ⟨some 7, .load none, [.t 6], none⟩,
      ⟨some 8, .load none, [.t 1], none⟩,
      ⟨some 9, .bin .eql 0, [.t 7, .t 8], none⟩,
      ⟨some 10, .mv, [.t 9], none⟩,
      ⟨some 11, .load (some 4), [.t 4], some (10, true)⟩,
      ⟨some 12, .fadr 0, [.t 2], some (10, true)⟩,
      ⟨some 13, .load none, [.t 12], some (10, true)⟩,
      ⟨some 14, .call 205 [] 0, [.t 11, .t 13], some (10, true)⟩,
      ⟨some 15, .load none, [.t 3], some (10, true)⟩,
      ⟨some 16, .bin .geq 0, [.t 14, .t 15], some (10, true)⟩,
      ⟨some 17, .pick, [.t 10, .t 16, .c (.bool false)], none⟩,
      ⟨some 5, .mv, [.t 17], none⟩] [0, 1, 2, 3, 4, 5, 6, 7, 8, 9, 10, 11, 12] none [(8, 9)]) [5])
  .ret)) }
/-- waggoner/zone.Room -/
def i205 : IFn := { ns := 1, nt := 19, res := [.t 4], body :=
  (.seq (.kpost (.reg [⟨some 2, .box 0 54, [.t 0], none⟩,
      ⟨some 4, .mv, [.c (.int .i64 0)], none⟩]) [1, 2])
  (.seq (.seq (.kpost (.reg [⟨some 5, .load (some 4), [.t 2], none⟩,
       ⟨some 6, .mv, [.t 1], none⟩,
       ⟨some 7, .call 129 [] 0, [.t 5, .t 6], none⟩,
       ⟨some 8, .bnot, [.t 7], none⟩,
       ⟨some 9, .mv, [.t 8], none⟩,
       ⟨some 10, .load (some 4), [.t 2], some (9, false)⟩,
       ⟨some 11, .call 166 [] 0, [.t 10], some (9, false)⟩,
       ⟨some 12, .bnot, [.t 11], some (9, false)⟩,
       ⟨some 13, .pick, [.t 9, .c (.bool true), .t 12], none⟩]) [1, 2, 13])
   (.cond (.t 13)
    (.seq (.kpost (.reg [⟨some 4, .mv, [.c (.int .i64 0)], none⟩]) [4])
     .ret)
    .skip))
  (.seq (.kpost (.reg [⟨some 14, .mv, [.t 1], none⟩,
      ⟨some 15, .fadr 2, [.t 2], none⟩,
      ⟨some 16, .load none, [.t 15], none⟩,
      ⟨some 17, .len, [.t 16], none⟩,
      ⟨some 18, .bin .sub 0, [.t 14, .t 17], none⟩,
      ⟨some 4, .mv, [.t 18], none⟩]) [4])
  .ret))) }
/-- waggoner/extmap.parts -/
def i206 : IFn := { ns := 2, nt := 6, res := [.t 4], body :=
  (.seq (.kpost (.reg [⟨some 2, .box 0 26, [.t 0], none⟩,
      ⟨some 3, .box 1 48, [.t 1], none⟩,
      ⟨some 4, .mv, [.c (.nilf)], none⟩]) [2, 3])
  (.seq (.kpost (.reg [⟨some 5, .mkfn 214 0, [.t 3, .t 2], none⟩,
      ⟨some 4, .mv, [.t 5], none⟩]) [4])
  .ret)) }
/-- waggoner/extent.Join -/
def i207 : IFn := { ns := 6, nt := 25, res := [.cell 4 (some 5), .t 5], body :=
  (.seq (.kpost (.reg [⟨some 2, .box 0 48, [.t 0], none⟩,
      ⟨some 3, .box 1 48, [.t 1], none⟩,
      ⟨some 4, .alloc 2 48 [.int .i64 0, .int .i64 0, .int .i64 0, .int .i64 0, .nils 5 1], [], none⟩,
      ⟨some 5, .mv, [.c (.int .i64 0)], none⟩]) [2, 3, 4])
  (.seq (.seq (.kpost (.reg [⟨some 6, .load (some 5), [.t 2], none⟩,
       ⟨some 7, .load (some 5), [.t 3], none⟩,
       ⟨some 8, .call 76 [] 0, [.t 6, .t 7], none⟩,
       ⟨some 9, .bnot, [.t 8], none⟩]) [2, 3, 4, 9])
   (.cond (.t 9)
    (.seq (.kpost (.reg [⟨some 10, .build [.int .i64 0, .int .i64 0, .int .i64 0, .int .i64 0, .nils 5 1] [], [], none⟩,
         ⟨none, .store 5, [.t 4, .t 10], none⟩,
         ⟨some 5, .mv, [.c (.int .i64 70)], none⟩]) [4, 5])
     .ret)
    .skip))
  (.seq (.kpost (.reg [⟨some 11, .fadr 1, [.t 2], none⟩,
      ⟨some 12, .load none, [.t 11], none⟩,
      ⟨some 13, .fadr 1, [.t 3], none⟩,
      ⟨some 14, .load none, [.t 13], none⟩,
      ⟨some 15, .bin .add 0, [.t 12, .t 14], none⟩,
      ⟨some 16, .fadr 1, [.t 2], none⟩,
      ⟨none, .store 1, [.t 16, .t 15], none⟩]) [2, 3, 4])
  (.seq (.kpost (.regD [⟨some 17, .fadr 4, [.t 2], none⟩,
      ⟨some 18, .load none, [.t 17], none⟩,
      ⟨some 19, .call 74 [3, 4] 1, [.t 18], none⟩,
      ⟨some 20, .fadr 4, [.t 3], none⟩,
      ⟨some 21, .load none, [.t 20], none⟩,
      ⟨some 22, .app 5 5 1 1, [.t 19, .t 21], none⟩,
      ⟨some 23, .fadr 4, [.t 2], none⟩,
      ⟨none, .store 1, [.t 23, .t 22], none⟩] [0, 1, 2, 3, 4, 5, 6, 7] none [(2, 3), (2, 4)]) [2, 4])
  (.seq (.kpost (.reg [⟨some 24, .load (some 5), [.t 2], none⟩,
      ⟨none, .store 5, [.t 4, .t 24], none⟩,
      ⟨some 5, .mv, [.c (.int .i64 0)], none⟩]) [4, 5])
  .ret))))) }
/-- waggoner/zone.Append$1 -/
def i208 : IFn := { ns := 1, nt := 21, res := [], body :=
  (.seq (.kpost (.regD [⟨some 4, .mv, [.t 0], none⟩,
      ⟨some 5, .mv, [.t 0], none⟩,
      ⟨some 6, .nilchk, [.t 5], none⟩,
      ⟨some 7, .fadr 2, [.t 6], none⟩,
      ⟨some 8, .load none, [.t 7], none⟩,
      ⟨some 9, .load none, [.t 1], none⟩,
      ⟨some 10, .app 0 5 1 1, [.t 8, .t 9], none⟩,
      ⟨some 11, .nilchk, [.t 4], none⟩,
      ⟨some 12, .fadr 2, [.t 11], none⟩,
      ⟨none, .store 1, [.t 12, .t 10], none⟩] [0, 1, 2, 3, 4, 5, 6, 7, 8, 9] none []) [0, 2])
  (.kpost (.regD [⟨some 13, .mv, [.t 0], none⟩,
     ⟨some 14, .mv, [.t 0], none⟩,
     ⟨some 15, .nilchk, [.t 14], none⟩,
     ⟨some 16, .load (some 4), [.t 15], none⟩,
     ⟨some 17, .load none, [.t 2], none⟩,
     ⟨some 18, .call 132 [] 0, [.t 16, .t 17, .c (.int .i64 1)], none⟩,
     ⟨some 19, .nilchk, [.t 13], none⟩,
     ⟨some 20, .fadr 0, [.t 19], none⟩,
     ⟨none, .store 1, [.t 20, .t 18], none⟩] [0, 1, 2, 3, 4, 5, 6, 7, 8] none []) [])) }
/-- waggoner/zone.Reset$1 -/
def i209 : IFn := { ns := 0, nt := 10, res := [], body :=
  (.kpost (.reg [⟨some 2, .mv, [.t 0], none⟩,
     ⟨some 3, .mv, [.t 0], none⟩,
     ⟨some 4, .nilchk, [.t 3], none⟩,
     ⟨some 5, .fadr 1, [.t 4], none⟩,
     ⟨some 6, .load none, [.t 5], none⟩,
     ⟨some 7, .bin .add 0, [.t 6, .c (.int .i64 1)], none⟩,
     ⟨some 8, .build [.int .i64 0, .int .i64 0, .nils 5 1, .int .i64 0] [(1, 1)], [.t 7], none⟩,
     ⟨some 9, .nilchk, [.t 2], none⟩,
     ⟨none, .store 4, [.t 9, .t 8], none⟩]) []) }
/-- waggoner/zone.Finish$1 -/
def i210 : IFn := { ns := 0, nt := 5, res := [], body :=
  (.kpost (.reg [⟨some 2, .mv, [.t 0], none⟩,
     ⟨some 3, .nilchk, [.t 2], none⟩,
     ⟨some 4, .fadr 0, [.t 3], none⟩,
     ⟨none, .store 1, [.t 4, .c (.int .i64 3)], none⟩]) []) }
/-- waggoner/zone.Close$1 -/
def i211 : IFn := { ns := 0, nt := 5, res := [], body :=
  (.kpost (.reg [⟨some 2, .mv, [.t 0], none⟩,
     ⟨some 3, .nilchk, [.t 2], none⟩,
     ⟨some 4, .fadr 0, [.t 3], none⟩,
     ⟨none, .store 1, [.t 4, .c (.int .i64 2)], none⟩]) []) }
/-- waggoner/crc.halves -/
def i212 : IFn := { ns := 1, nt := 2, res := [.cell 0 (some 16)], body :=
  (.seq (.kpost (.reg [⟨some 0, .alloc 0 271 [.int .u32 0, .int .u32 0, .int .u32 0, .int .u32 0, .int .u32 0, .int .u32 0, .int .u32 0, .int .u32 0, .int .u32 0, .int .u32 0, .int .u32 0, .int .u32 0, .int .u32 0, .int .u32 0, .int .u32 0, .int .u32 0], [], none⟩]) [0])
  (.seq (.kpost (.reg [⟨some 1, .build [.int .u32 0, .int .u32 0, .int .u32 0, .int .u32 0, .int .u32 0, .int .u32 0, .int .u32 0, .int .u32 0, .int .u32 0, .int .u32 0, .int .u32 0, .int .u32 0, .int .u32 0, .int .u32 0, .int .u32 0, .int .u32 0] [(0, 1), (1, 1), (2, 1), (3, 1), (4, 1), (5, 1), (6, 1), (7, 1), (8, 1), (9, 1), (10, 1), (11, 1), (12, 1), (13, 1), (14, 1), (15, 1)], [.c (.int .u32 0), .c (.int .u32 274646895), .c (.int .u32 549293790), .c (.int .u32 820201905), .c (.int .u32 1098587580), .c (.int .u32 1361435347), .c (.int .u32 1640403810), .c (.int .u32 1905808397), .c (.int .u32 2197175160), .c (.int .u32 2460548119), .c (.int .u32 2722870694), .c (.int .u32 2987750089), .c (.int .u32 3280807620), .c (.int .u32 3553878443), .c (.int .u32 3811616794), .c (.int .u32 4084100981)], none⟩,
      ⟨none, .store 16, [.t 0, .t 1], none⟩]) [0])
  .ret)) }
/-- waggoner/extmap.parts$1 -/
def i214 : IFn := { ns := 55, nt := 67, res := [], body :=
  (.seq (.kpost (.reg [⟨some 12, .fadr 0, [.t 1], none⟩,
      ⟨some 13, .load none, [.t 12], none⟩,
      ⟨some 14, .fadr 1, [.t 1], none⟩,
      ⟨some 15, .load none, [.t 14], none⟩,
      ⟨some 16, .bin .add 0, [.t 13, .t 15], none⟩,
      ⟨some 4, .mv, [.t 16], none⟩,
      ⟨some 5, .mv, [.c (.bool false)], none⟩]) [0, 1, 2, 4, 5])
  (.seq (.kpost (.reg [⟨some 17, .load none, [.t 2], none⟩,
      ⟨some 18, .len, [.t 17], none⟩,
      ⟨some 19, .mv, [.c (.int .i64 0)], none⟩]) [0, 1, 4, 5, 17, 18, 19])
  (.block 0 (.kpre [0, 1, 4, 5, 17, 18, 19] (.loop (.kpost (.seq (.kpost (.reg [⟨some 20, .bin .lss 0, [.t 19, .t 18], none⟩]) [0, 1, 4, 5, 17, 18, 19, 20])
      (.seq (.cond (.t 20)
        .skip
        (.exit 0))
      (.seq (.block 1 (.seq (.kpost (.reg [⟨some 21, .iadr 5, [.t 17, .t 19], none⟩,
            ⟨some 22, .load (some 5), [.t 21], none⟩,
            ⟨some 7, .alloc 0 48 [.int .i64 0, .int .i64 0, .int .i64 0, .int .i64 0, .nils 5 1], [], none⟩,
            ⟨none, .store 5, [.t 7, .t 22], none⟩]) [0, 1, 4, 5, 7, 17, 18, 19])
        (.seq (.seq (.kpost (.reg [⟨some 24, .load (some 5), [.t 7], none⟩,
             ⟨some 25, .fadr 0, [.t 1], none⟩,
             ⟨some 26, .load none, [.t 25], none⟩,
             ⟨some 27, .call 152 [1, 2] 1, [.t 24, .c (.int .i64 0), .t 26], none⟩,
             ⟨some 23, .mv, [.t 27], none⟩,
             ⟨some 28, .extr 0, [.t 23], none⟩,
             ⟨some 29, .extr 1, [.t 23], none⟩,
             ⟨some 8, .alloc 3 48 [.int .i64 0, .int .i64 0, .int .i64 0, .int .i64 0, .nils 5 1], [], none⟩,
             ⟨none, .store 5, [.t 8, .t 28], none⟩,
             ⟨some 9, .mv, [.t 29], none⟩]) [0, 1, 4, 5, 7, 8, 9, 17, 18, 19])
         (.seq (.kpost (.reg [⟨some 30, .mv, [.t 9], none⟩,
             ⟨some 31, .mv, [.t 30], none⟩,
             ⟨some 32, .mv, [.t 0], some (31, true)⟩,
             ⟨some 33, .load (some 5), [.t 8], some (31, true)⟩,
             ⟨some 34, .callv [4, 5, 6, 7, 8, 9, 10, 11, 12, 13, 14, 15, 16, 17, 18, 19] 0, [.t 32, .t 33], some (31, true)⟩,
             ⟨some 35, .bnot, [.t 34], some (31, true)⟩,
             ⟨some 36, .pick, [.t 31, .t 35, .c (.bool false)], none⟩]) [0, 1, 4, 5, 7, 17, 18, 19, 36])
         (.cond (.t 36)
          .ret
          .skip)))
        (.seq (.seq (.kpost (.reg [⟨some 37, .mv, [.t 5], none⟩,
             ⟨some 38, .bnot, [.t 37], none⟩,
             ⟨some 39, .mv, [.t 38], none⟩,
             ⟨some 40, .fadr 0, [.t 7], some (39, true)⟩,
             ⟨some 41, .load none, [.t 40], some (39, true)⟩,
             ⟨some 42, .fadr 1, [.t 7], some (39, true)⟩,
             ⟨some 43, .load none, [.t 42], some (39, true)⟩,
             ⟨some 44, .bin .add 0, [.t 41, .t 43], some (39, true)⟩,
             ⟨some 45, .fadr 0, [.t 1], some (39, true)⟩,
             ⟨some 46, .load none, [.t 45], some (39, true)⟩,
             ⟨some 47, .bin .gtr 0, [.t 44, .t 46], some (39, true)⟩,
             ⟨some 48, .pick, [.t 39, .t 47, .c (.bool false)], none⟩]) [0, 1, 4, 5, 7, 17, 18, 19, 48])
         (.cond (.t 48)
          (.seq (.kpost (.reg [⟨some 5, .mv, [.c (.bool true)], none⟩]) [0, 1, 4, 5, 7, 17, 18, 19])
           (.seq (.kpost (.reg [⟨some 49, .mv, [.t 0], none⟩,
               ⟨some 50, .load (some 5), [.t 1], none⟩,
               ⟨some 51, .callv [20, 21, 22, 23, 24, 25, 26, 27, 28, 29, 30, 31, 32, 33, 34, 35] 0, [.t 49, .t 50], none⟩,
               ⟨some 52, .bnot, [.t 51], none⟩]) [0, 1, 4, 5, 7, 17, 18, 19, 52])
           (.cond (.t 52)
            .ret
            .skip)))
          .skip))
        (.seq (.kpost (.reg [⟨some 54, .load (some 5), [.t 7], none⟩,
            ⟨some 55, .mv, [.t 4], none⟩,
            ⟨some 56, .call 152 [36, 37] 1, [.t 54, .t 55, .c (.int .i64 64)], none⟩,
            ⟨some 53, .mv, [.t 56], none⟩,
            ⟨some 57, .extr 0, [.t 53], none⟩,
            ⟨some 58, .extr 1, [.t 53], none⟩,
            ⟨some 10, .alloc 38 48 [.int .i64 0, .int .i64 0, .int .i64 0, .int .i64 0, .nils 5 1], [], none⟩,
            ⟨none, .store 5, [.t 10, .t 57], none⟩,
            ⟨some 11, .mv, [.t 58], none⟩]) [0, 1, 4, 5, 10, 11, 17, 18, 19])
        (.seq (.kpost (.reg [⟨some 59, .mv, [.t 11], none⟩,
            ⟨some 60, .mv, [.t 59], none⟩,
            ⟨some 61, .mv, [.t 0], some (60, true)⟩,
            ⟨some 62, .load (some 5), [.t 10], some (60, true)⟩,
            ⟨some 63, .callv [39, 40, 41, 42, 43, 44, 45, 46, 47, 48, 49, 50, 51, 52, 53, 54] 0, [.t 61, .t 62], some (60, true)⟩,
            ⟨some 64, .bnot, [.t 63], some (60, true)⟩,
            ⟨some 65, .pick, [.t 60, .t 64, .c (.bool false)], none⟩]) [0, 1, 4, 5, 17, 18, 19, 65])
        (.cond (.t 65)
         .ret
         .skip)))))))
      (.kpost (.reg [⟨some 66, .bin .add 0, [.t 19, .c (.int .i64 1)], none⟩,
         ⟨some 19, .mv, [.t 66], none⟩]) [0, 1, 4, 5, 17, 18, 19])))) [0, 1, 4, 5, 17, 18, 19])))))) }

def IPt : Nat → Option IFn := fun n => match n with
  | 3 => some i3
  | 4 => some i4
  | 5 => some i5
  | 6 => some i6
  | 7 => some i7
  | 8 => some i8
  | 9 => some i9
  | 10 => some i10
  | 11 => some i11
  | 12 => some i12
  | 13 => some i13
  | 14 => some i14
  | 15 => some i15
  | 16 => some i16
  | 17 => some i17
  | 18 => some i18
  | 19 => some i19
  | 20 => some i20
  | 21 => some i21
  | 22 => some i22
  | 23 => some i23
  | 24 => some i24
  | 25 => some i25
  | 26 => some i26
  | 27 => some i27
  | 28 => some i28
  | 29 => some i29
  | 30 => some i30
  | 31 => some i31
  | 32 => some i32
  | 33 => some i33
  | 34 => some i34
  | 35 => some i35
  | 36 => some i36
  | 37 => some i37
  | 38 => some i38
  | 39 => some i39
  | 40 => some i40
  | 41 => some i41
  | 42 => some i42
  | 43 => some i43
  | 44 => some i44
  | 45 => some i45
  | 46 => some i46
  | 47 => some i47
  | 48 => some i48
  | 49 => some i49
  | 50 => some i50
  | 51 => some i51
  | 52 => some i52
  | 53 => some i53
  | 54 => some i54
  | 55 => some i55
  | 56 => some i56
  | 57 => some i57
  | 58 => some i58
  | 59 => some i59
  | 60 => some i60
  | 61 => some i61
  | 62 => some i62
  | 63 => some i63
  | 64 => some i64
  | 65 => some i65
  | 66 => some i66
  | 67 => some i67
  | 68 => some i68
  | 69 => some i69
  | 70 => some i70
  | 71 => some i71
  | 72 => some i72
  | 73 => some i73
  | 74 => some i74
  | 75 => some i75
  | 76 => some i76
  | 77 => some i77
  | 78 => some i78
  | 79 => some i79
  | 80 => some i80
  | 81 => some i81
  | 82 => some i82
  | 83 => some i83
  | 84 => some i84
  | 85 => some i85
  | 86 => some i86
  | 87 => some i87
  | 88 => some i88
  | 89 => some i89
  | 90 => some i90
  | 91 => some i91
  | 92 => some i92
  | 93 => some i93
  | 94 => some i94
  | 95 => some i95
  | 96 => some i96
  | 97 => some i97
  | 98 => some i98
  | 99 => some i99
  | 100 => some i100
  | 101 => some i101
  | 102 => some i102
  | 103 => some i103
  | 104 => some i104
  | 105 => some i105
  | 106 => some i106
  | 107 => some i107
  | 108 => some i108
  | 109 => some i109
  | 110 => some i110
  | 111 => some i111
  | 112 => some i112
  | 113 => some i113
  | 114 => some i114
  | 115 => some i115
  | 116 => some i116
  | 117 => some i117
  | 118 => some i118
  | 119 => some i119
  | 120 => some i120
  | 121 => some i121
  | 122 => some i122
  | 123 => some i123
  | 124 => some i124
  | 125 => some i125
  | 126 => some i126
  | 127 => some i127
  | 128 => some i128
  | 129 => some i129
  | 130 => some i130
  | 131 => some i131
  | 132 => some i132
  | 133 => some i133
  | 134 => some i134
  | 135 => some i135
  | 136 => some i136
  | 137 => some i137
  | 138 => some i138
  | 139 => some i139
  | 140 => some i140
  | 141 => some i141
  | 142 => some i142
  | 143 => some i143
  | 144 => some i144
  | 145 => some i145
  | 146 => some i146
  | 147 => some i147
  | 148 => some i148
  | 149 => some i149
  | 150 => some i150
  | 151 => some i151
  | 152 => some i152
  | 153 => some i153
  | 154 => some i154
  | 155 => some i155
  | 156 => some i156
  | 157 => some i157
  | 158 => some i158
  | 159 => some i159
  | 160 => some i160
  | 161 => some i161
  | 162 => some i162
  | 163 => some i163
  | 164 => some i164
  | 165 => some i165
  | 166 => some i166
  | 167 => some i167
  | 168 => some i168
  | 169 => some i169
  | 170 => some i170
  | 171 => some i171
  | 172 => some i172
  | 173 => some i173
  | 174 => some i174
  | 176 => some i176
  | 177 => some i177
  | 178 => some i178
  | 179 => some i179
  | 180 => some i180
  | 181 => some i181
  | 182 => some i182
  | 183 => some i183
  | 184 => some i184
  | 185 => some i185
  | 186 => some i186
  | 187 => some i187
  | 188 => some i188
  | 189 => some i189
  | 190 => some i190
  | 191 => some i191
  | 193 => some i193
  | 194 => some i194
  | 195 => some i195
  | 196 => some i196
  | 197 => some i197
  | 198 => some i198
  | 199 => some i199
  | 200 => some i200
  | 201 => some i201
  | 202 => some i202
  | 203 => some i203
  | 204 => some i204
  | 205 => some i205
  | 206 => some i206
  | 207 => some i207
  | 208 => some i208
  | 209 => some i209
  | 210 => some i210
  | 211 => some i211
  | 212 => some i212
  | 214 => some i214
  | _ => none
end Go.Wm
