/-
The program's functions as code of the abstract machine, part 1.
-/
import Derived.Test.YtkhjmjimffmokaaGreatWa

set_option linter.unusedVariables false
set_option maxRecDepth 100000
namespace Go.Wm
/-- waggoner/waggonerlaw14.VolumeNames -/
def i3 : IFn := { ns := 0, nt := 8, res := [.t 0], body :=
  (.seq (.kpost (.reg [⟨some 0, .mv, [.c (.bool false)], none⟩]) [])
  (.seq (.kpost (.reg [⟨some 2, .call 10 [] 0, [], none⟩,
      ⟨some 1, .mv, [.t 2], none⟩]) [1])
  (.seq (.kpost (.reg [⟨some 3, .mv, [.t 1], none⟩,
      ⟨some 4, .mv, [.t 3], none⟩,
      ⟨some 5, .pick, [.t 4, .c (.bool true), .c (.bool false)], none⟩,
      ⟨some 6, .mv, [.t 5], none⟩,
      ⟨some 7, .pick, [.t 6, .c (.bool true), .c (.bool false)], none⟩,
      ⟨some 0, .mv, [.t 7], none⟩]) [0])
  .ret))) }
/-- waggoner/waggonerlaw14.VolumeAnswers -/
def i4 : IFn := { ns := 67, nt := 135, res := [.t 4], body :=
  (.seq (.kpost (.reg [⟨some 4, .mv, [.c (.bool false)], none⟩]) [0, 1])
  (.seq (.kpost (.reg [⟨some 23, .call 10 [] 0, [], none⟩,
      ⟨some 5, .mv, [.t 23], none⟩]) [0, 1, 5])
  (.seq (.kpost (.reg [⟨some 24, .mv, [.t 0], none⟩,
      ⟨some 25, .conv .i64, [.t 24], none⟩,
      ⟨some 26, .bin .rem 0, [.t 25, .c (.int .i64 64)], none⟩,
      ⟨some 27, .bin .add 0, [.c (.int .i64 1), .t 26], none⟩,
      ⟨some 6, .mv, [.t 27], none⟩]) [1, 5, 6])
  (.seq (.kpost (.reg [⟨some 28, .mv, [.t 6], none⟩,
      ⟨some 29, .call 11 [0, 1, 2, 3, 4, 5, 6, 7, 8, 9] 1, [.t 28], none⟩,
      ⟨some 7, .mv, [.t 29], none⟩]) [1, 5, 6, 7])
  (.seq (.kpost (.reg [⟨some 31, .mv, [.t 6], none⟩,
      ⟨some 32, .call 12 [10, 11, 12, 13, 14, 15] 1, [.t 31], none⟩,
      ⟨some 30, .mv, [.t 32], none⟩,
      ⟨some 33, .extr 0, [.t 30], none⟩,
      ⟨some 34, .extr 1, [.t 30], none⟩,
      ⟨some 8, .alloc 16 30 [.int .i64 0, .int .i64 0, .nils 48 5, .nils 95 3, .int .i64 0, .nils 5 1], [], none⟩,
      ⟨none, .store 6, [.t 8, .t 33], none⟩,
      ⟨some 9, .mv, [.t 34], none⟩]) [1, 5, 6, 7, 8])
  (.seq (.seq (.kpost (.reg [⟨some 35, .mv, [.t 5], none⟩,
       ⟨some 36, .bnot, [.t 35], none⟩,
       ⟨some 37, .mv, [.t 36], none⟩,
       ⟨some 38, .mv, [.t 7], some (37, false)⟩,
       ⟨some 39, .bin .eql 3, [.t 38, .c (.nilp)], some (37, false)⟩,
       ⟨some 40, .pick, [.t 37, .c (.bool true), .t 39], none⟩]) [1, 6, 7, 8, 40])
   (.cond (.t 40)
    (.seq (.kpost (.reg [⟨some 4, .mv, [.c (.bool false)], none⟩]) [4])
     .ret)
    .skip))
  (.seq (.seq (.kpost (.reg [⟨some 10, .mv, [.c (.int .i64 0)], none⟩]) [1, 6, 7, 8, 10])
   (.block 0 (.kpre [1, 6, 7, 8, 10] (.loop (.kpost (.seq (.seq (.kpost (.reg [⟨some 41, .mv, [.t 10], none⟩,
            ⟨some 42, .mv, [.t 1], none⟩,
            ⟨some 43, .len, [.t 42], none⟩,
            ⟨some 44, .bin .lss 0, [.t 41, .t 43], none⟩,
            ⟨some 45, .mv, [.t 44], none⟩,
            ⟨some 46, .mv, [.t 10], some (45, true)⟩,
            ⟨some 47, .bin .lss 0, [.t 46, .c (.int .i64 30)], some (45, true)⟩,
            ⟨some 48, .pick, [.t 45, .t 47, .c (.bool false)], none⟩]) [1, 6, 7, 8, 10, 48])
        (.cond (.t 48)
         .skip
         (.exit 0)))
       (.seq (.block 1 (.seq (.kpost (.regD [⟨some 52, .mv, [.t 7], none⟩,
             ⟨some 53, .load (some 6), [.t 8], none⟩,
             ⟨some 54, .mv, [.t 1], none⟩,
             ⟨some 55, .mv, [.t 10], none⟩,
             ⟨some 56, .iadr 5, [.t 54, .t 55], none⟩,
             ⟨some 57, .load (some 5), [.t 56], none⟩,
             ⟨some 58, .call 13 [17, 18, 19, 20, 21, 22, 23, 24, 25, 26, 27, 28, 29, 30, 31, 32] 1, [.t 52, .t 53, .t 57], none⟩,
             ⟨some 51, .mv, [.t 58], none⟩,
             ⟨some 59, .extr 0, [.t 51], none⟩,
             ⟨some 60, .extr 1, [.t 51], none⟩,
             ⟨some 61, .extr 2, [.t 51], none⟩,
             ⟨some 12, .alloc 33 30 [.int .i64 0, .int .i64 0, .nils 48 5, .nils 95 3, .int .i64 0, .nils 5 1], [], none⟩,
             ⟨some 11, .mv, [.t 59], none⟩,
             ⟨none, .store 6, [.t 12, .t 60], none⟩,
             ⟨some 13, .mv, [.t 61], none⟩] [0, 1, 2, 3, 4, 5, 6, 7, 8, 9, 10, 11, 12, 13, 14] none [(1, 11), (4, 11), (5, 11), (6, 11)]) [1, 6, 7, 8, 10, 11, 12, 13])
         (.seq (.seq (.kpost (.reg [⟨some 62, .mv, [.t 11], none⟩,
              ⟨some 63, .mv, [.t 13], none⟩,
              ⟨some 64, .bin .neq 0, [.t 62, .t 63], none⟩]) [1, 6, 7, 8, 10, 11, 12, 64])
          (.cond (.t 64)
           (.seq (.kpost (.reg [⟨some 4, .mv, [.c (.bool false)], none⟩]) [4])
            .ret)
           .skip))
         (.seq (.seq (.kpost (.reg [⟨some 65, .mv, [.t 11], none⟩,
              ⟨some 66, .bin .eql 0, [.t 65, .c (.int .i64 0)], none⟩]) [1, 6, 7, 8, 10, 12, 66])
          (.cond (.t 66)
           (.kpost (.reg [⟨some 67, .load (some 6), [.t 12], none⟩,
               ⟨none, .store 6, [.t 8, .t 67], none⟩]) [1, 6, 7, 8, 10])
           .skip))
         (.seq (.kpost (.reg [⟨some 69, .mv, [.t 7], none⟩,
             ⟨some 70, .call 14 [34, 35, 36, 37, 38, 39, 40, 41, 42, 43, 44, 45, 46, 47, 48, 49] 1, [.t 69], none⟩,
             ⟨some 68, .mv, [.t 70], none⟩,
             ⟨some 71, .extr 0, [.t 68], none⟩,
             ⟨some 72, .extr 1, [.t 68], none⟩,
             ⟨some 14, .alloc 50 30 [.int .i64 0, .int .i64 0, .nils 48 5, .nils 95 3, .int .i64 0, .nils 5 1], [], none⟩,
             ⟨none, .store 6, [.t 14, .t 71], none⟩,
             ⟨some 15, .mv, [.t 72], none⟩]) [1, 6, 7, 8, 10, 14, 15])
         (.seq (.kpost (.reg [⟨some 74, .mv, [.t 6], none⟩,
             ⟨some 75, .fadr 2, [.t 8], none⟩,
             ⟨some 76, .load none, [.t 75], none⟩,
             ⟨some 77, .call 15 [51, 52] 1, [.t 74, .t 76], none⟩,
             ⟨some 73, .mv, [.t 77], none⟩,
             ⟨some 78, .extr 0, [.t 73], none⟩,
             ⟨some 79, .extr 1, [.t 73], none⟩,
             ⟨some 16, .mv, [.t 78], none⟩,
             ⟨some 17, .mv, [.t 79], none⟩]) [1, 6, 7, 8, 10, 14, 15, 16])
         (.seq (.kpost (.regD [⟨some 81, .mv, [.t 7], none⟩,
             ⟨some 82, .mv, [.t 1], none⟩,
             ⟨some 83, .mv, [.t 10], none⟩,
             ⟨some 84, .iadr 5, [.t 82, .t 83], none⟩,
             ⟨some 85, .fadr 1, [.t 84], none⟩,
             ⟨some 86, .load none, [.t 85], none⟩,
             ⟨some 87, .conv .i64, [.t 86], none⟩,
             ⟨some 88, .mv, [.t 1], none⟩,
             ⟨some 89, .mv, [.t 10], none⟩,
             ⟨some 90, .iadr 5, [.t 88, .t 89], none⟩,
             ⟨some 91, .fadr 2, [.t 90], none⟩,
             ⟨some 92, .load none, [.t 91], none⟩,
             ⟨some 93, .conv .i64, [.t 92], none⟩,
             ⟨some 94, .call 16 [53, 54, 55, 56, 57, 58, 59, 60, 61, 62, 63, 64] 1, [.t 81, .t 87, .t 93], none⟩,
             ⟨some 80, .mv, [.t 94], none⟩,
             ⟨some 95, .extr 0, [.t 80], none⟩,
             ⟨some 96, .extr 1, [.t 80], none⟩,
             ⟨some 18, .mv, [.t 95], none⟩,
             ⟨some 19, .mv, [.t 96], none⟩] [0, 1, 2, 3, 4, 5, 6, 7, 8, 9, 10, 11, 12, 13, 14, 15, 16, 17, 18] none []) [1, 6, 7, 8, 10, 14, 15, 16, 18, 19])
         (.seq (.kpost (.regD [⟨some 98, .mv, [.t 16], none⟩,
             ⟨some 99, .mv, [.t 1], none⟩,
             ⟨some 100, .mv, [.t 10], none⟩,
             ⟨some 101, .iadr 5, [.t 99, .t 100], none⟩,
             ⟨some 102, .fadr 1, [.t 101], none⟩,
             ⟨some 103, .load none, [.t 102], none⟩,
             ⟨some 104, .conv .i64, [.t 103], none⟩,
             ⟨some 105, .mv, [.t 1], none⟩,
             ⟨some 106, .mv, [.t 10], none⟩,
             ⟨some 107, .iadr 5, [.t 105, .t 106], none⟩,
             ⟨some 108, .fadr 2, [.t 107], none⟩,
             ⟨some 109, .load none, [.t 108], none⟩,
             ⟨some 110, .conv .i64, [.t 109], none⟩,
             ⟨some 111, .call 17 [65, 66] 1, [.t 98, .t 104, .t 110], none⟩,
             ⟨some 97, .mv, [.t 111], none⟩,
             ⟨some 112, .extr 0, [.t 97], none⟩,
             ⟨some 113, .extr 1, [.t 97], none⟩,
             ⟨some 20, .mv, [.t 112], none⟩,
             ⟨some 21, .mv, [.t 113], none⟩] [0, 1, 2, 3, 4, 5, 6, 7, 8, 9, 10, 11, 12, 13, 14, 15, 16, 17, 18] none []) [1, 6, 7, 8, 10, 14, 15, 18, 19, 20, 21])
         (.seq (.kpost (.reg [⟨some 114, .load (some 6), [.t 14], none⟩,
             ⟨some 115, .load (some 6), [.t 8], none⟩,
             ⟨some 116, .call 18 [] 0, [.t 114, .t 115], none⟩,
             ⟨some 22, .mv, [.t 116], none⟩]) [1, 6, 7, 8, 10, 15, 18, 19, 20, 21, 22])
         (.seq (.kpost (.reg [⟨some 117, .mv, [.t 15], none⟩,
             ⟨some 118, .bin .neq 0, [.t 117, .c (.int .i64 0)], none⟩,
             ⟨some 119, .mv, [.t 118], none⟩,
             ⟨some 120, .mv, [.t 22], some (119, false)⟩,
             ⟨some 121, .bnot, [.t 120], some (119, false)⟩,
             ⟨some 122, .pick, [.t 119, .c (.bool true), .t 121], none⟩,
             ⟨some 123, .mv, [.t 122], none⟩,
             ⟨some 124, .mv, [.t 18], some (123, false)⟩,
             ⟨some 125, .tostr, [.t 124], some (123, false)⟩,
             ⟨some 126, .mv, [.t 20], some (123, false)⟩,
             ⟨some 127, .tostr, [.t 126], some (123, false)⟩,
             ⟨some 128, .bin .neq 2, [.t 125, .t 127], some (123, false)⟩,
             ⟨some 129, .pick, [.t 123, .c (.bool true), .t 128], none⟩,
             ⟨some 130, .mv, [.t 129], none⟩,
             ⟨some 131, .mv, [.t 19], some (130, false)⟩,
             ⟨some 132, .mv, [.t 21], some (130, false)⟩,
             ⟨some 133, .bin .neq 0, [.t 131, .t 132], some (130, false)⟩,
             ⟨some 134, .pick, [.t 130, .c (.bool true), .t 133], none⟩]) [1, 6, 7, 8, 10, 134])
         (.cond (.t 134)
          (.seq (.kpost (.reg [⟨some 4, .mv, [.c (.bool false)], none⟩]) [4])
           .ret)
          .skip)))))))))))
       (.kpost (.reg [⟨some 49, .mv, [.t 10], none⟩,
          ⟨some 50, .bin .add 0, [.t 49, .c (.int .i64 1)], none⟩,
          ⟨some 10, .mv, [.t 50], none⟩]) [1, 6, 7, 8, 10]))) [1, 6, 7, 8, 10])))))
  (.seq (.kpost (.reg [⟨some 4, .mv, [.c (.bool true)], none⟩]) [4])
  .ret)))))))) }
/-- waggoner/waggonerlaw14.VolumeSame -/
def i5 : IFn := { ns := 169, nt := 159, res := [.t 4], body :=
  (.seq (.kpost (.reg [⟨some 4, .mv, [.c (.bool false)], none⟩]) [0, 1])
  (.seq (.kpost (.reg [⟨some 28, .call 10 [] 0, [], none⟩,
      ⟨some 5, .mv, [.t 28], none⟩]) [0, 1, 5])
  (.seq (.kpost (.reg [⟨some 29, .mv, [.t 0], none⟩,
      ⟨some 30, .conv .i64, [.t 29], none⟩,
      ⟨some 31, .bin .rem 0, [.t 30, .c (.int .i64 64)], none⟩,
      ⟨some 32, .bin .add 0, [.c (.int .i64 1), .t 31], none⟩,
      ⟨some 6, .mv, [.t 32], none⟩]) [1, 5, 6])
  (.seq (.kpost (.reg [⟨some 33, .mv, [.t 6], none⟩,
      ⟨some 34, .call 11 [0, 1, 2, 3, 4, 5, 6, 7, 8, 9] 1, [.t 33], none⟩,
      ⟨some 7, .mv, [.t 34], none⟩]) [1, 5, 6, 7])
  (.seq (.kpost (.reg [⟨some 35, .mv, [.t 6], none⟩,
      ⟨some 36, .call 11 [10, 11, 12, 13, 14, 15, 16, 17, 18, 19] 1, [.t 35], none⟩,
      ⟨some 8, .mv, [.t 36], none⟩]) [1, 5, 6, 7, 8])
  (.seq (.kpost (.reg [⟨some 38, .mv, [.t 6], none⟩,
      ⟨some 39, .call 12 [20, 21, 22, 23, 24, 25] 1, [.t 38], none⟩,
      ⟨some 37, .mv, [.t 39], none⟩,
      ⟨some 40, .extr 0, [.t 37], none⟩,
      ⟨some 41, .extr 1, [.t 37], none⟩,
      ⟨some 9, .alloc 26 30 [.int .i64 0, .int .i64 0, .nils 48 5, .nils 95 3, .int .i64 0, .nils 5 1], [], none⟩,
      ⟨none, .store 6, [.t 9, .t 40], none⟩,
      ⟨some 10, .mv, [.t 41], none⟩]) [1, 5, 7, 8, 9])
  (.seq (.seq (.kpost (.reg [⟨some 42, .mv, [.t 5], none⟩,
       ⟨some 43, .bnot, [.t 42], none⟩,
       ⟨some 44, .mv, [.t 43], none⟩,
       ⟨some 45, .mv, [.t 7], some (44, false)⟩,
       ⟨some 46, .bin .eql 3, [.t 45, .c (.nilp)], some (44, false)⟩,
       ⟨some 47, .pick, [.t 44, .c (.bool true), .t 46], none⟩,
       ⟨some 48, .mv, [.t 47], none⟩,
       ⟨some 49, .mv, [.t 8], some (48, false)⟩,
       ⟨some 50, .bin .eql 3, [.t 49, .c (.nilp)], some (48, false)⟩,
       ⟨some 51, .pick, [.t 48, .c (.bool true), .t 50], none⟩]) [1, 7, 8, 9, 51])
   (.cond (.t 51)
    (.seq (.kpost (.reg [⟨some 4, .mv, [.c (.bool false)], none⟩]) [4])
     .ret)
    .skip))
  (.seq (.seq (.kpost (.reg [⟨some 11, .mv, [.c (.int .i64 0)], none⟩]) [1, 7, 8, 9, 11])
   (.block 0 (.kpre [1, 7, 8, 9, 11] (.loop (.kpost (.seq (.seq (.kpost (.reg [⟨some 52, .mv, [.t 11], none⟩,
            ⟨some 53, .mv, [.t 1], none⟩,
            ⟨some 54, .len, [.t 53], none⟩,
            ⟨some 55, .bin .lss 0, [.t 52, .t 54], none⟩,
            ⟨some 56, .mv, [.t 55], none⟩,
            ⟨some 57, .mv, [.t 11], some (56, true)⟩,
            ⟨some 58, .bin .lss 0, [.t 57, .c (.int .i64 15)], some (56, true)⟩,
            ⟨some 59, .pick, [.t 56, .t 58, .c (.bool false)], none⟩]) [1, 7, 8, 9, 11, 59])
        (.cond (.t 59)
         .skip
         (.exit 0)))
       (.seq (.block 1 (.seq (.kpost (.regD [⟨some 63, .mv, [.t 7], none⟩,
             ⟨some 64, .load (some 6), [.t 9], none⟩,
             ⟨some 65, .mv, [.t 1], none⟩,
             ⟨some 66, .mv, [.t 11], none⟩,
             ⟨some 67, .iadr 5, [.t 65, .t 66], none⟩,
             ⟨some 68, .load (some 5), [.t 67], none⟩,
             ⟨some 69, .call 13 [27, 28, 29, 30, 31, 32, 33, 34, 35, 36, 37, 38, 39, 40, 41, 42] 1, [.t 63, .t 64, .t 68], none⟩,
             ⟨some 62, .mv, [.t 69], none⟩,
             ⟨some 70, .extr 0, [.t 62], none⟩,
             ⟨some 71, .extr 1, [.t 62], none⟩,
             ⟨some 72, .extr 2, [.t 62], none⟩,
             ⟨some 13, .alloc 43 30 [.int .i64 0, .int .i64 0, .nils 48 5, .nils 95 3, .int .i64 0, .nils 5 1], [], none⟩,
             ⟨some 12, .mv, [.t 70], none⟩,
             ⟨none, .store 6, [.t 13, .t 71], none⟩,
             ⟨some 14, .mv, [.t 72], none⟩] [0, 1, 2, 3, 4, 5, 6, 7, 8, 9, 10, 11, 12, 13, 14] none [(1, 11), (4, 11), (5, 11), (6, 11)]) [1, 7, 8, 9, 11, 12, 13])
         (.seq (.kpost (.regD [⟨some 74, .mv, [.t 8], none⟩,
             ⟨some 75, .load (some 6), [.t 9], none⟩,
             ⟨some 76, .mv, [.t 1], none⟩,
             ⟨some 77, .mv, [.t 11], none⟩,
             ⟨some 78, .iadr 5, [.t 76, .t 77], none⟩,
             ⟨some 79, .load (some 5), [.t 78], none⟩,
             ⟨some 80, .call 13 [44, 45, 46, 47, 48, 49, 50, 51, 52, 53, 54, 55, 56, 57, 58, 59] 1, [.t 74, .t 75, .t 79], none⟩,
             ⟨some 73, .mv, [.t 80], none⟩,
             ⟨some 81, .extr 0, [.t 73], none⟩,
             ⟨some 82, .extr 1, [.t 73], none⟩,
             ⟨some 83, .extr 2, [.t 73], none⟩,
             ⟨some 16, .alloc 60 30 [.int .i64 0, .int .i64 0, .nils 48 5, .nils 95 3, .int .i64 0, .nils 5 1], [], none⟩,
             ⟨some 15, .mv, [.t 81], none⟩,
             ⟨none, .store 6, [.t 16, .t 82], none⟩,
             ⟨some 17, .mv, [.t 83], none⟩] [0, 1, 2, 3, 4, 5, 6, 7, 8, 9, 10, 11, 12, 13, 14] none [(1, 11), (4, 11), (5, 11), (6, 11)]) [1, 7, 8, 9, 11, 12, 13, 15])
         (.seq (.seq (.kpost (.reg [⟨some 84, .mv, [.t 12], none⟩,
              ⟨some 85, .mv, [.t 15], none⟩,
              ⟨some 86, .bin .neq 0, [.t 84, .t 85], none⟩]) [1, 7, 8, 9, 11, 12, 13, 86])
          (.cond (.t 86)
           (.seq (.kpost (.reg [⟨some 4, .mv, [.c (.bool false)], none⟩]) [4])
            .ret)
           .skip))
         (.seq (.seq (.kpost (.reg [⟨some 87, .mv, [.t 12], none⟩,
              ⟨some 88, .bin .eql 0, [.t 87, .c (.int .i64 0)], none⟩]) [1, 7, 8, 9, 11, 13, 88])
          (.cond (.t 88)
           (.kpost (.reg [⟨some 89, .load (some 6), [.t 13], none⟩,
               ⟨none, .store 6, [.t 9, .t 89], none⟩]) [1, 7, 8, 9, 11])
           .skip))
         (.seq (.kpost (.reg [⟨some 91, .mv, [.t 8], none⟩,
             ⟨some 92, .call 14 [61, 62, 63, 64, 65, 66, 67, 68, 69, 70, 71, 72, 73, 74, 75, 76] 1, [.t 91], none⟩,
             ⟨some 90, .mv, [.t 92], none⟩,
             ⟨some 93, .extr 0, [.t 90], none⟩,
             ⟨some 94, .extr 1, [.t 90], none⟩,
             ⟨some 18, .alloc 77 30 [.int .i64 0, .int .i64 0, .nils 48 5, .nils 95 3, .int .i64 0, .nils 5 1], [], none⟩,
             ⟨none, .store 6, [.t 18, .t 93], none⟩,
             ⟨some 19, .mv, [.t 94], none⟩]) [1, 7, 8, 9, 11, 18, 19])
         (.seq (.seq (.kpost (.reg [⟨some 20, .mv, [.c (.int .i64 0)], none⟩]) [1, 7, 8, 9, 11, 18, 19, 20])
          (.block 2 (.kpre [1, 7, 8, 9, 11, 18, 19, 20] (.loop (.kpost (.seq (.seq (.kpost (.reg [⟨some 95, .mv, [.t 20], none⟩,
                   ⟨some 96, .fadr 2, [.t 18], none⟩,
                   ⟨some 97, .load none, [.t 96], none⟩,
                   ⟨some 98, .len, [.t 97], none⟩,
                   ⟨some 99, .bin .lss 0, [.t 95, .t 98], none⟩]) [1, 7, 8, 9, 11, 18, 19, 20, 99])
               (.cond (.t 99)
                .skip
                (.exit 2)))
              (.seq (.block 3 (.kpost (.reg [⟨some 102, .fadr 2, [.t 18], none⟩,
                   ⟨some 103, .load none, [.t 102], none⟩,
                   ⟨some 104, .mv, [.t 20], none⟩,
                   ⟨some 105, .iadr 5, [.t 103, .t 104], none⟩,
                   ⟨some 106, .fadr 3, [.t 105], none⟩,
                   ⟨none, .store 1, [.t 106, .c (.int .i64 77)], none⟩]) [1, 7, 8, 9, 11, 18, 19, 20]))
              (.kpost (.reg [⟨some 100, .mv, [.t 20], none⟩,
                 ⟨some 101, .bin .add 0, [.t 100, .c (.int .i64 1)], none⟩,
                 ⟨some 20, .mv, [.t 101], none⟩]) [1, 7, 8, 9, 11, 18, 19, 20]))) [1, 7, 8, 9, 11, 18, 19, 20])))))
         (.seq (.kpost (.reg [⟨some 107, .mv, [.t 8], none⟩,
             ⟨some 108, .call 19 [78, 79, 80, 81, 82, 83, 84, 85, 86, 87, 88, 89] 1, [.t 107], none⟩,
             ⟨some 21, .alloc 90 51 [.int .i64 0, .nils 54 4, .int .i64 0, .bool false, .int .i64 0], [], none⟩,
             ⟨none, .store 5, [.t 21, .t 108], none⟩]) [1, 7, 8, 9, 11, 19, 21])
         (.seq (.seq (.kpost (.reg [⟨some 22, .mv, [.c (.int .i64 0)], none⟩]) [1, 7, 8, 9, 11, 19, 21, 22])
          (.block 4 (.kpre [1, 7, 8, 9, 11, 19, 21, 22] (.loop (.kpost (.seq (.seq (.kpost (.reg [⟨some 109, .mv, [.t 22], none⟩,
                   ⟨some 110, .fadr 1, [.t 21], none⟩,
                   ⟨some 111, .load none, [.t 110], none⟩,
                   ⟨some 112, .len, [.t 111], none⟩,
                   ⟨some 113, .bin .lss 0, [.t 109, .t 112], none⟩]) [1, 7, 8, 9, 11, 19, 21, 22, 113])
               (.cond (.t 113)
                .skip
                (.exit 4)))
              (.seq (.block 5 (.kpost (.reg [⟨some 116, .fadr 1, [.t 21], none⟩,
                   ⟨some 117, .load none, [.t 116], none⟩,
                   ⟨some 118, .mv, [.t 22], none⟩,
                   ⟨some 119, .iadr 4, [.t 117, .t 118], none⟩,
                   ⟨some 120, .fadr 3, [.t 119], none⟩,
                   ⟨none, .store 1, [.t 120, .c (.int .i64 0)], none⟩]) [1, 7, 8, 9, 11, 19, 21, 22]))
              (.kpost (.reg [⟨some 114, .mv, [.t 22], none⟩,
                 ⟨some 115, .bin .add 0, [.t 114, .c (.int .i64 1)], none⟩,
                 ⟨some 22, .mv, [.t 115], none⟩]) [1, 7, 8, 9, 11, 19, 21, 22]))) [1, 7, 8, 9, 11, 19, 21, 22])))))
         (.seq (.kpost (.reg [⟨some 121, .mv, [.t 19], none⟩,
             ⟨some 122, .bin .neq 0, [.t 121, .c (.int .i64 0)], none⟩]) [1, 7, 8, 9, 11, 122])
         (.cond (.t 122)
          (.seq (.kpost (.reg [⟨some 4, .mv, [.c (.bool false)], none⟩]) [4])
           .ret)
          .skip)))))))))))
       (.kpost (.reg [⟨some 60, .mv, [.t 11], none⟩,
          ⟨some 61, .bin .add 0, [.t 60, .c (.int .i64 1)], none⟩,
          ⟨some 11, .mv, [.t 61], none⟩]) [1, 7, 8, 9, 11]))) [1, 7, 8, 9, 11])))))
  (.seq (.kpost (.reg [⟨some 124, .mv, [.t 7], none⟩,
      ⟨some 125, .call 14 [91, 92, 93, 94, 95, 96, 97, 98, 99, 100, 101, 102, 103, 104, 105, 106] 1, [.t 124], none⟩,
      ⟨some 123, .mv, [.t 125], none⟩,
      ⟨some 126, .extr 0, [.t 123], none⟩,
      ⟨some 127, .extr 1, [.t 123], none⟩,
      ⟨some 23, .alloc 107 30 [.int .i64 0, .int .i64 0, .nils 48 5, .nils 95 3, .int .i64 0, .nils 5 1], [], none⟩,
      ⟨none, .store 6, [.t 23, .t 126], none⟩,
      ⟨some 24, .mv, [.t 127], none⟩]) [7, 8, 23, 24])
  (.seq (.kpost (.reg [⟨some 129, .mv, [.t 8], none⟩,
      ⟨some 130, .call 14 [108, 109, 110, 111, 112, 113, 114, 115, 116, 117, 118, 119, 120, 121, 122, 123] 1, [.t 129], none⟩,
      ⟨some 128, .mv, [.t 130], none⟩,
      ⟨some 131, .extr 0, [.t 128], none⟩,
      ⟨some 132, .extr 1, [.t 128], none⟩,
      ⟨some 25, .alloc 124 30 [.int .i64 0, .int .i64 0, .nils 48 5, .nils 95 3, .int .i64 0, .nils 5 1], [], none⟩,
      ⟨none, .store 6, [.t 25, .t 131], none⟩,
      ⟨some 26, .mv, [.t 132], none⟩]) [7, 8, 23, 24, 25, 26])
  (.seq (.kpost (.reg [⟨some 133, .load (some 6), [.t 23], none⟩,
      ⟨some 134, .load (some 6), [.t 25], none⟩,
      ⟨some 135, .call 18 [] 0, [.t 133, .t 134], none⟩,
      ⟨some 136, .mv, [.t 135], none⟩,
      ⟨some 137, .mv, [.t 7], some (136, true)⟩,
      ⟨some 138, .call 19 [125, 126, 127, 128, 129, 130, 131, 132, 133, 134, 135, 136] 1, [.t 137], some (136, true)⟩,
      ⟨some 139, .mv, [.t 8], some (136, true)⟩,
      ⟨some 140, .call 19 [137, 138, 139, 140, 141, 142, 143, 144, 145, 146, 147, 148] 1, [.t 139], some (136, true)⟩,
      ⟨some 141, .call 20 [] 0, [.t 138, .t 140], some (136, true)⟩,
      ⟨some 142, .pick, [.t 136, .t 141, .c (.bool false)], none⟩,
      ⟨some 27, .mv, [.t 142], none⟩]) [7, 8, 24, 26, 27])
  (.seq (.kpost (.reg [⟨some 143, .mv, [.t 27], none⟩,
      ⟨some 144, .mv, [.t 143], none⟩,
      ⟨some 145, .mv, [.t 24], some (144, true)⟩,
      ⟨some 146, .bin .eql 0, [.t 145, .c (.int .i64 0)], some (144, true)⟩,
      ⟨some 147, .pick, [.t 144, .t 146, .c (.bool false)], none⟩,
      ⟨some 148, .mv, [.t 147], none⟩,
      ⟨some 149, .mv, [.t 26], some (148, true)⟩,
      ⟨some 150, .bin .eql 0, [.t 149, .c (.int .i64 0)], some (148, true)⟩,
      ⟨some 151, .pick, [.t 148, .t 150, .c (.bool false)], none⟩,
      ⟨some 152, .mv, [.t 151], none⟩,
      ⟨some 153, .mv, [.t 7], some (152, true)⟩,
      ⟨some 154, .call 21 [149, 150, 151, 152, 153, 154, 155, 156, 157, 158] 0, [.t 153], some (152, true)⟩,
      ⟨some 155, .mv, [.t 8], some (152, true)⟩,
      ⟨some 156, .call 21 [159, 160, 161, 162, 163, 164, 165, 166, 167, 168] 0, [.t 155], some (152, true)⟩,
      ⟨some 157, .eqs false [0, 0, 0, 0, 0, 1, 1], [.t 154, .t 156], some (152, true)⟩,
      ⟨some 158, .pick, [.t 152, .t 157, .c (.bool false)], none⟩,
      ⟨some 4, .mv, [.t 158], none⟩]) [4])
  .ret)))))))))))) }
/-- waggoner/waggonerlaw14.VolumeBound -/
def i6 : IFn := { ns := 54, nt := 86, res := [.t 4], body :=
  (.seq (.kpost (.reg [⟨some 4, .mv, [.c (.bool false)], none⟩]) [0, 1])
  (.seq (.kpost (.reg [⟨some 16, .call 10 [] 0, [], none⟩,
      ⟨some 5, .mv, [.t 16], none⟩]) [0, 1, 5])
  (.seq (.kpost (.reg [⟨some 17, .mv, [.t 0], none⟩,
      ⟨some 18, .conv .i64, [.t 17], none⟩,
      ⟨some 19, .bin .rem 0, [.t 18, .c (.int .i64 64)], none⟩,
      ⟨some 20, .bin .add 0, [.c (.int .i64 1), .t 19], none⟩,
      ⟨some 6, .mv, [.t 20], none⟩]) [1, 5, 6])
  (.seq (.kpost (.reg [⟨some 21, .mv, [.t 6], none⟩,
      ⟨some 22, .call 11 [0, 1, 2, 3, 4, 5, 6, 7, 8, 9] 1, [.t 21], none⟩,
      ⟨some 7, .mv, [.t 22], none⟩]) [1, 5, 6, 7])
  (.seq (.kpost (.reg [⟨some 24, .mv, [.t 6], none⟩,
      ⟨some 25, .call 12 [10, 11, 12, 13, 14, 15] 1, [.t 24], none⟩,
      ⟨some 23, .mv, [.t 25], none⟩,
      ⟨some 26, .extr 0, [.t 23], none⟩,
      ⟨some 27, .extr 1, [.t 23], none⟩,
      ⟨some 8, .alloc 16 30 [.int .i64 0, .int .i64 0, .nils 48 5, .nils 95 3, .int .i64 0, .nils 5 1], [], none⟩,
      ⟨none, .store 6, [.t 8, .t 26], none⟩,
      ⟨some 9, .mv, [.t 27], none⟩]) [1, 5, 6, 7, 8])
  (.seq (.seq (.kpost (.reg [⟨some 28, .mv, [.t 5], none⟩,
       ⟨some 29, .bnot, [.t 28], none⟩,
       ⟨some 30, .mv, [.t 29], none⟩,
       ⟨some 31, .mv, [.t 7], some (30, false)⟩,
       ⟨some 32, .bin .eql 3, [.t 31, .c (.nilp)], some (30, false)⟩,
       ⟨some 33, .pick, [.t 30, .c (.bool true), .t 32], none⟩]) [1, 6, 7, 8, 33])
   (.cond (.t 33)
    (.seq (.kpost (.reg [⟨some 4, .mv, [.c (.bool false)], none⟩]) [4])
     .ret)
    .skip))
  (.seq (.kpost (.reg [⟨some 34, .mv, [.t 6], none⟩,
      ⟨some 35, .call 22 [] 0, [.t 34, .c (.int .i64 8192)], none⟩,
      ⟨some 10, .mv, [.t 35], none⟩]) [1, 6, 7, 8, 10])
  (.seq (.seq (.kpost (.reg [⟨some 11, .mv, [.c (.int .i64 0)], none⟩]) [1, 6, 7, 8, 10, 11])
   (.block 0 (.kpre [1, 6, 7, 8, 10, 11] (.loop (.kpost (.seq (.seq (.kpost (.reg [⟨some 36, .mv, [.t 11], none⟩,
            ⟨some 37, .mv, [.t 1], none⟩,
            ⟨some 38, .len, [.t 37], none⟩,
            ⟨some 39, .bin .lss 0, [.t 36, .t 38], none⟩,
            ⟨some 40, .mv, [.t 39], none⟩,
            ⟨some 41, .mv, [.t 11], some (40, true)⟩,
            ⟨some 42, .bin .lss 0, [.t 41, .c (.int .i64 30)], some (40, true)⟩,
            ⟨some 43, .pick, [.t 40, .t 42, .c (.bool false)], none⟩]) [1, 6, 7, 8, 10, 11, 43])
        (.cond (.t 43)
         .skip
         (.exit 0)))
       (.seq (.block 1 (.seq (.kpost (.reg [⟨some 46, .mv, [.t 7], none⟩,
             ⟨some 47, .call 21 [17, 18, 19, 20, 21, 22, 23, 24, 25, 26] 0, [.t 46], none⟩,
             ⟨some 48, .fld 4 none, [.t 47], none⟩,
             ⟨some 12, .mv, [.t 48], none⟩]) [1, 6, 7, 8, 10, 11, 12])
         (.seq (.kpost (.regD [⟨some 50, .mv, [.t 7], none⟩,
             ⟨some 51, .load (some 6), [.t 8], none⟩,
             ⟨some 52, .mv, [.t 1], none⟩,
             ⟨some 53, .mv, [.t 11], none⟩,
             ⟨some 54, .iadr 5, [.t 52, .t 53], none⟩,
             ⟨some 55, .load (some 5), [.t 54], none⟩,
             ⟨some 56, .call 13 [27, 28, 29, 30, 31, 32, 33, 34, 35, 36, 37, 38, 39, 40, 41, 42] 1, [.t 50, .t 51, .t 55], none⟩,
             ⟨some 49, .mv, [.t 56], none⟩,
             ⟨some 57, .extr 0, [.t 49], none⟩,
             ⟨some 58, .extr 1, [.t 49], none⟩,
             ⟨some 59, .extr 2, [.t 49], none⟩,
             ⟨some 14, .alloc 43 30 [.int .i64 0, .int .i64 0, .nils 48 5, .nils 95 3, .int .i64 0, .nils 5 1], [], none⟩,
             ⟨some 13, .mv, [.t 57], none⟩,
             ⟨none, .store 6, [.t 14, .t 58], none⟩,
             ⟨some 15, .mv, [.t 59], none⟩] [0, 1, 2, 3, 4, 5, 6, 7, 8, 9, 10, 11, 12, 13, 14] none [(1, 11), (4, 11), (5, 11), (6, 11)]) [1, 6, 7, 8, 10, 11, 12, 13, 14, 15])
         (.seq (.seq (.kpost (.reg [⟨some 60, .mv, [.t 1], none⟩,
              ⟨some 61, .mv, [.t 11], none⟩,
              ⟨some 62, .iadr 5, [.t 60, .t 61], none⟩,
              ⟨some 63, .fadr 0, [.t 62], none⟩,
              ⟨some 64, .load none, [.t 63], none⟩,
              ⟨some 65, .bin .rem 0, [.t 64, .c (.int .u8 10)], none⟩,
              ⟨some 66, .bin .eql 0, [.t 65, .c (.int .u8 7)], none⟩]) [1, 6, 7, 8, 10, 11, 12, 13, 14, 15, 66])
          (.cond (.t 66)
           (.kpost (.reg [⟨some 67, .mv, [.t 12], none⟩,
               ⟨some 68, .bin .add 0, [.t 67, .c (.int .i64 1)], none⟩,
               ⟨some 12, .mv, [.t 68], none⟩]) [1, 6, 7, 8, 10, 11, 12, 13, 14, 15])
           .skip))
         (.seq (.seq (.kpost (.reg [⟨some 69, .mv, [.t 13], none⟩,
              ⟨some 70, .mv, [.t 15], none⟩,
              ⟨some 71, .bin .neq 0, [.t 69, .t 70], none⟩,
              ⟨some 72, .mv, [.t 71], none⟩,
              ⟨some 73, .mv, [.t 7], some (72, false)⟩,
              ⟨some 74, .call 21 [44, 45, 46, 47, 48, 49, 50, 51, 52, 53] 0, [.t 73], some (72, false)⟩,
              ⟨some 75, .fld 4 none, [.t 74], some (72, false)⟩,
              ⟨some 76, .mv, [.t 12], some (72, false)⟩,
              ⟨some 77, .bin .sub 0, [.t 75, .t 76], some (72, false)⟩,
              ⟨some 78, .mv, [.t 10], some (72, false)⟩,
              ⟨some 79, .mv, [.t 6], some (72, false)⟩,
              ⟨some 80, .call 23 [] 0, [.t 78, .t 79], some (72, false)⟩,
              ⟨some 81, .bin .gtr 0, [.t 77, .t 80], some (72, false)⟩,
              ⟨some 82, .pick, [.t 72, .c (.bool true), .t 81], none⟩]) [1, 6, 7, 8, 10, 11, 13, 14, 82])
          (.cond (.t 82)
           (.seq (.kpost (.reg [⟨some 4, .mv, [.c (.bool false)], none⟩]) [4])
            .ret)
           .skip))
         (.seq (.kpost (.reg [⟨some 83, .mv, [.t 13], none⟩,
             ⟨some 84, .bin .eql 0, [.t 83, .c (.int .i64 0)], none⟩]) [1, 6, 7, 8, 10, 11, 14, 84])
         (.cond (.t 84)
          (.kpost (.reg [⟨some 85, .load (some 6), [.t 14], none⟩,
              ⟨none, .store 6, [.t 8, .t 85], none⟩]) [1, 6, 7, 8, 10, 11])
          .skip)))))))
       (.kpost (.reg [⟨some 44, .mv, [.t 11], none⟩,
          ⟨some 45, .bin .add 0, [.t 44, .c (.int .i64 1)], none⟩,
          ⟨some 11, .mv, [.t 45], none⟩]) [1, 6, 7, 8, 10, 11]))) [1, 6, 7, 8, 10, 11])))))
  (.seq (.kpost (.reg [⟨some 4, .mv, [.c (.bool true)], none⟩]) [4])
  .ret))))))))) }
/-- waggoner/waggonerlaw14.VolumeKeeps -/
def i7 : IFn := { ns := 91, nt := 98, res := [.t 6], body :=
  (.seq (.kpost (.reg [⟨some 6, .mv, [.c (.bool false)], none⟩]) [0, 1, 2])
  (.seq (.kpost (.reg [⟨some 20, .call 10 [] 0, [], none⟩,
      ⟨some 7, .mv, [.t 20], none⟩]) [0, 1, 2, 7])
  (.seq (.kpost (.reg [⟨some 21, .mv, [.t 0], none⟩,
      ⟨some 22, .conv .i64, [.t 21], none⟩,
      ⟨some 23, .bin .rem 0, [.t 22, .c (.int .i64 64)], none⟩,
      ⟨some 24, .bin .add 0, [.c (.int .i64 1), .t 23], none⟩,
      ⟨some 8, .mv, [.t 24], none⟩]) [1, 2, 7, 8])
  (.seq (.kpost (.reg [⟨some 25, .mv, [.t 8], none⟩,
      ⟨some 26, .call 11 [0, 1, 2, 3, 4, 5, 6, 7, 8, 9] 1, [.t 25], none⟩,
      ⟨some 9, .mv, [.t 26], none⟩]) [1, 2, 7, 8, 9])
  (.seq (.kpost (.reg [⟨some 28, .mv, [.t 8], none⟩,
      ⟨some 29, .call 12 [10, 11, 12, 13, 14, 15] 1, [.t 28], none⟩,
      ⟨some 27, .mv, [.t 29], none⟩,
      ⟨some 30, .extr 0, [.t 27], none⟩,
      ⟨some 31, .extr 1, [.t 27], none⟩,
      ⟨some 10, .alloc 16 30 [.int .i64 0, .int .i64 0, .nils 48 5, .nils 95 3, .int .i64 0, .nils 5 1], [], none⟩,
      ⟨none, .store 6, [.t 10, .t 30], none⟩,
      ⟨some 11, .mv, [.t 31], none⟩]) [1, 2, 7, 9, 10])
  (.seq (.seq (.kpost (.reg [⟨some 32, .mv, [.t 7], none⟩,
       ⟨some 33, .bnot, [.t 32], none⟩,
       ⟨some 34, .mv, [.t 33], none⟩,
       ⟨some 35, .mv, [.t 9], some (34, false)⟩,
       ⟨some 36, .bin .eql 3, [.t 35, .c (.nilp)], some (34, false)⟩,
       ⟨some 37, .pick, [.t 34, .c (.bool true), .t 36], none⟩]) [1, 2, 9, 10, 37])
   (.cond (.t 37)
    (.seq (.kpost (.reg [⟨some 6, .mv, [.c (.bool false)], none⟩]) [6])
     .ret)
    .skip))
  (.seq (.seq (.kpost (.reg [⟨some 12, .mv, [.c (.int .i64 0)], none⟩]) [1, 2, 9, 10, 12])
   (.block 0 (.kpre [1, 2, 9, 10, 12] (.loop (.kpost (.seq (.seq (.kpost (.reg [⟨some 38, .mv, [.t 12], none⟩,
            ⟨some 39, .mv, [.t 1], none⟩,
            ⟨some 40, .len, [.t 39], none⟩,
            ⟨some 41, .bin .lss 0, [.t 38, .t 40], none⟩,
            ⟨some 42, .mv, [.t 41], none⟩,
            ⟨some 43, .mv, [.t 12], some (42, true)⟩,
            ⟨some 44, .bin .lss 0, [.t 43, .c (.int .i64 12)], some (42, true)⟩,
            ⟨some 45, .pick, [.t 42, .t 44, .c (.bool false)], none⟩]) [1, 2, 9, 10, 12, 45])
        (.cond (.t 45)
         .skip
         (.exit 0)))
       (.seq (.block 1 (.seq (.kpost (.regD [⟨some 49, .mv, [.t 9], none⟩,
             ⟨some 50, .load (some 6), [.t 10], none⟩,
             ⟨some 51, .mv, [.t 1], none⟩,
             ⟨some 52, .mv, [.t 12], none⟩,
             ⟨some 53, .iadr 5, [.t 51, .t 52], none⟩,
             ⟨some 54, .load (some 5), [.t 53], none⟩,
             ⟨some 55, .call 13 [17, 18, 19, 20, 21, 22, 23, 24, 25, 26, 27, 28, 29, 30, 31, 32] 1, [.t 49, .t 50, .t 54], none⟩,
             ⟨some 48, .mv, [.t 55], none⟩,
             ⟨some 56, .extr 0, [.t 48], none⟩,
             ⟨some 57, .extr 1, [.t 48], none⟩,
             ⟨some 58, .extr 2, [.t 48], none⟩,
             ⟨some 14, .alloc 33 30 [.int .i64 0, .int .i64 0, .nils 48 5, .nils 95 3, .int .i64 0, .nils 5 1], [], none⟩,
             ⟨some 13, .mv, [.t 56], none⟩,
             ⟨none, .store 6, [.t 14, .t 57], none⟩,
             ⟨some 15, .mv, [.t 58], none⟩] [0, 1, 2, 3, 4, 5, 6, 7, 8, 9, 10, 11, 12, 13, 14] none [(1, 11), (4, 11), (5, 11), (6, 11)]) [1, 2, 9, 10, 12, 13, 14])
         (.seq (.kpost (.reg [⟨some 59, .mv, [.t 13], none⟩,
             ⟨some 60, .bin .eql 0, [.t 59, .c (.int .i64 0)], none⟩]) [1, 2, 9, 10, 12, 14, 60])
         (.cond (.t 60)
          (.kpost (.reg [⟨some 61, .load (some 6), [.t 14], none⟩,
              ⟨none, .store 6, [.t 10, .t 61], none⟩]) [1, 2, 9, 10, 12])
          .skip))))
       (.kpost (.reg [⟨some 46, .mv, [.t 12], none⟩,
          ⟨some 47, .bin .add 0, [.t 46, .c (.int .i64 1)], none⟩,
          ⟨some 12, .mv, [.t 47], none⟩]) [1, 2, 9, 10, 12]))) [1, 2, 9, 10, 12])))))
  (.seq (.seq (.kpost (.reg [⟨some 62, .mv, [.t 9], none⟩,
       ⟨some 63, .call 24 [34, 35, 36, 37, 38, 39, 40, 41, 42, 43] 0, [.t 62], none⟩,
       ⟨some 64, .bin .neq 0, [.t 63, .c (.int .i64 0)], none⟩]) [2, 9, 10, 64])
   (.cond (.t 64)
    (.seq (.kpost (.reg [⟨some 6, .mv, [.c (.bool false)], none⟩]) [6])
     .ret)
    .skip))
  (.seq (.seq (.kpost (.reg [⟨some 16, .mv, [.c (.int .i64 0)], none⟩]) [2, 9, 10, 16])
   (.block 2 (.kpre [2, 9, 10, 16] (.loop (.kpost (.seq (.seq (.kpost (.reg [⟨some 65, .mv, [.t 16], none⟩,
            ⟨some 66, .mv, [.t 2], none⟩,
            ⟨some 67, .conv .i64, [.t 66], none⟩,
            ⟨some 68, .bin .rem 0, [.t 67, .c (.int .i64 4)], none⟩,
            ⟨some 69, .bin .add 0, [.c (.int .i64 1), .t 68], none⟩,
            ⟨some 70, .bin .lss 0, [.t 65, .t 69], none⟩]) [2, 9, 10, 16, 70])
        (.cond (.t 70)
         .skip
         (.exit 2)))
       (.seq (.block 3 (.seq (.seq (.kpost (.reg [⟨some 73, .mv, [.t 16], none⟩,
              ⟨some 74, .bin .rem 0, [.t 73, .c (.int .i64 2)], none⟩,
              ⟨some 75, .bin .eql 0, [.t 74, .c (.int .i64 0)], none⟩]) [2, 9, 10, 16, 75])
          (.cond (.t 75)
           (.kpost (.reg [⟨some 76, .mv, [.t 9], none⟩,
               ⟨some 77, .call 25 [44, 45, 46, 47, 48, 49, 50, 51, 52, 53] 0, [.t 76, .c (.nils 3 1)], none⟩]) [2, 9, 10, 16])
           (.seq (.kpost (.reg [⟨some 78, .mv, [.t 9], none⟩,
                ⟨some 79, .call 26 [54, 55, 56, 57, 58, 59, 60, 61, 62, 63] 0, [.t 78], none⟩,
                ⟨some 80, .bin .neq 0, [.t 79, .c (.int .i64 0)], none⟩]) [2, 9, 10, 16, 80])
            (.cond (.t 80)
             (.seq (.kpost (.reg [⟨some 6, .mv, [.c (.bool false)], none⟩]) [6])
              .ret)
             .skip))))
         (.seq (.seq (.kpost (.reg [⟨some 81, .mv, [.t 9], none⟩,
              ⟨some 82, .call 27 [64, 65, 66, 67, 68, 69, 70, 71, 72, 73] 0, [.t 81], none⟩,
              ⟨some 83, .bin .neq 0, [.t 82, .c (.int .i64 0)], none⟩]) [2, 9, 10, 16, 83])
          (.cond (.t 83)
           (.seq (.kpost (.reg [⟨some 6, .mv, [.c (.bool false)], none⟩]) [6])
            .ret)
           .skip))
         (.seq (.kpost (.reg [⟨some 85, .mv, [.t 9], none⟩,
             ⟨some 86, .call 14 [74, 75, 76, 77, 78, 79, 80, 81, 82, 83, 84, 85, 86, 87, 88, 89] 1, [.t 85], none⟩,
             ⟨some 84, .mv, [.t 86], none⟩,
             ⟨some 87, .extr 0, [.t 84], none⟩,
             ⟨some 88, .extr 1, [.t 84], none⟩,
             ⟨some 17, .alloc 90 30 [.int .i64 0, .int .i64 0, .nils 48 5, .nils 95 3, .int .i64 0, .nils 5 1], [], none⟩,
             ⟨none, .store 6, [.t 17, .t 87], none⟩,
             ⟨some 18, .mv, [.t 88], none⟩]) [2, 9, 10, 16, 17, 18])
         (.seq (.kpost (.reg [⟨some 89, .load (some 6), [.t 17], none⟩,
             ⟨some 90, .load (some 6), [.t 10], none⟩,
             ⟨some 91, .call 18 [] 0, [.t 89, .t 90], none⟩,
             ⟨some 19, .mv, [.t 91], none⟩]) [2, 9, 10, 16, 18, 19])
         (.seq (.kpost (.reg [⟨some 92, .mv, [.t 18], none⟩,
             ⟨some 93, .bin .neq 0, [.t 92, .c (.int .i64 0)], none⟩,
             ⟨some 94, .mv, [.t 93], none⟩,
             ⟨some 95, .mv, [.t 19], some (94, false)⟩,
             ⟨some 96, .bnot, [.t 95], some (94, false)⟩,
             ⟨some 97, .pick, [.t 94, .c (.bool true), .t 96], none⟩]) [2, 9, 10, 16, 97])
         (.cond (.t 97)
          (.seq (.kpost (.reg [⟨some 6, .mv, [.c (.bool false)], none⟩]) [6])
           .ret)
          .skip)))))))
       (.kpost (.reg [⟨some 71, .mv, [.t 16], none⟩,
          ⟨some 72, .bin .add 0, [.t 71, .c (.int .i64 1)], none⟩,
          ⟨some 16, .mv, [.t 72], none⟩]) [2, 9, 10, 16]))) [2, 9, 10, 16])))))
  (.seq (.kpost (.reg [⟨some 6, .mv, [.c (.bool true)], none⟩]) [6])
  .ret)))))))))) }
/-- waggoner/waggonerlaw14.VolumeCrashes -/
def i8 : IFn := { ns := 119, nt := 171, res := [.t 10], body :=
  (.seq (.kpost (.reg [⟨some 10, .mv, [.c (.bool false)], none⟩]) [0, 1, 2, 3, 4])
  (.seq (.kpost (.reg [⟨some 27, .call 10 [] 0, [], none⟩,
      ⟨some 11, .mv, [.t 27], none⟩]) [0, 1, 2, 3, 4, 11])
  (.seq (.kpost (.reg [⟨some 28, .mv, [.t 0], none⟩,
      ⟨some 29, .conv .i64, [.t 28], none⟩,
      ⟨some 30, .bin .rem 0, [.t 29, .c (.int .i64 64)], none⟩,
      ⟨some 31, .bin .add 0, [.c (.int .i64 1), .t 30], none⟩,
      ⟨some 12, .mv, [.t 31], none⟩]) [1, 2, 3, 4, 11, 12])
  (.seq (.kpost (.reg [⟨some 32, .mv, [.t 12], none⟩,
      ⟨some 33, .call 11 [0, 1, 2, 3, 4, 5, 6, 7, 8, 9] 1, [.t 32], none⟩,
      ⟨some 13, .mv, [.t 33], none⟩]) [1, 2, 3, 4, 11, 12, 13])
  (.seq (.kpost (.reg [⟨some 35, .mv, [.t 12], none⟩,
      ⟨some 36, .call 12 [10, 11, 12, 13, 14, 15] 1, [.t 35], none⟩,
      ⟨some 34, .mv, [.t 36], none⟩,
      ⟨some 37, .extr 0, [.t 34], none⟩,
      ⟨some 38, .extr 1, [.t 34], none⟩,
      ⟨some 14, .alloc 16 30 [.int .i64 0, .int .i64 0, .nils 48 5, .nils 95 3, .int .i64 0, .nils 5 1], [], none⟩,
      ⟨none, .store 6, [.t 14, .t 37], none⟩,
      ⟨some 15, .mv, [.t 38], none⟩]) [1, 2, 3, 4, 11, 13, 14])
  (.seq (.seq (.kpost (.reg [⟨some 39, .mv, [.t 11], none⟩,
       ⟨some 40, .bnot, [.t 39], none⟩,
       ⟨some 41, .mv, [.t 40], none⟩,
       ⟨some 42, .mv, [.t 13], some (41, false)⟩,
       ⟨some 43, .bin .eql 3, [.t 42, .c (.nilp)], some (41, false)⟩,
       ⟨some 44, .pick, [.t 41, .c (.bool true), .t 43], none⟩]) [1, 2, 3, 4, 13, 14, 44])
   (.cond (.t 44)
    (.seq (.kpost (.reg [⟨some 10, .mv, [.c (.bool false)], none⟩]) [10])
     .ret)
    .skip))
  (.seq (.kpost (.reg [⟨some 45, .load (some 6), [.t 14], none⟩,
      ⟨some 46, .bslice 17 30 6 [.int .i64 0, .int .i64 0, .imm 5 [], .imm 3 [], .int .i64 0, .imm 1 []] 1 [0], [.t 45], none⟩,
      ⟨some 16, .mv, [.t 46], none⟩]) [1, 2, 3, 4, 13, 16])
  (.seq (.kpost (.reg [⟨some 47, .mv, [.t 13], none⟩,
      ⟨some 48, .mv, [.t 2], none⟩,
      ⟨some 49, .conv .i64, [.t 48], none⟩,
      ⟨some 50, .bin .rem 0, [.t 49, .c (.int .i64 400)], none⟩,
      ⟨some 51, .call 28 [18, 19, 20, 21, 22, 23, 24, 25, 26, 27] 0, [.t 47, .t 50], none⟩]) [1, 3, 4, 13, 16])
  (.seq (.seq (.kpost (.reg [⟨some 17, .mv, [.c (.int .i64 0)], none⟩]) [1, 3, 4, 13, 16, 17])
   (.block 0 (.kpre [1, 3, 4, 13, 16, 17] (.loop (.kpost (.seq (.seq (.kpost (.reg [⟨some 52, .mv, [.t 17], none⟩,
            ⟨some 53, .mv, [.t 1], none⟩,
            ⟨some 54, .len, [.t 53], none⟩,
            ⟨some 55, .bin .lss 0, [.t 52, .t 54], none⟩,
            ⟨some 56, .mv, [.t 55], none⟩,
            ⟨some 57, .mv, [.t 17], some (56, true)⟩,
            ⟨some 58, .bin .lss 0, [.t 57, .c (.int .i64 20)], some (56, true)⟩,
            ⟨some 59, .pick, [.t 56, .t 58, .c (.bool false)], none⟩]) [1, 3, 4, 13, 16, 17, 59])
        (.cond (.t 59)
         .skip
         (.exit 0)))
       (.seq (.block 1 (.seq (.kpost (.regD [⟨some 63, .mv, [.t 13], none⟩,
             ⟨some 64, .mv, [.t 16], none⟩,
             ⟨some 65, .mv, [.t 16], none⟩,
             ⟨some 66, .len, [.t 65], none⟩,
             ⟨some 67, .bin .sub 0, [.t 66, .c (.int .i64 1)], none⟩,
             ⟨some 68, .iadr 6, [.t 64, .t 67], none⟩,
             ⟨some 69, .load (some 6), [.t 68], none⟩,
             ⟨some 70, .mv, [.t 1], none⟩,
             ⟨some 71, .mv, [.t 17], none⟩,
             ⟨some 72, .iadr 5, [.t 70, .t 71], none⟩,
             ⟨some 73, .load (some 5), [.t 72], none⟩,
             ⟨some 74, .call 13 [28, 29, 30, 31, 32, 33, 34, 35, 36, 37, 38, 39, 40, 41, 42, 43] 1, [.t 63, .t 69, .t 73], none⟩,
             ⟨some 62, .mv, [.t 74], none⟩,
             ⟨some 75, .extr 0, [.t 62], none⟩,
             ⟨some 76, .extr 1, [.t 62], none⟩,
             ⟨some 77, .extr 2, [.t 62], none⟩,
             ⟨some 19, .alloc 44 30 [.int .i64 0, .int .i64 0, .nils 48 5, .nils 95 3, .int .i64 0, .nils 5 1], [], none⟩,
             ⟨some 18, .mv, [.t 75], none⟩,
             ⟨none, .store 6, [.t 19, .t 76], none⟩,
             ⟨some 20, .mv, [.t 77], none⟩] [0, 1, 2, 3, 4, 5, 6, 7, 8, 9, 10, 11, 12, 13, 14, 15, 16, 17, 18, 19] none [(3, 16), (4, 16), (5, 16), (6, 16), (9, 16), (10, 16), (11, 16)]) [1, 3, 4, 13, 16, 17, 18, 19, 20])
         (.seq (.seq (.kpost (.reg [⟨some 78, .mv, [.t 18], none⟩,
              ⟨some 79, .bin .eql 0, [.t 78, .c (.int .i64 40)], none⟩]) [1, 3, 4, 13, 16, 17, 18, 19, 20, 79])
          (.cond (.t 79)
           (.seq (.seq (.kpost (.reg [⟨some 80, .mv, [.t 20], none⟩,
                 ⟨some 81, .bin .eql 0, [.t 80, .c (.int .i64 0)], none⟩]) [3, 4, 13, 16, 19, 81])
             (.cond (.t 81)
              (.kpost (.reg [⟨some 82, .mv, [.t 16], none⟩,
                  ⟨some 83, .load (some 6), [.t 19], none⟩,
                  ⟨some 84, .bslice 45 30 6 [.int .i64 0, .int .i64 0, .imm 5 [], .imm 3 [], .int .i64 0, .imm 1 []] 1 [0], [.t 83], none⟩,
                  ⟨some 85, .app 46 30 6 96, [.t 82, .t 84], none⟩,
                  ⟨some 16, .mv, [.t 85], none⟩]) [3, 4, 13, 16])
              .skip))
            (.exit 0))
           .skip))
         (.seq (.seq (.kpost (.reg [⟨some 86, .mv, [.t 18], none⟩,
              ⟨some 87, .mv, [.t 20], none⟩,
              ⟨some 88, .bin .neq 0, [.t 86, .t 87], none⟩]) [1, 3, 4, 13, 16, 17, 18, 19, 88])
          (.cond (.t 88)
           (.seq (.kpost (.reg [⟨some 10, .mv, [.c (.bool false)], none⟩]) [10])
            .ret)
           .skip))
         (.seq (.seq (.kpost (.reg [⟨some 89, .mv, [.t 18], none⟩,
              ⟨some 90, .bin .eql 0, [.t 89, .c (.int .i64 0)], none⟩,
              ⟨some 91, .mv, [.t 90], none⟩,
              ⟨some 92, .mv, [.t 1], some (91, true)⟩,
              ⟨some 93, .mv, [.t 17], some (91, true)⟩,
              ⟨some 94, .iadr 5, [.t 92, .t 93], some (91, true)⟩,
              ⟨some 95, .fadr 0, [.t 94], some (91, true)⟩,
              ⟨some 96, .load none, [.t 95], some (91, true)⟩,
              ⟨some 97, .bin .rem 0, [.t 96, .c (.int .u8 10)], some (91, true)⟩,
              ⟨some 98, .bin .gtr 0, [.t 97, .c (.int .u8 2)], some (91, true)⟩,
              ⟨some 99, .pick, [.t 91, .t 98, .c (.bool false)], none⟩]) [1, 3, 4, 13, 16, 17, 18, 19, 99])
          (.cond (.t 99)
           (.kpost (.reg [⟨some 100, .load (some 6), [.t 19], none⟩,
               ⟨some 101, .bslice 47 30 6 [.int .i64 0, .int .i64 0, .imm 5 [], .imm 3 [], .int .i64 0, .imm 1 []] 1 [0], [.t 100], none⟩,
               ⟨some 16, .mv, [.t 101], none⟩]) [1, 3, 4, 13, 16, 17, 18, 19])
           .skip))
         (.seq (.kpost (.reg [⟨some 102, .mv, [.t 18], none⟩,
             ⟨some 103, .bin .eql 0, [.t 102, .c (.int .i64 0)], none⟩,
             ⟨some 104, .mv, [.t 103], none⟩,
             ⟨some 105, .mv, [.t 1], some (104, true)⟩,
             ⟨some 106, .mv, [.t 17], some (104, true)⟩,
             ⟨some 107, .iadr 5, [.t 105, .t 106], some (104, true)⟩,
             ⟨some 108, .fadr 0, [.t 107], some (104, true)⟩,
             ⟨some 109, .load none, [.t 108], some (104, true)⟩,
             ⟨some 110, .bin .rem 0, [.t 109, .c (.int .u8 10)], some (104, true)⟩,
             ⟨some 111, .bin .leq 0, [.t 110, .c (.int .u8 2)], some (104, true)⟩,
             ⟨some 112, .pick, [.t 104, .t 111, .c (.bool false)], none⟩]) [1, 3, 4, 13, 16, 17, 19, 112])
         (.cond (.t 112)
          (.kpost (.reg [⟨some 113, .mv, [.t 16], none⟩,
              ⟨some 114, .load (some 6), [.t 19], none⟩,
              ⟨some 115, .bslice 48 30 6 [.int .i64 0, .int .i64 0, .imm 5 [], .imm 3 [], .int .i64 0, .imm 1 []] 1 [0], [.t 114], none⟩,
              ⟨some 116, .app 49 30 6 96, [.t 113, .t 115], none⟩,
              ⟨some 16, .mv, [.t 116], none⟩]) [1, 3, 4, 13, 16, 17])
          .skip)))))))
       (.kpost (.reg [⟨some 60, .mv, [.t 17], none⟩,
          ⟨some 61, .bin .add 0, [.t 60, .c (.int .i64 1)], none⟩,
          ⟨some 17, .mv, [.t 61], none⟩]) [1, 3, 4, 13, 16, 17]))) [1, 3, 4, 13, 16, 17])))))
  (.seq (.kpost (.reg [⟨some 21, .mv, [.c (.nils 3 1)], none⟩]) [3, 4, 13, 16, 21])
  (.seq (.seq (.kpost (.reg [⟨some 22, .mv, [.c (.int .i64 0)], none⟩]) [3, 4, 13, 16, 21, 22])
   (.block 2 (.kpre [3, 4, 13, 16, 21, 22] (.loop (.kpost (.seq (.seq (.kpost (.reg [⟨some 117, .mv, [.t 22], none⟩,
            ⟨some 118, .mv, [.t 3], none⟩,
            ⟨some 119, .len, [.t 118], none⟩,
            ⟨some 120, .bin .lss 0, [.t 117, .t 119], none⟩,
            ⟨some 121, .mv, [.t 120], none⟩,
            ⟨some 122, .mv, [.t 22], some (121, true)⟩,
            ⟨some 123, .bin .lss 0, [.t 122, .c (.int .i64 64)], some (121, true)⟩,
            ⟨some 124, .pick, [.t 121, .t 123, .c (.bool false)], none⟩]) [3, 4, 13, 16, 21, 22, 124])
        (.cond (.t 124)
         .skip
         (.exit 2)))
       (.seq (.block 3 (.kpost (.reg [⟨some 127, .mv, [.t 21], none⟩,
            ⟨some 128, .mv, [.t 3], none⟩,
            ⟨some 129, .mv, [.t 22], none⟩,
            ⟨some 130, .iadr 1, [.t 128, .t 129], none⟩,
            ⟨some 131, .load none, [.t 130], none⟩,
            ⟨some 132, .conv .i64, [.t 131], none⟩,
            ⟨some 133, .bslice 50 3 1 [.int .i64 0] 1 [0], [.t 132], none⟩,
            ⟨some 134, .app 51 3 1 8, [.t 127, .t 133], none⟩,
            ⟨some 21, .mv, [.t 134], none⟩]) [3, 4, 13, 16, 21, 22]))
       (.kpost (.reg [⟨some 125, .mv, [.t 22], none⟩,
          ⟨some 126, .bin .add 0, [.t 125, .c (.int .i64 1)], none⟩,
          ⟨some 22, .mv, [.t 126], none⟩]) [3, 4, 13, 16, 21, 22]))) [3, 4, 13, 16, 21, 22])))))
  (.seq (.kpost (.reg [⟨some 135, .mv, [.t 13], none⟩,
      ⟨some 136, .mv, [.t 21], none⟩,
      ⟨some 137, .call 25 [52, 53, 54, 55, 56, 57, 58, 59, 60, 61] 0, [.t 135, .t 136], none⟩]) [4, 13, 16, 21])
  (.seq (.kpost (.reg [⟨some 138, .mv, [.t 13], none⟩,
      ⟨some 139, .mv, [.t 4], none⟩,
      ⟨some 140, .conv .i64, [.t 139], none⟩,
      ⟨some 141, .call 28 [62, 63, 64, 65, 66, 67, 68, 69, 70, 71] 0, [.t 138, .t 140], none⟩]) [13, 16, 21])
  (.seq (.seq (.kpost (.reg [⟨some 142, .mv, [.t 13], none⟩,
       ⟨some 143, .call 27 [72, 73, 74, 75, 76, 77, 78, 79, 80, 81] 0, [.t 142], none⟩,
       ⟨some 144, .bin .neq 0, [.t 143, .c (.int .i64 0)], none⟩]) [13, 16, 21, 144])
   (.cond (.t 144)
    (.seq (.kpost (.reg [⟨some 145, .mv, [.t 13], none⟩,
         ⟨some 146, .mv, [.t 21], none⟩,
         ⟨some 147, .call 25 [82, 83, 84, 85, 86, 87, 88, 89, 90, 91] 0, [.t 145, .t 146], none⟩]) [13, 16])
     (.seq (.kpost (.reg [⟨some 148, .mv, [.t 13], none⟩,
         ⟨some 149, .call 27 [92, 93, 94, 95, 96, 97, 98, 99, 100, 101] 0, [.t 148], none⟩,
         ⟨some 150, .bin .neq 0, [.t 149, .c (.int .i64 0)], none⟩]) [13, 16, 150])
     (.cond (.t 150)
      (.seq (.kpost (.reg [⟨some 10, .mv, [.c (.bool false)], none⟩]) [10])
       .ret)
      .skip)))
    .skip))
  (.seq (.kpost (.reg [⟨some 152, .mv, [.t 13], none⟩,
      ⟨some 153, .call 14 [102, 103, 104, 105, 106, 107, 108, 109, 110, 111, 112, 113, 114, 115, 116, 117] 1, [.t 152], none⟩,
      ⟨some 151, .mv, [.t 153], none⟩,
      ⟨some 154, .extr 0, [.t 151], none⟩,
      ⟨some 155, .extr 1, [.t 151], none⟩,
      ⟨some 23, .alloc 118 30 [.int .i64 0, .int .i64 0, .nils 48 5, .nils 95 3, .int .i64 0, .nils 5 1], [], none⟩,
      ⟨none, .store 6, [.t 23, .t 154], none⟩,
      ⟨some 24, .mv, [.t 155], none⟩]) [16, 23, 24])
  (.seq (.seq (.kpost (.reg [⟨some 25, .mv, [.c (.int .i64 0)], none⟩]) [16, 23, 24, 25])
   (.block 4 (.kpre [16, 23, 24, 25] (.loop (.kpost (.seq (.seq (.kpost (.reg [⟨some 156, .mv, [.t 25], none⟩,
            ⟨some 157, .mv, [.t 16], none⟩,
            ⟨some 158, .len, [.t 157], none⟩,
            ⟨some 159, .bin .lss 0, [.t 156, .t 158], none⟩]) [16, 23, 24, 25, 159])
        (.cond (.t 159)
         .skip
         (.exit 4)))
       (.seq (.block 5 (.seq (.kpost (.regD [⟨some 162, .load (some 6), [.t 23], none⟩,
             ⟨some 163, .mv, [.t 16], none⟩,
             ⟨some 164, .mv, [.t 25], none⟩,
             ⟨some 165, .iadr 6, [.t 163, .t 164], none⟩,
             ⟨some 166, .load (some 6), [.t 165], none⟩,
             ⟨some 167, .call 18 [] 0, [.t 162, .t 166], none⟩,
             ⟨some 26, .mv, [.t 167], none⟩] [0, 1, 2, 3, 4, 5, 6] none []) [16, 23, 24, 25, 26])
         (.seq (.kpost (.reg [⟨some 168, .mv, [.t 26], none⟩]) [16, 23, 24, 25, 168])
         (.cond (.t 168)
          (.seq (.kpost (.reg [⟨some 169, .mv, [.t 24], none⟩,
               ⟨some 170, .bin .eql 0, [.t 169, .c (.int .i64 0)], none⟩,
               ⟨some 10, .mv, [.t 170], none⟩]) [10])
           .ret)
          .skip))))
       (.kpost (.reg [⟨some 160, .mv, [.t 25], none⟩,
          ⟨some 161, .bin .add 0, [.t 160, .c (.int .i64 1)], none⟩,
          ⟨some 25, .mv, [.t 161], none⟩]) [16, 23, 24, 25]))) [16, 23, 24, 25])))))
  (.seq (.kpost (.reg [⟨some 10, .mv, [.c (.bool false)], none⟩]) [10])
  .ret))))))))))))))))) }
/-- waggoner/waggonerlaw14.VolumeNil -/
def i9 : IFn := { ns := 221, nt := 169, res := [.t 6], body :=
  (.seq (.kpost (.reg [⟨some 5, .box 0 70, [.t 2], none⟩,
      ⟨some 6, .mv, [.c (.bool false)], none⟩]) [0, 1, 5])
  (.seq (.kpost (.reg [⟨some 22, .call 10 [] 0, [], none⟩,
      ⟨some 7, .mv, [.t 22], none⟩]) [0, 1, 5, 7])
  (.seq (.seq (.kpost (.reg [⟨some 23, .fadr 4, [.t 5], none⟩,
       ⟨some 24, .load none, [.t 23], none⟩,
       ⟨some 25, .len, [.t 24], none⟩,
       ⟨some 26, .bin .gtr 0, [.t 25, .c (.int .i64 5000)], none⟩,
       ⟨some 27, .mv, [.t 26], none⟩,
       ⟨some 28, .fadr 5, [.t 5], some (27, false)⟩,
       ⟨some 29, .load none, [.t 28], some (27, false)⟩,
       ⟨some 30, .len, [.t 29], some (27, false)⟩,
       ⟨some 31, .bin .gtr 0, [.t 30, .c (.int .i64 70)], some (27, false)⟩,
       ⟨some 32, .pick, [.t 27, .c (.bool true), .t 31], none⟩]) [0, 1, 5, 7, 32])
   (.cond (.t 32)
    (.seq (.kpost (.reg [⟨some 33, .mv, [.t 7], none⟩,
         ⟨some 6, .mv, [.t 33], none⟩]) [6])
     .ret)
    .skip))
  (.seq (.kpost (.reg [⟨some 8, .mv, [.c (.nilp)], none⟩]) [0, 1, 5, 7, 8])
  (.seq (.kpost (.reg [⟨some 35, .mv, [.t 8], none⟩,
      ⟨some 36, .mv, [.t 0], none⟩,
      ⟨some 37, .mv, [.t 1], none⟩,
      ⟨some 38, .call 16 [1, 2, 3, 4, 5, 6, 7, 8, 9, 10, 11, 12] 1, [.t 35, .t 36, .t 37], none⟩,
      ⟨some 34, .mv, [.t 38], none⟩,
      ⟨some 39, .extr 0, [.t 34], none⟩,
      ⟨some 40, .extr 1, [.t 34], none⟩,
      ⟨some 9, .mv, [.t 39], none⟩,
      ⟨some 10, .mv, [.t 40], none⟩]) [0, 1, 5, 7, 8, 10])
  (.seq (.kpost (.reg [⟨some 42, .mv, [.t 8], none⟩,
      ⟨some 43, .call 14 [13, 14, 15, 16, 17, 18, 19, 20, 21, 22, 23, 24, 25, 26, 27, 28] 1, [.t 42], none⟩,
      ⟨some 41, .mv, [.t 43], none⟩,
      ⟨some 44, .extr 0, [.t 41], none⟩,
      ⟨some 45, .extr 1, [.t 41], none⟩,
      ⟨some 11, .alloc 29 30 [.int .i64 0, .int .i64 0, .nils 48 5, .nils 95 3, .int .i64 0, .nils 5 1], [], none⟩,
      ⟨none, .store 6, [.t 11, .t 44], none⟩,
      ⟨some 12, .mv, [.t 45], none⟩]) [0, 1, 5, 7, 8, 10, 12])
  (.seq (.kpost (.reg [⟨some 46, .mv, [.t 8], none⟩,
      ⟨some 47, .call 27 [30, 31, 32, 33, 34, 35, 36, 37, 38, 39] 0, [.t 46], none⟩,
      ⟨some 48, .bin .eql 0, [.t 47, .c (.int .i64 1)], none⟩,
      ⟨some 49, .mv, [.t 48], none⟩,
      ⟨some 50, .mv, [.t 8], some (49, true)⟩,
      ⟨some 51, .call 26 [40, 41, 42, 43, 44, 45, 46, 47, 48, 49] 0, [.t 50], some (49, true)⟩,
      ⟨some 52, .bin .eql 0, [.t 51, .c (.int .i64 1)], some (49, true)⟩,
      ⟨some 53, .pick, [.t 49, .t 52, .c (.bool false)], none⟩,
      ⟨some 54, .mv, [.t 53], none⟩,
      ⟨some 55, .mv, [.t 8], some (54, true)⟩,
      ⟨some 56, .load (some 6), [.t 5], some (54, true)⟩,
      ⟨some 57, .call 29 [50, 51, 52, 53, 54, 55, 56, 57, 58, 59] 0, [.t 55, .t 56], some (54, true)⟩,
      ⟨some 58, .bin .eql 0, [.t 57, .c (.int .i64 1)], some (54, true)⟩,
      ⟨some 59, .pick, [.t 54, .t 58, .c (.bool false)], none⟩,
      ⟨some 60, .mv, [.t 59], none⟩,
      ⟨some 61, .mv, [.t 10], some (60, true)⟩,
      ⟨some 62, .bin .eql 0, [.t 61, .c (.int .i64 1)], some (60, true)⟩,
      ⟨some 63, .pick, [.t 60, .t 62, .c (.bool false)], none⟩,
      ⟨some 64, .mv, [.t 63], none⟩,
      ⟨some 65, .mv, [.t 8], some (64, true)⟩,
      ⟨some 66, .call 24 [60, 61, 62, 63, 64, 65, 66, 67, 68, 69] 0, [.t 65], some (64, true)⟩,
      ⟨some 67, .bin .eql 0, [.t 66, .c (.int .i64 1)], some (64, true)⟩,
      ⟨some 68, .pick, [.t 64, .t 67, .c (.bool false)], none⟩,
      ⟨some 69, .mv, [.t 68], none⟩,
      ⟨some 70, .mv, [.t 8], some (69, true)⟩,
      ⟨some 71, .call 30 [70, 71, 72, 73, 74, 75, 76, 77, 78, 79] 0, [.t 70], some (69, true)⟩,
      ⟨some 72, .bin .eql 0, [.t 71, .c (.int .i64 1)], some (69, true)⟩,
      ⟨some 73, .pick, [.t 69, .t 72, .c (.bool false)], none⟩,
      ⟨some 74, .mv, [.t 73], none⟩,
      ⟨some 75, .mv, [.t 8], some (74, true)⟩,
      ⟨some 76, .mv, [.t 1], some (74, true)⟩,
      ⟨some 77, .call 28 [80, 81, 82, 83, 84, 85, 86, 87, 88, 89] 0, [.t 75, .t 76], some (74, true)⟩,
      ⟨some 78, .bin .eql 0, [.t 77, .c (.int .i64 1)], some (74, true)⟩,
      ⟨some 79, .pick, [.t 74, .t 78, .c (.bool false)], none⟩,
      ⟨some 80, .mv, [.t 79], none⟩,
      ⟨some 81, .mv, [.t 8], some (80, true)⟩,
      ⟨some 82, .call 25 [90, 91, 92, 93, 94, 95, 96, 97, 98, 99] 0, [.t 81, .c (.nils 3 1)], some (80, true)⟩,
      ⟨some 83, .bin .eql 0, [.t 82, .c (.int .i64 1)], some (80, true)⟩,
      ⟨some 84, .pick, [.t 80, .t 83, .c (.bool false)], none⟩,
      ⟨some 85, .mv, [.t 84], none⟩,
      ⟨some 86, .mv, [.t 12], some (85, true)⟩,
      ⟨some 87, .bin .eql 0, [.t 86, .c (.int .i64 1)], some (85, true)⟩,
      ⟨some 88, .pick, [.t 85, .t 87, .c (.bool false)], none⟩,
      ⟨some 13, .mv, [.t 88], none⟩]) [0, 1, 5, 7, 8, 13])
  (.seq (.kpost (.reg [⟨some 89, .mv, [.t 8], none⟩,
      ⟨some 90, .call 21 [100, 101, 102, 103, 104, 105, 106, 107, 108, 109] 0, [.t 89], none⟩,
      ⟨some 91, .build [.int .i64 0, .int .i64 0, .int .i64 0, .int .i64 0, .int .i64 0, .bool false, .bool false] [], [], none⟩,
      ⟨some 92, .eqs false [0, 0, 0, 0, 0, 1, 1], [.t 90, .t 91], none⟩,
      ⟨some 93, .mv, [.t 92], none⟩,
      ⟨some 94, .mv, [.t 8], some (93, true)⟩,
      ⟨some 95, .call 19 [110, 111, 112, 113, 114, 115, 116, 117, 118, 119, 120, 121] 1, [.t 94], some (93, true)⟩,
      ⟨some 96, .fld 1 none, [.t 95], some (93, true)⟩,
      ⟨some 97, .len, [.t 96], some (93, true)⟩,
      ⟨some 98, .bin .eql 0, [.t 97, .c (.int .i64 0)], some (93, true)⟩,
      ⟨some 99, .pick, [.t 93, .t 98, .c (.bool false)], none⟩,
      ⟨some 14, .mv, [.t 99], none⟩]) [0, 1, 5, 7, 13, 14])
  (.seq (.kpost (.reg [⟨some 101, .call 31 [122, 123, 124, 125, 126, 127, 128, 129, 130, 131] 1, [.c (.int .i64 15), .c (.int .i64 8192), .c (.int .i64 64)], none⟩,
      ⟨some 100, .mv, [.t 101], none⟩,
      ⟨some 102, .extr 0, [.t 100], none⟩,
      ⟨some 103, .extr 1, [.t 100], none⟩,
      ⟨some 15, .mv, [.t 102], none⟩,
      ⟨some 16, .mv, [.t 103], none⟩]) [0, 1, 5, 7, 13, 14, 15, 16])
  (.seq (.kpost (.reg [⟨some 105, .mv, [.t 15], none⟩,
      ⟨some 106, .mv, [.t 0], none⟩,
      ⟨some 107, .mv, [.t 1], none⟩,
      ⟨some 108, .call 16 [132, 133, 134, 135, 136, 137, 138, 139, 140, 141, 142, 143] 1, [.t 105, .t 106, .t 107], none⟩,
      ⟨some 104, .mv, [.t 108], none⟩,
      ⟨some 109, .extr 0, [.t 104], none⟩,
      ⟨some 110, .extr 1, [.t 104], none⟩,
      ⟨some 17, .mv, [.t 109], none⟩,
      ⟨some 18, .mv, [.t 110], none⟩]) [5, 7, 13, 14, 15, 16, 18])
  (.seq (.kpost (.reg [⟨some 112, .mv, [.t 15], none⟩,
      ⟨some 113, .call 14 [144, 145, 146, 147, 148, 149, 150, 151, 152, 153, 154, 155, 156, 157, 158, 159] 1, [.t 112], none⟩,
      ⟨some 111, .mv, [.t 113], none⟩,
      ⟨some 114, .extr 0, [.t 111], none⟩,
      ⟨some 115, .extr 1, [.t 111], none⟩,
      ⟨some 19, .alloc 160 30 [.int .i64 0, .int .i64 0, .nils 48 5, .nils 95 3, .int .i64 0, .nils 5 1], [], none⟩,
      ⟨none, .store 6, [.t 19, .t 114], none⟩,
      ⟨some 20, .mv, [.t 115], none⟩]) [5, 7, 13, 14, 15, 16, 18, 20])
  (.seq (.kpost (.reg [⟨some 116, .mv, [.t 15], none⟩,
      ⟨some 117, .call 26 [161, 162, 163, 164, 165, 166, 167, 168, 169, 170] 0, [.t 116], none⟩,
      ⟨some 118, .bin .eql 0, [.t 117, .c (.int .i64 141)], none⟩,
      ⟨some 119, .mv, [.t 118], none⟩,
      ⟨some 120, .mv, [.t 15], some (119, true)⟩,
      ⟨some 121, .load (some 6), [.t 5], some (119, true)⟩,
      ⟨some 122, .call 29 [171, 172, 173, 174, 175, 176, 177, 178, 179, 180] 0, [.t 120, .t 121], some (119, true)⟩,
      ⟨some 123, .bin .eql 0, [.t 122, .c (.int .i64 141)], some (119, true)⟩,
      ⟨some 124, .pick, [.t 119, .t 123, .c (.bool false)], none⟩,
      ⟨some 125, .mv, [.t 124], none⟩,
      ⟨some 126, .mv, [.t 18], some (125, true)⟩,
      ⟨some 127, .bin .eql 0, [.t 126, .c (.int .i64 141)], some (125, true)⟩,
      ⟨some 128, .pick, [.t 125, .t 127, .c (.bool false)], none⟩,
      ⟨some 129, .mv, [.t 128], none⟩,
      ⟨some 130, .mv, [.t 20], some (129, true)⟩,
      ⟨some 131, .bin .eql 0, [.t 130, .c (.int .i64 141)], some (129, true)⟩,
      ⟨some 132, .pick, [.t 129, .t 131, .c (.bool false)], none⟩,
      ⟨some 133, .mv, [.t 132], none⟩,
      ⟨some 134, .mv, [.t 15], some (133, true)⟩,
      ⟨some 135, .call 24 [181, 182, 183, 184, 185, 186, 187, 188, 189, 190] 0, [.t 134], some (133, true)⟩,
      ⟨some 136, .bin .eql 0, [.t 135, .c (.int .i64 141)], some (133, true)⟩,
      ⟨some 137, .pick, [.t 133, .t 136, .c (.bool false)], none⟩,
      ⟨some 138, .mv, [.t 137], none⟩,
      ⟨some 139, .mv, [.t 15], some (138, true)⟩,
      ⟨some 140, .call 30 [191, 192, 193, 194, 195, 196, 197, 198, 199, 200] 0, [.t 139], some (138, true)⟩,
      ⟨some 141, .bin .eql 0, [.t 140, .c (.int .i64 141)], some (138, true)⟩,
      ⟨some 142, .pick, [.t 138, .t 141, .c (.bool false)], none⟩,
      ⟨some 21, .mv, [.t 142], none⟩]) [7, 13, 14, 15, 16, 21])
  (.seq (.kpost (.reg [⟨some 143, .mv, [.t 7], none⟩,
      ⟨some 144, .mv, [.t 143], none⟩,
      ⟨some 145, .mv, [.t 13], some (144, true)⟩,
      ⟨some 146, .pick, [.t 144, .t 145, .c (.bool false)], none⟩,
      ⟨some 147, .mv, [.t 146], none⟩,
      ⟨some 148, .mv, [.t 14], some (147, true)⟩,
      ⟨some 149, .pick, [.t 147, .t 148, .c (.bool false)], none⟩,
      ⟨some 150, .mv, [.t 149], none⟩,
      ⟨some 151, .mv, [.t 16], some (150, true)⟩,
      ⟨some 152, .bin .eql 0, [.t 151, .c (.int .i64 0)], some (150, true)⟩,
      ⟨some 153, .pick, [.t 150, .t 152, .c (.bool false)], none⟩,
      ⟨some 154, .mv, [.t 153], none⟩,
      ⟨some 155, .mv, [.t 21], some (154, true)⟩,
      ⟨some 156, .pick, [.t 154, .t 155, .c (.bool false)], none⟩,
      ⟨some 157, .mv, [.t 156], none⟩,
      ⟨some 158, .mv, [.t 15], some (157, true)⟩,
      ⟨some 159, .call 21 [201, 202, 203, 204, 205, 206, 207, 208, 209, 210] 0, [.t 158], some (157, true)⟩,
      ⟨some 160, .fld 5 none, [.t 159], some (157, true)⟩,
      ⟨some 161, .bnot, [.t 160], some (157, true)⟩,
      ⟨some 162, .pick, [.t 157, .t 161, .c (.bool false)], none⟩,
      ⟨some 163, .mv, [.t 162], none⟩,
      ⟨some 164, .mv, [.t 15], some (163, true)⟩,
      ⟨some 165, .call 21 [211, 212, 213, 214, 215, 216, 217, 218, 219, 220] 0, [.t 164], some (163, true)⟩,
      ⟨some 166, .fld 1 none, [.t 165], some (163, true)⟩,
      ⟨some 167, .bin .eql 0, [.t 166, .c (.int .i64 0)], some (163, true)⟩,
      ⟨some 168, .pick, [.t 163, .t 167, .c (.bool false)], none⟩,
      ⟨some 6, .mv, [.t 168], none⟩]) [6])
  .ret))))))))))))) }
/-- waggoner/waggonerlaw14.awake -/
def i10 : IFn := { ns := 127, nt := 120, res := [.t 0], body :=
  (.seq (.kpost (.reg [⟨some 0, .mv, [.c (.bool false)], none⟩]) [])
  (.seq (.kpost (.reg [⟨some 15, .call 31 [0, 1, 2, 3, 4, 5, 6, 7, 8, 9] 1, [.c (.int .i64 15), .c (.int .i64 8192), .c (.int .i64 64)], none⟩,
      ⟨some 14, .mv, [.t 15], none⟩,
      ⟨some 16, .extr 0, [.t 14], none⟩,
      ⟨some 17, .extr 1, [.t 14], none⟩,
      ⟨some 1, .mv, [.t 16], none⟩,
      ⟨some 2, .mv, [.t 17], none⟩]) [1, 2])
  (.seq (.kpost (.reg [⟨some 19, .call 31 [10, 11, 12, 13, 14, 15, 16, 17, 18, 19] 1, [.c (.int .i64 14), .c (.int .i64 8192), .c (.int .i64 64)], none⟩,
      ⟨some 18, .mv, [.t 19], none⟩,
      ⟨some 20, .extr 0, [.t 18], none⟩,
      ⟨some 21, .extr 1, [.t 18], none⟩,
      ⟨some 3, .mv, [.t 20], none⟩,
      ⟨some 4, .mv, [.t 21], none⟩]) [1, 2, 4])
  (.seq (.kpost (.reg [⟨some 22, .mv, [.t 1], none⟩,
      ⟨some 23, .call 24 [20, 21, 22, 23, 24, 25, 26, 27, 28, 29] 0, [.t 22], none⟩,
      ⟨some 5, .mv, [.t 23], none⟩]) [1, 2, 4, 5])
  (.seq (.kpost (.reg [⟨some 24, .mv, [.t 1], none⟩,
      ⟨some 25, .call 27 [30, 31, 32, 33, 34, 35, 36, 37, 38, 39] 0, [.t 24], none⟩,
      ⟨some 6, .mv, [.t 25], none⟩]) [1, 2, 4, 5, 6])
  (.seq (.kpost (.reg [⟨some 26, .mv, [.t 1], none⟩,
      ⟨some 27, .call 32 [40, 41] 1, [.c (.int .i64 1), .c (.int .u8 7)], none⟩,
      ⟨some 28, .build [.int .i64 0, .int .i64 0, .int .i64 0, .int .i64 0, .nils 5 1, .nils 48 5] [(0, 1), (1, 1), (2, 1), (4, 1)], [.c (.int .i64 1), .c (.int .i64 3), .c (.int .i64 1), .t 27], none⟩,
      ⟨some 29, .call 29 [42, 43, 44, 45, 46, 47, 48, 49, 50, 51] 0, [.t 26, .t 28], none⟩,
      ⟨some 7, .mv, [.t 29], none⟩]) [1, 2, 4, 5, 6, 7])
  (.seq (.kpost (.reg [⟨some 31, .mv, [.t 1], none⟩,
      ⟨some 32, .call 16 [52, 53, 54, 55, 56, 57, 58, 59, 60, 61, 62, 63] 1, [.t 31, .c (.int .i64 2), .c (.int .i64 2)], none⟩,
      ⟨some 30, .mv, [.t 32], none⟩,
      ⟨some 33, .extr 0, [.t 30], none⟩,
      ⟨some 34, .extr 1, [.t 30], none⟩,
      ⟨some 8, .mv, [.t 33], none⟩,
      ⟨some 9, .mv, [.t 34], none⟩]) [1, 2, 4, 5, 6, 7, 8, 9])
  (.seq (.kpost (.reg [⟨some 35, .mv, [.t 1], none⟩,
      ⟨some 36, .build [.int .i64 0, .int .i64 0, .int .i64 0, .int .i64 0, .nils 5 1, .nils 48 5] [(0, 1), (3, 1)], [.c (.int .i64 4), .c (.int .i64 5)], none⟩,
      ⟨some 37, .call 29 [64, 65, 66, 67, 68, 69, 70, 71, 72, 73] 0, [.t 35, .t 36], none⟩,
      ⟨some 10, .mv, [.t 37], none⟩]) [1, 2, 4, 5, 6, 7, 8, 9, 10])
  (.seq (.kpost (.reg [⟨some 39, .mv, [.t 1], none⟩,
      ⟨some 40, .call 14 [74, 75, 76, 77, 78, 79, 80, 81, 82, 83, 84, 85, 86, 87, 88, 89] 1, [.t 39], none⟩,
      ⟨some 38, .mv, [.t 40], none⟩,
      ⟨some 41, .extr 0, [.t 38], none⟩,
      ⟨some 42, .extr 1, [.t 38], none⟩,
      ⟨some 11, .alloc 90 30 [.int .i64 0, .int .i64 0, .nils 48 5, .nils 95 3, .int .i64 0, .nils 5 1], [], none⟩,
      ⟨none, .store 6, [.t 11, .t 41], none⟩,
      ⟨some 12, .mv, [.t 42], none⟩]) [1, 2, 4, 5, 6, 7, 8, 9, 10, 11, 12])
  (.seq (.kpost (.reg [⟨some 43, .mv, [.t 1], none⟩,
      ⟨some 44, .call 21 [91, 92, 93, 94, 95, 96, 97, 98, 99, 100] 0, [.t 43], none⟩,
      ⟨some 13, .alloc 101 57 [.int .i64 0, .int .i64 0, .int .i64 0, .int .i64 0, .int .i64 0, .bool false, .bool false], [], none⟩,
      ⟨none, .store 7, [.t 13, .t 44], none⟩]) [1, 2, 4, 5, 6, 7, 8, 9, 10, 11, 12, 13])
  (.seq (.kpost (.regD [⟨some 45, .mv, [.t 2], none⟩,
      ⟨some 46, .bin .eql 0, [.t 45, .c (.int .i64 0)], none⟩,
      ⟨some 47, .mv, [.t 46], none⟩,
      ⟨some 48, .mv, [.t 4], some (47, true)⟩,
      ⟨some 49, .bin .eql 0, [.t 48, .c (.int .i64 130)], some (47, true)⟩,
      ⟨some 50, .pick, [.t 47, .t 49, .c (.bool false)], none⟩,
      ⟨some 51, .mv, [.t 50], none⟩,
      ⟨some 52, .mv, [.t 5], some (51, true)⟩,
      ⟨some 53, .bin .eql 0, [.t 52, .c (.int .i64 141)], some (51, true)⟩,
      ⟨some 54, .pick, [.t 51, .t 53, .c (.bool false)], none⟩,
      ⟨some 55, .mv, [.t 54], none⟩,
      ⟨some 56, .mv, [.t 6], some (55, true)⟩,
      ⟨some 57, .bin .eql 0, [.t 56, .c (.int .i64 0)], some (55, true)⟩,
      ⟨some 58, .pick, [.t 55, .t 57, .c (.bool false)], none⟩,
      ⟨some 59, .mv, [.t 58], none⟩,
      ⟨some 60, .mv, [.t 7], some (59, true)⟩,
      ⟨some 61, .bin .eql 0, [.t 60, .c (.int .i64 0)], some (59, true)⟩,
      ⟨some 62, .pick, [.t 59, .t 61, .c (.bool false)], none⟩,
      ⟨some 63, .mv, [.t 62], none⟩,
      ⟨some 64, .mv, [.t 8], some (63, true)⟩,
      ⟨some 65, .tostr, [.t 64], some (63, true)⟩,
      ⟨some 66, .call 32 [102, 103] 1, [.c (.int .i64 1), .c (.int .u8 0)], some (63, true)⟩,
      ⟨some 67, .call 32 [104, 105] 1, [.c (.int .i64 1), .c (.int .u8 7)], some (63, true)⟩,
      ⟨some 68, .app 106 5 1 1, [.t 66, .t 67], some (63, true)⟩,
      ⟨some 69, .tostr, [.t 68], some (63, true)⟩,
      ⟨some 70, .bin .eql 2, [.t 65, .t 69], some (63, true)⟩,
      ⟨some 71, .pick, [.t 63, .t 70, .c (.bool false)], none⟩,
      ⟨some 72, .mv, [.t 71], none⟩,
      ⟨some 73, .mv, [.t 9], some (72, true)⟩,
      ⟨some 74, .bin .eql 0, [.t 73, .c (.int .i64 0)], some (72, true)⟩,
      ⟨some 75, .pick, [.t 72, .t 74, .c (.bool false)], none⟩,
      ⟨some 76, .mv, [.t 75], none⟩,
      ⟨some 77, .mv, [.t 10], some (76, true)⟩,
      ⟨some 78, .bin .eql 0, [.t 77, .c (.int .i64 0)], some (76, true)⟩,
      ⟨some 79, .pick, [.t 76, .t 78, .c (.bool false)], none⟩,
      ⟨some 80, .mv, [.t 79], none⟩,
      ⟨some 81, .mv, [.t 12], some (80, true)⟩,
      ⟨some 82, .bin .eql 0, [.t 81, .c (.int .i64 0)], some (80, true)⟩,
      ⟨some 83, .pick, [.t 80, .t 82, .c (.bool false)], none⟩,
      ⟨some 84, .mv, [.t 83], none⟩,
      ⟨some 85, .fadr 3, [.t 11], some (84, true)⟩,
      ⟨some 86, .load none, [.t 85], some (84, true)⟩,
      ⟨some 87, .len, [.t 86], some (84, true)⟩,
      ⟨some 88, .bin .eql 0, [.t 87, .c (.int .i64 1)], some (84, true)⟩,
      ⟨some 89, .pick, [.t 84, .t 88, .c (.bool false)], none⟩,
      ⟨some 90, .mv, [.t 89], none⟩,
      ⟨some 91, .fadr 4, [.t 11], some (90, true)⟩,
      ⟨some 92, .load none, [.t 91], some (90, true)⟩,
      ⟨some 93, .bin .eql 0, [.t 92, .c (.int .i64 5)], some (90, true)⟩,
      ⟨some 94, .pick, [.t 90, .t 93, .c (.bool false)], none⟩,
      ⟨some 95, .mv, [.t 94], none⟩,
      ⟨some 96, .fadr 5, [.t 13], some (95, true)⟩,
      ⟨some 97, .load none, [.t 96], some (95, true)⟩,
      ⟨some 98, .pick, [.t 95, .t 97, .c (.bool false)], none⟩,
      ⟨some 99, .mv, [.t 98], none⟩,
      ⟨some 100, .fadr 1, [.t 13], some (99, true)⟩,
      ⟨some 101, .load none, [.t 100], some (99, true)⟩,
      ⟨some 102, .bin .eql 0, [.t 101, .c (.int .i64 1)], some (99, true)⟩,
      ⟨some 103, .pick, [.t 99, .t 102, .c (.bool false)], none⟩,
      ⟨some 104, .mv, [.t 103], none⟩,
      ⟨some 105, .fadr 0, [.t 13], some (104, true)⟩,
      ⟨some 106, .load none, [.t 105], some (104, true)⟩,
      ⟨some 107, .bin .eql 0, [.t 106, .c (.int .i64 64)], some (104, true)⟩,
      ⟨some 108, .pick, [.t 104, .t 107, .c (.bool false)], none⟩,
      ⟨some 109, .mv, [.t 108], none⟩,
      ⟨some 110, .mv, [.t 1], some (109, true)⟩,
      ⟨some 111, .call 27 [107, 108, 109, 110, 111, 112, 113, 114, 115, 116] 0, [.t 110], some (109, true)⟩,
      ⟨some 112, .bin .eql 0, [.t 111, .c (.int .i64 140)], some (109, true)⟩,
      ⟨some 113, .pick, [.t 109, .t 112, .c (.bool false)], none⟩,
      ⟨some 114, .mv, [.t 113], none⟩,
      ⟨some 115, .mv, [.t 1], some (114, true)⟩,
      ⟨some 116, .build [.int .i64 0, .int .i64 0, .int .i64 0, .int .i64 0, .nils 5 1, .nils 48 5] [(0, 1), (3, 1)], [.c (.int .i64 4), .c (.int .i64 5)], some (114, true)⟩,
      ⟨some 117, .call 29 [117, 118, 119, 120, 121, 122, 123, 124, 125, 126] 0, [.t 115, .t 116], some (114, true)⟩,
      ⟨some 118, .bin .eql 0, [.t 117, .c (.int .i64 112)], some (114, true)⟩,
      ⟨some 119, .pick, [.t 114, .t 118, .c (.bool false)], none⟩,
      ⟨some 0, .mv, [.t 119], none⟩] [0, 1, 2, 3, 4, 5, 6, 7, 8, 9, 10, 11, 12, 13, 14, 15, 16, 17, 18, 19, 20, 21, 22, 23, 24, 25, 26, 27, 28, 29, 30, 31, 32, 33, 34, 35, 36, 37, 38, 39, 40, 41, 42, 43, 44, 45, 46, 47, 48, 49, 50, 51, 52, 53, 54, 55, 56, 57, 58, 59, 60, 61, 62, 63, 64, 65, 66, 67, 68, 69, 70, 71, 72, 73, 74, 75] none [(20, 21), (20, 22), (20, 23)]) [0])
  .ret))))))))))) }
/-- waggoner/waggonerlaw14.New -/
def i11 : IFn := { ns := 20, nt := 20, res := [.t 2], body :=
  (.seq (.kpost (.reg [⟨some 2, .mv, [.c (.nilp)], none⟩]) [0])
  (.seq (.kpost (.reg [⟨some 6, .mv, [.t 0], none⟩,
      ⟨some 7, .call 22 [] 0, [.t 6, .c (.int .i64 8192)], none⟩,
      ⟨some 8, .mv, [.t 0], none⟩,
      ⟨some 9, .call 31 [0, 1, 2, 3, 4, 5, 6, 7, 8, 9] 1, [.t 7, .c (.int .i64 8192), .t 8], none⟩,
      ⟨some 5, .mv, [.t 9], none⟩,
      ⟨some 10, .extr 0, [.t 5], none⟩,
      ⟨some 11, .extr 1, [.t 5], none⟩,
      ⟨some 3, .mv, [.t 10], none⟩,
      ⟨some 4, .mv, [.t 11], none⟩]) [3, 4])
  (.seq (.seq (.kpost (.reg [⟨some 12, .mv, [.t 4], none⟩,
       ⟨some 13, .bin .neq 0, [.t 12, .c (.int .i64 0)], none⟩,
       ⟨some 14, .mv, [.t 13], none⟩,
       ⟨some 15, .mv, [.t 3], some (14, false)⟩,
       ⟨some 16, .call 27 [10, 11, 12, 13, 14, 15, 16, 17, 18, 19] 0, [.t 15], some (14, false)⟩,
       ⟨some 17, .bin .neq 0, [.t 16, .c (.int .i64 0)], some (14, false)⟩,
       ⟨some 18, .pick, [.t 14, .c (.bool true), .t 17], none⟩]) [3, 18])
   (.cond (.t 18)
    (.seq (.kpost (.reg [⟨some 2, .mv, [.c (.nilp)], none⟩]) [2])
     .ret)
    .skip))
  (.seq (.kpost (.reg [⟨some 19, .mv, [.t 3], none⟩,
      ⟨some 2, .mv, [.t 19], none⟩]) [2])
  .ret)))) }
/-- waggoner/state.New -/
def i12 : IFn := { ns := 3, nt := 18, res := [.cell 2 (some 6), .t 3], body :=
  (.seq (.kpost (.reg [⟨some 2, .alloc 0 30 [.int .i64 0, .int .i64 0, .nils 48 5, .nils 95 3, .int .i64 0, .nils 5 1], [], none⟩,
      ⟨some 3, .mv, [.c (.int .i64 0)], none⟩]) [0, 2])
  (.seq (.kpost (.reg [⟨some 7, .mv, [.t 0], none⟩,
      ⟨some 8, .call 33 [1, 2] 1, [.t 7], none⟩,
      ⟨some 6, .mv, [.t 8], none⟩,
      ⟨some 9, .extr 0, [.t 6], none⟩,
      ⟨some 10, .extr 1, [.t 6], none⟩,
      ⟨some 4, .mv, [.t 9], none⟩,
      ⟨some 5, .mv, [.t 10], none⟩]) [0, 2, 4, 5])
  (.seq (.seq (.kpost (.reg [⟨some 11, .mv, [.t 5], none⟩,
       ⟨some 12, .bin .neq 0, [.t 11, .c (.int .i64 0)], none⟩]) [0, 2, 4, 5, 12])
   (.cond (.t 12)
    (.seq (.kpost (.reg [⟨some 13, .build [.int .i64 0, .int .i64 0, .nils 48 5, .nils 95 3, .int .i64 0, .nils 5 1] [], [], none⟩,
         ⟨some 14, .mv, [.t 5], none⟩,
         ⟨none, .store 6, [.t 2, .t 13], none⟩,
         ⟨some 3, .mv, [.t 14], none⟩]) [2, 3])
     .ret)
    .skip))
  (.seq (.kpost (.reg [⟨some 15, .mv, [.t 0], none⟩,
      ⟨some 16, .mv, [.t 4], none⟩,
      ⟨some 17, .build [.int .i64 0, .int .i64 0, .nils 48 5, .nils 95 3, .int .i64 0, .nils 5 1] [(0, 1), (1, 1), (2, 1)], [.t 15, .c (.int .i64 1), .t 16], none⟩,
      ⟨none, .store 6, [.t 2, .t 17], none⟩,
      ⟨some 3, .mv, [.c (.int .i64 0)], none⟩]) [2, 3])
  .ret)))) }
/-- waggoner/waggonerlaw14.Done -/
def i13 : IFn := { ns := 65, nt := 53, res := [.t 6, .cell 7 (some 6), .t 8], body :=
  (.seq (.kpost (.reg [⟨some 4, .box 0 30, [.t 1], none⟩,
      ⟨some 5, .box 1 37, [.t 2], none⟩,
      ⟨some 6, .mv, [.c (.int .i64 0)], none⟩,
      ⟨some 7, .alloc 2 30 [.int .i64 0, .int .i64 0, .nils 48 5, .nils 95 3, .int .i64 0, .nils 5 1], [], none⟩,
      ⟨some 8, .mv, [.c (.int .i64 0)], none⟩]) [0, 4, 5, 7])
  (.seq (.kpost (.reg [⟨some 15, .load (some 5), [.t 5], none⟩,
      ⟨some 16, .call 34 [3, 4, 5, 6] 1, [.t 15], none⟩,
      ⟨some 14, .mv, [.t 16], none⟩,
      ⟨some 17, .extr 0, [.t 14], none⟩,
      ⟨some 18, .extr 1, [.t 14], none⟩,
      ⟨some 9, .alloc 7 70 [.int .i64 0, .int .i64 0, .int .i64 0, .int .i64 0, .nils 5 1, .nils 48 5], [], none⟩,
      ⟨none, .store 6, [.t 9, .t 17], none⟩,
      ⟨some 10, .mv, [.t 18], none⟩]) [0, 4, 5, 7, 9, 10])
  (.seq (.seq (.kpost (.reg [⟨some 19, .mv, [.t 10], none⟩]) [0, 4, 5, 7, 9, 19])
   (.cond (.t 19)
    (.seq (.kpost (.reg [⟨some 21, .load (some 6), [.t 4], none⟩,
         ⟨some 22, .load (some 6), [.t 9], none⟩,
         ⟨some 23, .call 35 [8, 9, 10, 11, 12, 13] 1, [.t 21, .t 22], none⟩,
         ⟨some 20, .mv, [.t 23], none⟩,
         ⟨some 24, .extr 0, [.t 20], none⟩,
         ⟨some 25, .extr 1, [.t 20], none⟩,
         ⟨some 11, .alloc 14 30 [.int .i64 0, .int .i64 0, .nils 48 5, .nils 95 3, .int .i64 0, .nils 5 1], [], none⟩,
         ⟨none, .store 6, [.t 11, .t 24], none⟩,
         ⟨some 12, .mv, [.t 25], none⟩]) [0, 7, 9, 11, 12])
     (.seq (.kpost (.regD [⟨some 26, .mv, [.t 0], none⟩,
         ⟨some 27, .load (some 6), [.t 9], none⟩,
         ⟨some 28, .call 29 [15, 16, 17, 18, 19, 20, 21, 22, 23, 24] 0, [.t 26, .t 27], none⟩,
         ⟨some 29, .load (some 6), [.t 11], none⟩,
         ⟨some 30, .mv, [.t 12], none⟩,
         ⟨some 6, .mv, [.t 28], none⟩,
         ⟨none, .store 6, [.t 7, .t 29], none⟩,
         ⟨some 8, .mv, [.t 30], none⟩] [0, 1, 2, 3, 4, 5, 6, 7] none [(2, 3)]) [6, 7, 8])
     .ret))
    .skip))
  (.seq (.seq (.kpost (.reg [⟨some 31, .fadr 0, [.t 5], none⟩,
       ⟨some 32, .load none, [.t 31], none⟩,
       ⟨some 33, .bin .rem 0, [.t 32, .c (.int .u8 10)], none⟩]) [0, 4, 7, 33])
   (.block 0 (.seq (.kpost (.reg [⟨some 35, .bin .eql 0, [.t 33, .c (.int .u8 5)], none⟩,
        ⟨some 34, .mv, [.t 35], none⟩]) [0, 4, 7, 33, 34])
    (.cond (.t 34)
     (.seq (.kpost (.regD [⟨some 36, .mv, [.t 0], none⟩,
          ⟨some 37, .call 24 [25, 26, 27, 28, 29, 30, 31, 32, 33, 34] 0, [.t 36], none⟩,
          ⟨some 38, .load (some 6), [.t 4], none⟩,
          ⟨some 6, .mv, [.t 37], none⟩,
          ⟨none, .store 6, [.t 7, .t 38], none⟩,
          ⟨some 8, .mv, [.c (.int .i64 0)], none⟩] [0, 1, 2, 3, 4, 5] none [(1, 2)]) [6, 7, 8])
      .ret)
     (.seq (.kpost (.reg [⟨some 40, .bin .eql 0, [.t 33, .c (.int .u8 6)], none⟩,
          ⟨some 39, .mv, [.t 40], none⟩]) [0, 4, 7, 39])
      (.cond (.t 39)
       (.seq (.kpost (.regD [⟨some 41, .mv, [.t 0], none⟩,
            ⟨some 42, .call 30 [35, 36, 37, 38, 39, 40, 41, 42, 43, 44] 0, [.t 41], none⟩,
            ⟨some 43, .load (some 6), [.t 4], none⟩,
            ⟨some 6, .mv, [.t 42], none⟩,
            ⟨none, .store 6, [.t 7, .t 43], none⟩,
            ⟨some 8, .mv, [.c (.int .i64 0)], none⟩] [0, 1, 2, 3, 4, 5] none [(1, 2)]) [6, 7, 8])
        .ret)
       .skip))))))
  (.seq (.kpost (.reg [⟨some 44, .mv, [.t 0], none⟩,
      ⟨some 45, .call 26 [45, 46, 47, 48, 49, 50, 51, 52, 53, 54] 0, [.t 44], none⟩,
      ⟨some 13, .mv, [.t 45], none⟩]) [0, 4, 7, 13])
  (.seq (.seq (.kpost (.reg [⟨some 46, .mv, [.t 13], none⟩,
       ⟨some 47, .bin .neq 0, [.t 46, .c (.int .i64 0)], none⟩]) [0, 4, 7, 13, 47])
   (.cond (.t 47)
    (.seq (.kpost (.regD [⟨some 48, .mv, [.t 13], none⟩,
         ⟨some 49, .load (some 6), [.t 4], none⟩,
         ⟨some 6, .mv, [.t 48], none⟩,
         ⟨none, .store 6, [.t 7, .t 49], none⟩,
         ⟨some 8, .mv, [.c (.int .i64 0)], none⟩] [0, 1, 2, 3, 4] none []) [6, 7, 8])
     .ret)
    .skip))
  (.seq (.kpost (.regD [⟨some 50, .mv, [.t 0], none⟩,
      ⟨some 51, .call 27 [55, 56, 57, 58, 59, 60, 61, 62, 63, 64] 0, [.t 50], none⟩,
      ⟨some 52, .load (some 6), [.t 4], none⟩,
      ⟨some 6, .mv, [.t 51], none⟩,
      ⟨none, .store 6, [.t 7, .t 52], none⟩,
      ⟨some 8, .mv, [.c (.int .i64 0)], none⟩] [0, 1, 2, 3, 4, 5] none [(1, 2)]) [6, 7, 8])
  .ret))))))) }
/-- (*waggoner/volume.Volume).State -/
def i14 : IFn := { ns := 7, nt := 20, res := [.cell 2 (some 6), .t 3], body :=
  (.seq (.kpost (.reg [⟨some 2, .alloc 0 30 [.int .i64 0, .int .i64 0, .nils 48 5, .nils 95 3, .int .i64 0, .nils 5 1], [], none⟩,
      ⟨some 3, .mv, [.c (.int .i64 0)], none⟩]) [0, 2])
  (.seq (.block 0 (.seq (.kpost (.reg [⟨some 5, .mv, [.t 0], none⟩,
        ⟨some 6, .bin .eql 3, [.t 5, .c (.nilp)], none⟩,
        ⟨some 4, .mv, [.t 6], none⟩]) [0, 2, 4])
    (.cond (.t 4)
     (.seq (.kpost (.reg [⟨some 7, .build [.int .i64 0, .int .i64 0, .nils 48 5, .nils 95 3, .int .i64 0, .nils 5 1] [], [], none⟩,
          ⟨none, .store 6, [.t 2, .t 7], none⟩,
          ⟨some 3, .mv, [.c (.int .i64 1)], none⟩]) [2, 3])
      .ret)
     (.seq (.kpost (.reg [⟨some 9, .mv, [.t 0], none⟩,
          ⟨some 10, .nilchk, [.t 9], none⟩,
          ⟨some 11, .fadr 14, [.t 10], none⟩,
          ⟨some 12, .load none, [.t 11], none⟩,
          ⟨some 13, .bnot, [.t 12], none⟩,
          ⟨some 8, .mv, [.t 13], none⟩]) [0, 2, 8])
      (.cond (.t 8)
       (.seq (.kpost (.reg [⟨some 14, .build [.int .i64 0, .int .i64 0, .nils 48 5, .nils 95 3, .int .i64 0, .nils 5 1] [], [], none⟩,
            ⟨none, .store 6, [.t 2, .t 14], none⟩,
            ⟨some 3, .mv, [.c (.int .i64 141)], none⟩]) [2, 3])
        .ret)
       .skip)))))
  (.seq (.kpost (.reg [⟨some 15, .mv, [.t 0], none⟩,
      ⟨some 16, .nilchk, [.t 15], none⟩,
      ⟨some 17, .fadr 7, [.t 16], none⟩,
      ⟨some 18, .load (some 6), [.t 17], none⟩,
      ⟨some 19, .call 36 [1, 2, 3, 4, 5, 6] 1, [.t 18], none⟩,
      ⟨none, .store 6, [.t 2, .t 19], none⟩,
      ⟨some 3, .mv, [.c (.int .i64 0)], none⟩]) [2, 3])
  .ret))) }
/-- waggoner/image.Of -/
def i15 : IFn := { ns := 5, nt := 40, res := [.t 4, .t 5], body :=
  (.seq (.kpost (.reg [⟨some 4, .mv, [.c (.nils 90 34)], none⟩,
      ⟨some 5, .mv, [.c (.int .i64 0)], none⟩]) [0, 1, 4])
  (.seq (.seq (.kpost (.reg [⟨some 9, .mv, [.t 0], none⟩,
       ⟨some 10, .mv, [.t 1], none⟩,
       ⟨some 11, .call 37 [] 0, [.t 9, .t 10], none⟩,
       ⟨some 12, .bnot, [.t 11], none⟩]) [1, 4, 12])
   (.cond (.t 12)
    (.seq (.kpost (.reg [⟨some 4, .mv, [.c (.nils 90 34)], none⟩,
         ⟨some 5, .mv, [.c (.int .i64 80)], none⟩]) [4, 5])
     .ret)
    .skip))
  (.seq (.seq (.kpost (.reg [⟨some 13, .mv, [.t 1], none⟩,
       ⟨some 14, .len, [.t 13], none⟩,
       ⟨some 15, .mv, [.c (.int .i64 0)], none⟩]) [4, 13, 14, 15])
   (.block 0 (.kpre [4, 13, 14, 15] (.loop (.kpost (.seq (.kpost (.reg [⟨some 16, .bin .lss 0, [.t 15, .t 14], none⟩]) [4, 13, 14, 15, 16])
       (.seq (.cond (.t 16)
         .skip
         (.exit 0))
       (.seq (.block 1 (.seq (.kpost (.reg [⟨some 17, .iadr 5, [.t 13, .t 15], none⟩,
             ⟨some 18, .load (some 5), [.t 17], none⟩,
             ⟨some 7, .alloc 0 48 [.int .i64 0, .int .i64 0, .int .i64 0, .int .i64 0, .nils 5 1], [], none⟩,
             ⟨none, .store 5, [.t 7, .t 18], none⟩]) [4, 7, 13, 14, 15])
         (.seq (.kpost (.reg [⟨some 19, .load (some 5), [.t 7], none⟩,
             ⟨some 20, .call 38 [1, 2] 1, [.t 19], none⟩,
             ⟨some 8, .mv, [.t 20], none⟩]) [4, 7, 8, 13, 14, 15])
         (.block 2 (.kpre [4, 7, 8, 13, 14, 15] (.loop (.kpost (.seq (.seq (.kpost (.reg [⟨some 21, .mv, [.t 8], none⟩,
                  ⟨some 22, .len, [.t 21], none⟩,
                  ⟨some 23, .bin .gtr 0, [.t 22, .c (.int .i64 0)], none⟩]) [4, 7, 8, 13, 14, 15, 23])
              (.cond (.t 23)
               .skip
               (.exit 2)))
             (.seq (.block 3 (.kpost (.regD [⟨some 26, .mv, [.t 4], none⟩,
                  ⟨some 27, .fadr 2, [.t 7], none⟩,
                  ⟨some 28, .load none, [.t 27], none⟩,
                  ⟨some 29, .fadr 3, [.t 7], none⟩,
                  ⟨some 30, .load none, [.t 29], none⟩,
                  ⟨some 31, .mv, [.t 8], none⟩,
                  ⟨some 32, .slc 5 1 false true false, [.t 31, .c (.int .i64 32)], none⟩,
                  ⟨some 33, .arrp 32, [.t 32], none⟩,
                  ⟨some 34, .load (some 32), [.t 33], none⟩,
                  ⟨some 35, .build [.int .i64 0, .int .i64 0, .int .u8 0, .int .u8 0, .int .u8 0, .int .u8 0, .int .u8 0, .int .u8 0, .int .u8 0, .int .u8 0, .int .u8 0, .int .u8 0, .int .u8 0, .int .u8 0, .int .u8 0, .int .u8 0, .int .u8 0, .int .u8 0, .int .u8 0, .int .u8 0, .int .u8 0, .int .u8 0, .int .u8 0, .int .u8 0, .int .u8 0, .int .u8 0, .int .u8 0, .int .u8 0, .int .u8 0, .int .u8 0, .int .u8 0, .int .u8 0, .int .u8 0, .int .u8 0] [(0, 1), (1, 1), (2, 32)], [.t 28, .t 30, .t 34], none⟩,
                  ⟨some 36, .bslice 3 90 34 [.int .i64 0, .int .i64 0, .int .u8 0, .int .u8 0, .int .u8 0, .int .u8 0, .int .u8 0, .int .u8 0, .int .u8 0, .int .u8 0, .int .u8 0, .int .u8 0, .int .u8 0, .int .u8 0, .int .u8 0, .int .u8 0, .int .u8 0, .int .u8 0, .int .u8 0, .int .u8 0, .int .u8 0, .int .u8 0, .int .u8 0, .int .u8 0, .int .u8 0, .int .u8 0, .int .u8 0, .int .u8 0, .int .u8 0, .int .u8 0, .int .u8 0, .int .u8 0, .int .u8 0, .int .u8 0] 1 [0], [.t 35], none⟩,
                  ⟨some 37, .app 4 90 34 48, [.t 26, .t 36], none⟩,
                  ⟨some 4, .mv, [.t 37], none⟩] [0, 1, 2, 3, 4, 5, 6, 7, 8, 9, 10, 11, 12] none [(1, 7), (2, 7), (3, 7), (4, 7)]) [4, 7, 8, 13, 14, 15]))
             (.kpost (.reg [⟨some 24, .mv, [.t 8], none⟩,
                ⟨some 25, .slc 5 1 true false false, [.t 24, .c (.int .i64 32)], none⟩,
                ⟨some 8, .mv, [.t 25], none⟩]) [4, 7, 8, 13, 14, 15]))) [4, 7, 8, 13, 14, 15])))))))
       (.kpost (.reg [⟨some 38, .bin .add 0, [.t 15, .c (.int .i64 1)], none⟩,
          ⟨some 15, .mv, [.t 38], none⟩]) [4, 13, 14, 15])))) [4, 13, 14, 15])))))
  (.seq (.kpost (.reg [⟨some 39, .mv, [.t 4], none⟩,
      ⟨some 4, .mv, [.t 39], none⟩,
      ⟨some 5, .mv, [.c (.int .i64 0)], none⟩]) [4, 5])
  .ret)))) }
/-- (*waggoner/volume.Volume).Read -/
def i16 : IFn := { ns := 4, nt := 42, res := [.t 6, .t 7], body :=
  (.seq (.kpost (.reg [⟨some 6, .mv, [.c (.nils 5 1)], none⟩,
      ⟨some 7, .mv, [.c (.int .i64 0)], none⟩]) [0, 1, 2])
  (.seq (.block 0 (.seq (.kpost (.reg [⟨some 11, .mv, [.t 0], none⟩,
        ⟨some 12, .bin .eql 3, [.t 11, .c (.nilp)], none⟩,
        ⟨some 10, .mv, [.t 12], none⟩]) [0, 1, 2, 10])
    (.cond (.t 10)
     (.seq (.kpost (.reg [⟨some 6, .mv, [.c (.nils 5 1)], none⟩,
          ⟨some 7, .mv, [.c (.int .i64 1)], none⟩]) [6, 7])
      .ret)
     (.seq (.kpost (.reg [⟨some 14, .mv, [.t 0], none⟩,
          ⟨some 15, .nilchk, [.t 14], none⟩,
          ⟨some 16, .fadr 14, [.t 15], none⟩,
          ⟨some 17, .load none, [.t 16], none⟩,
          ⟨some 18, .bnot, [.t 17], none⟩,
          ⟨some 13, .mv, [.t 18], none⟩]) [0, 1, 2, 13])
      (.cond (.t 13)
       (.seq (.kpost (.reg [⟨some 6, .mv, [.c (.nils 5 1)], none⟩,
            ⟨some 7, .mv, [.c (.int .i64 141)], none⟩]) [6, 7])
        .ret)
       .skip)))))
  (.seq (.kpost (.regD [⟨some 20, .mv, [.t 0], none⟩,
      ⟨some 21, .nilchk, [.t 20], none⟩,
      ⟨some 22, .fadr 7, [.t 21], none⟩,
      ⟨some 23, .fadr 0, [.t 22], none⟩,
      ⟨some 24, .load none, [.t 23], none⟩,
      ⟨some 25, .mv, [.t 0], none⟩,
      ⟨some 26, .nilchk, [.t 25], none⟩,
      ⟨some 27, .fadr 7, [.t 26], none⟩,
      ⟨some 28, .fadr 2, [.t 27], none⟩,
      ⟨some 29, .load none, [.t 28], none⟩,
      ⟨some 30, .call 15 [0, 1] 1, [.t 24, .t 29], none⟩,
      ⟨some 19, .mv, [.t 30], none⟩,
      ⟨some 31, .extr 0, [.t 19], none⟩,
      ⟨some 32, .extr 1, [.t 19], none⟩,
      ⟨some 8, .mv, [.t 31], none⟩,
      ⟨some 9, .mv, [.t 32], none⟩] [0, 1, 2, 3, 4, 5, 6, 7, 8, 9, 10, 11, 12, 13, 14, 15] none []) [1, 2, 8, 9])
  (.seq (.seq (.kpost (.reg [⟨some 33, .mv, [.t 9], none⟩,
       ⟨some 34, .bin .neq 0, [.t 33, .c (.int .i64 0)], none⟩]) [1, 2, 8, 9, 34])
   (.cond (.t 34)
    (.seq (.kpost (.reg [⟨some 35, .mv, [.t 9], none⟩,
         ⟨some 6, .mv, [.c (.nils 5 1)], none⟩,
         ⟨some 7, .mv, [.t 35], none⟩]) [6, 7])
     .ret)
    .skip))
  (.seq (.kpost (.reg [⟨some 36, .mv, [.t 8], none⟩,
      ⟨some 37, .mv, [.t 1], none⟩,
      ⟨some 38, .mv, [.t 2], none⟩,
      ⟨some 39, .call 17 [2, 3] 1, [.t 36, .t 37, .t 38], none⟩,
      ⟨some 40, .extr 0, [.t 39], none⟩,
      ⟨some 41, .extr 1, [.t 39], none⟩,
      ⟨some 6, .mv, [.t 40], none⟩,
      ⟨some 7, .mv, [.t 41], none⟩]) [6, 7])
  .ret))))) }
/-- waggoner/image.Read -/
def i17 : IFn := { ns := 4, nt := 39, res := [.t 6, .t 7], body :=
  (.seq (.kpost (.reg [⟨some 6, .mv, [.c (.nils 5 1)], none⟩,
      ⟨some 7, .mv, [.c (.int .i64 0)], none⟩]) [0, 1, 2, 6])
  (.seq (.seq (.kpost (.reg [⟨some 13, .mv, [.t 0], none⟩,
       ⟨some 14, .mv, [.t 1], none⟩,
       ⟨some 15, .mv, [.t 2], none⟩,
       ⟨some 16, .call 39 [0, 1] 1, [.t 13, .t 14, .t 15, .c (.int .i64 1), .c (.int .i64 0)], none⟩,
       ⟨some 12, .mv, [.t 16], none⟩,
       ⟨some 17, .extr 0, [.t 12], none⟩,
       ⟨some 18, .extr 1, [.t 12], none⟩,
       ⟨some 8, .mv, [.t 17], none⟩,
       ⟨some 9, .mv, [.t 18], none⟩]) [0, 1, 2, 6, 9])
   (.seq (.kpost (.reg [⟨some 19, .mv, [.t 9], none⟩,
       ⟨some 20, .bin .neq 0, [.t 19, .c (.int .i64 0)], none⟩]) [0, 1, 2, 6, 9, 20])
   (.cond (.t 20)
    (.seq (.kpost (.reg [⟨some 21, .mv, [.t 9], none⟩,
         ⟨some 6, .mv, [.c (.nils 5 1)], none⟩,
         ⟨some 7, .mv, [.t 21], none⟩]) [6, 7])
     .ret)
    .skip)))
  (.seq (.seq (.kpost (.reg [⟨some 22, .mv, [.t 0], none⟩,
       ⟨some 23, .mv, [.t 1], none⟩,
       ⟨some 24, .mv, [.t 1], none⟩,
       ⟨some 25, .mv, [.t 2], none⟩,
       ⟨some 26, .bin .add 0, [.t 24, .t 25], none⟩,
       ⟨some 27, .slc 90 34 true true false, [.t 22, .t 23, .t 26], none⟩,
       ⟨some 28, .len, [.t 27], none⟩,
       ⟨some 29, .mv, [.c (.int .i64 0)], none⟩]) [6, 27, 28, 29])
   (.block 0 (.kpre [6, 27, 28, 29] (.loop (.kpost (.seq (.kpost (.reg [⟨some 30, .bin .lss 0, [.t 29, .t 28], none⟩]) [6, 27, 28, 29, 30])
       (.seq (.cond (.t 30)
         .skip
         (.exit 0))
       (.seq (.block 1 (.seq (.kpost (.reg [⟨some 31, .iadr 34, [.t 27, .t 29], none⟩,
             ⟨some 32, .load (some 34), [.t 31], none⟩,
             ⟨some 11, .alloc 2 90 [.int .i64 0, .int .i64 0, .int .u8 0, .int .u8 0, .int .u8 0, .int .u8 0, .int .u8 0, .int .u8 0, .int .u8 0, .int .u8 0, .int .u8 0, .int .u8 0, .int .u8 0, .int .u8 0, .int .u8 0, .int .u8 0, .int .u8 0, .int .u8 0, .int .u8 0, .int .u8 0, .int .u8 0, .int .u8 0, .int .u8 0, .int .u8 0, .int .u8 0, .int .u8 0, .int .u8 0, .int .u8 0, .int .u8 0, .int .u8 0, .int .u8 0, .int .u8 0, .int .u8 0, .int .u8 0], [], none⟩,
             ⟨none, .store 34, [.t 11, .t 32], none⟩]) [6, 11, 27, 28, 29])
         (.kpost (.reg [⟨some 33, .mv, [.t 6], none⟩,
            ⟨some 34, .fadr 2, [.t 11], none⟩,
            ⟨some 35, .slca 1 32 false false false, [.t 34], none⟩,
            ⟨some 36, .app 3 5 1 1, [.t 33, .t 35], none⟩,
            ⟨some 6, .mv, [.t 36], none⟩]) [6, 27, 28, 29])))
       (.kpost (.reg [⟨some 37, .bin .add 0, [.t 29, .c (.int .i64 1)], none⟩,
          ⟨some 29, .mv, [.t 37], none⟩]) [6, 27, 28, 29])))) [6, 27, 28, 29])))))
  (.seq (.kpost (.reg [⟨some 38, .mv, [.t 6], none⟩,
      ⟨some 6, .mv, [.t 38], none⟩,
      ⟨some 7, .mv, [.c (.int .i64 0)], none⟩]) [6, 7])
  .ret)))) }
/-- waggoner/waggonerref11.Same -/
def i18 : IFn := { ns := 2, nt := 74, res := [.t 4], body :=
  (.seq (.kpost (.reg [⟨some 2, .box 0 30, [.t 0], none⟩,
      ⟨some 3, .box 1 30, [.t 1], none⟩,
      ⟨some 4, .mv, [.c (.bool false)], none⟩]) [2, 3])
  (.seq (.kpost (.reg [⟨some 8, .fadr 2, [.t 2], none⟩,
      ⟨some 9, .load none, [.t 8], none⟩,
      ⟨some 10, .fadr 2, [.t 3], none⟩,
      ⟨some 11, .load none, [.t 10], none⟩,
      ⟨some 12, .call 40 [] 0, [.t 9, .t 11], none⟩,
      ⟨some 5, .mv, [.t 12], none⟩]) [2, 3, 5])
  (.seq (.seq (.kpost (.reg [⟨some 13, .mv, [.t 5], none⟩,
       ⟨some 14, .bnot, [.t 13], none⟩,
       ⟨some 15, .mv, [.t 14], none⟩,
       ⟨some 16, .fadr 0, [.t 2], some (15, false)⟩,
       ⟨some 17, .load none, [.t 16], some (15, false)⟩,
       ⟨some 18, .fadr 0, [.t 3], some (15, false)⟩,
       ⟨some 19, .load none, [.t 18], some (15, false)⟩,
       ⟨some 20, .bin .neq 0, [.t 17, .t 19], some (15, false)⟩,
       ⟨some 21, .pick, [.t 15, .c (.bool true), .t 20], none⟩,
       ⟨some 22, .mv, [.t 21], none⟩,
       ⟨some 23, .fadr 1, [.t 2], some (22, false)⟩,
       ⟨some 24, .load none, [.t 23], some (22, false)⟩,
       ⟨some 25, .fadr 1, [.t 3], some (22, false)⟩,
       ⟨some 26, .load none, [.t 25], some (22, false)⟩,
       ⟨some 27, .bin .neq 0, [.t 24, .t 26], some (22, false)⟩,
       ⟨some 28, .pick, [.t 22, .c (.bool true), .t 27], none⟩,
       ⟨some 29, .mv, [.t 28], none⟩,
       ⟨some 30, .fadr 4, [.t 2], some (29, false)⟩,
       ⟨some 31, .load none, [.t 30], some (29, false)⟩,
       ⟨some 32, .fadr 4, [.t 3], some (29, false)⟩,
       ⟨some 33, .load none, [.t 32], some (29, false)⟩,
       ⟨some 34, .bin .neq 0, [.t 31, .t 33], some (29, false)⟩,
       ⟨some 35, .pick, [.t 29, .c (.bool true), .t 34], none⟩,
       ⟨some 36, .mv, [.t 35], none⟩,
       ⟨some 37, .fadr 5, [.t 2], some (36, false)⟩,
       ⟨some 38, .load none, [.t 37], some (36, false)⟩,
       ⟨some 39, .tostr, [.t 38], some (36, false)⟩,
       ⟨some 40, .fadr 5, [.t 3], some (36, false)⟩,
       ⟨some 41, .load none, [.t 40], some (36, false)⟩,
       ⟨some 42, .tostr, [.t 41], some (36, false)⟩,
       ⟨some 43, .bin .neq 2, [.t 39, .t 42], some (36, false)⟩,
       ⟨some 44, .pick, [.t 36, .c (.bool true), .t 43], none⟩,
       ⟨some 45, .mv, [.t 44], none⟩,
       ⟨some 46, .fadr 3, [.t 2], some (45, false)⟩,
       ⟨some 47, .load none, [.t 46], some (45, false)⟩,
       ⟨some 48, .len, [.t 47], some (45, false)⟩,
       ⟨some 49, .fadr 3, [.t 3], some (45, false)⟩,
       ⟨some 50, .load none, [.t 49], some (45, false)⟩,
       ⟨some 51, .len, [.t 50], some (45, false)⟩,
       ⟨some 52, .bin .neq 0, [.t 48, .t 51], some (45, false)⟩,
       ⟨some 53, .pick, [.t 45, .c (.bool true), .t 52], none⟩]) [2, 3, 53])
   (.cond (.t 53)
    (.seq (.kpost (.reg [⟨some 4, .mv, [.c (.bool false)], none⟩]) [4])
     .ret)
    .skip))
  (.seq (.seq (.kpost (.reg [⟨some 6, .mv, [.c (.int .i64 0)], none⟩]) [2, 3, 6])
   (.block 0 (.kpre [2, 3, 6] (.loop (.kpost (.seq (.seq (.kpost (.reg [⟨some 54, .mv, [.t 6], none⟩,
            ⟨some 55, .fadr 3, [.t 2], none⟩,
            ⟨some 56, .load none, [.t 55], none⟩,
            ⟨some 57, .len, [.t 56], none⟩,
            ⟨some 58, .bin .lss 0, [.t 54, .t 57], none⟩]) [2, 3, 6, 58])
        (.cond (.t 58)
         .skip
         (.exit 0)))
       (.seq (.block 1 (.seq (.kpost (.regD [⟨some 61, .fadr 3, [.t 2], none⟩,
             ⟨some 62, .load none, [.t 61], none⟩,
             ⟨some 63, .mv, [.t 6], none⟩,
             ⟨some 64, .iadr 3, [.t 62, .t 63], none⟩,
             ⟨some 65, .load (some 3), [.t 64], none⟩,
             ⟨some 66, .fadr 3, [.t 3], none⟩,
             ⟨some 67, .load none, [.t 66], none⟩,
             ⟨some 68, .mv, [.t 6], none⟩,
             ⟨some 69, .iadr 3, [.t 67, .t 68], none⟩,
             ⟨some 70, .load (some 3), [.t 69], none⟩,
             ⟨some 71, .call 41 [] 0, [.t 65, .t 70], none⟩,
             ⟨some 7, .mv, [.t 71], none⟩] [0, 1, 2, 3, 4, 5, 6, 7, 8, 9, 10, 11] none []) [2, 3, 6, 7])
         (.seq (.kpost (.reg [⟨some 72, .mv, [.t 7], none⟩,
             ⟨some 73, .bnot, [.t 72], none⟩]) [2, 3, 6, 73])
         (.cond (.t 73)
          (.seq (.kpost (.reg [⟨some 4, .mv, [.c (.bool false)], none⟩]) [4])
           .ret)
          .skip))))
       (.kpost (.reg [⟨some 59, .mv, [.t 6], none⟩,
          ⟨some 60, .bin .add 0, [.t 59, .c (.int .i64 1)], none⟩,
          ⟨some 6, .mv, [.t 60], none⟩]) [2, 3, 6]))) [2, 3, 6])))))
  (.seq (.kpost (.reg [⟨some 4, .mv, [.c (.bool true)], none⟩]) [4])
  .ret))))) }
/-- (*waggoner/volume.Volume).Device -/
def i19 : IFn := { ns := 3, nt := 18, res := [.cell 2 (some 5)], body :=
  (.seq (.kpost (.reg [⟨some 2, .alloc 0 51 [.int .i64 0, .nils 54 4, .int .i64 0, .bool false, .int .i64 0], [], none⟩]) [0, 2])
  (.seq (.seq (.kpost (.reg [⟨some 3, .mv, [.t 0], none⟩,
       ⟨some 4, .bin .eql 3, [.t 3, .c (.nilp)], none⟩]) [0, 2, 4])
   (.cond (.t 4)
    (.seq (.kpost (.reg [⟨some 5, .build [.int .i64 0, .nils 54 4, .int .i64 0, .bool false, .int .i64 0] [], [], none⟩,
         ⟨none, .store 5, [.t 2, .t 5], none⟩]) [2])
     .ret)
    .skip))
  (.seq (.kpost (.regD [⟨some 6, .mv, [.t 0], none⟩,
      ⟨some 7, .nilchk, [.t 6], none⟩,
      ⟨some 8, .fadr 0, [.t 7], none⟩,
      ⟨some 9, .fadr 0, [.t 8], none⟩,
      ⟨some 10, .load (some 5), [.t 9], none⟩,
      ⟨some 11, .mv, [.t 0], none⟩,
      ⟨some 12, .nilchk, [.t 11], none⟩,
      ⟨some 13, .fadr 0, [.t 12], none⟩,
      ⟨some 14, .fadr 0, [.t 13], none⟩,
      ⟨some 15, .fadr 2, [.t 14], none⟩,
      ⟨some 16, .load none, [.t 15], none⟩,
      ⟨some 17, .call 42 [1, 2] 1, [.t 10, .t 16], none⟩,
      ⟨none, .store 5, [.t 2, .t 17], none⟩] [0, 1, 2, 3, 4, 5, 6, 7, 8, 9, 10, 11, 12] none []) [2])
  .ret))) }
/-- waggoner/waggonerref04.Same -/
def i20 : IFn := { ns := 2, nt := 62, res := [.t 4], body :=
  (.seq (.kpost (.reg [⟨some 2, .box 0 51, [.t 0], none⟩,
      ⟨some 3, .box 1 51, [.t 1], none⟩,
      ⟨some 4, .mv, [.c (.bool false)], none⟩]) [2, 3])
  (.seq (.seq (.kpost (.reg [⟨some 7, .fadr 0, [.t 2], none⟩,
       ⟨some 8, .load none, [.t 7], none⟩,
       ⟨some 9, .fadr 0, [.t 3], none⟩,
       ⟨some 10, .load none, [.t 9], none⟩,
       ⟨some 11, .bin .neq 0, [.t 8, .t 10], none⟩,
       ⟨some 12, .mv, [.t 11], none⟩,
       ⟨some 13, .fadr 1, [.t 2], some (12, false)⟩,
       ⟨some 14, .load none, [.t 13], some (12, false)⟩,
       ⟨some 15, .len, [.t 14], some (12, false)⟩,
       ⟨some 16, .fadr 1, [.t 3], some (12, false)⟩,
       ⟨some 17, .load none, [.t 16], some (12, false)⟩,
       ⟨some 18, .len, [.t 17], some (12, false)⟩,
       ⟨some 19, .bin .neq 0, [.t 15, .t 18], some (12, false)⟩,
       ⟨some 20, .pick, [.t 12, .c (.bool true), .t 19], none⟩,
       ⟨some 21, .mv, [.t 20], none⟩,
       ⟨some 22, .fadr 3, [.t 2], some (21, false)⟩,
       ⟨some 23, .load none, [.t 22], some (21, false)⟩,
       ⟨some 24, .fadr 3, [.t 3], some (21, false)⟩,
       ⟨some 25, .load none, [.t 24], some (21, false)⟩,
       ⟨some 26, .bin .neq 1, [.t 23, .t 25], some (21, false)⟩,
       ⟨some 27, .pick, [.t 21, .c (.bool true), .t 26], none⟩,
       ⟨some 28, .mv, [.t 27], none⟩,
       ⟨some 29, .fadr 2, [.t 2], some (28, false)⟩,
       ⟨some 30, .load none, [.t 29], some (28, false)⟩,
       ⟨some 31, .fadr 2, [.t 3], some (28, false)⟩,
       ⟨some 32, .load none, [.t 31], some (28, false)⟩,
       ⟨some 33, .bin .neq 0, [.t 30, .t 32], some (28, false)⟩,
       ⟨some 34, .pick, [.t 28, .c (.bool true), .t 33], none⟩,
       ⟨some 35, .mv, [.t 34], none⟩,
       ⟨some 36, .fadr 4, [.t 2], some (35, false)⟩,
       ⟨some 37, .load none, [.t 36], some (35, false)⟩,
       ⟨some 38, .fadr 4, [.t 3], some (35, false)⟩,
       ⟨some 39, .load none, [.t 38], some (35, false)⟩,
       ⟨some 40, .bin .neq 0, [.t 37, .t 39], some (35, false)⟩,
       ⟨some 41, .pick, [.t 35, .c (.bool true), .t 40], none⟩]) [2, 3, 41])
   (.cond (.t 41)
    (.seq (.kpost (.reg [⟨some 4, .mv, [.c (.bool false)], none⟩]) [4])
     .ret)
    .skip))
  (.seq (.seq (.kpost (.reg [⟨some 5, .mv, [.c (.int .i64 0)], none⟩]) [2, 3, 5])
   (.block 0 (.kpre [2, 3, 5] (.loop (.kpost (.seq (.seq (.kpost (.reg [⟨some 42, .mv, [.t 5], none⟩,
            ⟨some 43, .fadr 1, [.t 2], none⟩,
            ⟨some 44, .load none, [.t 43], none⟩,
            ⟨some 45, .len, [.t 44], none⟩,
            ⟨some 46, .bin .lss 0, [.t 42, .t 45], none⟩]) [2, 3, 5, 46])
        (.cond (.t 46)
         .skip
         (.exit 0)))
       (.seq (.block 1 (.seq (.kpost (.regD [⟨some 49, .fadr 1, [.t 2], none⟩,
             ⟨some 50, .load none, [.t 49], none⟩,
             ⟨some 51, .mv, [.t 5], none⟩,
             ⟨some 52, .iadr 4, [.t 50, .t 51], none⟩,
             ⟨some 53, .load (some 4), [.t 52], none⟩,
             ⟨some 54, .fadr 1, [.t 3], none⟩,
             ⟨some 55, .load none, [.t 54], none⟩,
             ⟨some 56, .mv, [.t 5], none⟩,
             ⟨some 57, .iadr 4, [.t 55, .t 56], none⟩,
             ⟨some 58, .load (some 4), [.t 57], none⟩,
             ⟨some 59, .call 43 [] 0, [.t 53, .t 58], none⟩,
             ⟨some 6, .mv, [.t 59], none⟩] [0, 1, 2, 3, 4, 5, 6, 7, 8, 9, 10, 11] none []) [2, 3, 5, 6])
         (.seq (.kpost (.reg [⟨some 60, .mv, [.t 6], none⟩,
             ⟨some 61, .bnot, [.t 60], none⟩]) [2, 3, 5, 61])
         (.cond (.t 61)
          (.seq (.kpost (.reg [⟨some 4, .mv, [.c (.bool false)], none⟩]) [4])
           .ret)
          .skip))))
       (.kpost (.reg [⟨some 47, .mv, [.t 5], none⟩,
          ⟨some 48, .bin .add 0, [.t 47, .c (.int .i64 1)], none⟩,
          ⟨some 5, .mv, [.t 48], none⟩]) [2, 3, 5]))) [2, 3, 5])))))
  (.seq (.kpost (.reg [⟨some 4, .mv, [.c (.bool true)], none⟩]) [4])
  .ret)))) }
/-- (*waggoner/volume.Volume).Stat -/
def i21 : IFn := { ns := 1, nt := 44, res := [.cell 2 (some 7)], body :=
  (.seq (.kpost (.reg [⟨some 2, .alloc 0 57 [.int .i64 0, .int .i64 0, .int .i64 0, .int .i64 0, .int .i64 0, .bool false, .bool false], [], none⟩]) [0, 2])
  (.seq (.seq (.kpost (.reg [⟨some 3, .mv, [.t 0], none⟩,
       ⟨some 4, .bin .eql 3, [.t 3, .c (.nilp)], none⟩]) [0, 2, 4])
   (.cond (.t 4)
    (.seq (.kpost (.reg [⟨some 5, .build [.int .i64 0, .int .i64 0, .int .i64 0, .int .i64 0, .int .i64 0, .bool false, .bool false] [], [], none⟩,
         ⟨none, .store 7, [.t 2, .t 5], none⟩]) [2])
     .ret)
    .skip))
  (.seq (.kpost (.regD [⟨some 6, .mv, [.t 0], none⟩,
      ⟨some 7, .nilchk, [.t 6], none⟩,
      ⟨some 8, .fadr 13, [.t 7], none⟩,
      ⟨some 9, .load none, [.t 8], none⟩,
      ⟨some 10, .mv, [.t 0], none⟩,
      ⟨some 11, .nilchk, [.t 10], none⟩,
      ⟨some 12, .fadr 7, [.t 11], none⟩,
      ⟨some 13, .fadr 2, [.t 12], none⟩,
      ⟨some 14, .load none, [.t 13], none⟩,
      ⟨some 15, .call 44 [] 0, [.t 14, .c (.int .i64 2)], none⟩,
      ⟨some 16, .mv, [.t 0], none⟩,
      ⟨some 17, .nilchk, [.t 16], none⟩,
      ⟨some 18, .fadr 0, [.t 17], none⟩,
      ⟨some 19, .fadr 6, [.t 18], none⟩,
      ⟨some 20, .load none, [.t 19], none⟩,
      ⟨some 21, .mv, [.t 0], none⟩,
      ⟨some 22, .nilchk, [.t 21], none⟩,
      ⟨some 23, .fadr 0, [.t 22], none⟩,
      ⟨some 24, .fadr 0, [.t 23], none⟩,
      ⟨some 25, .load (some 5), [.t 24], none⟩,
      ⟨some 26, .call 45 [] 0, [.t 25], none⟩,
      ⟨some 27, .mv, [.t 0], none⟩,
      ⟨some 28, .nilchk, [.t 27], none⟩,
      ⟨some 29, .fadr 0, [.t 28], none⟩,
      ⟨some 30, .fadr 0, [.t 29], none⟩,
      ⟨some 31, .fadr 4, [.t 30], none⟩,
      ⟨some 32, .load none, [.t 31], none⟩,
      ⟨some 33, .mv, [.t 0], none⟩,
      ⟨some 34, .nilchk, [.t 33], none⟩,
      ⟨some 35, .fadr 14, [.t 34], none⟩,
      ⟨some 36, .load none, [.t 35], none⟩,
      ⟨some 37, .mv, [.t 0], none⟩,
      ⟨some 38, .nilchk, [.t 37], none⟩,
      ⟨some 39, .fadr 0, [.t 38], none⟩,
      ⟨some 40, .fadr 0, [.t 39], none⟩,
      ⟨some 41, .fadr 3, [.t 40], none⟩,
      ⟨some 42, .load none, [.t 41], none⟩,
      ⟨some 43, .build [.int .i64 0, .int .i64 0, .int .i64 0, .int .i64 0, .int .i64 0, .bool false, .bool false] [(0, 1), (1, 1), (2, 1), (3, 1), (4, 1), (5, 1), (6, 1)], [.t 9, .t 15, .t 20, .t 26, .t 32, .t 36, .t 42], none⟩,
      ⟨none, .store 7, [.t 2, .t 43], none⟩] [0, 1, 2, 3, 4, 5, 6, 7, 8, 9, 10, 11, 12, 13, 14, 15, 16, 17, 18, 19, 20, 21, 22, 23, 24, 25, 26, 27, 28, 29, 30, 31, 32, 33, 34, 35, 36, 37, 38] none [(1, 9), (1, 20), (2, 9), (2, 20), (3, 9), (3, 20), (9, 11), (9, 12), (9, 13), (9, 14), (9, 16), (9, 17), (9, 18), (9, 19), (9, 22), (9, 23), (9, 24), (9, 25), (9, 26), (9, 28), (9, 29), (9, 30), (9, 32), (9, 33), (9, 34), (9, 35), (9, 36), (11, 20), (12, 20), (13, 20), (14, 20), (20, 22), (20, 23), (20, 24), (20, 25), (20, 26), (20, 28), (20, 29), (20, 30), (20, 32), (20, 33), (20, 34), (20, 35), (20, 36)]) [2])
  .ret))) }
/-- waggoner/space.Zones -/
def i22 : IFn := { ns := 0, nt := 25, res := [.t 4], body :=
  (.seq (.kpost (.reg [⟨some 4, .mv, [.c (.int .i64 0)], none⟩]) [0, 1])
  (.seq (.kpost (.reg [⟨some 8, .mv, [.t 0], none⟩,
      ⟨some 9, .mv, [.t 1], none⟩,
      ⟨some 10, .call 46 [] 0, [.t 8, .t 9], none⟩,
      ⟨some 5, .mv, [.t 10], none⟩]) [0, 1, 5])
  (.seq (.seq (.kpost (.reg [⟨some 11, .mv, [.t 5], none⟩,
       ⟨some 12, .bin .eql 0, [.t 11, .c (.int .i64 0)], none⟩]) [0, 1, 5, 12])
   (.cond (.t 12)
    (.seq (.kpost (.reg [⟨some 4, .mv, [.c (.int .i64 0)], none⟩]) [4])
     .ret)
    .skip))
  (.seq (.kpost (.reg [⟨some 14, .mv, [.t 0], none⟩,
      ⟨some 15, .call 47 [] 0, [.t 14], none⟩,
      ⟨some 13, .mv, [.t 15], none⟩,
      ⟨some 16, .extr 0, [.t 13], none⟩,
      ⟨some 17, .extr 1, [.t 13], none⟩,
      ⟨some 6, .mv, [.t 16], none⟩,
      ⟨some 7, .mv, [.t 17], none⟩]) [1, 5, 6])
  (.seq (.kpost (.reg [⟨some 18, .mv, [.t 5], none⟩,
      ⟨some 19, .bin .add 0, [.c (.int .i64 3), .t 18], none⟩,
      ⟨some 20, .mv, [.t 6], none⟩,
      ⟨some 21, .mv, [.t 1], none⟩,
      ⟨some 22, .call 48 [] 0, [.t 20, .t 21], none⟩,
      ⟨some 23, .bin .add 0, [.t 19, .t 22], none⟩,
      ⟨some 24, .bin .add 0, [.t 23, .c (.int .i64 1)], none⟩,
      ⟨some 4, .mv, [.t 24], none⟩]) [4])
  .ret))))) }
/-- waggoner/space.Bound -/
def i23 : IFn := { ns := 0, nt := 21, res := [.t 4], body :=
  (.seq (.kpost (.reg [⟨some 4, .mv, [.c (.int .i64 0)], none⟩]) [0, 1])
  (.seq (.kpost (.reg [⟨some 8, .mv, [.t 1], none⟩,
      ⟨some 9, .call 47 [] 0, [.t 8], none⟩,
      ⟨some 7, .mv, [.t 9], none⟩,
      ⟨some 10, .extr 0, [.t 7], none⟩,
      ⟨some 11, .extr 1, [.t 7], none⟩,
      ⟨some 5, .mv, [.t 10], none⟩,
      ⟨some 6, .mv, [.t 11], none⟩]) [0, 6])
  (.seq (.seq (.kpost (.reg [⟨some 12, .mv, [.t 6], none⟩,
       ⟨some 13, .bin .eql 0, [.t 12, .c (.int .i64 0)], none⟩]) [0, 6, 13])
   (.cond (.t 13)
    (.seq (.kpost (.reg [⟨some 4, .mv, [.c (.int .i64 0)], none⟩]) [4])
     .ret)
    .skip))
  (.seq (.kpost (.reg [⟨some 14, .mv, [.t 6], none⟩,
      ⟨some 15, .bin .add 0, [.t 14, .c (.int .i64 1)], none⟩,
      ⟨some 16, .mv, [.t 0], none⟩,
      ⟨some 17, .call 49 [] 0, [.t 16, .c (.int .i64 0), .c (.int .i64 1073741824)], none⟩,
      ⟨some 18, .bin .add 0, [.t 15, .t 17], none⟩,
      ⟨some 19, .bin .mul 0, [.c (.int .i64 2), .t 18], none⟩,
      ⟨some 20, .bin .add 0, [.t 19, .c (.int .i64 5)], none⟩,
      ⟨some 4, .mv, [.t 20], none⟩]) [4])
  .ret)))) }
/-- (*waggoner/volume.Volume).Sync -/
def i24 : IFn := { ns := 37, nt := 12, res := [.t 2], body :=
  (.seq (.kpost (.reg [⟨some 1, .box 0 24, [.t 0], none⟩,
      ⟨some 2, .mv, [.c (.int .i64 0)], none⟩]) [1])
  (.seq (.seq (.kpost (.reg [⟨some 4, .load none, [.t 1], none⟩,
       ⟨some 5, .call 50 [1, 2, 3, 4, 5, 6, 7, 8, 9, 10] 0, [.t 4], none⟩,
       ⟨some 3, .mv, [.t 5], none⟩]) [1, 3])
   (.seq (.kpost (.reg [⟨some 6, .mv, [.t 3], none⟩,
       ⟨some 7, .bin .neq 0, [.t 6, .c (.int .i64 0)], none⟩]) [1, 3, 7])
   (.cond (.t 7)
    (.seq (.kpost (.reg [⟨some 8, .mv, [.t 3], none⟩,
         ⟨some 2, .mv, [.t 8], none⟩]) [2])
     .ret)
    .skip)))
  (.seq (.kpost (.reg [⟨some 9, .load none, [.t 1], none⟩,
      ⟨some 10, .mkfn 52 0, [.t 1], none⟩,
      ⟨some 11, .call 51 [11, 12, 13, 14, 15, 16, 17, 18, 19, 20, 21, 22, 23, 24, 25, 26, 27, 28, 29, 30, 31, 32, 33, 34, 35, 36] 0, [.t 9, .t 10], none⟩,
      ⟨some 2, .mv, [.t 11], none⟩]) [2])
  .ret))) }
/-- (*waggoner/volume.Volume).Crash -/
def i25 : IFn := { ns := 12, nt := 20, res := [.t 4], body :=
  (.seq (.kpost (.reg [⟨some 4, .mv, [.c (.int .i64 0)], none⟩]) [0, 1])
  (.seq (.seq (.kpost (.reg [⟨some 5, .mv, [.t 0], none⟩,
       ⟨some 6, .bin .eql 3, [.t 5, .c (.nilp)], none⟩]) [0, 1, 6])
   (.cond (.t 6)
    (.seq (.kpost (.reg [⟨some 4, .mv, [.c (.int .i64 1)], none⟩]) [4])
     .ret)
    .skip))
  (.seq (.kpost (.reg [⟨some 7, .mv, [.t 0], none⟩,
      ⟨some 8, .mv, [.t 0], none⟩,
      ⟨some 9, .nilchk, [.t 8], none⟩,
      ⟨some 10, .fadr 0, [.t 9], none⟩,
      ⟨some 11, .fadr 0, [.t 10], none⟩,
      ⟨some 12, .load (some 5), [.t 11], none⟩,
      ⟨some 13, .mv, [.t 1], none⟩,
      ⟨some 14, .call 54 [0, 1] 1, [.t 12, .t 13], none⟩,
      ⟨some 15, .nilchk, [.t 7], none⟩,
      ⟨some 16, .fadr 0, [.t 15], none⟩,
      ⟨some 17, .fadr 0, [.t 16], none⟩,
      ⟨none, .store 5, [.t 17, .t 14], none⟩]) [0])
  (.seq (.kpost (.reg [⟨some 18, .mv, [.t 0], none⟩,
      ⟨some 19, .call 55 [2, 3, 4, 5, 6, 7, 8, 9, 10, 11] 0, [.t 18], none⟩]) [])
  (.seq (.kpost (.reg [⟨some 4, .mv, [.c (.int .i64 0)], none⟩]) [4])
  .ret))))) }
/-- (*waggoner/volume.Volume).Unmount -/
def i26 : IFn := { ns := 20, nt := 11, res := [.t 2], body :=
  (.seq (.kpost (.reg [⟨some 2, .mv, [.c (.int .i64 0)], none⟩]) [0])
  (.seq (.seq (.kpost (.reg [⟨some 4, .mv, [.t 0], none⟩,
       ⟨some 5, .call 24 [0, 1, 2, 3, 4, 5, 6, 7, 8, 9] 0, [.t 4], none⟩,
       ⟨some 3, .mv, [.t 5], none⟩]) [0, 3])
   (.seq (.kpost (.reg [⟨some 6, .mv, [.t 3], none⟩,
       ⟨some 7, .bin .neq 0, [.t 6, .c (.int .i64 0)], none⟩]) [0, 3, 7])
   (.cond (.t 7)
    (.seq (.kpost (.reg [⟨some 8, .mv, [.t 3], none⟩,
         ⟨some 2, .mv, [.t 8], none⟩]) [2])
     .ret)
    .skip)))
  (.seq (.kpost (.reg [⟨some 9, .mv, [.t 0], none⟩,
      ⟨some 10, .call 55 [10, 11, 12, 13, 14, 15, 16, 17, 18, 19] 0, [.t 9], none⟩]) [])
  (.seq (.kpost (.reg [⟨some 2, .mv, [.c (.int .i64 0)], none⟩]) [2])
  .ret)))) }
/-- (*waggoner/volume.Volume).Mount -/
def i27 : IFn := { ns := 49, nt := 56, res := [.t 2], body :=
  (.seq (.kpost (.reg [⟨some 1, .box 0 24, [.t 0], none⟩,
      ⟨some 2, .mv, [.c (.int .i64 0)], none⟩]) [1])
  (.seq (.block 0 (.seq (.kpost (.reg [⟨some 9, .load none, [.t 1], none⟩,
        ⟨some 10, .bin .eql 3, [.t 9, .c (.nilp)], none⟩,
        ⟨some 8, .mv, [.t 10], none⟩]) [1, 8])
    (.cond (.t 8)
     (.seq (.kpost (.reg [⟨some 2, .mv, [.c (.int .i64 1)], none⟩]) [2])
      .ret)
     (.seq (.kpost (.reg [⟨some 12, .load none, [.t 1], none⟩,
          ⟨some 13, .nilchk, [.t 12], none⟩,
          ⟨some 14, .fadr 14, [.t 13], none⟩,
          ⟨some 15, .load none, [.t 14], none⟩,
          ⟨some 11, .mv, [.t 15], none⟩]) [1, 11])
      (.cond (.t 11)
       (.seq (.kpost (.reg [⟨some 2, .mv, [.c (.int .i64 140)], none⟩]) [2])
        .ret)
       (.seq (.kpost (.reg [⟨some 17, .load none, [.t 1], none⟩,
            ⟨some 18, .nilchk, [.t 17], none⟩,
            ⟨some 19, .fadr 0, [.t 18], none⟩,
            ⟨some 20, .fadr 0, [.t 19], none⟩,
            ⟨some 21, .fadr 3, [.t 20], none⟩,
            ⟨some 22, .load none, [.t 21], none⟩,
            ⟨some 16, .mv, [.t 22], none⟩]) [1, 16])
        (.cond (.t 16)
         (.seq (.kpost (.reg [⟨some 2, .mv, [.c (.int .i64 40)], none⟩]) [2])
          .ret)
         .skip)))))))
  (.seq (.kpost (.reg [⟨some 24, .load none, [.t 1], none⟩,
      ⟨some 25, .nilchk, [.t 24], none⟩,
      ⟨some 26, .fadr 0, [.t 25], none⟩,
      ⟨some 27, .fadr 0, [.t 26], none⟩,
      ⟨some 28, .load (some 5), [.t 27], none⟩,
      ⟨some 29, .call 56 [1, 2] 1, [.t 28], none⟩,
      ⟨some 23, .mv, [.t 29], none⟩,
      ⟨some 30, .extr 0, [.t 23], none⟩,
      ⟨some 31, .extr 1, [.t 23], none⟩,
      ⟨some 3, .alloc 3 106 [.nils 118 5], [], none⟩,
      ⟨none, .store 1, [.t 3, .t 30], none⟩,
      ⟨some 4, .mv, [.t 31], none⟩]) [1, 3, 4])
  (.seq (.seq (.kpost (.reg [⟨some 32, .mv, [.t 4], none⟩,
       ⟨some 33, .bin .neq 0, [.t 32, .c (.int .i64 0)], none⟩]) [1, 3, 4, 33])
   (.cond (.t 33)
    (.seq (.kpost (.reg [⟨some 34, .mv, [.t 4], none⟩,
         ⟨some 2, .mv, [.t 34], none⟩]) [2])
     .ret)
    .skip))
  (.seq (.kpost (.reg [⟨some 36, .load none, [.t 3], none⟩,
      ⟨some 37, .call 57 [4, 5, 6, 7, 8, 9] 1, [.t 36], none⟩,
      ⟨some 35, .mv, [.t 37], none⟩,
      ⟨some 38, .extr 0, [.t 35], none⟩,
      ⟨some 39, .extr 1, [.t 35], none⟩,
      ⟨some 40, .extr 2, [.t 35], none⟩,
      ⟨some 41, .extr 3, [.t 35], none⟩,
      ⟨some 5, .alloc 10 30 [.int .i64 0, .int .i64 0, .nils 48 5, .nils 95 3, .int .i64 0, .nils 5 1], [], none⟩,
      ⟨some 6, .alloc 11 3 [.int .i64 0], [], none⟩,
      ⟨some 7, .alloc 12 3 [.int .i64 0], [], none⟩,
      ⟨none, .store 6, [.t 5, .t 38], none⟩,
      ⟨none, .store 1, [.t 6, .t 39], none⟩,
      ⟨none, .store 1, [.t 7, .t 40], none⟩,
      ⟨some 4, .mv, [.t 41], none⟩]) [1, 3, 4, 5, 6, 7])
  (.seq (.seq (.kpost (.reg [⟨some 42, .mv, [.t 4], none⟩,
       ⟨some 43, .bin .neq 0, [.t 42, .c (.int .i64 0)], none⟩]) [1, 3, 4, 5, 6, 7, 43])
   (.cond (.t 43)
    (.seq (.kpost (.reg [⟨some 44, .mv, [.t 4], none⟩,
         ⟨some 2, .mv, [.t 44], none⟩]) [2])
     .ret)
    .skip))
  (.seq (.kpost (.reg [⟨some 45, .load none, [.t 1], none⟩,
      ⟨some 46, .mkfn 58 0, [.t 5, .t 3, .t 7, .t 6, .t 1], none⟩,
      ⟨some 47, .call 51 [13, 14, 15, 16, 17, 18, 19, 20, 21, 22, 23, 24, 25, 26, 27, 28, 29, 30, 31, 32, 33, 34, 35, 36, 37, 38] 0, [.t 45, .t 46], none⟩,
      ⟨some 4, .mv, [.t 47], none⟩]) [1, 4])
  (.seq (.seq (.kpost (.reg [⟨some 48, .mv, [.t 4], none⟩,
       ⟨some 49, .bin .neq 0, [.t 48, .c (.int .i64 0)], none⟩]) [1, 4, 49])
   (.cond (.t 49)
    (.seq (.kpost (.reg [⟨some 50, .load none, [.t 1], none⟩,
         ⟨some 51, .call 55 [39, 40, 41, 42, 43, 44, 45, 46, 47, 48] 0, [.t 50], none⟩]) [4])
     (.seq (.kpost (.reg [⟨some 52, .mv, [.t 4], none⟩,
         ⟨some 2, .mv, [.t 52], none⟩]) [2])
     .ret))
    .skip))
  (.seq (.kpost (.reg [⟨some 53, .load none, [.t 1], none⟩,
      ⟨some 54, .nilchk, [.t 53], none⟩,
      ⟨some 55, .fadr 14, [.t 54], none⟩,
      ⟨none, .store 1, [.t 55, .c (.bool true)], none⟩]) [])
  (.seq (.kpost (.reg [⟨some 2, .mv, [.c (.int .i64 0)], none⟩]) [2])
  .ret)))))))))) }
/-- (*waggoner/volume.Volume).Limit -/
def i28 : IFn := { ns := 2, nt := 18, res := [.t 4], body :=
  (.seq (.kpost (.reg [⟨some 4, .mv, [.c (.int .i64 0)], none⟩]) [0, 1])
  (.seq (.seq (.kpost (.reg [⟨some 5, .mv, [.t 0], none⟩,
       ⟨some 6, .bin .eql 3, [.t 5, .c (.nilp)], none⟩]) [0, 1, 6])
   (.cond (.t 6)
    (.seq (.kpost (.reg [⟨some 4, .mv, [.c (.int .i64 1)], none⟩]) [4])
     .ret)
    .skip))
  (.seq (.kpost (.reg [⟨some 7, .mv, [.t 0], none⟩,
      ⟨some 8, .mv, [.t 0], none⟩,
      ⟨some 9, .nilchk, [.t 8], none⟩,
      ⟨some 10, .fadr 0, [.t 9], none⟩,
      ⟨some 11, .fadr 0, [.t 10], none⟩,
      ⟨some 12, .load (some 5), [.t 11], none⟩,
      ⟨some 13, .mv, [.t 1], none⟩,
      ⟨some 14, .call 42 [0, 1] 1, [.t 12, .t 13], none⟩,
      ⟨some 15, .nilchk, [.t 7], none⟩,
      ⟨some 16, .fadr 0, [.t 15], none⟩,
      ⟨some 17, .fadr 0, [.t 16], none⟩,
      ⟨none, .store 5, [.t 17, .t 14], none⟩]) [])
  (.seq (.kpost (.reg [⟨some 4, .mv, [.c (.int .i64 0)], none⟩]) [4])
  .ret)))) }
/-- (*waggoner/volume.Volume).Do -/
def i29 : IFn := { ns := 45, nt := 28, res := [.t 4], body :=
  (.seq (.kpost (.reg [⟨some 2, .box 0 24, [.t 0], none⟩,
      ⟨some 3, .box 1 70, [.t 1], none⟩,
      ⟨some 4, .mv, [.c (.int .i64 0)], none⟩]) [2, 3])
  (.seq (.seq (.kpost (.reg [⟨some 8, .load none, [.t 2], none⟩,
       ⟨some 9, .call 50 [2, 3, 4, 5, 6, 7, 8, 9, 10, 11] 0, [.t 8], none⟩,
       ⟨some 5, .mv, [.t 9], none⟩]) [2, 3, 5])
   (.seq (.kpost (.reg [⟨some 10, .mv, [.t 5], none⟩,
       ⟨some 11, .bin .neq 0, [.t 10, .c (.int .i64 0)], none⟩]) [2, 3, 5, 11])
   (.cond (.t 11)
    (.seq (.kpost (.reg [⟨some 12, .mv, [.t 5], none⟩,
         ⟨some 4, .mv, [.t 12], none⟩]) [4])
     .ret)
    .skip)))
  (.seq (.kpost (.regD [⟨some 14, .load none, [.t 2], none⟩,
      ⟨some 15, .nilchk, [.t 14], none⟩,
      ⟨some 16, .fadr 7, [.t 15], none⟩,
      ⟨some 17, .load (some 6), [.t 16], none⟩,
      ⟨some 18, .load (some 6), [.t 3], none⟩,
      ⟨some 19, .call 35 [12, 13, 14, 15, 16, 17] 1, [.t 17, .t 18], none⟩,
      ⟨some 13, .mv, [.t 19], none⟩,
      ⟨some 20, .extr 0, [.t 13], none⟩,
      ⟨some 21, .extr 1, [.t 13], none⟩,
      ⟨some 6, .alloc 18 30 [.int .i64 0, .int .i64 0, .nils 48 5, .nils 95 3, .int .i64 0, .nils 5 1], [], none⟩,
      ⟨none, .store 6, [.t 6, .t 20], none⟩,
      ⟨some 7, .mv, [.t 21], none⟩] [0, 1, 2, 3, 4, 5, 6, 7, 8, 9, 10, 11] none [(0, 9), (1, 9), (2, 9), (3, 9), (4, 9), (5, 9)]) [2, 3, 6, 7])
  (.seq (.seq (.kpost (.reg [⟨some 22, .mv, [.t 7], none⟩,
       ⟨some 23, .bin .neq 0, [.t 22, .c (.int .i64 0)], none⟩]) [2, 3, 6, 7, 23])
   (.cond (.t 23)
    (.seq (.kpost (.reg [⟨some 24, .mv, [.t 7], none⟩,
         ⟨some 4, .mv, [.t 24], none⟩]) [4])
     .ret)
    .skip))
  (.seq (.kpost (.reg [⟨some 25, .load none, [.t 2], none⟩,
      ⟨some 26, .mkfn 63 0, [.t 3, .t 2, .t 6], none⟩,
      ⟨some 27, .call 51 [19, 20, 21, 22, 23, 24, 25, 26, 27, 28, 29, 30, 31, 32, 33, 34, 35, 36, 37, 38, 39, 40, 41, 42, 43, 44] 0, [.t 25, .t 26], none⟩,
      ⟨some 4, .mv, [.t 27], none⟩]) [4])
  .ret))))) }
/-- (*waggoner/volume.Volume).Clean -/
def i30 : IFn := { ns := 36, nt := 13, res := [.t 2], body :=
  (.seq (.kpost (.reg [⟨some 2, .mv, [.c (.int .i64 0)], none⟩]) [0])
  (.seq (.seq (.kpost (.reg [⟨some 4, .mv, [.t 0], none⟩,
       ⟨some 5, .call 50 [0, 1, 2, 3, 4, 5, 6, 7, 8, 9] 0, [.t 4], none⟩,
       ⟨some 3, .mv, [.t 5], none⟩]) [0, 3])
   (.seq (.kpost (.reg [⟨some 6, .mv, [.t 3], none⟩,
       ⟨some 7, .bin .neq 0, [.t 6, .c (.int .i64 0)], none⟩]) [0, 3, 7])
   (.cond (.t 7)
    (.seq (.kpost (.reg [⟨some 8, .mv, [.t 3], none⟩,
         ⟨some 2, .mv, [.t 8], none⟩]) [2])
     .ret)
    .skip)))
  (.seq (.kpost (.reg [⟨some 9, .mv, [.t 0], none⟩,
      ⟨some 10, .mv, [.t 0], none⟩,
      ⟨some 11, .mkfn 62 1, [.t 10], none⟩,
      ⟨some 12, .call 51 [10, 11, 12, 13, 14, 15, 16, 17, 18, 19, 20, 21, 22, 23, 24, 25, 26, 27, 28, 29, 30, 31, 32, 33, 34, 35] 0, [.t 9, .t 11], none⟩,
      ⟨some 2, .mv, [.t 12], none⟩]) [2])
  .ret))) }
/-- waggoner/volume.Format -/
def i31 : IFn := { ns := 47, nt := 54, res := [.t 6, .t 7], body :=
  (.seq (.kpost (.reg [⟨some 6, .mv, [.c (.nilp)], none⟩,
      ⟨some 7, .mv, [.c (.int .i64 0)], none⟩]) [0, 1, 2])
  (.seq (.seq (.kpost (.reg [⟨some 14, .mv, [.t 0], none⟩,
       ⟨some 15, .mv, [.t 1], none⟩,
       ⟨some 16, .mv, [.t 2], none⟩,
       ⟨some 17, .call 67 [] 0, [.t 14, .t 15, .t 16], none⟩,
       ⟨some 8, .mv, [.t 17], none⟩]) [0, 1, 2, 8])
   (.seq (.kpost (.reg [⟨some 18, .mv, [.t 8], none⟩,
       ⟨some 19, .bin .neq 0, [.t 18, .c (.int .i64 0)], none⟩]) [0, 1, 2, 8, 19])
   (.cond (.t 19)
    (.seq (.kpost (.reg [⟨some 20, .mv, [.t 8], none⟩,
         ⟨some 6, .mv, [.c (.nilp)], none⟩,
         ⟨some 7, .mv, [.t 20], none⟩]) [6, 7])
     .ret)
    .skip)))
  (.seq (.kpost (.reg [⟨some 22, .mv, [.t 0], none⟩,
      ⟨some 23, .mv, [.t 1], none⟩,
      ⟨some 24, .call 68 [0, 1] 1, [.t 22, .t 23], none⟩,
      ⟨some 21, .mv, [.t 24], none⟩,
      ⟨some 25, .extr 0, [.t 21], none⟩,
      ⟨some 26, .extr 1, [.t 21], none⟩,
      ⟨some 9, .alloc 2 51 [.int .i64 0, .nils 54 4, .int .i64 0, .bool false, .int .i64 0], [], none⟩,
      ⟨none, .store 5, [.t 9, .t 25], none⟩,
      ⟨some 10, .mv, [.t 26], none⟩]) [2, 9, 10])
  (.seq (.seq (.kpost (.reg [⟨some 27, .mv, [.t 10], none⟩,
       ⟨some 28, .bin .neq 0, [.t 27, .c (.int .i64 0)], none⟩]) [2, 9, 10, 28])
   (.cond (.t 28)
    (.seq (.kpost (.reg [⟨some 29, .mv, [.t 10], none⟩,
         ⟨some 6, .mv, [.c (.nilp)], none⟩,
         ⟨some 7, .mv, [.t 29], none⟩]) [6, 7])
     .ret)
    .skip))
  (.seq (.kpost (.reg [⟨some 31, .mv, [.t 2], none⟩,
      ⟨some 32, .call 12 [3, 4, 5, 6, 7, 8] 1, [.t 31], none⟩,
      ⟨some 30, .mv, [.t 32], none⟩,
      ⟨some 33, .extr 0, [.t 30], none⟩,
      ⟨some 34, .extr 1, [.t 30], none⟩,
      ⟨some 11, .alloc 9 30 [.int .i64 0, .int .i64 0, .nils 48 5, .nils 95 3, .int .i64 0, .nils 5 1], [], none⟩,
      ⟨none, .store 6, [.t 11, .t 33], none⟩,
      ⟨some 10, .mv, [.t 34], none⟩]) [2, 9, 10, 11])
  (.seq (.seq (.kpost (.reg [⟨some 35, .mv, [.t 10], none⟩,
       ⟨some 36, .bin .neq 0, [.t 35, .c (.int .i64 0)], none⟩]) [2, 9, 10, 11, 36])
   (.cond (.t 36)
    (.seq (.kpost (.reg [⟨some 37, .mv, [.t 10], none⟩,
         ⟨some 6, .mv, [.c (.nilp)], none⟩,
         ⟨some 7, .mv, [.t 37], none⟩]) [6, 7])
     .ret)
    .skip))
  (.seq (.kpost (.reg [⟨some 38, .load (some 5), [.t 9], none⟩,
      ⟨some 39, .build [.int .i64 0, .nils 54 4, .int .i64 0, .bool false, .int .i64 0, .int .i64 0, .int .i64 0] [(0, 5)], [.t 38], none⟩,
      ⟨some 40, .load (some 6), [.t 11], none⟩,
      ⟨some 41, .mv, [.t 2], none⟩,
      ⟨some 42, .build [.int .i64 0, .nils 54 4, .int .i64 0, .bool false, .int .i64 0, .int .i64 0, .int .i64 0, .int .i64 0, .int .i64 0, .nils 48 5, .nils 95 3, .int .i64 0, .nils 5 1, .int .i64 0, .bool false] [(0, 7), (7, 6), (13, 1)], [.t 39, .t 40, .t 41], none⟩,
      ⟨some 43, .box 10 84, [.t 42], none⟩,
      ⟨some 12, .mv, [.t 43], none⟩]) [12])
  (.seq (.seq (.kpost (.reg [⟨some 44, .mv, [.t 12], none⟩,
       ⟨some 45, .mv, [.t 12], none⟩,
       ⟨some 46, .mkfn 62 1, [.t 45], none⟩,
       ⟨some 47, .call 51 [11, 12, 13, 14, 15, 16, 17, 18, 19, 20, 21, 22, 23, 24, 25, 26, 27, 28, 29, 30, 31, 32, 33, 34, 35, 36] 0, [.t 44, .t 46], none⟩,
       ⟨some 13, .mv, [.t 47], none⟩]) [12, 13])
   (.seq (.kpost (.reg [⟨some 48, .mv, [.t 13], none⟩,
       ⟨some 49, .bin .neq 0, [.t 48, .c (.int .i64 0)], none⟩]) [12, 13, 49])
   (.cond (.t 49)
    (.seq (.kpost (.reg [⟨some 50, .mv, [.t 13], none⟩,
         ⟨some 6, .mv, [.c (.nilp)], none⟩,
         ⟨some 7, .mv, [.t 50], none⟩]) [6, 7])
     .ret)
    .skip)))
  (.seq (.kpost (.reg [⟨some 51, .mv, [.t 12], none⟩,
      ⟨some 52, .call 55 [37, 38, 39, 40, 41, 42, 43, 44, 45, 46] 0, [.t 51], none⟩]) [12])
  (.seq (.kpost (.reg [⟨some 53, .mv, [.t 12], none⟩,
      ⟨some 6, .mv, [.t 53], none⟩,
      ⟨some 7, .mv, [.c (.int .i64 0)], none⟩]) [6, 7])
  .ret)))))))))) }
/-- waggoner/waggonerlaw14.block -/
def i32 : IFn := { ns := 1, nt := 21, res := [.t 4], body :=
  (.seq (.kpost (.reg [⟨some 4, .mv, [.c (.nils 5 1)], none⟩]) [0, 1])
  (.seq (.kpost (.reg [⟨some 7, .mv, [.t 0], none⟩,
      ⟨some 8, .bin .mul 0, [.c (.int .i64 32), .t 7], none⟩,
      ⟨some 9, .mkslice 0 5 1 1 [.int .u8 0], [.t 8, .t 8], none⟩,
      ⟨some 5, .mv, [.t 9], none⟩]) [1, 5])
  (.seq (.seq (.kpost (.reg [⟨some 6, .mv, [.c (.int .i64 0)], none⟩]) [1, 5, 6])
   (.block 0 (.kpre [1, 5, 6] (.loop (.kpost (.seq (.seq (.kpost (.reg [⟨some 10, .mv, [.t 6], none⟩,
            ⟨some 11, .mv, [.t 5], none⟩,
            ⟨some 12, .len, [.t 11], none⟩,
            ⟨some 13, .bin .lss 0, [.t 10, .t 12], none⟩]) [1, 5, 6, 13])
        (.cond (.t 13)
         .skip
         (.exit 0)))
       (.seq (.block 1 (.kpost (.reg [⟨some 16, .mv, [.t 5], none⟩,
            ⟨some 17, .mv, [.t 6], none⟩,
            ⟨some 18, .mv, [.t 1], none⟩,
            ⟨some 19, .iadr 1, [.t 16, .t 17], none⟩,
            ⟨none, .store 1, [.t 19, .t 18], none⟩]) [1, 5, 6]))
       (.kpost (.reg [⟨some 14, .mv, [.t 6], none⟩,
          ⟨some 15, .bin .add 0, [.t 14, .c (.int .i64 1)], none⟩,
          ⟨some 6, .mv, [.t 15], none⟩]) [1, 5, 6]))) [1, 5, 6])))))
  (.seq (.kpost (.reg [⟨some 20, .mv, [.t 5], none⟩,
      ⟨some 4, .mv, [.t 20], none⟩]) [4])
  .ret)))) }
/-- waggoner/extmap.New -/
def i33 : IFn := { ns := 1, nt := 13, res := [.t 2, .t 3], body :=
  (.seq (.kpost (.reg [⟨some 2, .mv, [.c (.nils 48 5)], none⟩,
      ⟨some 3, .mv, [.c (.int .i64 0)], none⟩]) [0])
  (.seq (.seq (.kpost (.reg [⟨some 4, .mv, [.t 0], none⟩,
       ⟨some 5, .bin .lss 0, [.t 4, .c (.int .i64 1)], none⟩,
       ⟨some 6, .mv, [.t 5], none⟩,
       ⟨some 7, .mv, [.t 0], some (6, false)⟩,
       ⟨some 8, .bin .gtr 0, [.t 7, .c (.int .i64 64)], some (6, false)⟩,
       ⟨some 9, .pick, [.t 6, .c (.bool true), .t 8], none⟩]) [0, 9])
   (.cond (.t 9)
    (.seq (.kpost (.reg [⟨some 2, .mv, [.c (.nils 48 5)], none⟩,
         ⟨some 3, .mv, [.c (.int .i64 81)], none⟩]) [2, 3])
     .ret)
    .skip))
  (.seq (.kpost (.reg [⟨some 10, .mv, [.t 0], none⟩,
      ⟨some 11, .build [.int .i64 0, .int .i64 0, .int .i64 0, .int .i64 0, .nils 5 1] [(1, 1)], [.t 10], none⟩,
      ⟨some 12, .bslice 0 48 5 [.int .i64 0, .int .i64 0, .int .i64 0, .int .i64 0, .imm 1 []] 1 [0], [.t 11], none⟩,
      ⟨some 2, .mv, [.t 12], none⟩,
      ⟨some 3, .mv, [.c (.int .i64 0)], none⟩]) [2, 3])
  .ret))) }
/-- (waggoner/waggonerlaw14.Step).Change -/
def i34 : IFn := { ns := 6, nt := 65, res := [.cell 2 (some 6), .t 3], body :=
  (.seq (.kpost (.reg [⟨some 1, .box 0 37, [.t 0], none⟩,
      ⟨some 2, .alloc 1 70 [.int .i64 0, .int .i64 0, .int .i64 0, .int .i64 0, .nils 5 1, .nils 48 5], [], none⟩,
      ⟨some 3, .mv, [.c (.bool false)], none⟩]) [1, 2])
  (.seq (.seq (.kpost (.reg [⟨some 4, .fadr 0, [.t 1], none⟩,
       ⟨some 5, .load none, [.t 4], none⟩,
       ⟨some 6, .bin .rem 0, [.t 5, .c (.int .u8 10)], none⟩]) [1, 2, 6])
   (.block 0 (.seq (.kpost (.reg [⟨some 8, .bin .eql 0, [.t 6, .c (.int .u8 0)], none⟩,
        ⟨some 7, .mv, [.t 8], none⟩]) [1, 2, 6, 7])
    (.cond (.t 7)
     (.seq (.kpost (.regD [⟨some 9, .fadr 1, [.t 1], none⟩,
          ⟨some 10, .load none, [.t 9], none⟩,
          ⟨some 11, .conv .i64, [.t 10], none⟩,
          ⟨some 12, .fadr 2, [.t 1], none⟩,
          ⟨some 13, .load none, [.t 12], none⟩,
          ⟨some 14, .conv .i64, [.t 13], none⟩,
          ⟨some 15, .fadr 2, [.t 1], none⟩,
          ⟨some 16, .load none, [.t 15], none⟩,
          ⟨some 17, .conv .i64, [.t 16], none⟩,
          ⟨some 18, .fadr 4, [.t 1], none⟩,
          ⟨some 19, .load none, [.t 18], none⟩,
          ⟨some 20, .call 32 [2, 3] 1, [.t 17, .t 19], none⟩,
          ⟨some 21, .build [.int .i64 0, .int .i64 0, .int .i64 0, .int .i64 0, .nils 5 1, .nils 48 5] [(0, 1), (1, 1), (2, 1), (4, 1)], [.c (.int .i64 1), .t 11, .t 14, .t 20], none⟩,
          ⟨none, .store 6, [.t 2, .t 21], none⟩,
          ⟨some 3, .mv, [.c (.bool true)], none⟩] [0, 1, 2, 3, 4, 5, 6, 7, 8, 9, 10, 11, 12, 13, 14] none [(0, 11), (1, 11), (3, 11), (4, 11)]) [2, 3])
      .ret)
     (.seq (.kpost (.reg [⟨some 23, .bin .eql 0, [.t 6, .c (.int .u8 1)], none⟩,
          ⟨some 22, .mv, [.t 23], none⟩]) [1, 2, 6, 22])
      (.cond (.t 22)
       (.seq (.kpost (.reg [⟨some 24, .fadr 1, [.t 1], none⟩,
            ⟨some 25, .load none, [.t 24], none⟩,
            ⟨some 26, .conv .i64, [.t 25], none⟩,
            ⟨some 27, .fadr 2, [.t 1], none⟩,
            ⟨some 28, .load none, [.t 27], none⟩,
            ⟨some 29, .conv .i64, [.t 28], none⟩,
            ⟨some 30, .build [.int .i64 0, .int .i64 0, .int .i64 0, .int .i64 0, .nils 5 1, .nils 48 5] [(0, 1), (1, 1), (2, 1)], [.c (.int .i64 2), .t 26, .t 29], none⟩,
            ⟨none, .store 6, [.t 2, .t 30], none⟩,
            ⟨some 3, .mv, [.c (.bool true)], none⟩]) [2, 3])
        .ret)
       (.seq (.kpost (.reg [⟨some 32, .bin .eql 0, [.t 6, .c (.int .u8 2)], none⟩,
            ⟨some 31, .mv, [.t 32], none⟩]) [1, 2, 6, 31])
        (.cond (.t 31)
         (.seq (.kpost (.reg [⟨some 33, .fadr 1, [.t 1], none⟩,
              ⟨some 34, .load none, [.t 33], none⟩,
              ⟨some 35, .conv .i64, [.t 34], none⟩,
              ⟨some 36, .fadr 2, [.t 1], none⟩,
              ⟨some 37, .load none, [.t 36], none⟩,
              ⟨some 38, .conv .i64, [.t 37], none⟩,
              ⟨some 39, .build [.int .i64 0, .int .i64 0, .int .i64 0, .int .i64 0, .nils 5 1, .nils 48 5] [(0, 1), (1, 1), (2, 1)], [.c (.int .i64 3), .t 35, .t 38], none⟩,
              ⟨none, .store 6, [.t 2, .t 39], none⟩,
              ⟨some 3, .mv, [.c (.bool true)], none⟩]) [2, 3])
          .ret)
         (.seq (.kpost (.reg [⟨some 41, .bin .eql 0, [.t 6, .c (.int .u8 3)], none⟩,
              ⟨some 40, .mv, [.t 41], none⟩]) [1, 2, 6, 40])
          (.cond (.t 40)
           (.seq (.kpost (.reg [⟨some 42, .fadr 3, [.t 1], none⟩,
                ⟨some 43, .load none, [.t 42], none⟩,
                ⟨some 44, .conv .i64, [.t 43], none⟩,
                ⟨some 45, .build [.int .i64 0, .int .i64 0, .int .i64 0, .int .i64 0, .nils 5 1, .nils 48 5] [(0, 1), (3, 1)], [.c (.int .i64 4), .t 44], none⟩,
                ⟨none, .store 6, [.t 2, .t 45], none⟩,
                ⟨some 3, .mv, [.c (.bool true)], none⟩]) [2, 3])
            .ret)
           (.seq (.kpost (.reg [⟨some 47, .bin .eql 0, [.t 6, .c (.int .u8 4)], none⟩,
                ⟨some 46, .mv, [.t 47], none⟩]) [1, 2, 6, 46])
            (.cond (.t 46)
             (.seq (.kpost (.reg [⟨some 48, .fadr 3, [.t 1], none⟩,
                  ⟨some 49, .load none, [.t 48], none⟩,
                  ⟨some 50, .conv .i64, [.t 49], none⟩,
                  ⟨some 51, .build [.int .i64 0, .int .i64 0, .int .i64 0, .int .i64 0, .nils 5 1, .nils 48 5] [(0, 1), (3, 1)], [.c (.int .i64 5), .t 50], none⟩,
                  ⟨none, .store 6, [.t 2, .t 51], none⟩,
                  ⟨some 3, .mv, [.c (.bool true)], none⟩]) [2, 3])
              .ret)
             (.seq (.kpost (.reg [⟨some 53, .bin .eql 0, [.t 6, .c (.int .u8 8)], none⟩,
                  ⟨some 52, .mv, [.t 53], none⟩]) [1, 2, 6, 52])
              (.cond (.t 52)
               (.seq (.kpost (.reg [⟨some 54, .fadr 2, [.t 1], none⟩,
                    ⟨some 55, .load none, [.t 54], none⟩,
                    ⟨some 56, .conv .i64, [.t 55], none⟩,
                    ⟨some 57, .fadr 4, [.t 1], none⟩,
                    ⟨some 58, .load none, [.t 57], none⟩,
                    ⟨some 59, .call 32 [4, 5] 1, [.t 56, .t 58], none⟩,
                    ⟨some 60, .build [.int .i64 0, .int .i64 0, .int .i64 0, .int .i64 0, .nils 5 1, .nils 48 5] [(0, 1), (4, 1)], [.c (.int .i64 6), .t 59], none⟩,
                    ⟨none, .store 6, [.t 2, .t 60], none⟩,
                    ⟨some 3, .mv, [.c (.bool true)], none⟩]) [2, 3])
                .ret)
               (.seq (.kpost (.reg [⟨some 62, .bin .eql 0, [.t 6, .c (.int .u8 9)], none⟩,
                    ⟨some 61, .mv, [.t 62], none⟩]) [2, 61])
                (.cond (.t 61)
                 (.seq (.kpost (.reg [⟨some 63, .build [.int .i64 0, .int .i64 0, .int .i64 0, .int .i64 0, .nils 5 1, .nils 48 5] [(0, 1)], [.c (.int .i64 7)], none⟩,
                      ⟨none, .store 6, [.t 2, .t 63], none⟩,
                      ⟨some 3, .mv, [.c (.bool true)], none⟩]) [2, 3])
                  .ret)
                 .skip))))))))))))))))
  (.seq (.kpost (.reg [⟨some 64, .build [.int .i64 0, .int .i64 0, .int .i64 0, .int .i64 0, .nils 5 1, .nils 48 5] [], [], none⟩,
      ⟨none, .store 6, [.t 2, .t 64], none⟩,
      ⟨some 3, .mv, [.c (.bool false)], none⟩]) [2, 3])
  .ret))) }
/-- waggoner/state.Do -/
def i35 : IFn := { ns := 40, nt := 33, res := [.cell 4 (some 6), .t 5], body :=
  (.seq (.kpost (.reg [⟨some 2, .box 0 30, [.t 0], none⟩,
      ⟨some 3, .box 1 70, [.t 1], none⟩,
      ⟨some 4, .alloc 2 30 [.int .i64 0, .int .i64 0, .nils 48 5, .nils 95 3, .int .i64 0, .nils 5 1], [], none⟩,
      ⟨some 5, .mv, [.c (.int .i64 0)], none⟩]) [2, 3, 4])
  (.seq (.block 0 (.seq (.kpost (.reg [⟨some 9, .load (some 6), [.t 2], none⟩,
        ⟨some 10, .call 69 [] 0, [.t 9], none⟩,
        ⟨some 11, .bin .neq 0, [.t 10, .c (.int .i64 0)], none⟩,
        ⟨some 8, .mv, [.t 11], none⟩]) [2, 3, 4, 8])
    (.cond (.t 8)
     (.seq (.kpost (.reg [⟨some 12, .build [.int .i64 0, .int .i64 0, .nils 48 5, .nils 95 3, .int .i64 0, .nils 5 1] [], [], none⟩,
          ⟨none, .store 6, [.t 4, .t 12], none⟩,
          ⟨some 5, .mv, [.c (.int .i64 110)], none⟩]) [4, 5])
      .ret)
     (.seq (.kpost (.reg [⟨some 14, .load (some 6), [.t 3], none⟩,
          ⟨some 15, .call 70 [] 0, [.t 14], none⟩,
          ⟨some 16, .bnot, [.t 15], none⟩,
          ⟨some 13, .mv, [.t 16], none⟩]) [2, 3, 4, 13])
      (.cond (.t 13)
       (.seq (.kpost (.reg [⟨some 17, .load (some 6), [.t 2], none⟩,
            ⟨some 18, .call 36 [3, 4, 5, 6, 7, 8] 1, [.t 17], none⟩,
            ⟨none, .store 6, [.t 4, .t 18], none⟩,
            ⟨some 5, .mv, [.c (.int .i64 100)], none⟩]) [4, 5])
        .ret)
       .skip)))))
  (.seq (.kpost (.reg [⟨some 19, .load (some 6), [.t 2], none⟩,
      ⟨some 20, .call 36 [9, 10, 11, 12, 13, 14] 1, [.t 19], none⟩,
      ⟨some 6, .alloc 15 127 [.int .i64 0, .int .i64 0, .nils 48 5, .nils 95 3, .int .i64 0, .nils 5 1], [], none⟩,
      ⟨none, .store 6, [.t 6, .t 20], none⟩]) [2, 3, 4, 6])
  (.seq (.seq (.kpost (.regD [⟨some 21, .call 71 [16, 17] 1, [], none⟩,
       ⟨some 22, .fadr 0, [.t 3], none⟩,
       ⟨some 23, .load none, [.t 22], none⟩,
       ⟨some 24, .look .nilf false, [.t 21, .t 23], none⟩,
       ⟨some 25, .load (some 6), [.t 3], none⟩,
       ⟨some 26, .callv [18, 19, 20, 21, 22, 23, 24, 25, 26, 27, 28, 29, 30, 31, 32, 33] 0, [.t 24, .t 6, .t 25], none⟩,
       ⟨some 7, .mv, [.t 26], none⟩] [0, 1, 2, 3, 4, 5, 6] none [(0, 1), (0, 2), (0, 4)]) [2, 4, 6, 7])
   (.seq (.kpost (.reg [⟨some 27, .mv, [.t 7], none⟩,
       ⟨some 28, .bin .neq 0, [.t 27, .c (.int .i64 0)], none⟩]) [2, 4, 6, 7, 28])
   (.cond (.t 28)
    (.seq (.kpost (.reg [⟨some 29, .load (some 6), [.t 2], none⟩,
         ⟨some 30, .call 36 [34, 35, 36, 37, 38, 39] 1, [.t 29], none⟩,
         ⟨some 31, .mv, [.t 7], none⟩,
         ⟨none, .store 6, [.t 4, .t 30], none⟩,
         ⟨some 5, .mv, [.t 31], none⟩]) [4, 5])
     .ret)
    .skip)))
  (.seq (.kpost (.reg [⟨some 32, .load (some 6), [.t 6], none⟩,
      ⟨none, .store 6, [.t 4, .t 32], none⟩,
      ⟨some 5, .mv, [.c (.int .i64 0)], none⟩]) [4, 5])
  .ret))))) }
/-- waggoner/state.Copy -/
def i36 : IFn := { ns := 11, nt := 39, res := [.cell 2 (some 6)], body :=
  (.seq (.kpost (.reg [⟨some 1, .box 0 30, [.t 0], none⟩,
      ⟨some 2, .alloc 1 30 [.int .i64 0, .int .i64 0, .nils 48 5, .nils 95 3, .int .i64 0, .nils 5 1], [], none⟩]) [1, 2])
  (.seq (.seq (.kpost (.reg [⟨some 5, .load (some 6), [.t 1], none⟩,
       ⟨some 6, .call 69 [] 0, [.t 5], none⟩,
       ⟨some 7, .bin .neq 0, [.t 6, .c (.int .i64 0)], none⟩]) [1, 2, 7])
   (.cond (.t 7)
    (.seq (.kpost (.reg [⟨some 8, .build [.int .i64 0, .int .i64 0, .nils 48 5, .nils 95 3, .int .i64 0, .nils 5 1] [], [], none⟩,
         ⟨none, .store 6, [.t 2, .t 8], none⟩]) [2])
     .ret)
    .skip))
  (.seq (.kpost (.regD [⟨some 9, .fadr 2, [.t 1], none⟩,
      ⟨some 10, .load none, [.t 9], none⟩,
      ⟨some 11, .call 72 [2, 3] 1, [.t 10], none⟩,
      ⟨some 12, .fadr 3, [.t 1], none⟩,
      ⟨some 13, .load none, [.t 12], none⟩,
      ⟨some 14, .call 73 [4, 5] 1, [.t 13], none⟩,
      ⟨some 15, .fadr 5, [.t 1], none⟩,
      ⟨some 16, .load none, [.t 15], none⟩,
      ⟨some 17, .call 74 [6, 7] 1, [.t 16], none⟩,
      ⟨some 18, .fadr 2, [.t 1], none⟩,
      ⟨none, .store 1, [.t 18, .t 11], none⟩,
      ⟨some 19, .fadr 3, [.t 1], none⟩,
      ⟨none, .store 1, [.t 19, .t 14], none⟩,
      ⟨some 20, .fadr 5, [.t 1], none⟩,
      ⟨none, .store 1, [.t 20, .t 17], none⟩] [0, 1, 2, 3, 4, 5, 6, 7, 8, 9, 10, 11, 12, 13, 14] none [(2, 3), (2, 4), (2, 6), (2, 7), (5, 6), (5, 7), (5, 9), (8, 9)]) [1, 2])
  (.seq (.seq (.kpost (.reg [⟨some 21, .fadr 3, [.t 1], none⟩,
       ⟨some 22, .load none, [.t 21], none⟩,
       ⟨some 23, .len, [.t 22], none⟩,
       ⟨some 24, .mv, [.c (.int .i64 0)], none⟩]) [1, 2, 22, 23, 24])
   (.block 0 (.kpre [1, 2, 22, 23, 24] (.loop (.kpost (.seq (.kpost (.reg [⟨some 25, .bin .lss 0, [.t 24, .t 23], none⟩]) [1, 2, 22, 23, 24, 25])
       (.seq (.cond (.t 25)
         .skip
         (.exit 0))
       (.seq (.block 1 (.seq (.kpost (.reg [⟨some 26, .mv, [.t 24], none⟩,
             ⟨some 27, .iadr 3, [.t 22, .t 24], none⟩,
             ⟨some 28, .load (some 3), [.t 27], none⟩,
             ⟨some 4, .alloc 8 95 [.int .i64 0, .int .i64 0, .nils 48 5], [], none⟩,
             ⟨some 3, .mv, [.t 26], none⟩,
             ⟨none, .store 3, [.t 4, .t 28], none⟩]) [1, 2, 3, 4, 22, 23, 24])
         (.kpost (.regD [⟨some 29, .fadr 3, [.t 1], none⟩,
            ⟨some 30, .load none, [.t 29], none⟩,
            ⟨some 31, .mv, [.t 3], none⟩,
            ⟨some 32, .fadr 2, [.t 4], none⟩,
            ⟨some 33, .load none, [.t 32], none⟩,
            ⟨some 34, .call 72 [9, 10] 1, [.t 33], none⟩,
            ⟨some 35, .iadr 3, [.t 30, .t 31], none⟩,
            ⟨some 36, .fadr 2, [.t 35], none⟩,
            ⟨none, .store 1, [.t 36, .t 34], none⟩] [0, 1, 2, 3, 4, 5, 6, 7, 8] none [(0, 5), (1, 5)]) [1, 2, 22, 23, 24])))
       (.kpost (.reg [⟨some 37, .bin .add 0, [.t 24, .c (.int .i64 1)], none⟩,
          ⟨some 24, .mv, [.t 37], none⟩]) [1, 2, 22, 23, 24])))) [1, 2, 22, 23, 24])))))
  (.seq (.kpost (.reg [⟨some 38, .load (some 6), [.t 1], none⟩,
      ⟨none, .store 6, [.t 2, .t 38], none⟩]) [2])
  .ret))))) }
/-- waggoner/extmap.Check -/
def i37 : IFn := { ns := 1, nt := 50, res := [.t 4], body :=
  (.seq (.kpost (.reg [⟨some 4, .mv, [.c (.bool false)], none⟩]) [0, 1])
  (.seq (.kpost (.reg [⟨some 5, .mv, [.c (.int .i64 0)], none⟩]) [0, 1, 5])
  (.seq (.seq (.kpost (.reg [⟨some 8, .mv, [.t 1], none⟩,
       ⟨some 9, .len, [.t 8], none⟩,
       ⟨some 10, .mv, [.c (.int .i64 0)], none⟩]) [0, 1, 5, 8, 9, 10])
   (.block 0 (.kpre [0, 1, 5, 8, 9, 10] (.loop (.kpost (.seq (.kpost (.reg [⟨some 11, .bin .lss 0, [.t 10, .t 9], none⟩]) [0, 1, 5, 8, 9, 10, 11])
       (.seq (.cond (.t 11)
         .skip
         (.exit 0))
       (.seq (.block 1 (.seq (.kpost (.reg [⟨some 12, .mv, [.t 10], none⟩,
             ⟨some 13, .iadr 5, [.t 8, .t 10], none⟩,
             ⟨some 14, .load (some 5), [.t 13], none⟩,
             ⟨some 7, .alloc 0 48 [.int .i64 0, .int .i64 0, .int .i64 0, .int .i64 0, .nils 5 1], [], none⟩,
             ⟨some 6, .mv, [.t 12], none⟩,
             ⟨none, .store 5, [.t 7, .t 14], none⟩]) [0, 1, 5, 6, 7, 8, 9, 10])
         (.seq (.seq (.kpost (.regD [⟨some 15, .load (some 5), [.t 7], none⟩,
              ⟨some 16, .call 75 [] 0, [.t 15], none⟩,
              ⟨some 17, .bnot, [.t 16], none⟩,
              ⟨some 18, .mv, [.t 17], none⟩,
              ⟨some 19, .fadr 0, [.t 7], some (18, false)⟩,
              ⟨some 20, .load none, [.t 19], some (18, false)⟩,
              ⟨some 21, .mv, [.t 5], some (18, false)⟩,
              ⟨some 22, .bin .neq 0, [.t 20, .t 21], some (18, false)⟩,
              ⟨some 23, .pick, [.t 18, .c (.bool true), .t 22], none⟩,
              ⟨some 24, .mv, [.t 23], none⟩,
              ⟨some 25, .mv, [.t 6], some (24, false)⟩,
              ⟨some 26, .bin .gtr 0, [.t 25, .c (.int .i64 0)], some (24, false)⟩,
              ⟨some 27, .mv, [.t 26], some (24, false)⟩,
              ⟨some 28, .mv, [.t 1], some (27, true)⟩,
              ⟨some 29, .mv, [.t 6], some (27, true)⟩,
              ⟨some 30, .bin .sub 0, [.t 29, .c (.int .i64 1)], some (27, true)⟩,
              ⟨some 31, .iadr 5, [.t 28, .t 30], some (27, true)⟩,
              ⟨some 32, .load (some 5), [.t 31], some (27, true)⟩,
              ⟨some 33, .load (some 5), [.t 7], some (27, true)⟩,
              ⟨some 34, .call 76 [] 0, [.t 32, .t 33], some (27, true)⟩,
              ⟨some 35, .pick, [.t 27, .t 34, .c (.bool false)], some (24, false)⟩,
              ⟨some 36, .pick, [.t 24, .c (.bool true), .t 35], none⟩] [0, 1, 2, 3, 4, 5, 6, 7, 8, 9, 10, 11, 12, 13, 14, 15, 16, 17, 18, 19, 20, 21] none []) [0, 1, 5, 7, 8, 9, 10, 36])
          (.cond (.t 36)
           (.seq (.kpost (.reg [⟨some 4, .mv, [.c (.bool false)], none⟩]) [4])
            .ret)
           .skip))
         (.kpost (.reg [⟨some 37, .mv, [.t 5], none⟩,
            ⟨some 38, .fadr 1, [.t 7], none⟩,
            ⟨some 39, .load none, [.t 38], none⟩,
            ⟨some 40, .bin .add 0, [.t 37, .t 39], none⟩,
            ⟨some 5, .mv, [.t 40], none⟩]) [0, 1, 5, 8, 9, 10]))))
       (.kpost (.reg [⟨some 41, .bin .add 0, [.t 10, .c (.int .i64 1)], none⟩,
          ⟨some 10, .mv, [.t 41], none⟩]) [0, 1, 5, 8, 9, 10])))) [0, 1, 5, 8, 9, 10])))))
  (.seq (.kpost (.reg [⟨some 42, .mv, [.t 1], none⟩,
      ⟨some 43, .len, [.t 42], none⟩,
      ⟨some 44, .bin .gtr 0, [.t 43, .c (.int .i64 0)], none⟩,
      ⟨some 45, .mv, [.t 44], none⟩,
      ⟨some 46, .mv, [.t 5], some (45, true)⟩,
      ⟨some 47, .mv, [.t 0], some (45, true)⟩,
      ⟨some 48, .bin .eql 0, [.t 46, .t 47], some (45, true)⟩,
      ⟨some 49, .pick, [.t 45, .t 48, .c (.bool false)], none⟩,
      ⟨some 4, .mv, [.t 49], none⟩]) [4])
  .ret)))) }
/-- waggoner/extent.Bytes -/
def i38 : IFn := { ns := 2, nt := 16, res := [.t 2], body :=
  (.seq (.kpost (.reg [⟨some 1, .box 0 48, [.t 0], none⟩,
      ⟨some 2, .mv, [.c (.nils 5 1)], none⟩]) [1])
  (.seq (.seq (.kpost (.reg [⟨some 4, .load (some 5), [.t 1], none⟩,
       ⟨some 5, .call 75 [] 0, [.t 4], none⟩,
       ⟨some 6, .bnot, [.t 5], none⟩]) [1, 6])
   (.cond (.t 6)
    (.seq (.kpost (.reg [⟨some 2, .mv, [.c (.nils 5 1)], none⟩]) [2])
     .ret)
    .skip))
  (.seq (.kpost (.reg [⟨some 7, .fadr 1, [.t 1], none⟩,
      ⟨some 8, .load none, [.t 7], none⟩,
      ⟨some 9, .bin .mul 0, [.t 8, .c (.int .i64 32)], none⟩,
      ⟨some 10, .mkslice 1 5 1 1 [.int .u8 0], [.t 9, .t 9], none⟩,
      ⟨some 3, .mv, [.t 10], none⟩]) [1, 3])
  (.seq (.kpost (.reg [⟨some 11, .mv, [.t 3], none⟩,
      ⟨some 12, .fadr 4, [.t 1], none⟩,
      ⟨some 13, .load none, [.t 12], none⟩,
      ⟨some 14, .copy 1, [.t 11, .t 13], none⟩]) [3])
  (.seq (.kpost (.reg [⟨some 15, .mv, [.t 3], none⟩,
      ⟨some 2, .mv, [.t 15], none⟩]) [2])
  .ret))))) }
/-- waggoner/image.Fill -/
def i39 : IFn := { ns := 22, nt := 25, res := [.t 10, .t 11], body :=
  (.seq (.kpost (.reg [⟨some 8, .box 0 3, [.t 3], none⟩,
      ⟨some 9, .box 1 3, [.t 4], none⟩,
      ⟨some 10, .mv, [.c (.nils 90 34)], none⟩,
      ⟨some 11, .mv, [.c (.int .i64 0)], none⟩]) [0, 1, 2, 8, 9])
  (.seq (.kpost (.reg [⟨some 12, .mv, [.t 0], none⟩,
      ⟨some 13, .mv, [.t 1], none⟩,
      ⟨some 14, .mv, [.t 2], none⟩,
      ⟨some 15, .load none, [.t 8], none⟩,
      ⟨some 16, .call 78 [] 0, [.t 15, .c (.int .i64 0), .c (.int .i64 1)], none⟩,
      ⟨some 17, .mv, [.t 16], none⟩,
      ⟨some 18, .load none, [.t 9], some (17, true)⟩,
      ⟨some 19, .call 78 [] 0, [.t 18, .c (.int .i64 0), .c (.int .i64 2147483647)], some (17, true)⟩,
      ⟨some 20, .pick, [.t 17, .t 19, .c (.bool false)], none⟩,
      ⟨some 21, .mkfn 79 0, [.t 8, .t 9], none⟩,
      ⟨some 22, .call 77 [2, 3, 4, 5, 6, 7, 8, 9, 10, 11, 12, 13, 14, 15, 16, 17, 18, 19, 20, 21] 1, [.t 12, .t 13, .t 14, .t 20, .t 21], none⟩,
      ⟨some 23, .extr 0, [.t 22], none⟩,
      ⟨some 24, .extr 1, [.t 22], none⟩,
      ⟨some 10, .mv, [.t 23], none⟩,
      ⟨some 11, .mv, [.t 24], none⟩]) [10, 11])
  .ret)) }
/-- waggoner/waggonerref07.All -/
def i40 : IFn := { ns := 0, nt := 29, res := [.t 4], body :=
  (.seq (.kpost (.reg [⟨some 4, .mv, [.c (.bool false)], none⟩]) [0, 1])
  (.seq (.seq (.kpost (.reg [⟨some 7, .mv, [.t 0], none⟩,
       ⟨some 8, .len, [.t 7], none⟩,
       ⟨some 9, .mv, [.t 1], none⟩,
       ⟨some 10, .len, [.t 9], none⟩,
       ⟨some 11, .bin .neq 0, [.t 8, .t 10], none⟩]) [0, 1, 11])
   (.cond (.t 11)
    (.seq (.kpost (.reg [⟨some 4, .mv, [.c (.bool false)], none⟩]) [4])
     .ret)
    .skip))
  (.seq (.seq (.kpost (.reg [⟨some 5, .mv, [.c (.int .i64 0)], none⟩]) [0, 1, 5])
   (.block 0 (.kpre [0, 1, 5] (.loop (.kpost (.seq (.seq (.kpost (.reg [⟨some 12, .mv, [.t 5], none⟩,
            ⟨some 13, .mv, [.t 0], none⟩,
            ⟨some 14, .len, [.t 13], none⟩,
            ⟨some 15, .bin .lss 0, [.t 12, .t 14], none⟩]) [0, 1, 5, 15])
        (.cond (.t 15)
         .skip
         (.exit 0)))
       (.seq (.block 1 (.seq (.kpost (.regD [⟨some 18, .mv, [.t 0], none⟩,
             ⟨some 19, .mv, [.t 5], none⟩,
             ⟨some 20, .iadr 5, [.t 18, .t 19], none⟩,
             ⟨some 21, .load (some 5), [.t 20], none⟩,
             ⟨some 22, .mv, [.t 1], none⟩,
             ⟨some 23, .mv, [.t 5], none⟩,
             ⟨some 24, .iadr 5, [.t 22, .t 23], none⟩,
             ⟨some 25, .load (some 5), [.t 24], none⟩,
             ⟨some 26, .call 80 [] 0, [.t 21, .t 25], none⟩,
             ⟨some 6, .mv, [.t 26], none⟩] [0, 1, 2, 3, 4, 5, 6, 7, 8, 9] none []) [0, 1, 5, 6])
         (.seq (.kpost (.reg [⟨some 27, .mv, [.t 6], none⟩,
             ⟨some 28, .bnot, [.t 27], none⟩]) [0, 1, 5, 28])
         (.cond (.t 28)
          (.seq (.kpost (.reg [⟨some 4, .mv, [.c (.bool false)], none⟩]) [4])
           .ret)
          .skip))))
       (.kpost (.reg [⟨some 16, .mv, [.t 5], none⟩,
          ⟨some 17, .bin .add 0, [.t 16, .c (.int .i64 1)], none⟩,
          ⟨some 5, .mv, [.t 17], none⟩]) [0, 1, 5]))) [0, 1, 5])))))
  (.seq (.kpost (.reg [⟨some 4, .mv, [.c (.bool true)], none⟩]) [4])
  .ret)))) }
/-- waggoner/waggonerref11.Points -/
def i41 : IFn := { ns := 2, nt := 26, res := [.t 4], body :=
  (.seq (.kpost (.reg [⟨some 2, .box 0 95, [.t 0], none⟩,
      ⟨some 3, .box 1 95, [.t 1], none⟩,
      ⟨some 4, .mv, [.c (.bool false)], none⟩]) [2, 3])
  (.seq (.kpost (.reg [⟨some 6, .fadr 2, [.t 2], none⟩,
      ⟨some 7, .load none, [.t 6], none⟩,
      ⟨some 8, .fadr 2, [.t 3], none⟩,
      ⟨some 9, .load none, [.t 8], none⟩,
      ⟨some 10, .call 40 [] 0, [.t 7, .t 9], none⟩,
      ⟨some 5, .mv, [.t 10], none⟩]) [2, 3, 5])
  (.seq (.kpost (.reg [⟨some 11, .fadr 0, [.t 2], none⟩,
      ⟨some 12, .load none, [.t 11], none⟩,
      ⟨some 13, .fadr 0, [.t 3], none⟩,
      ⟨some 14, .load none, [.t 13], none⟩,
      ⟨some 15, .bin .eql 0, [.t 12, .t 14], none⟩,
      ⟨some 16, .mv, [.t 15], none⟩,
      ⟨some 17, .fadr 1, [.t 2], some (16, true)⟩,
      ⟨some 18, .load none, [.t 17], some (16, true)⟩,
      ⟨some 19, .fadr 1, [.t 3], some (16, true)⟩,
      ⟨some 20, .load none, [.t 19], some (16, true)⟩,
      ⟨some 21, .bin .eql 0, [.t 18, .t 20], some (16, true)⟩,
      ⟨some 22, .pick, [.t 16, .t 21, .c (.bool false)], none⟩,
      ⟨some 23, .mv, [.t 22], none⟩,
      ⟨some 24, .mv, [.t 5], some (23, true)⟩,
      ⟨some 25, .pick, [.t 23, .t 24, .c (.bool false)], none⟩,
      ⟨some 4, .mv, [.t 25], none⟩]) [4])
  .ret))) }
/-- waggoner/dev.Limit -/
def i42 : IFn := { ns := 23, nt := 8, res := [.cell 4 (some 5)], body :=
  (.seq (.kpost (.reg [⟨some 2, .box 0 51, [.t 0], none⟩,
      ⟨some 3, .box 1 3, [.t 1], none⟩,
      ⟨some 4, .alloc 2 51 [.int .i64 0, .nils 54 4, .int .i64 0, .bool false, .int .i64 0], [], none⟩]) [2, 3, 4])
  (.seq (.kpost (.reg [⟨some 5, .load (some 5), [.t 2], none⟩,
      ⟨some 6, .mkfn 82 0, [.t 3], none⟩,
      ⟨some 7, .call 81 [3, 4, 5, 6, 7, 8, 9, 10, 11, 12, 13, 14, 15, 16, 17, 18, 19, 20, 21, 22] 1, [.t 5, .t 6], none⟩,
      ⟨none, .store 5, [.t 4, .t 7], none⟩]) [4])
  .ret)) }
/-- waggoner/waggonerref03.Same -/
def i43 : IFn := { ns := 2, nt := 33, res := [.t 4], body :=
  (.seq (.kpost (.reg [⟨some 2, .box 0 54, [.t 0], none⟩,
      ⟨some 3, .box 1 54, [.t 1], none⟩,
      ⟨some 4, .mv, [.c (.bool false)], none⟩]) [2, 3])
  (.seq (.kpost (.reg [⟨some 5, .fadr 0, [.t 2], none⟩,
      ⟨some 6, .load none, [.t 5], none⟩,
      ⟨some 7, .fadr 0, [.t 3], none⟩,
      ⟨some 8, .load none, [.t 7], none⟩,
      ⟨some 9, .bin .eql 0, [.t 6, .t 8], none⟩,
      ⟨some 10, .mv, [.t 9], none⟩,
      ⟨some 11, .fadr 1, [.t 2], some (10, true)⟩,
      ⟨some 12, .load none, [.t 11], some (10, true)⟩,
      ⟨some 13, .fadr 1, [.t 3], some (10, true)⟩,
      ⟨some 14, .load none, [.t 13], some (10, true)⟩,
      ⟨some 15, .bin .eql 0, [.t 12, .t 14], some (10, true)⟩,
      ⟨some 16, .pick, [.t 10, .t 15, .c (.bool false)], none⟩,
      ⟨some 17, .mv, [.t 16], none⟩,
      ⟨some 18, .fadr 2, [.t 2], some (17, true)⟩,
      ⟨some 19, .load none, [.t 18], some (17, true)⟩,
      ⟨some 20, .tostr, [.t 19], some (17, true)⟩,
      ⟨some 21, .fadr 2, [.t 3], some (17, true)⟩,
      ⟨some 22, .load none, [.t 21], some (17, true)⟩,
      ⟨some 23, .tostr, [.t 22], some (17, true)⟩,
      ⟨some 24, .bin .eql 2, [.t 20, .t 23], some (17, true)⟩,
      ⟨some 25, .pick, [.t 17, .t 24, .c (.bool false)], none⟩,
      ⟨some 26, .mv, [.t 25], none⟩,
      ⟨some 27, .fadr 3, [.t 2], some (26, true)⟩,
      ⟨some 28, .load none, [.t 27], some (26, true)⟩,
      ⟨some 29, .fadr 3, [.t 3], some (26, true)⟩,
      ⟨some 30, .load none, [.t 29], some (26, true)⟩,
      ⟨some 31, .bin .eql 0, [.t 28, .t 30], some (26, true)⟩,
      ⟨some 32, .pick, [.t 26, .t 31, .c (.bool false)], none⟩,
      ⟨some 4, .mv, [.t 32], none⟩]) [4])
  .ret)) }
/-- waggoner/extmap.Many -/
def i44 : IFn := { ns := 1, nt := 27, res := [.t 4], body :=
  (.seq (.kpost (.reg [⟨some 4, .mv, [.c (.int .i64 0)], none⟩]) [0, 1, 4])
  (.seq (.seq (.kpost (.reg [⟨some 7, .mv, [.t 0], none⟩,
       ⟨some 8, .len, [.t 7], none⟩,
       ⟨some 9, .mv, [.c (.int .i64 0)], none⟩]) [1, 4, 7, 8, 9])
   (.block 0 (.kpre [1, 4, 7, 8, 9] (.loop (.kpost (.seq (.kpost (.reg [⟨some 10, .bin .lss 0, [.t 9, .t 8], none⟩]) [1, 4, 7, 8, 9, 10])
       (.seq (.cond (.t 10)
         .skip
         (.exit 0))
       (.seq (.block 1 (.seq (.kpost (.reg [⟨some 11, .iadr 5, [.t 7, .t 9], none⟩,
             ⟨some 12, .load (some 5), [.t 11], none⟩,
             ⟨some 6, .alloc 0 48 [.int .i64 0, .int .i64 0, .int .i64 0, .int .i64 0, .nils 5 1], [], none⟩,
             ⟨none, .store 5, [.t 6, .t 12], none⟩]) [1, 4, 6, 7, 8, 9])
         (.seq (.kpost (.reg [⟨some 13, .load (some 5), [.t 6], none⟩,
             ⟨some 14, .call 75 [] 0, [.t 13], none⟩,
             ⟨some 15, .mv, [.t 14], none⟩,
             ⟨some 16, .fadr 2, [.t 6], some (15, true)⟩,
             ⟨some 17, .load none, [.t 16], some (15, true)⟩,
             ⟨some 18, .mv, [.t 1], some (15, true)⟩,
             ⟨some 19, .bin .eql 0, [.t 17, .t 18], some (15, true)⟩,
             ⟨some 20, .pick, [.t 15, .t 19, .c (.bool false)], none⟩]) [1, 4, 6, 7, 8, 9, 20])
         (.cond (.t 20)
          (.kpost (.reg [⟨some 21, .mv, [.t 4], none⟩,
              ⟨some 22, .fadr 1, [.t 6], none⟩,
              ⟨some 23, .load none, [.t 22], none⟩,
              ⟨some 24, .bin .add 0, [.t 21, .t 23], none⟩,
              ⟨some 4, .mv, [.t 24], none⟩]) [1, 4, 7, 8, 9])
          .skip))))
       (.kpost (.reg [⟨some 25, .bin .add 0, [.t 9, .c (.int .i64 1)], none⟩,
          ⟨some 9, .mv, [.t 25], none⟩]) [1, 4, 7, 8, 9])))) [1, 4, 7, 8, 9])))))
  (.seq (.kpost (.reg [⟨some 26, .mv, [.t 4], none⟩,
      ⟨some 4, .mv, [.t 26], none⟩]) [4])
  .ret))) }
/-- waggoner/log.Empty -/
def i45 : IFn := { ns := 2, nt := 19, res := [.t 2], body :=
  (.seq (.kpost (.reg [⟨some 1, .box 0 51, [.t 0], none⟩,
      ⟨some 2, .mv, [.c (.int .i64 0)], none⟩]) [1, 2])
  (.seq (.seq (.kpost (.reg [⟨some 5, .fadr 1, [.t 1], none⟩,
       ⟨some 6, .load none, [.t 5], none⟩,
       ⟨some 7, .len, [.t 6], none⟩,
       ⟨some 8, .mv, [.c (.int .i64 0)], none⟩]) [2, 6, 7, 8])
   (.block 0 (.kpre [2, 6, 7, 8] (.loop (.kpost (.seq (.kpost (.reg [⟨some 9, .bin .lss 0, [.t 8, .t 7], none⟩]) [2, 6, 7, 8, 9])
       (.seq (.cond (.t 9)
         .skip
         (.exit 0))
       (.seq (.block 1 (.seq (.kpost (.reg [⟨some 10, .iadr 4, [.t 6, .t 8], none⟩,
             ⟨some 11, .load (some 4), [.t 10], none⟩,
             ⟨some 4, .alloc 1 54 [.int .i64 0, .int .i64 0, .nils 5 1, .int .i64 0], [], none⟩,
             ⟨none, .store 4, [.t 4, .t 11], none⟩]) [2, 4, 6, 7, 8])
         (.seq (.kpost (.reg [⟨some 12, .fadr 0, [.t 4], none⟩,
             ⟨some 13, .load none, [.t 12], none⟩,
             ⟨some 14, .bin .eql 0, [.t 13, .c (.int .i64 0)], none⟩]) [2, 6, 7, 8, 14])
         (.cond (.t 14)
          (.kpost (.reg [⟨some 15, .mv, [.t 2], none⟩,
              ⟨some 16, .bin .add 0, [.t 15, .c (.int .i64 1)], none⟩,
              ⟨some 2, .mv, [.t 16], none⟩]) [2, 6, 7, 8])
          .skip))))
       (.kpost (.reg [⟨some 17, .bin .add 0, [.t 8, .c (.int .i64 1)], none⟩,
          ⟨some 8, .mv, [.t 17], none⟩]) [2, 6, 7, 8])))) [2, 6, 7, 8])))))
  (.seq (.kpost (.reg [⟨some 18, .mv, [.t 2], none⟩,
      ⟨some 2, .mv, [.t 18], none⟩]) [2])
  .ret))) }
/-- waggoner/space.Need -/
def i46 : IFn := { ns := 33, nt := 30, res := [.t 4], body :=
  (.seq (.kpost (.reg [⟨some 3, .box 0 3, [.t 1], none⟩,
      ⟨some 4, .mv, [.c (.int .i64 0)], none⟩]) [0, 3])
  (.seq (.seq (.kpost (.reg [⟨some 8, .mv, [.t 0], none⟩,
       ⟨some 9, .call 83 [] 0, [.t 8], none⟩,
       ⟨some 10, .bnot, [.t 9], none⟩,
       ⟨some 11, .mv, [.t 10], none⟩,
       ⟨some 12, .load none, [.t 3], some (11, false)⟩,
       ⟨some 13, .call 84 [] 0, [.t 12], some (11, false)⟩,
       ⟨some 14, .bnot, [.t 13], some (11, false)⟩,
       ⟨some 15, .pick, [.t 11, .c (.bool true), .t 14], none⟩]) [0, 3, 15])
   (.cond (.t 15)
    (.seq (.kpost (.reg [⟨some 4, .mv, [.c (.int .i64 0)], none⟩]) [4])
     .ret)
    .skip))
  (.seq (.kpost (.reg [⟨some 16, .mkfn 85 0, [.t 3], none⟩,
      ⟨some 5, .mv, [.t 16], none⟩]) [0, 5])
  (.seq (.kpost (.reg [⟨some 18, .mv, [.t 0], none⟩,
      ⟨some 19, .call 47 [] 0, [.t 18], none⟩,
      ⟨some 17, .mv, [.t 19], none⟩,
      ⟨some 20, .extr 0, [.t 17], none⟩,
      ⟨some 21, .extr 1, [.t 17], none⟩,
      ⟨some 6, .mv, [.t 20], none⟩,
      ⟨some 7, .mv, [.t 21], none⟩]) [0, 5, 6])
  (.seq (.kpost (.reg [⟨some 22, .mv, [.t 5], none⟩,
      ⟨some 23, .mv, [.t 0], none⟩,
      ⟨some 24, .call 86 [] 0, [.t 23], none⟩,
      ⟨some 25, .callv [1, 2, 3, 4, 5, 6, 7, 8, 9, 10, 11, 12, 13, 14, 15, 16] 0, [.t 22, .t 24], none⟩,
      ⟨some 26, .mv, [.t 5], none⟩,
      ⟨some 27, .mv, [.t 6], none⟩,
      ⟨some 28, .callv [17, 18, 19, 20, 21, 22, 23, 24, 25, 26, 27, 28, 29, 30, 31, 32] 0, [.t 26, .t 27], none⟩,
      ⟨some 29, .bin .add 0, [.t 25, .t 28], none⟩,
      ⟨some 4, .mv, [.t 29], none⟩]) [4])
  .ret))))) }
/-- waggoner/space.Snap -/
def i47 : IFn := { ns := 0, nt := 30, res := [.t 2, .t 3], body :=
  (.seq (.kpost (.reg [⟨some 2, .mv, [.c (.int .i64 0)], none⟩,
      ⟨some 3, .mv, [.c (.int .i64 0)], none⟩]) [0])
  (.seq (.seq (.kpost (.reg [⟨some 6, .mv, [.t 0], none⟩,
       ⟨some 7, .call 83 [] 0, [.t 6], none⟩,
       ⟨some 8, .bnot, [.t 7], none⟩]) [0, 8])
   (.cond (.t 8)
    (.seq (.kpost (.reg [⟨some 2, .mv, [.c (.int .i64 0)], none⟩,
         ⟨some 3, .mv, [.c (.int .i64 0)], none⟩]) [2, 3])
     .ret)
    .skip))
  (.seq (.kpost (.reg [⟨some 9, .mv, [.t 0], none⟩,
      ⟨some 10, .call 87 [] 0, [.t 9], none⟩,
      ⟨some 11, .bin .add 0, [.c (.int .i64 4016), .t 10], none⟩,
      ⟨some 12, .mv, [.t 0], none⟩,
      ⟨some 13, .call 87 [] 0, [.t 12], none⟩,
      ⟨some 14, .bin .add 0, [.c (.int .i64 8), .t 13], none⟩,
      ⟨some 15, .bin .mul 0, [.c (.int .i64 4), .t 14], none⟩,
      ⟨some 16, .bin .add 0, [.t 11, .t 15], none⟩,
      ⟨some 4, .mv, [.t 16], none⟩]) [4])
  (.seq (.kpost (.reg [⟨some 17, .mv, [.t 4], none⟩,
      ⟨some 18, .bin .add 0, [.t 17, .c (.int .i64 4096)], none⟩,
      ⟨some 19, .bin .sub 0, [.t 18, .c (.int .i64 1)], none⟩,
      ⟨some 20, .bin .quo 0, [.t 19, .c (.int .i64 4096)], none⟩,
      ⟨some 5, .mv, [.t 20], none⟩]) [4, 5])
  (.seq (.kpost (.reg [⟨some 21, .mv, [.t 4], none⟩,
      ⟨some 22, .mv, [.t 5], none⟩,
      ⟨some 23, .call 88 [] 0, [.c (.int .i64 0)], none⟩,
      ⟨some 24, .bin .mul 0, [.t 22, .t 23], none⟩,
      ⟨some 25, .bin .add 0, [.t 21, .t 24], none⟩,
      ⟨some 26, .call 88 [] 0, [.c (.int .i64 2)], none⟩,
      ⟨some 27, .bin .add 0, [.t 25, .t 26], none⟩,
      ⟨some 28, .mv, [.t 5], none⟩,
      ⟨some 29, .bin .add 0, [.t 28, .c (.int .i64 1)], none⟩,
      ⟨some 2, .mv, [.t 27], none⟩,
      ⟨some 3, .mv, [.t 29], none⟩]) [2, 3])
  .ret))))) }
/-- waggoner/space.Takes -/
def i48 : IFn := { ns := 0, nt := 15, res := [.t 4], body :=
  (.seq (.kpost (.reg [⟨some 4, .mv, [.c (.int .i64 0)], none⟩]) [0, 1])
  (.seq (.seq (.kpost (.reg [⟨some 5, .mv, [.t 1], none⟩,
       ⟨some 6, .call 84 [] 0, [.t 5], none⟩,
       ⟨some 7, .bnot, [.t 6], none⟩]) [0, 1, 7])
   (.cond (.t 7)
    (.seq (.kpost (.reg [⟨some 4, .mv, [.c (.int .i64 0)], none⟩]) [4])
     .ret)
    .skip))
  (.seq (.kpost (.reg [⟨some 8, .mv, [.t 0], none⟩,
      ⟨some 9, .max2, [.t 8, .c (.int .i64 0)], none⟩,
      ⟨some 10, .mv, [.t 1], none⟩,
      ⟨some 11, .call 88 [] 0, [.c (.int .i64 4096)], none⟩,
      ⟨some 12, .bin .sub 0, [.t 10, .t 11], none⟩,
      ⟨some 13, .bin .quo 0, [.t 9, .t 12], none⟩,
      ⟨some 14, .bin .add 0, [.t 13, .c (.int .i64 1)], none⟩,
      ⟨some 4, .mv, [.t 14], none⟩]) [4])
  .ret))) }
/-- waggoner/space.held[int] -/
def i49 : IFn := { ns := 0, nt := 12, res := [.t 6], body :=
  (.seq (.kpost (.reg [⟨some 6, .mv, [.c (.int .i64 0)], none⟩]) [0, 1, 2])
  (.seq (.kpost (.reg [⟨some 7, .mv, [.t 0], none⟩,
      ⟨some 8, .mv, [.t 1], none⟩,
      ⟨some 9, .max2, [.t 7, .t 8], none⟩,
      ⟨some 10, .mv, [.t 2], none⟩,
      ⟨some 11, .min2, [.t 9, .t 10], none⟩,
      ⟨some 6, .mv, [.t 11], none⟩]) [6])
  .ret)) }
/-- (*waggoner/volume.Volume).may -/
def i50 : IFn := { ns := 0, nt := 19, res := [.t 2], body :=
  (.seq (.kpost (.reg [⟨some 2, .mv, [.c (.int .i64 0)], none⟩]) [0])
  (.seq (.block 0 (.seq (.kpost (.reg [⟨some 4, .mv, [.t 0], none⟩,
        ⟨some 5, .bin .eql 3, [.t 4, .c (.nilp)], none⟩,
        ⟨some 3, .mv, [.t 5], none⟩]) [0, 3])
    (.cond (.t 3)
     (.seq (.kpost (.reg [⟨some 2, .mv, [.c (.int .i64 1)], none⟩]) [2])
      .ret)
     (.seq (.kpost (.reg [⟨some 7, .mv, [.t 0], none⟩,
          ⟨some 8, .nilchk, [.t 7], none⟩,
          ⟨some 9, .fadr 14, [.t 8], none⟩,
          ⟨some 10, .load none, [.t 9], none⟩,
          ⟨some 11, .bnot, [.t 10], none⟩,
          ⟨some 6, .mv, [.t 11], none⟩]) [0, 6])
      (.cond (.t 6)
       (.seq (.kpost (.reg [⟨some 2, .mv, [.c (.int .i64 141)], none⟩]) [2])
        .ret)
       (.seq (.kpost (.reg [⟨some 13, .mv, [.t 0], none⟩,
            ⟨some 14, .nilchk, [.t 13], none⟩,
            ⟨some 15, .fadr 0, [.t 14], none⟩,
            ⟨some 16, .fadr 0, [.t 15], none⟩,
            ⟨some 17, .fadr 3, [.t 16], none⟩,
            ⟨some 18, .load none, [.t 17], none⟩,
            ⟨some 12, .mv, [.t 18], none⟩]) [12])
        (.cond (.t 12)
         (.seq (.kpost (.reg [⟨some 2, .mv, [.c (.int .i64 40)], none⟩]) [2])
          .ret)
         .skip)))))))
  (.seq (.kpost (.reg [⟨some 2, .mv, [.c (.int .i64 0)], none⟩]) [2])
  .ret))) }
/-- (*waggoner/volume.Volume).call -/
def i51 : IFn := { ns := 19, nt := 13, res := [.cell 4 none], body :=
  (.seq (.kpost (.reg [⟨some 2, .box 0 24, [.t 0], none⟩,
      ⟨some 4, .alloc 1 31 [.int .i64 0], [], none⟩]) [1, 2, 4, 999990, 999991, 999992])
  (.seq (.kpost (.reg [⟨some 6, .load none, [.t 2], none⟩,
      ⟨some 7, .nilchk, [.t 6], none⟩,
      ⟨some 8, .fadr 7, [.t 7], none⟩,
      ⟨some 9, .load (some 6), [.t 8], none⟩,
      ⟨some 5, .alloc 2 30 [.int .i64 0, .int .i64 0, .nils 48 5, .nils 95 3, .int .i64 0, .nils 5 1], [], none⟩,
      ⟨none, .store 6, [.t 5, .t 9], none⟩]) [1, 2, 4, 5, 999990, 999991, 999992])
  (.seq (.kpost (.reg [⟨some 10, .mkfn 89 0, [.t 5, .t 4, .t 2], none⟩,
      ⟨none, .defer, [.t 10], none⟩]) [1, 4, 999990, 999991, 999992])
  (.seq (.kpost (.reg [⟨some 11, .mv, [.t 1], none⟩,
      ⟨some 12, .callv [3, 4, 5, 6, 7, 8, 9, 10, 11, 12, 13, 14, 15, 16, 17, 18] 0, [.t 11], none⟩]) [4, 999990, 999991, 999992])
  (.seq (.kpost (.reg [⟨none, .store 1, [.t 4, .c (.int .i64 0)], none⟩]) [4, 999990, 999991, 999992])
  .ret))))) }
/-- (*waggoner/volume.Volume).Sync$1 -/
def i52 : IFn := { ns := 4, nt := 5, res := [], body :=
  (.kpost (.reg [⟨some 1, .load none, [.t 0], none⟩,
     ⟨some 2, .nilchk, [.t 1], none⟩,
     ⟨some 3, .fadr 0, [.t 2], none⟩,
     ⟨some 4, .call 53 [0, 1, 2, 3] 0, [.t 3, .c (.int .i64 5), .c (.int .i64 0)], none⟩]) []) }
/-- (*waggoner/volume.journal).do -/
def i53 : IFn := { ns := 3, nt := 25, res := [], body :=
  (.seq (.kpost (.reg [⟨some 9, .mv, [.t 0], none⟩,
      ⟨some 10, .nilchk, [.t 9], none⟩,
      ⟨some 11, .fadr 0, [.t 10], none⟩,
      ⟨some 12, .load (some 5), [.t 11], none⟩,
      ⟨some 13, .mv, [.t 1], none⟩,
      ⟨some 14, .mv, [.t 2], none⟩,
      ⟨some 15, .build [.int .i64 0, .int .i64 0, .nils 5 1] [(0, 1), (1, 1)], [.t 13, .t 14], none⟩,
      ⟨some 16, .call 90 [0, 1] 1, [.t 12, .t 15], none⟩,
      ⟨some 8, .mv, [.t 16], none⟩,
      ⟨some 17, .extr 0, [.t 8], none⟩,
      ⟨some 18, .extr 1, [.t 8], none⟩,
      ⟨some 6, .alloc 2 51 [.int .i64 0, .nils 54 4, .int .i64 0, .bool false, .int .i64 0], [], none⟩,
      ⟨none, .store 5, [.t 6, .t 17], none⟩,
      ⟨some 7, .mv, [.t 18], none⟩]) [0, 6, 7])
  (.seq (.kpost (.reg [⟨some 19, .mv, [.t 0], none⟩,
      ⟨some 20, .load (some 5), [.t 6], none⟩,
      ⟨some 21, .nilchk, [.t 19], none⟩,
      ⟨some 22, .fadr 0, [.t 21], none⟩,
      ⟨none, .store 5, [.t 22, .t 20], none⟩]) [7])
  (.kpost (.reg [⟨some 23, .mv, [.t 7], none⟩,
     ⟨some 24, .call 65 [] 0, [.t 23], none⟩]) []))) }
/-- waggoner/dev.Crash -/
def i54 : IFn := { ns := 23, nt := 8, res := [.cell 4 (some 5)], body :=
  (.seq (.kpost (.reg [⟨some 2, .box 0 51, [.t 0], none⟩,
      ⟨some 3, .box 1 67, [.t 1], none⟩,
      ⟨some 4, .alloc 2 51 [.int .i64 0, .nils 54 4, .int .i64 0, .bool false, .int .i64 0], [], none⟩]) [2, 3, 4])
  (.seq (.kpost (.reg [⟨some 5, .load (some 5), [.t 2], none⟩,
      ⟨some 6, .mkfn 91 0, [.t 3], none⟩,
      ⟨some 7, .call 81 [3, 4, 5, 6, 7, 8, 9, 10, 11, 12, 13, 14, 15, 16, 17, 18, 19, 20, 21, 22] 1, [.t 5, .t 6], none⟩,
      ⟨none, .store 5, [.t 4, .t 7], none⟩]) [4])
  .ret)) }
/-- (*waggoner/volume.Volume).forget -/
def i55 : IFn := { ns := 0, nt := 17, res := [], body :=
  (.kpost (.reg [⟨some 2, .mv, [.t 0], none⟩,
     ⟨some 3, .mv, [.t 0], none⟩,
     ⟨some 4, .mv, [.t 0], none⟩,
     ⟨some 5, .mv, [.t 0], none⟩,
     ⟨some 6, .build [.int .i64 0, .int .i64 0, .nils 48 5, .nils 95 3, .int .i64 0, .nils 5 1] [], [], none⟩,
     ⟨some 7, .nilchk, [.t 2], none⟩,
     ⟨some 8, .fadr 7, [.t 7], none⟩,
     ⟨none, .store 6, [.t 8, .t 6], none⟩,
     ⟨some 9, .nilchk, [.t 3], none⟩,
     ⟨some 10, .fadr 0, [.t 9], none⟩,
     ⟨some 11, .fadr 5, [.t 10], none⟩,
     ⟨none, .store 1, [.t 11, .c (.int .i64 0)], none⟩,
     ⟨some 12, .nilchk, [.t 4], none⟩,
     ⟨some 13, .fadr 0, [.t 12], none⟩,
     ⟨some 14, .fadr 6, [.t 13], none⟩,
     ⟨none, .store 1, [.t 14, .c (.int .i64 0)], none⟩,
     ⟨some 15, .nilchk, [.t 5], none⟩,
     ⟨some 16, .fadr 14, [.t 15], none⟩,
     ⟨none, .store 1, [.t 16, .c (.bool false)], none⟩]) []) }
/-- waggoner/log.All -/
def i56 : IFn := { ns := 27, nt := 49, res := [.t 2, .t 3], body :=
  (.seq (.kpost (.reg [⟨some 1, .box 0 51, [.t 0], none⟩,
      ⟨some 2, .mv, [.c (.nils 118 5)], none⟩,
      ⟨some 3, .mv, [.c (.int .i64 0)], none⟩]) [1, 2])
  (.seq (.seq (.kpost (.reg [⟨some 10, .load (some 5), [.t 1], none⟩,
       ⟨some 11, .call 92 [] 0, [.t 10], none⟩,
       ⟨some 12, .bnot, [.t 11], none⟩]) [1, 2, 12])
   (.cond (.t 12)
    (.seq (.kpost (.reg [⟨some 2, .mv, [.c (.nils 118 5)], none⟩,
         ⟨some 3, .mv, [.c (.int .i64 1)], none⟩]) [2, 3])
     .ret)
    .skip))
  (.seq (.seq (.kpost (.reg [⟨some 13, .fadr 1, [.t 1], none⟩,
       ⟨some 14, .load none, [.t 13], none⟩,
       ⟨some 15, .len, [.t 14], none⟩,
       ⟨some 16, .mv, [.c (.int .i64 0)], none⟩]) [2, 14, 15, 16])
   (.block 0 (.kpre [2, 14, 15, 16] (.loop (.kpost (.seq (.kpost (.reg [⟨some 17, .bin .lss 0, [.t 16, .t 15], none⟩]) [2, 14, 15, 16, 17])
       (.seq (.cond (.t 17)
         .skip
         (.exit 0))
       (.seq (.block 1 (.seq (.kpost (.reg [⟨some 18, .mv, [.t 16], none⟩,
             ⟨some 19, .iadr 4, [.t 14, .t 16], none⟩,
             ⟨some 20, .load (some 4), [.t 19], none⟩,
             ⟨some 5, .alloc 1 54 [.int .i64 0, .int .i64 0, .nils 5 1, .int .i64 0], [], none⟩,
             ⟨some 4, .mv, [.t 18], none⟩,
             ⟨none, .store 4, [.t 5, .t 20], none⟩]) [2, 4, 5, 14, 15, 16])
         (.seq (.kpost (.reg [⟨some 22, .fadr 2, [.t 5], none⟩,
             ⟨some 23, .load none, [.t 22], none⟩,
             ⟨some 24, .call 94 [2, 3, 4, 5] 1, [.t 23], none⟩,
             ⟨some 21, .mv, [.t 24], none⟩,
             ⟨some 25, .extr 0, [.t 21], none⟩,
             ⟨some 26, .extr 1, [.t 21], none⟩,
             ⟨some 6, .mv, [.t 25], none⟩,
             ⟨some 7, .mv, [.t 26], none⟩]) [2, 4, 6, 7, 14, 15, 16])
         (.seq (.kpost (.reg [⟨some 27, .mv, [.t 6], none⟩,
             ⟨some 28, .len, [.t 27], none⟩,
             ⟨some 29, .mv, [.c (.int .i64 0)], none⟩]) [2, 4, 7, 14, 15, 16, 27, 28, 29])
         (.block 2 (.kpre [2, 4, 7, 14, 15, 16, 27, 28, 29] (.loop (.kpost (.seq (.kpost (.reg [⟨some 30, .bin .lss 0, [.t 29, .t 28], none⟩]) [2, 4, 7, 14, 15, 16, 27, 28, 29, 30])
             (.seq (.cond (.t 30)
               .skip
               (.exit 2))
             (.seq (.block 3 (.seq (.kpost (.reg [⟨some 31, .mv, [.t 29], none⟩,
                   ⟨some 32, .iadr 3, [.t 27, .t 29], none⟩,
                   ⟨some 33, .load (some 3), [.t 32], none⟩,
                   ⟨some 9, .alloc 6 116 [.int .i64 0, .int .i64 0, .nils 5 1], [], none⟩,
                   ⟨some 8, .mv, [.t 31], none⟩,
                   ⟨none, .store 3, [.t 9, .t 33], none⟩]) [2, 4, 7, 8, 9, 14, 15, 16, 27, 28, 29])
               (.kpost (.regD [⟨some 34, .mv, [.t 2], none⟩,
                  ⟨some 35, .load (some 3), [.t 9], none⟩,
                  ⟨some 36, .mv, [.t 4], none⟩,
                  ⟨some 37, .mv, [.t 7], none⟩,
                  ⟨some 38, .mv, [.t 8], none⟩,
                  ⟨some 39, .iadr 1, [.t 37, .t 38], none⟩,
                  ⟨some 40, .load none, [.t 39], none⟩,
                  ⟨some 41, .build [.int .i64 0, .int .i64 0, .nils 5 1, .int .i64 0, .int .i64 0] [(0, 3), (3, 1), (4, 1)], [.t 35, .t 36, .t 40], none⟩,
                  ⟨some 42, .bslice 7 118 5 [.int .i64 0, .int .i64 0, .imm 1 [], .int .i64 0, .int .i64 0] 1 [0], [.t 41], none⟩,
                  ⟨some 43, .app 8 118 5 56, [.t 34, .t 42], none⟩,
                  ⟨some 2, .mv, [.t 43], none⟩] [0, 1, 2, 3, 4, 5, 6, 7, 8, 9, 10] none []) [2, 4, 7, 14, 15, 16, 27, 28, 29])))
             (.kpost (.reg [⟨some 44, .bin .add 0, [.t 29, .c (.int .i64 1)], none⟩,
                ⟨some 29, .mv, [.t 44], none⟩]) [2, 4, 7, 14, 15, 16, 27, 28, 29])))) [2, 4, 7, 14, 15, 16, 27, 28, 29]))))))))
       (.kpost (.reg [⟨some 45, .bin .add 0, [.t 16, .c (.int .i64 1)], none⟩,
          ⟨some 16, .mv, [.t 45], none⟩]) [2, 14, 15, 16])))) [2, 14, 15, 16])))))
  (.seq (.kpost (.reg [⟨some 46, .mv, [.t 2], none⟩,
      ⟨some 47, .call 95 [9, 10, 11, 12, 13, 14, 15, 16, 17, 18, 19, 20, 21, 22, 23, 24, 25, 26] 2, [.t 46, .c (.fn 96 [] [])], none⟩]) [2])
  (.seq (.kpost (.reg [⟨some 48, .mv, [.t 2], none⟩,
      ⟨some 2, .mv, [.t 48], none⟩,
      ⟨some 3, .mv, [.c (.int .i64 0)], none⟩]) [2, 3])
  .ret))))) }
/-- waggoner/snap.Found -/
def i57 : IFn := { ns := 34, nt := 106, res := [.cell 2 (some 6), .cell 3 none, .cell 4 none, .cell 5 none], body :=
  (.seq (.kpost (.reg [⟨some 2, .alloc 0 30 [.int .i64 0, .int .i64 0, .nils 48 5, .nils 95 3, .int .i64 0, .nils 5 1], [], none⟩,
      ⟨some 3, .alloc 1 3 [.int .i64 0], [], none⟩,
      ⟨some 4, .alloc 2 3 [.int .i64 0], [], none⟩,
      ⟨some 5, .alloc 3 31 [.int .i64 0], [], none⟩]) [0, 2, 3, 4, 5, 6])
  (.scope (.seq (.kpost (.reg [⟨some 22, .mkmap 4, [], none⟩,
       ⟨some 6, .alloc 5 157 [.nilm], [], none⟩,
       ⟨none, .store 1, [.t 6, .t 22], none⟩]) [0, 2, 3, 4, 5, 6])
   (.seq (.seq (.kpost (.reg [⟨some 23, .mv, [.t 0], none⟩,
        ⟨some 24, .call 98 [6, 7, 8, 9, 10, 11] 1, [.t 23], none⟩]) [0, 2, 3, 4, 5, 6, 24])
    (.block 0 (.kpre [0, 2, 3, 4, 5, 6, 24] (.rangeF 12 (.t 24) [25, 26]
       (.kpost (.reg [⟨some 8, .alloc 13 118 [.int .i64 0, .int .i64 0, .nils 5 1, .int .i64 0, .int .i64 0], [], none⟩,
          ⟨none, .store 5, [.t 8, .t 26], none⟩]) [6, 8])
       (.block 1 (.kpost (.reg [⟨some 27, .load none, [.t 6], none⟩,
           ⟨some 28, .fadr 0, [.t 8], none⟩,
           ⟨some 29, .fadr 1, [.t 28], none⟩,
           ⟨some 30, .load none, [.t 29], none⟩,
           ⟨some 31, .fadr 0, [.t 8], none⟩,
           ⟨some 32, .load (some 3), [.t 31], none⟩,
           ⟨none, .mapset, [.t 27, .t 30, .t 32], none⟩]) []))))))
   (.seq (.label 0)
   (.seq (.seq (.kpost (.reg [⟨some 33, .mv, [.t 0], none⟩,
        ⟨some 34, .call 98 [14, 15, 16, 17, 18, 19] 1, [.t 33], none⟩]) [0, 2, 3, 4, 5, 6, 34])
    (.block 2 (.kpre [0, 2, 3, 4, 5, 6, 34] (.rangeF 20 (.t 34) [35, 36]
       (.kpost (.reg [⟨some 10, .alloc 21 118 [.int .i64 0, .int .i64 0, .nils 5 1, .int .i64 0, .int .i64 0], [], none⟩,
          ⟨none, .store 5, [.t 10, .t 36], none⟩]) [2, 3, 4, 5, 6, 10])
       (.block 3 (.seq (.kpost (.reg [⟨some 37, .fadr 0, [.t 10], none⟩,
            ⟨some 38, .load (some 3), [.t 37], none⟩,
            ⟨some 11, .alloc 22 116 [.int .i64 0, .int .i64 0, .nils 5 1], [], none⟩,
            ⟨none, .store 3, [.t 11, .t 38], none⟩]) [2, 3, 4, 5, 6, 11])
        (.seq (.kpost (.reg [⟨some 40, .fadr 2, [.t 11], none⟩,
            ⟨some 41, .load none, [.t 40], none⟩,
            ⟨some 42, .call 99 [23, 24] 1, [.t 41, .c (.int .i64 2)], none⟩,
            ⟨some 39, .mv, [.t 42], none⟩,
            ⟨some 43, .extr 0, [.t 39], none⟩,
            ⟨some 44, .extr 1, [.t 39], none⟩,
            ⟨some 45, .extr 2, [.t 39], none⟩,
            ⟨some 12, .mv, [.t 43], none⟩,
            ⟨some 13, .mv, [.t 44], none⟩,
            ⟨some 14, .mv, [.t 45], none⟩]) [2, 3, 4, 5, 6, 11, 12, 13, 14])
        (.seq (.seq (.kpost (.reg [⟨some 46, .fadr 0, [.t 11], none⟩,
             ⟨some 47, .load none, [.t 46], none⟩,
             ⟨some 48, .bin .neq 0, [.t 47, .c (.int .i64 3)], none⟩,
             ⟨some 49, .mv, [.t 48], none⟩,
             ⟨some 50, .mv, [.t 14], some (49, false)⟩,
             ⟨some 51, .bin .neq 0, [.t 50, .c (.int .i64 0)], some (49, false)⟩,
             ⟨some 52, .pick, [.t 49, .c (.bool true), .t 51], none⟩,
             ⟨some 53, .mv, [.t 52], none⟩,
             ⟨some 54, .mv, [.t 13], some (53, false)⟩,
             ⟨some 55, .len, [.t 54], some (53, false)⟩,
             ⟨some 56, .bin .gtr 0, [.t 55, .c (.int .i64 0)], some (53, false)⟩,
             ⟨some 57, .pick, [.t 53, .c (.bool true), .t 56], none⟩,
             ⟨some 58, .mv, [.t 57], none⟩,
             ⟨some 59, .mv, [.t 12], some (58, false)⟩,
             ⟨some 60, .conv .i64, [.t 59], some (58, false)⟩,
             ⟨some 61, .fadr 1, [.t 11], some (58, false)⟩,
             ⟨some 62, .load none, [.t 61], some (58, false)⟩,
             ⟨some 63, .bin .gtr 0, [.t 60, .t 62], some (58, false)⟩,
             ⟨some 64, .pick, [.t 58, .c (.bool true), .t 63], none⟩]) [2, 3, 4, 5, 6, 11, 12, 64])
         (.cond (.t 64)
          (.exit 3)
          .skip))
        (.seq (.kpost (.reg [⟨some 15, .mv, [.c (.nils 5 1)], none⟩]) [2, 3, 4, 5, 6, 11, 12, 15])
        (.seq (.kpost (.reg [⟨some 65, .fadr 1, [.t 11], none⟩,
            ⟨some 66, .load none, [.t 65], none⟩,
            ⟨some 67, .mv, [.t 12], none⟩,
            ⟨some 68, .conv .i64, [.t 67], none⟩,
            ⟨some 69, .bin .sub 0, [.t 66, .t 68], none⟩,
            ⟨some 16, .mv, [.t 69], none⟩]) [2, 3, 4, 5, 6, 11, 15, 16])
        (.seq (.seq (.kpost (.reg [⟨some 70, .mv, [.t 16], none⟩,
             ⟨some 17, .mv, [.t 70], none⟩]) [2, 3, 4, 5, 6, 11, 15, 16, 17])
         (.block 4 (.kpre [2, 3, 4, 5, 6, 11, 15, 16, 17] (.loop (.kpost (.seq (.seq (.kpost (.reg [⟨some 71, .mv, [.t 17], none⟩,
                  ⟨some 72, .fadr 1, [.t 11], none⟩,
                  ⟨some 73, .load none, [.t 72], none⟩,
                  ⟨some 74, .bin .lss 0, [.t 71, .t 73], none⟩]) [2, 3, 4, 5, 6, 11, 15, 16, 17, 74])
              (.cond (.t 74)
               .skip
               (.exit 4)))
             (.seq (.block 5 (.seq (.kpost (.reg [⟨some 78, .load none, [.t 6], none⟩,
                   ⟨some 79, .mv, [.t 17], none⟩,
                   ⟨some 80, .look (.agg [.int .i64 0, .int .i64 0, .nils 5 1]) true, [.t 78, .t 79], none⟩,
                   ⟨some 77, .mv, [.t 80], none⟩,
                   ⟨some 81, .extr 0, [.t 77], none⟩,
                   ⟨some 82, .extr 1, [.t 77], none⟩,
                   ⟨some 18, .alloc 25 116 [.int .i64 0, .int .i64 0, .nils 5 1], [], none⟩,
                   ⟨none, .store 3, [.t 18, .t 81], none⟩,
                   ⟨some 19, .mv, [.t 82], none⟩]) [2, 3, 4, 5, 6, 11, 15, 16, 17, 18, 19])
               (.seq (.seq (.kpost (.reg [⟨some 83, .mv, [.t 19], none⟩,
                    ⟨some 84, .bnot, [.t 83], none⟩,
                    ⟨some 85, .mv, [.t 84], none⟩,
                    ⟨some 86, .fadr 0, [.t 18], some (85, false)⟩,
                    ⟨some 87, .load none, [.t 86], some (85, false)⟩,
                    ⟨some 88, .bin .neq 0, [.t 87, .c (.int .i64 2)], some (85, false)⟩,
                    ⟨some 89, .pick, [.t 85, .c (.bool true), .t 88], none⟩]) [2, 3, 4, 5, 6, 11, 15, 16, 17, 18, 89])
                (.cond (.t 89)
                 (.exit 3)
                 .skip))
               (.kpost (.reg [⟨some 90, .mv, [.t 15], none⟩,
                  ⟨some 91, .fadr 2, [.t 18], none⟩,
                  ⟨some 92, .load none, [.t 91], none⟩,
                  ⟨some 93, .app 26 5 1 1, [.t 90, .t 92], none⟩,
                  ⟨some 15, .mv, [.t 93], none⟩]) [2, 3, 4, 5, 6, 11, 15, 16, 17]))))
             (.kpost (.reg [⟨some 75, .mv, [.t 17], none⟩,
                ⟨some 76, .bin .add 0, [.t 75, .c (.int .i64 1)], none⟩,
                ⟨some 17, .mv, [.t 76], none⟩]) [2, 3, 4, 5, 6, 11, 15, 16, 17]))) [2, 3, 4, 5, 6, 11, 15, 16, 17])))))
        (.seq (.kpost (.reg [⟨some 95, .mv, [.t 15], none⟩,
            ⟨some 96, .call 100 [27, 28, 29, 30, 31, 32] 1, [.t 95], none⟩,
            ⟨some 94, .mv, [.t 96], none⟩,
            ⟨some 97, .extr 0, [.t 94], none⟩,
            ⟨some 98, .extr 1, [.t 94], none⟩,
            ⟨some 20, .alloc 33 30 [.int .i64 0, .int .i64 0, .nils 48 5, .nils 95 3, .int .i64 0, .nils 5 1], [], none⟩,
            ⟨none, .store 6, [.t 20, .t 97], none⟩,
            ⟨some 21, .mv, [.t 98], none⟩]) [2, 3, 4, 5, 11, 16, 20, 21])
        (.seq (.kpost (.reg [⟨some 99, .mv, [.t 21], none⟩,
            ⟨some 100, .bin .eql 0, [.t 99, .c (.int .i64 0)], none⟩]) [2, 3, 4, 5, 11, 16, 20, 100])
        (.cond (.t 100)
         (.seq (.kpost (.regD [⟨some 101, .load (some 6), [.t 20], none⟩,
              ⟨some 102, .mv, [.t 16], none⟩,
              ⟨some 103, .fadr 1, [.t 11], none⟩,
              ⟨some 104, .load none, [.t 103], none⟩,
              ⟨none, .store 6, [.t 2, .t 101], none⟩,
              ⟨none, .store 1, [.t 3, .t 102], none⟩,
              ⟨none, .store 1, [.t 4, .t 104], none⟩,
              ⟨none, .store 1, [.t 5, .c (.int .i64 0)], none⟩] [0, 1, 2, 3, 4, 5, 6, 7] none [(2, 4), (2, 5), (3, 4), (3, 5)]) [])
          .ret)
         .skip))))))))))))))
   (.seq (.kpost (.reg [⟨some 105, .build [.int .i64 0, .int .i64 0, .nils 48 5, .nils 95 3, .int .i64 0, .nils 5 1] [], [], none⟩,
       ⟨none, .store 6, [.t 2, .t 105], none⟩,
       ⟨none, .store 1, [.t 3, .c (.int .i64 0)], none⟩,
       ⟨none, .store 1, [.t 4, .c (.int .i64 0)], none⟩,
       ⟨none, .store 1, [.t 5, .c (.int .i64 120)], none⟩]) [2, 3, 4, 5])
   .ret)))))
   (.kpre [0, 2, 3, 4, 5, 6] (.seq .skip
    (.seq (.seq (.kpost (.reg [⟨some 33, .mv, [.t 0], none⟩,
         ⟨some 34, .call 98 [14, 15, 16, 17, 18, 19] 1, [.t 33], none⟩]) [0, 2, 3, 4, 5, 6, 34])
     (.block 2 (.kpre [0, 2, 3, 4, 5, 6, 34] (.rangeF 20 (.t 34) [35, 36]
        (.kpost (.reg [⟨some 10, .alloc 21 118 [.int .i64 0, .int .i64 0, .nils 5 1, .int .i64 0, .int .i64 0], [], none⟩,
           ⟨none, .store 5, [.t 10, .t 36], none⟩]) [2, 3, 4, 5, 6, 10])
        (.block 3 (.seq (.kpost (.reg [⟨some 37, .fadr 0, [.t 10], none⟩,
             ⟨some 38, .load (some 3), [.t 37], none⟩,
             ⟨some 11, .alloc 22 116 [.int .i64 0, .int .i64 0, .nils 5 1], [], none⟩,
             ⟨none, .store 3, [.t 11, .t 38], none⟩]) [2, 3, 4, 5, 6, 11])
         (.seq (.kpost (.reg [⟨some 40, .fadr 2, [.t 11], none⟩,
             ⟨some 41, .load none, [.t 40], none⟩,
             ⟨some 42, .call 99 [23, 24] 1, [.t 41, .c (.int .i64 2)], none⟩,
             ⟨some 39, .mv, [.t 42], none⟩,
             ⟨some 43, .extr 0, [.t 39], none⟩,
             ⟨some 44, .extr 1, [.t 39], none⟩,
             ⟨some 45, .extr 2, [.t 39], none⟩,
             ⟨some 12, .mv, [.t 43], none⟩,
             ⟨some 13, .mv, [.t 44], none⟩,
             ⟨some 14, .mv, [.t 45], none⟩]) [2, 3, 4, 5, 6, 11, 12, 13, 14])
         (.seq (.seq (.kpost (.reg [⟨some 46, .fadr 0, [.t 11], none⟩,
              ⟨some 47, .load none, [.t 46], none⟩,
              ⟨some 48, .bin .neq 0, [.t 47, .c (.int .i64 3)], none⟩,
              ⟨some 49, .mv, [.t 48], none⟩,
              ⟨some 50, .mv, [.t 14], some (49, false)⟩,
              ⟨some 51, .bin .neq 0, [.t 50, .c (.int .i64 0)], some (49, false)⟩,
              ⟨some 52, .pick, [.t 49, .c (.bool true), .t 51], none⟩,
              ⟨some 53, .mv, [.t 52], none⟩,
              ⟨some 54, .mv, [.t 13], some (53, false)⟩,
              ⟨some 55, .len, [.t 54], some (53, false)⟩,
              ⟨some 56, .bin .gtr 0, [.t 55, .c (.int .i64 0)], some (53, false)⟩,
              ⟨some 57, .pick, [.t 53, .c (.bool true), .t 56], none⟩,
              ⟨some 58, .mv, [.t 57], none⟩,
              ⟨some 59, .mv, [.t 12], some (58, false)⟩,
              ⟨some 60, .conv .i64, [.t 59], some (58, false)⟩,
              ⟨some 61, .fadr 1, [.t 11], some (58, false)⟩,
              ⟨some 62, .load none, [.t 61], some (58, false)⟩,
              ⟨some 63, .bin .gtr 0, [.t 60, .t 62], some (58, false)⟩,
              ⟨some 64, .pick, [.t 58, .c (.bool true), .t 63], none⟩]) [2, 3, 4, 5, 6, 11, 12, 64])
          (.cond (.t 64)
           (.exit 3)
           .skip))
         (.seq (.kpost (.reg [⟨some 15, .mv, [.c (.nils 5 1)], none⟩]) [2, 3, 4, 5, 6, 11, 12, 15])
         (.seq (.kpost (.reg [⟨some 65, .fadr 1, [.t 11], none⟩,
             ⟨some 66, .load none, [.t 65], none⟩,
             ⟨some 67, .mv, [.t 12], none⟩,
             ⟨some 68, .conv .i64, [.t 67], none⟩,
             ⟨some 69, .bin .sub 0, [.t 66, .t 68], none⟩,
             ⟨some 16, .mv, [.t 69], none⟩]) [2, 3, 4, 5, 6, 11, 15, 16])
         (.seq (.seq (.kpost (.reg [⟨some 70, .mv, [.t 16], none⟩,
              ⟨some 17, .mv, [.t 70], none⟩]) [2, 3, 4, 5, 6, 11, 15, 16, 17])
          (.block 4 (.kpre [2, 3, 4, 5, 6, 11, 15, 16, 17] (.loop (.kpost (.seq (.seq (.kpost (.reg [⟨some 71, .mv, [.t 17], none⟩,
                   ⟨some 72, .fadr 1, [.t 11], none⟩,
                   ⟨some 73, .load none, [.t 72], none⟩,
                   ⟨some 74, .bin .lss 0, [.t 71, .t 73], none⟩]) [2, 3, 4, 5, 6, 11, 15, 16, 17, 74])
               (.cond (.t 74)
                .skip
                (.exit 4)))
              (.seq (.block 5 (.seq (.kpost (.reg [⟨some 78, .load none, [.t 6], none⟩,
                    ⟨some 79, .mv, [.t 17], none⟩,
                    ⟨some 80, .look (.agg [.int .i64 0, .int .i64 0, .nils 5 1]) true, [.t 78, .t 79], none⟩,
                    ⟨some 77, .mv, [.t 80], none⟩,
                    ⟨some 81, .extr 0, [.t 77], none⟩,
                    ⟨some 82, .extr 1, [.t 77], none⟩,
                    ⟨some 18, .alloc 25 116 [.int .i64 0, .int .i64 0, .nils 5 1], [], none⟩,
                    ⟨none, .store 3, [.t 18, .t 81], none⟩,
                    ⟨some 19, .mv, [.t 82], none⟩]) [2, 3, 4, 5, 6, 11, 15, 16, 17, 18, 19])
                (.seq (.seq (.kpost (.reg [⟨some 83, .mv, [.t 19], none⟩,
                     ⟨some 84, .bnot, [.t 83], none⟩,
                     ⟨some 85, .mv, [.t 84], none⟩,
                     ⟨some 86, .fadr 0, [.t 18], some (85, false)⟩,
                     ⟨some 87, .load none, [.t 86], some (85, false)⟩,
                     ⟨some 88, .bin .neq 0, [.t 87, .c (.int .i64 2)], some (85, false)⟩,
                     ⟨some 89, .pick, [.t 85, .c (.bool true), .t 88], none⟩]) [2, 3, 4, 5, 6, 11, 15, 16, 17, 18, 89])
                 (.cond (.t 89)
                  (.exit 3)
                  .skip))
                (.kpost (.reg [⟨some 90, .mv, [.t 15], none⟩,
                   ⟨some 91, .fadr 2, [.t 18], none⟩,
                   ⟨some 92, .load none, [.t 91], none⟩,
                   ⟨some 93, .app 26 5 1 1, [.t 90, .t 92], none⟩,
                   ⟨some 15, .mv, [.t 93], none⟩]) [2, 3, 4, 5, 6, 11, 15, 16, 17]))))
              (.kpost (.reg [⟨some 75, .mv, [.t 17], none⟩,
                 ⟨some 76, .bin .add 0, [.t 75, .c (.int .i64 1)], none⟩,
                 ⟨some 17, .mv, [.t 76], none⟩]) [2, 3, 4, 5, 6, 11, 15, 16, 17]))) [2, 3, 4, 5, 6, 11, 15, 16, 17])))))
         (.seq (.kpost (.reg [⟨some 95, .mv, [.t 15], none⟩,
             ⟨some 96, .call 100 [27, 28, 29, 30, 31, 32] 1, [.t 95], none⟩,
             ⟨some 94, .mv, [.t 96], none⟩,
             ⟨some 97, .extr 0, [.t 94], none⟩,
             ⟨some 98, .extr 1, [.t 94], none⟩,
             ⟨some 20, .alloc 33 30 [.int .i64 0, .int .i64 0, .nils 48 5, .nils 95 3, .int .i64 0, .nils 5 1], [], none⟩,
             ⟨none, .store 6, [.t 20, .t 97], none⟩,
             ⟨some 21, .mv, [.t 98], none⟩]) [2, 3, 4, 5, 11, 16, 20, 21])
         (.seq (.kpost (.reg [⟨some 99, .mv, [.t 21], none⟩,
             ⟨some 100, .bin .eql 0, [.t 99, .c (.int .i64 0)], none⟩]) [2, 3, 4, 5, 11, 16, 20, 100])
         (.cond (.t 100)
          (.seq (.kpost (.regD [⟨some 101, .load (some 6), [.t 20], none⟩,
               ⟨some 102, .mv, [.t 16], none⟩,
               ⟨some 103, .fadr 1, [.t 11], none⟩,
               ⟨some 104, .load none, [.t 103], none⟩,
               ⟨none, .store 6, [.t 2, .t 101], none⟩,
               ⟨none, .store 1, [.t 3, .t 102], none⟩,
               ⟨none, .store 1, [.t 4, .t 104], none⟩,
               ⟨none, .store 1, [.t 5, .c (.int .i64 0)], none⟩] [0, 1, 2, 3, 4, 5, 6, 7] none [(2, 4), (2, 5), (3, 4), (3, 5)]) [])
           .ret)
          .skip))))))))))))))
    (.seq (.kpost (.reg [⟨some 105, .build [.int .i64 0, .int .i64 0, .nils 48 5, .nils 95 3, .int .i64 0, .nils 5 1] [], [], none⟩,
        ⟨none, .store 6, [.t 2, .t 105], none⟩,
        ⟨none, .store 1, [.t 3, .c (.int .i64 0)], none⟩,
        ⟨none, .store 1, [.t 4, .c (.int .i64 0)], none⟩,
        ⟨none, .store 1, [.t 5, .c (.int .i64 120)], none⟩]) [2, 3, 4, 5])
    .ret)))) 0)) }
/-- (*waggoner/volume.Volume).Mount$1 -/
def i58 : IFn := { ns := 23, nt := 52, res := [], body :=
  (.seq (.kpost (.regD [⟨some 8, .load (some 6), [.t 0], none⟩,
      ⟨some 9, .load none, [.t 1], none⟩,
      ⟨some 10, .load none, [.t 2], none⟩,
      ⟨some 11, .bin .add 0, [.t 10, .c (.int .i64 1)], none⟩,
      ⟨some 12, .call 60 [0, 1] 1, [.t 9, .t 11], none⟩,
      ⟨some 13, .call 59 [2, 3, 4, 5, 6, 7] 1, [.t 8, .t 12], none⟩,
      ⟨some 7, .mv, [.t 13], none⟩,
      ⟨some 14, .extr 0, [.t 7], none⟩,
      ⟨some 15, .extr 1, [.t 7], none⟩,
      ⟨some 5, .alloc 8 30 [.int .i64 0, .int .i64 0, .nils 48 5, .nils 95 3, .int .i64 0, .nils 5 1], [], none⟩,
      ⟨none, .store 6, [.t 5, .t 14], none⟩,
      ⟨some 6, .mv, [.t 15], none⟩] [0, 1, 2, 3, 4, 5, 6, 7, 8, 9, 10, 11] none [(0, 4), (0, 9), (1, 9), (2, 9), (3, 9), (4, 9), (5, 9)]) [1, 2, 3, 4, 5, 6])
  (.seq (.kpost (.reg [⟨some 16, .load none, [.t 4], none⟩,
      ⟨some 17, .load none, [.t 4], none⟩,
      ⟨some 18, .load none, [.t 4], none⟩,
      ⟨some 19, .load (some 6), [.t 5], none⟩,
      ⟨some 20, .load none, [.t 3], none⟩,
      ⟨some 21, .load none, [.t 2], none⟩,
      ⟨some 22, .bin .add 0, [.t 21, .c (.int .i64 1)], none⟩,
      ⟨some 23, .mv, [.t 6], none⟩,
      ⟨some 24, .bin .add 0, [.t 22, .t 23], none⟩,
      ⟨some 25, .nilchk, [.t 16], none⟩,
      ⟨some 26, .fadr 7, [.t 25], none⟩,
      ⟨none, .store 6, [.t 26, .t 19], none⟩,
      ⟨some 27, .nilchk, [.t 17], none⟩,
      ⟨some 28, .fadr 0, [.t 27], none⟩,
      ⟨some 29, .fadr 5, [.t 28], none⟩,
      ⟨none, .store 1, [.t 29, .t 20], none⟩,
      ⟨some 30, .nilchk, [.t 18], none⟩,
      ⟨some 31, .fadr 0, [.t 30], none⟩,
      ⟨some 32, .fadr 6, [.t 31], none⟩,
      ⟨none, .store 1, [.t 32, .t 24], none⟩]) [1, 4])
  (.seq (.kpost (.reg [⟨some 33, .load none, [.t 4], none⟩,
      ⟨some 34, .nilchk, [.t 33], none⟩,
      ⟨some 35, .fadr 0, [.t 34], none⟩,
      ⟨some 36, .call 61 [9, 10, 11, 12] 0, [.t 35], none⟩]) [1, 4])
  (.seq (.kpost (.regD [⟨some 37, .load none, [.t 4], none⟩,
      ⟨some 38, .load none, [.t 1], none⟩,
      ⟨some 39, .load none, [.t 1], none⟩,
      ⟨some 40, .len, [.t 39], none⟩,
      ⟨some 41, .bin .sub 0, [.t 40, .c (.int .i64 1)], none⟩,
      ⟨some 42, .iadr 5, [.t 38, .t 41], none⟩,
      ⟨some 43, .fadr 0, [.t 42], none⟩,
      ⟨some 44, .fadr 1, [.t 43], none⟩,
      ⟨some 45, .load none, [.t 44], none⟩,
      ⟨some 46, .bin .add 0, [.t 45, .c (.int .i64 1)], none⟩,
      ⟨some 47, .nilchk, [.t 37], none⟩,
      ⟨some 48, .fadr 0, [.t 47], none⟩,
      ⟨some 49, .fadr 6, [.t 48], none⟩,
      ⟨none, .store 1, [.t 49, .t 46], none⟩] [0, 1, 2, 3, 4, 5, 6, 7, 8, 9, 10, 11, 12, 13] none []) [4])
  (.kpost (.reg [⟨some 50, .load none, [.t 4], none⟩,
     ⟨some 51, .call 62 [13, 14, 15, 16, 17, 18, 19, 20, 21, 22] 0, [.t 50], none⟩]) []))))) }
/-- waggoner/volume.rolled -/
def i59 : IFn := { ns := 15, nt := 48, res := [.cell 4 (some 6), .t 5], body :=
  (.seq (.kpost (.reg [⟨some 2, .box 0 30, [.t 0], none⟩,
      ⟨some 4, .alloc 1 30 [.int .i64 0, .int .i64 0, .nils 48 5, .nils 95 3, .int .i64 0, .nils 5 1], [], none⟩,
      ⟨some 5, .mv, [.c (.int .i64 0)], none⟩]) [1, 2, 4])
  (.seq (.seq (.kpost (.reg [⟨some 11, .mv, [.t 1], none⟩,
       ⟨some 12, .len, [.t 11], none⟩,
       ⟨some 13, .mv, [.c (.int .i64 0)], none⟩]) [1, 2, 4, 11, 12, 13])
   (.block 0 (.kpre [1, 2, 4, 11, 12, 13] (.loop (.kpost (.seq (.kpost (.reg [⟨some 14, .bin .lss 0, [.t 13, .t 12], none⟩]) [1, 2, 4, 11, 12, 13, 14])
       (.seq (.cond (.t 14)
         .skip
         (.exit 0))
       (.seq (.block 1 (.seq (.kpost (.reg [⟨some 15, .mv, [.t 13], none⟩,
             ⟨some 16, .iadr 3, [.t 11, .t 13], none⟩,
             ⟨some 17, .load (some 3), [.t 16], none⟩,
             ⟨some 7, .alloc 2 116 [.int .i64 0, .int .i64 0, .nils 5 1], [], none⟩,
             ⟨some 6, .mv, [.t 15], none⟩,
             ⟨none, .store 3, [.t 7, .t 17], none⟩]) [1, 2, 4, 6, 7, 11, 12, 13])
         (.seq (.kpost (.reg [⟨some 19, .fadr 2, [.t 7], none⟩,
             ⟨some 20, .load none, [.t 19], none⟩,
             ⟨some 21, .call 101 [3, 4, 5, 6] 1, [.t 20], none⟩,
             ⟨some 18, .mv, [.t 21], none⟩,
             ⟨some 22, .extr 0, [.t 18], none⟩,
             ⟨some 23, .extr 1, [.t 18], none⟩,
             ⟨some 8, .alloc 7 70 [.int .i64 0, .int .i64 0, .int .i64 0, .int .i64 0, .nils 5 1, .nils 48 5], [], none⟩,
             ⟨none, .store 6, [.t 8, .t 22], none⟩,
             ⟨some 9, .mv, [.t 23], none⟩]) [1, 2, 4, 6, 7, 8, 9, 11, 12, 13])
         (.seq (.seq (.kpost (.reg [⟨some 24, .fadr 0, [.t 7], none⟩,
              ⟨some 25, .load none, [.t 24], none⟩,
              ⟨some 26, .bin .neq 0, [.t 25, .c (.int .i64 1)], none⟩,
              ⟨some 27, .mv, [.t 26], none⟩,
              ⟨some 28, .mv, [.t 9], some (27, false)⟩,
              ⟨some 29, .bin .neq 0, [.t 28, .c (.int .i64 0)], some (27, false)⟩,
              ⟨some 30, .pick, [.t 27, .c (.bool true), .t 29], none⟩]) [1, 2, 4, 6, 8, 11, 12, 13, 30])
          (.cond (.t 30)
           (.seq (.kpost (.reg [⟨some 31, .load (some 6), [.t 2], none⟩,
                ⟨some 32, .mv, [.t 6], none⟩,
                ⟨none, .store 6, [.t 4, .t 31], none⟩,
                ⟨some 5, .mv, [.t 32], none⟩]) [4, 5])
            .ret)
           .skip))
         (.seq (.kpost (.reg [⟨some 34, .load (some 6), [.t 2], none⟩,
             ⟨some 35, .load (some 6), [.t 8], none⟩,
             ⟨some 36, .call 35 [8, 9, 10, 11, 12, 13] 1, [.t 34, .t 35], none⟩,
             ⟨some 33, .mv, [.t 36], none⟩,
             ⟨some 37, .extr 0, [.t 33], none⟩,
             ⟨some 38, .extr 1, [.t 33], none⟩,
             ⟨some 10, .alloc 14 30 [.int .i64 0, .int .i64 0, .nils 48 5, .nils 95 3, .int .i64 0, .nils 5 1], [], none⟩,
             ⟨none, .store 6, [.t 10, .t 37], none⟩,
             ⟨some 9, .mv, [.t 38], none⟩]) [1, 2, 4, 6, 9, 10, 11, 12, 13])
         (.seq (.seq (.kpost (.reg [⟨some 39, .mv, [.t 9], none⟩,
              ⟨some 40, .bin .neq 0, [.t 39, .c (.int .i64 0)], none⟩]) [1, 2, 4, 6, 10, 11, 12, 13, 40])
          (.cond (.t 40)
           (.seq (.kpost (.reg [⟨some 41, .load (some 6), [.t 2], none⟩,
                ⟨some 42, .mv, [.t 6], none⟩,
                ⟨none, .store 6, [.t 4, .t 41], none⟩,
                ⟨some 5, .mv, [.t 42], none⟩]) [4, 5])
            .ret)
           .skip))
         (.kpost (.reg [⟨some 43, .load (some 6), [.t 10], none⟩,
            ⟨none, .store 6, [.t 2, .t 43], none⟩]) [1, 2, 4, 11, 12, 13])))))))
       (.kpost (.reg [⟨some 44, .bin .add 0, [.t 13, .c (.int .i64 1)], none⟩,
          ⟨some 13, .mv, [.t 44], none⟩]) [1, 2, 4, 11, 12, 13])))) [1, 2, 4, 11, 12, 13])))))
  (.seq (.kpost (.reg [⟨some 45, .load (some 6), [.t 2], none⟩,
      ⟨some 46, .mv, [.t 1], none⟩,
      ⟨some 47, .len, [.t 46], none⟩,
      ⟨none, .store 6, [.t 4, .t 45], none⟩,
      ⟨some 5, .mv, [.t 47], none⟩]) [4, 5])
  .ret))) }
/-- waggoner/log.Run -/
def i60 : IFn := { ns := 14, nt := 42, res := [.t 4], body :=
  (.seq (.kpost (.reg [⟨some 4, .mv, [.c (.nils 116 3)], none⟩]) [0, 1, 4])
  (.seq (.kpost (.reg [⟨some 10, .mkmap 0, [], none⟩,
      ⟨some 5, .alloc 1 157 [.nilm], [], none⟩,
      ⟨none, .store 1, [.t 5, .t 10], none⟩]) [0, 1, 4, 5])
  (.seq (.seq (.kpost (.reg [⟨some 11, .mv, [.t 0], none⟩,
       ⟨some 12, .call 98 [2, 3, 4, 5, 6, 7] 1, [.t 11], none⟩]) [1, 4, 5, 12])
   (.block 0 (.kpre [1, 4, 5, 12] (.rangeF 8 (.t 12) [13, 14]
      (.kpost (.reg [⟨some 7, .alloc 9 118 [.int .i64 0, .int .i64 0, .nils 5 1, .int .i64 0, .int .i64 0], [], none⟩,
         ⟨none, .store 5, [.t 7, .t 14], none⟩]) [5, 7])
      (.block 1 (.kpost (.reg [⟨some 15, .load none, [.t 5], none⟩,
          ⟨some 16, .fadr 0, [.t 7], none⟩,
          ⟨some 17, .fadr 1, [.t 16], none⟩,
          ⟨some 18, .load none, [.t 17], none⟩,
          ⟨some 19, .fadr 0, [.t 7], none⟩,
          ⟨some 20, .load (some 3), [.t 19], none⟩,
          ⟨none, .mapset, [.t 15, .t 18, .t 20], none⟩]) []))))))
  (.seq (.seq (.kpost (.reg [⟨some 22, .load none, [.t 5], none⟩,
       ⟨some 23, .mv, [.t 1], none⟩,
       ⟨some 24, .look (.agg [.int .i64 0, .int .i64 0, .nils 5 1]) true, [.t 22, .t 23], none⟩,
       ⟨some 21, .mv, [.t 24], none⟩,
       ⟨some 25, .extr 0, [.t 21], none⟩,
       ⟨some 26, .extr 1, [.t 21], none⟩,
       ⟨some 8, .alloc 10 116 [.int .i64 0, .int .i64 0, .nils 5 1], [], none⟩,
       ⟨none, .store 3, [.t 8, .t 25], none⟩,
       ⟨some 9, .mv, [.t 26], none⟩]) [1, 4, 5, 8, 9])
   (.block 2 (.kpre [1, 4, 5, 8, 9] (.loop (.kpost (.seq (.seq (.kpost (.reg [⟨some 27, .mv, [.t 9], none⟩]) [1, 4, 5, 8, 27])
        (.cond (.t 27)
         .skip
         (.exit 2)))
       (.seq (.block 3 (.seq (.kpost (.reg [⟨some 34, .mv, [.t 4], none⟩,
             ⟨some 35, .load (some 3), [.t 8], none⟩,
             ⟨some 36, .bslice 11 116 3 [.int .i64 0, .int .i64 0, .imm 1 []] 1 [0], [.t 35], none⟩,
             ⟨some 37, .app 12 116 3 40, [.t 34, .t 36], none⟩,
             ⟨some 4, .mv, [.t 37], none⟩]) [1, 4, 5, 8])
         (.kpost (.reg [⟨some 38, .mv, [.t 1], none⟩,
            ⟨some 39, .bin .add 0, [.t 38, .c (.int .i64 1)], none⟩,
            ⟨some 1, .mv, [.t 39], none⟩]) [1, 4, 5, 8])))
       (.seq (.seq (.kpost (.reg [⟨some 40, .load (some 3), [.t 8], none⟩]) [1, 4, 5, 40])
        (.kpost (.reg [⟨some 8, .alloc 13 116 [.int .i64 0, .int .i64 0, .nils 5 1], [], none⟩,
           ⟨none, .store 3, [.t 8, .t 40], none⟩]) [1, 4, 5, 8]))
       (.kpost (.reg [⟨some 29, .load none, [.t 5], none⟩,
          ⟨some 30, .mv, [.t 1], none⟩,
          ⟨some 31, .look (.agg [.int .i64 0, .int .i64 0, .nils 5 1]) true, [.t 29, .t 30], none⟩,
          ⟨some 28, .mv, [.t 31], none⟩,
          ⟨some 32, .extr 0, [.t 28], none⟩,
          ⟨some 33, .extr 1, [.t 28], none⟩,
          ⟨none, .store 3, [.t 8, .t 32], none⟩,
          ⟨some 9, .mv, [.t 33], none⟩]) [1, 4, 5, 8, 9])))) [1, 4, 5, 8, 9])))))
  (.seq (.kpost (.reg [⟨some 41, .mv, [.t 4], none⟩,
      ⟨some 4, .mv, [.t 41], none⟩]) [4])
  .ret))))) }
/-- (*waggoner/volume.journal).tidy -/
def i61 : IFn := { ns := 16, nt := 80, res := [], body :=
  (.seq (.kpost (.reg [⟨some 2, .mv, [.c (.nils 3 1)], none⟩]) [0, 2])
  (.seq (.seq (.kpost (.reg [⟨some 12, .mv, [.t 0], none⟩,
       ⟨some 13, .nilchk, [.t 12], none⟩,
       ⟨some 14, .fadr 0, [.t 13], none⟩,
       ⟨some 15, .fadr 1, [.t 14], none⟩,
       ⟨some 16, .load none, [.t 15], none⟩,
       ⟨some 17, .len, [.t 16], none⟩,
       ⟨some 18, .mv, [.c (.int .i64 0)], none⟩]) [0, 2, 16, 17, 18])
   (.block 0 (.kpre [0, 2, 16, 17, 18] (.loop (.kpost (.seq (.kpost (.reg [⟨some 19, .bin .lss 0, [.t 18, .t 17], none⟩]) [0, 2, 16, 17, 18, 19])
       (.seq (.cond (.t 19)
         .skip
         (.exit 0))
       (.seq (.block 1 (.seq (.kpost (.reg [⟨some 20, .mv, [.t 18], none⟩,
             ⟨some 21, .iadr 4, [.t 16, .t 18], none⟩,
             ⟨some 22, .load (some 4), [.t 21], none⟩,
             ⟨some 4, .alloc 0 54 [.int .i64 0, .int .i64 0, .nils 5 1, .int .i64 0], [], none⟩,
             ⟨some 3, .mv, [.t 20], none⟩,
             ⟨none, .store 4, [.t 4, .t 22], none⟩]) [0, 2, 3, 4, 16, 17, 18])
         (.seq (.kpost (.reg [⟨some 23, .fadr 0, [.t 4], none⟩,
             ⟨some 24, .load none, [.t 23], none⟩,
             ⟨some 25, .bin .eql 0, [.t 24, .c (.int .i64 0)], none⟩,
             ⟨some 5, .mv, [.t 25], none⟩]) [0, 2, 3, 4, 5, 16, 17, 18])
         (.seq (.kpost (.reg [⟨some 27, .fadr 2, [.t 4], none⟩,
             ⟨some 28, .load none, [.t 27], none⟩,
             ⟨some 29, .call 94 [1, 2, 3, 4] 1, [.t 28], none⟩,
             ⟨some 26, .mv, [.t 29], none⟩,
             ⟨some 30, .extr 0, [.t 26], none⟩,
             ⟨some 31, .extr 1, [.t 26], none⟩,
             ⟨some 6, .mv, [.t 30], none⟩,
             ⟨some 7, .mv, [.t 31], none⟩]) [0, 2, 3, 5, 6, 16, 17, 18])
         (.seq (.seq (.kpost (.reg [⟨some 32, .mv, [.t 6], none⟩,
              ⟨some 33, .len, [.t 32], none⟩,
              ⟨some 34, .mv, [.c (.int .i64 0)], none⟩]) [0, 2, 3, 5, 16, 17, 18, 32, 33, 34])
          (.block 2 (.kpre [0, 2, 3, 5, 16, 17, 18, 32, 33, 34] (.loop (.kpost (.seq (.kpost (.reg [⟨some 35, .bin .lss 0, [.t 34, .t 33], none⟩]) [0, 2, 3, 5, 16, 17, 18, 32, 33, 34, 35])
              (.seq (.cond (.t 35)
                .skip
                (.exit 2))
              (.seq (.block 3 (.seq (.kpost (.reg [⟨some 36, .iadr 3, [.t 32, .t 34], none⟩,
                    ⟨some 37, .load (some 3), [.t 36], none⟩,
                    ⟨some 9, .alloc 5 116 [.int .i64 0, .int .i64 0, .nils 5 1], [], none⟩,
                    ⟨none, .store 3, [.t 9, .t 37], none⟩]) [0, 2, 3, 5, 9, 16, 17, 18, 32, 33, 34])
                (.kpost (.regD [⟨some 38, .mv, [.t 5], none⟩,
                   ⟨some 39, .mv, [.t 38], none⟩,
                   ⟨some 40, .fadr 1, [.t 9], some (39, false)⟩,
                   ⟨some 41, .load none, [.t 40], some (39, false)⟩,
                   ⟨some 42, .mv, [.t 0], some (39, false)⟩,
                   ⟨some 43, .nilchk, [.t 42], some (39, false)⟩,
                   ⟨some 44, .fadr 5, [.t 43], some (39, false)⟩,
                   ⟨some 45, .load none, [.t 44], some (39, false)⟩,
                   ⟨some 46, .bin .geq 0, [.t 41, .t 45], some (39, false)⟩,
                   ⟨some 47, .mv, [.t 46], some (39, false)⟩,
                   ⟨some 48, .fadr 1, [.t 9], some (47, true)⟩,
                   ⟨some 49, .load none, [.t 48], some (47, true)⟩,
                   ⟨some 50, .mv, [.t 0], some (47, true)⟩,
                   ⟨some 51, .nilchk, [.t 50], some (47, true)⟩,
                   ⟨some 52, .fadr 6, [.t 51], some (47, true)⟩,
                   ⟨some 53, .load none, [.t 52], some (47, true)⟩,
                   ⟨some 54, .bin .lss 0, [.t 49, .t 53], some (47, true)⟩,
                   ⟨some 55, .pick, [.t 47, .t 54, .c (.bool false)], some (39, false)⟩,
                   ⟨some 56, .pick, [.t 39, .c (.bool true), .t 55], none⟩,
                   ⟨some 5, .mv, [.t 56], none⟩] [0, 1, 2, 3, 4, 5, 6, 7, 8, 9, 10, 11, 12, 13, 14, 15, 16, 17, 18, 19] none []) [0, 2, 3, 5, 16, 17, 18, 32, 33, 34])))
              (.kpost (.reg [⟨some 57, .bin .add 0, [.t 34, .c (.int .i64 1)], none⟩,
                 ⟨some 34, .mv, [.t 57], none⟩]) [0, 2, 3, 5, 16, 17, 18, 32, 33, 34])))) [0, 2, 3, 5, 16, 17, 18, 32, 33, 34])))))
         (.seq (.kpost (.reg [⟨some 58, .mv, [.t 5], none⟩,
             ⟨some 59, .bnot, [.t 58], none⟩]) [0, 2, 3, 16, 17, 18, 59])
         (.cond (.t 59)
          (.kpost (.reg [⟨some 60, .mv, [.t 2], none⟩,
              ⟨some 61, .mv, [.t 3], none⟩,
              ⟨some 62, .bslice 6 3 1 [.int .i64 0] 1 [0], [.t 61], none⟩,
              ⟨some 63, .app 7 3 1 8, [.t 60, .t 62], none⟩,
              ⟨some 2, .mv, [.t 63], none⟩]) [0, 2, 16, 17, 18])
          .skip)))))))
       (.kpost (.reg [⟨some 64, .bin .add 0, [.t 18, .c (.int .i64 1)], none⟩,
          ⟨some 18, .mv, [.t 64], none⟩]) [0, 2, 16, 17, 18])))) [0, 2, 16, 17, 18])))))
  (.seq (.seq (.kpost (.reg [⟨some 65, .mv, [.t 2], none⟩,
       ⟨some 66, .len, [.t 65], none⟩,
       ⟨some 67, .bin .gtr 0, [.t 66, .c (.int .i64 0)], none⟩]) [0, 2, 67])
   (.cond (.t 67)
    (.kpost (.reg [⟨some 68, .mv, [.t 0], none⟩,
        ⟨some 69, .call 53 [8, 9, 10, 11] 0, [.t 68, .c (.int .i64 5), .c (.int .i64 0)], none⟩]) [0, 2])
    .skip))
  (.seq (.kpost (.reg [⟨some 70, .mv, [.t 2], none⟩,
      ⟨some 71, .len, [.t 70], none⟩,
      ⟨some 72, .mv, [.c (.int .i64 0)], none⟩]) [0, 70, 71, 72])
  (.block 4 (.kpre [0, 70, 71, 72] (.loop (.kpost (.seq (.kpost (.reg [⟨some 73, .bin .lss 0, [.t 72, .t 71], none⟩]) [0, 70, 71, 72, 73])
      (.seq (.cond (.t 73)
        .skip
        (.exit 4))
      (.seq (.block 5 (.seq (.kpost (.reg [⟨some 74, .iadr 1, [.t 70, .t 72], none⟩,
            ⟨some 75, .load none, [.t 74], none⟩,
            ⟨some 11, .mv, [.t 75], none⟩]) [0, 11, 70, 71, 72])
        (.kpost (.reg [⟨some 76, .mv, [.t 0], none⟩,
           ⟨some 77, .mv, [.t 11], none⟩,
           ⟨some 78, .call 53 [12, 13, 14, 15] 0, [.t 76, .c (.int .i64 2), .t 77], none⟩]) [0, 70, 71, 72])))
      (.kpost (.reg [⟨some 79, .bin .add 0, [.t 72, .c (.int .i64 1)], none⟩,
         ⟨some 72, .mv, [.t 79], none⟩]) [0, 70, 71, 72])))) [0, 70, 71, 72])))))))) }
/-- (*waggoner/volume.Volume).clean -/
def i62 : IFn := { ns := 18, nt := 43, res := [], body :=
  (.seq (.kpost (.reg [⟨some 5, .mv, [.t 0], none⟩,
      ⟨some 6, .nilchk, [.t 5], none⟩,
      ⟨some 7, .fadr 0, [.t 6], none⟩,
      ⟨some 8, .call 61 [0, 1, 2, 3] 0, [.t 7], none⟩]) [0])
  (.seq (.kpost (.reg [⟨some 9, .mv, [.t 0], none⟩,
      ⟨some 10, .nilchk, [.t 9], none⟩,
      ⟨some 11, .fadr 0, [.t 10], none⟩,
      ⟨some 12, .fadr 6, [.t 11], none⟩,
      ⟨some 13, .load none, [.t 12], none⟩,
      ⟨some 2, .mv, [.t 13], none⟩]) [0, 2])
  (.seq (.kpost (.reg [⟨some 15, .mv, [.t 0], none⟩,
      ⟨some 16, .nilchk, [.t 15], none⟩,
      ⟨some 17, .fadr 7, [.t 16], none⟩,
      ⟨some 18, .load (some 6), [.t 17], none⟩,
      ⟨some 19, .mv, [.t 2], none⟩,
      ⟨some 20, .call 102 [4, 5] 1, [.t 18, .t 19], none⟩,
      ⟨some 14, .mv, [.t 20], none⟩,
      ⟨some 21, .extr 0, [.t 14], none⟩,
      ⟨some 22, .extr 1, [.t 14], none⟩,
      ⟨some 3, .mv, [.t 21], none⟩,
      ⟨some 4, .mv, [.t 22], none⟩]) [0, 2, 3, 4])
  (.seq (.kpost (.reg [⟨some 23, .mv, [.t 4], none⟩,
      ⟨some 24, .call 65 [] 0, [.t 23], none⟩]) [0, 2, 3])
  (.seq (.kpost (.reg [⟨some 25, .mv, [.t 0], none⟩,
      ⟨some 26, .nilchk, [.t 25], none⟩,
      ⟨some 27, .fadr 0, [.t 26], none⟩,
      ⟨some 28, .mv, [.t 3], none⟩,
      ⟨some 29, .call 66 [6, 7, 8, 9] 0, [.t 27, .t 28], none⟩]) [0, 2])
  (.seq (.kpost (.reg [⟨some 30, .mv, [.t 0], none⟩,
      ⟨some 31, .nilchk, [.t 30], none⟩,
      ⟨some 32, .fadr 0, [.t 31], none⟩,
      ⟨some 33, .call 53 [10, 11, 12, 13] 0, [.t 32, .c (.int .i64 5), .c (.int .i64 0)], none⟩]) [0, 2])
  (.seq (.kpost (.reg [⟨some 34, .mv, [.t 0], none⟩,
      ⟨some 35, .mv, [.t 2], none⟩,
      ⟨some 36, .nilchk, [.t 34], none⟩,
      ⟨some 37, .fadr 0, [.t 36], none⟩,
      ⟨some 38, .fadr 5, [.t 37], none⟩,
      ⟨none, .store 1, [.t 38, .t 35], none⟩]) [0])
  (.kpost (.reg [⟨some 39, .mv, [.t 0], none⟩,
     ⟨some 40, .nilchk, [.t 39], none⟩,
     ⟨some 41, .fadr 0, [.t 40], none⟩,
     ⟨some 42, .call 61 [14, 15, 16, 17] 0, [.t 41], none⟩]) [])))))))) }
/-- (*waggoner/volume.Volume).Do$1 -/
def i63 : IFn := { ns := 21, nt := 55, res := [], body :=
  (.seq (.kpost (.reg [⟨some 6, .load (some 6), [.t 0], none⟩,
      ⟨some 7, .call 64 [0, 1] 1, [.t 6], none⟩,
      ⟨some 5, .mv, [.t 7], none⟩,
      ⟨some 8, .extr 0, [.t 5], none⟩,
      ⟨some 9, .extr 1, [.t 5], none⟩,
      ⟨some 3, .mv, [.t 8], none⟩,
      ⟨some 4, .mv, [.t 9], none⟩]) [0, 1, 2, 3, 4])
  (.seq (.kpost (.reg [⟨some 10, .mv, [.t 4], none⟩,
      ⟨some 11, .call 65 [] 0, [.t 10], none⟩]) [0, 1, 2, 3])
  (.seq (.seq (.kpost (.regD [⟨some 12, .load none, [.t 1], none⟩,
       ⟨some 13, .nilchk, [.t 12], none⟩,
       ⟨some 14, .fadr 0, [.t 13], none⟩,
       ⟨some 15, .fadr 0, [.t 14], none⟩,
       ⟨some 16, .load (some 5), [.t 15], none⟩,
       ⟨some 17, .call 45 [] 0, [.t 16], none⟩,
       ⟨some 18, .load none, [.t 1], none⟩,
       ⟨some 19, .nilchk, [.t 18], none⟩,
       ⟨some 20, .fadr 13, [.t 19], none⟩,
       ⟨some 21, .load none, [.t 20], none⟩,
       ⟨some 22, .load none, [.t 1], none⟩,
       ⟨some 23, .nilchk, [.t 22], none⟩,
       ⟨some 24, .fadr 0, [.t 23], none⟩,
       ⟨some 25, .fadr 0, [.t 24], none⟩,
       ⟨some 26, .fadr 0, [.t 25], none⟩,
       ⟨some 27, .load none, [.t 26], none⟩,
       ⟨some 28, .call 46 [] 0, [.t 21, .t 27], none⟩,
       ⟨some 29, .bin .lss 0, [.t 17, .t 28], none⟩] [0, 1, 2, 3, 4, 5, 6, 7, 8, 9, 10, 11, 12, 13, 14, 15, 16, 17] none [(5, 6), (5, 7), (5, 8), (5, 9), (5, 10), (5, 11), (5, 12), (5, 13), (5, 14), (5, 15)]) [0, 1, 2, 3, 29])
   (.cond (.t 29)
    (.kpost (.reg [⟨some 30, .load none, [.t 1], none⟩,
        ⟨some 31, .call 62 [2, 3, 4, 5, 6, 7, 8, 9, 10, 11] 0, [.t 30], none⟩]) [0, 1, 2, 3])
    .skip))
  (.seq (.kpost (.regD [⟨some 32, .load none, [.t 1], none⟩,
      ⟨some 33, .nilchk, [.t 32], none⟩,
      ⟨some 34, .fadr 0, [.t 33], none⟩,
      ⟨some 35, .load none, [.t 1], none⟩,
      ⟨some 36, .nilchk, [.t 35], none⟩,
      ⟨some 37, .fadr 0, [.t 36], none⟩,
      ⟨some 38, .fadr 6, [.t 37], none⟩,
      ⟨some 39, .load none, [.t 38], none⟩,
      ⟨some 40, .mv, [.t 3], none⟩,
      ⟨some 41, .build [.int .i64 0, .int .i64 0, .nils 5 1] [(0, 1), (1, 1), (2, 1)], [.c (.int .i64 1), .t 39, .t 40], none⟩,
      ⟨some 42, .bslice 12 116 3 [.int .i64 0, .int .i64 0, .imm 1 []] 1 [0], [.t 41], none⟩,
      ⟨some 43, .call 66 [13, 14, 15, 16] 0, [.t 34, .t 42], none⟩] [0, 1, 2, 3, 4, 5, 6, 7, 8, 9, 10, 11] none [(0, 10), (1, 10), (2, 10)]) [0, 1, 2])
  (.seq (.seq (.kpost (.reg [⟨some 44, .fadr 0, [.t 0], none⟩,
       ⟨some 45, .load none, [.t 44], none⟩,
       ⟨some 46, .bin .gtr 0, [.t 45, .c (.int .i64 3)], none⟩]) [1, 2, 46])
   (.cond (.t 46)
    (.kpost (.reg [⟨some 47, .load none, [.t 1], none⟩,
        ⟨some 48, .nilchk, [.t 47], none⟩,
        ⟨some 49, .fadr 0, [.t 48], none⟩,
        ⟨some 50, .call 53 [17, 18, 19, 20] 0, [.t 49, .c (.int .i64 5), .c (.int .i64 0)], none⟩]) [1, 2])
    .skip))
  (.kpost (.reg [⟨some 51, .load none, [.t 1], none⟩,
     ⟨some 52, .load (some 6), [.t 2], none⟩,
     ⟨some 53, .nilchk, [.t 51], none⟩,
     ⟨some 54, .fadr 7, [.t 53], none⟩,
     ⟨none, .store 6, [.t 54, .t 52], none⟩]) [])))))) }
/-- waggoner/change.Write -/
def i64 : IFn := { ns := 8, nt := 53, res := [.t 2, .t 3], body :=
  (.seq (.kpost (.reg [⟨some 1, .box 0 70, [.t 0], none⟩,
      ⟨some 2, .mv, [.c (.nils 5 1)], none⟩,
      ⟨some 3, .mv, [.c (.int .i64 0)], none⟩]) [1])
  (.seq (.seq (.kpost (.reg [⟨some 8, .load (some 6), [.t 1], none⟩,
       ⟨some 9, .call 70 [] 0, [.t 8], none⟩,
       ⟨some 10, .bnot, [.t 9], none⟩]) [1, 10])
   (.cond (.t 10)
    (.seq (.kpost (.reg [⟨some 2, .mv, [.c (.nils 5 1)], none⟩,
         ⟨some 3, .mv, [.c (.int .i64 100)], none⟩]) [2, 3])
     .ret)
    .skip))
  (.seq (.kpost (.reg [⟨some 12, .fadr 0, [.t 1], none⟩,
      ⟨some 13, .load none, [.t 12], none⟩,
      ⟨some 14, .conv .u64, [.t 13], none⟩,
      ⟨some 15, .fadr 1, [.t 1], none⟩,
      ⟨some 16, .load none, [.t 15], none⟩,
      ⟨some 17, .conv .u64, [.t 16], none⟩,
      ⟨some 18, .fadr 2, [.t 1], none⟩,
      ⟨some 19, .load none, [.t 18], none⟩,
      ⟨some 20, .conv .u64, [.t 19], none⟩,
      ⟨some 21, .fadr 3, [.t 1], none⟩,
      ⟨some 22, .load none, [.t 21], none⟩,
      ⟨some 23, .conv .u64, [.t 22], none⟩,
      ⟨some 24, .fadr 4, [.t 1], none⟩,
      ⟨some 25, .load none, [.t 24], none⟩,
      ⟨some 26, .len, [.t 25], none⟩,
      ⟨some 27, .conv .u64, [.t 26], none⟩,
      ⟨some 28, .bslice 1 161 1 [.int .u64 0] 5 [0, 1, 2, 3, 4], [.t 14, .t 17, .t 20, .t 23, .t 27], none⟩,
      ⟨some 29, .call 103 [2, 3] 1, [.c (.str [98, 98, 98, 119, 104]), .t 28], none⟩,
      ⟨some 11, .mv, [.t 29], none⟩,
      ⟨some 30, .extr 0, [.t 11], none⟩,
      ⟨some 31, .extr 1, [.t 11], none⟩,
      ⟨some 4, .mv, [.t 30], none⟩,
      ⟨some 5, .mv, [.t 31], none⟩]) [1, 4, 5])
  (.seq (.seq (.kpost (.reg [⟨some 32, .mv, [.t 5], none⟩,
       ⟨some 33, .bin .neq 0, [.t 32, .c (.int .i64 0)], none⟩]) [1, 4, 33])
   (.cond (.t 33)
    (.seq (.kpost (.reg [⟨some 2, .mv, [.c (.nils 5 1)], none⟩,
         ⟨some 3, .mv, [.c (.int .i64 100)], none⟩]) [2, 3])
     .ret)
    .skip))
  (.seq (.kpost (.reg [⟨some 34, .mv, [.t 4], none⟩,
      ⟨some 35, .fadr 4, [.t 1], none⟩,
      ⟨some 36, .load none, [.t 35], none⟩,
      ⟨some 37, .app 4 5 1 1, [.t 34, .t 36], none⟩,
      ⟨some 4, .mv, [.t 37], none⟩]) [1, 4])
  (.seq (.seq (.kpost (.reg [⟨some 38, .fadr 0, [.t 1], none⟩,
       ⟨some 39, .load none, [.t 38], none⟩,
       ⟨some 40, .bin .eql 0, [.t 39, .c (.int .i64 8)], none⟩]) [1, 4, 40])
   (.cond (.t 40)
    (.seq (.kpost (.reg [⟨some 42, .fadr 5, [.t 1], none⟩,
         ⟨some 43, .load none, [.t 42], none⟩,
         ⟨some 44, .call 104 [5, 6] 1, [.t 43], none⟩,
         ⟨some 41, .mv, [.t 44], none⟩,
         ⟨some 45, .extr 0, [.t 41], none⟩,
         ⟨some 46, .extr 1, [.t 41], none⟩,
         ⟨some 6, .mv, [.t 45], none⟩,
         ⟨some 7, .mv, [.t 46], none⟩]) [4, 6, 7])
     (.seq (.seq (.kpost (.reg [⟨some 47, .mv, [.t 7], none⟩,
          ⟨some 48, .bin .neq 0, [.t 47, .c (.int .i64 0)], none⟩]) [4, 6, 48])
      (.cond (.t 48)
       (.seq (.kpost (.reg [⟨some 2, .mv, [.c (.nils 5 1)], none⟩,
            ⟨some 3, .mv, [.c (.int .i64 100)], none⟩]) [2, 3])
        .ret)
       .skip))
     (.kpost (.reg [⟨some 49, .mv, [.t 4], none⟩,
        ⟨some 50, .mv, [.t 6], none⟩,
        ⟨some 51, .app 7 5 1 1, [.t 49, .t 50], none⟩,
        ⟨some 4, .mv, [.t 51], none⟩]) [4])))
    .skip))
  (.seq (.kpost (.reg [⟨some 52, .mv, [.t 4], none⟩,
      ⟨some 2, .mv, [.t 52], none⟩,
      ⟨some 3, .mv, [.c (.int .i64 0)], none⟩]) [2, 3])
  .ret))))))) }
/-- waggoner/volume.told -/
def i65 : IFn := { ns := 0, nt := 7, res := [], body :=
  (.seq (.kpost (.reg [⟨some 2, .mv, [.t 0], none⟩,
      ⟨some 3, .bin .neq 0, [.t 2, .c (.int .i64 0)], none⟩]) [0, 3])
  (.cond (.t 3)
   (.kpost (.reg [⟨some 4, .mv, [.t 0], none⟩,
       ⟨some 5, .build [.int .i64 0] [(0, 1)], [.t 4], none⟩,
       ⟨some 6, .mkifc 146, [.t 5], none⟩,
       ⟨none, .panic, [.t 6], none⟩]) [])
   .skip)) }
/-- (*waggoner/volume.journal).put -/
def i66 : IFn := { ns := 5, nt := 32, res := [], body :=
  (.seq (.kpost (.reg [⟨some 8, .mv, [.t 0], none⟩,
      ⟨some 9, .nilchk, [.t 8], none⟩,
      ⟨some 10, .fadr 0, [.t 9], none⟩,
      ⟨some 11, .load (some 5), [.t 10], none⟩,
      ⟨some 12, .mv, [.t 1], none⟩,
      ⟨some 13, .call 105 [0, 1, 2, 3] 1, [.t 11, .t 12], none⟩,
      ⟨some 7, .mv, [.t 13], none⟩,
      ⟨some 14, .extr 0, [.t 7], none⟩,
      ⟨some 15, .extr 1, [.t 7], none⟩,
      ⟨some 16, .extr 2, [.t 7], none⟩,
      ⟨some 4, .alloc 4 51 [.int .i64 0, .nils 54 4, .int .i64 0, .bool false, .int .i64 0], [], none⟩,
      ⟨none, .store 5, [.t 4, .t 14], none⟩,
      ⟨some 5, .mv, [.t 15], none⟩,
      ⟨some 6, .mv, [.t 16], none⟩]) [0, 1, 4, 6])
  (.seq (.kpost (.reg [⟨some 17, .mv, [.t 0], none⟩,
      ⟨some 18, .load (some 5), [.t 4], none⟩,
      ⟨some 19, .nilchk, [.t 17], none⟩,
      ⟨some 20, .fadr 0, [.t 19], none⟩,
      ⟨none, .store 5, [.t 20, .t 18], none⟩]) [0, 1, 6])
  (.seq (.kpost (.reg [⟨some 21, .mv, [.t 6], none⟩,
      ⟨some 22, .call 65 [] 0, [.t 21], none⟩]) [0, 1])
  (.kpost (.reg [⟨some 23, .mv, [.t 0], none⟩,
     ⟨some 24, .nilchk, [.t 23], none⟩,
     ⟨some 25, .fadr 6, [.t 24], none⟩,
     ⟨some 26, .load none, [.t 25], none⟩,
     ⟨some 27, .mv, [.t 1], none⟩,
     ⟨some 28, .len, [.t 27], none⟩,
     ⟨some 29, .bin .add 0, [.t 26, .t 28], none⟩,
     ⟨some 30, .nilchk, [.t 23], none⟩,
     ⟨some 31, .fadr 6, [.t 30], none⟩,
     ⟨none, .store 1, [.t 31, .t 29], none⟩]) [])))) }
/-- waggoner/space.Check -/
def i67 : IFn := { ns := 0, nt := 22, res := [.t 6], body :=
  (.seq (.kpost (.reg [⟨some 6, .mv, [.c (.int .i64 0)], none⟩]) [0, 1, 2])
  (.seq (.seq (.kpost (.reg [⟨some 8, .mv, [.t 2], none⟩,
       ⟨some 9, .mv, [.t 1], none⟩,
       ⟨some 10, .call 22 [] 0, [.t 8, .t 9], none⟩,
       ⟨some 7, .mv, [.t 10], none⟩]) [0, 7])
   (.seq (.kpost (.reg [⟨some 11, .mv, [.t 7], none⟩,
       ⟨some 12, .bin .eql 0, [.t 11, .c (.int .i64 0)], none⟩,
       ⟨some 13, .mv, [.t 12], none⟩,
       ⟨some 14, .mv, [.t 0], some (13, false)⟩,
       ⟨some 15, .mv, [.t 7], some (13, false)⟩,
       ⟨some 16, .bin .lss 0, [.t 14, .t 15], some (13, false)⟩,
       ⟨some 17, .pick, [.t 13, .c (.bool true), .t 16], none⟩,
       ⟨some 18, .mv, [.t 17], none⟩,
       ⟨some 19, .mv, [.t 0], some (18, false)⟩,
       ⟨some 20, .bin .gtr 0, [.t 19, .c (.int .i64 64)], some (18, false)⟩,
       ⟨some 21, .pick, [.t 18, .c (.bool true), .t 20], none⟩]) [21])
   (.cond (.t 21)
    (.seq (.kpost (.reg [⟨some 6, .mv, [.c (.int .i64 130)], none⟩]) [6])
     .ret)
    .skip)))
  (.seq (.kpost (.reg [⟨some 6, .mv, [.c (.int .i64 0)], none⟩]) [6])
  .ret))) }
/-- waggoner/dev.New -/
def i68 : IFn := { ns := 2, nt := 25, res := [.cell 4 (some 5), .t 5], body :=
  (.seq (.kpost (.reg [⟨some 4, .alloc 0 51 [.int .i64 0, .nils 54 4, .int .i64 0, .bool false, .int .i64 0], [], none⟩,
      ⟨some 5, .mv, [.c (.int .i64 0)], none⟩]) [0, 1, 4])
  (.seq (.seq (.kpost (.reg [⟨some 6, .mv, [.t 0], none⟩,
       ⟨some 7, .bin .lss 0, [.t 6, .c (.int .i64 1)], none⟩,
       ⟨some 8, .mv, [.t 7], none⟩,
       ⟨some 9, .mv, [.t 0], some (8, false)⟩,
       ⟨some 10, .bin .gtr 0, [.t 9, .c (.int .i64 64)], some (8, false)⟩,
       ⟨some 11, .pick, [.t 8, .c (.bool true), .t 10], none⟩,
       ⟨some 12, .mv, [.t 11], none⟩,
       ⟨some 13, .mv, [.t 1], some (12, false)⟩,
       ⟨some 14, .bin .lss 0, [.t 13, .c (.int .i64 1)], some (12, false)⟩,
       ⟨some 15, .pick, [.t 12, .c (.bool true), .t 14], none⟩,
       ⟨some 16, .mv, [.t 15], none⟩,
       ⟨some 17, .mv, [.t 1], some (16, false)⟩,
       ⟨some 18, .bin .gtr 0, [.t 17, .c (.int .i64 1048576)], some (16, false)⟩,
       ⟨some 19, .pick, [.t 16, .c (.bool true), .t 18], none⟩]) [0, 1, 4, 19])
   (.cond (.t 19)
    (.seq (.kpost (.reg [⟨some 20, .build [.int .i64 0, .nils 54 4, .int .i64 0, .bool false, .int .i64 0] [], [], none⟩,
         ⟨none, .store 5, [.t 4, .t 20], none⟩,
         ⟨some 5, .mv, [.c (.int .i64 1)], none⟩]) [4, 5])
     .ret)
    .skip))
  (.seq (.kpost (.reg [⟨some 21, .mv, [.t 1], none⟩,
      ⟨some 22, .mv, [.t 0], none⟩,
      ⟨some 23, .mkslice 1 54 4 48 [.int .i64 0, .int .i64 0, .imm 1 [], .int .i64 0], [.t 22, .t 22], none⟩,
      ⟨some 24, .build [.int .i64 0, .nils 54 4, .int .i64 0, .bool false, .int .i64 0] [(0, 1), (1, 1), (2, 1)], [.t 21, .t 23, .c (.int .i64 (-1))], none⟩,
      ⟨none, .store 5, [.t 4, .t 24], none⟩,
      ⟨some 5, .mv, [.c (.int .i64 0)], none⟩]) [4, 5])
  .ret))) }
/-- waggoner/state.Check -/
def i69 : IFn := { ns := 3, nt := 104, res := [.t 2], body :=
  (.seq (.kpost (.reg [⟨some 1, .box 0 30, [.t 0], none⟩,
      ⟨some 2, .mv, [.c (.int .i64 0)], none⟩]) [1])
  (.seq (.kpost (.reg [⟨some 7, .fadr 0, [.t 1], none⟩,
      ⟨some 8, .load none, [.t 7], none⟩,
      ⟨some 9, .fadr 2, [.t 1], none⟩,
      ⟨some 10, .load none, [.t 9], none⟩,
      ⟨some 11, .fadr 1, [.t 1], none⟩,
      ⟨some 12, .load none, [.t 11], none⟩,
      ⟨some 13, .call 106 [] 0, [.t 8, .t 10, .t 12], none⟩,
      ⟨some 14, .mv, [.t 13], none⟩,
      ⟨some 15, .fadr 1, [.t 1], some (14, true)⟩,
      ⟨some 16, .load none, [.t 15], some (14, true)⟩,
      ⟨some 17, .call 107 [] 0, [.t 16, .c (.int .i64 1), .c (.int .i64 2147483647)], some (14, true)⟩,
      ⟨some 18, .pick, [.t 14, .t 17, .c (.bool false)], none⟩,
      ⟨some 19, .mv, [.t 18], none⟩,
      ⟨some 20, .fadr 3, [.t 1], some (19, true)⟩,
      ⟨some 21, .load none, [.t 20], some (19, true)⟩,
      ⟨some 22, .len, [.t 21], some (19, true)⟩,
      ⟨some 23, .bin .leq 0, [.t 22, .c (.int .i64 4)], some (19, true)⟩,
      ⟨some 24, .pick, [.t 19, .t 23, .c (.bool false)], none⟩,
      ⟨some 25, .mv, [.t 24], none⟩,
      ⟨some 26, .fadr 4, [.t 1], some (25, true)⟩,
      ⟨some 27, .load none, [.t 26], some (25, true)⟩,
      ⟨some 28, .call 107 [] 0, [.t 27, .c (.int .i64 0), .c (.int .i64 2147483647)], some (25, true)⟩,
      ⟨some 29, .pick, [.t 25, .t 28, .c (.bool false)], none⟩,
      ⟨some 30, .mv, [.t 29], none⟩,
      ⟨some 31, .fadr 5, [.t 1], some (30, true)⟩,
      ⟨some 32, .load none, [.t 31], some (30, true)⟩,
      ⟨some 33, .len, [.t 32], some (30, true)⟩,
      ⟨some 34, .bin .leq 0, [.t 33, .c (.int .i64 4000)], some (30, true)⟩,
      ⟨some 35, .pick, [.t 30, .t 34, .c (.bool false)], none⟩,
      ⟨some 3, .mv, [.t 35], none⟩]) [1, 3])
  (.seq (.kpost (.reg [⟨some 4, .alloc 1 95 [.int .i64 0, .int .i64 0, .nils 48 5], [], none⟩]) [1, 3, 4])
  (.seq (.seq (.kpost (.reg [⟨some 36, .fadr 3, [.t 1], none⟩,
       ⟨some 37, .load none, [.t 36], none⟩,
       ⟨some 38, .len, [.t 37], none⟩,
       ⟨some 39, .mv, [.c (.int .i64 0)], none⟩]) [1, 3, 4, 37, 38, 39])
   (.block 0 (.kpre [1, 3, 4, 37, 38, 39] (.loop (.kpost (.seq (.kpost (.reg [⟨some 40, .bin .lss 0, [.t 39, .t 38], none⟩]) [1, 3, 4, 37, 38, 39, 40])
       (.seq (.cond (.t 40)
         .skip
         (.exit 0))
       (.seq (.block 1 (.seq (.kpost (.reg [⟨some 41, .iadr 3, [.t 37, .t 39], none⟩,
             ⟨some 42, .load (some 3), [.t 41], none⟩,
             ⟨some 6, .alloc 2 95 [.int .i64 0, .int .i64 0, .nils 48 5], [], none⟩,
             ⟨none, .store 3, [.t 6, .t 42], none⟩]) [1, 3, 4, 6, 37, 38, 39])
         (.seq (.kpost (.reg [⟨some 43, .mv, [.t 3], none⟩,
             ⟨some 44, .mv, [.t 43], none⟩,
             ⟨some 45, .fadr 0, [.t 1], some (44, true)⟩,
             ⟨some 46, .load none, [.t 45], some (44, true)⟩,
             ⟨some 47, .fadr 2, [.t 6], some (44, true)⟩,
             ⟨some 48, .load none, [.t 47], some (44, true)⟩,
             ⟨some 49, .fadr 1, [.t 6], some (44, true)⟩,
             ⟨some 50, .load none, [.t 49], some (44, true)⟩,
             ⟨some 51, .call 106 [] 0, [.t 46, .t 48, .t 50], some (44, true)⟩,
             ⟨some 52, .pick, [.t 44, .t 51, .c (.bool false)], none⟩,
             ⟨some 53, .mv, [.t 52], none⟩,
             ⟨some 54, .fadr 0, [.t 6], some (53, true)⟩,
             ⟨some 55, .load none, [.t 54], some (53, true)⟩,
             ⟨some 56, .fadr 0, [.t 4], some (53, true)⟩,
             ⟨some 57, .load none, [.t 56], some (53, true)⟩,
             ⟨some 58, .bin .gtr 0, [.t 55, .t 57], some (53, true)⟩,
             ⟨some 59, .pick, [.t 53, .t 58, .c (.bool false)], none⟩,
             ⟨some 60, .mv, [.t 59], none⟩,
             ⟨some 61, .fadr 0, [.t 6], some (60, true)⟩,
             ⟨some 62, .load none, [.t 61], some (60, true)⟩,
             ⟨some 63, .fadr 4, [.t 1], some (60, true)⟩,
             ⟨some 64, .load none, [.t 63], some (60, true)⟩,
             ⟨some 65, .bin .leq 0, [.t 62, .t 64], some (60, true)⟩,
             ⟨some 66, .pick, [.t 60, .t 65, .c (.bool false)], none⟩,
             ⟨some 67, .mv, [.t 66], none⟩,
             ⟨some 68, .fadr 1, [.t 6], some (67, true)⟩,
             ⟨some 69, .load none, [.t 68], some (67, true)⟩,
             ⟨some 70, .fadr 1, [.t 4], some (67, true)⟩,
             ⟨some 71, .load none, [.t 70], some (67, true)⟩,
             ⟨some 72, .bin .gtr 0, [.t 69, .t 71], some (67, true)⟩,
             ⟨some 73, .pick, [.t 67, .t 72, .c (.bool false)], none⟩,
             ⟨some 74, .mv, [.t 73], none⟩,
             ⟨some 75, .fadr 1, [.t 6], some (74, true)⟩,
             ⟨some 76, .load none, [.t 75], some (74, true)⟩,
             ⟨some 77, .fadr 1, [.t 1], some (74, true)⟩,
             ⟨some 78, .load none, [.t 77], some (74, true)⟩,
             ⟨some 79, .bin .lss 0, [.t 76, .t 78], some (74, true)⟩,
             ⟨some 80, .pick, [.t 74, .t 79, .c (.bool false)], none⟩,
             ⟨some 81, .mv, [.t 80], none⟩,
             ⟨some 82, .fadr 2, [.t 4], some (81, true)⟩,
             ⟨some 83, .load none, [.t 82], some (81, true)⟩,
             ⟨some 84, .fadr 2, [.t 6], some (81, true)⟩,
             ⟨some 85, .load none, [.t 84], some (81, true)⟩,
             ⟨some 86, .fadr 1, [.t 4], some (81, true)⟩,
             ⟨some 87, .load none, [.t 86], some (81, true)⟩,
             ⟨some 88, .call 108 [] 0, [.t 83, .t 85, .t 87], some (81, true)⟩,
             ⟨some 89, .pick, [.t 81, .t 88, .c (.bool false)], none⟩,
             ⟨some 3, .mv, [.t 89], none⟩]) [1, 3, 4, 6, 37, 38, 39])
         (.kpost (.reg [⟨some 90, .load (some 3), [.t 6], none⟩,
            ⟨none, .store 3, [.t 4, .t 90], none⟩]) [1, 3, 4, 37, 38, 39]))))
       (.kpost (.reg [⟨some 91, .bin .add 0, [.t 39, .c (.int .i64 1)], none⟩,
          ⟨some 39, .mv, [.t 91], none⟩]) [1, 3, 4, 37, 38, 39])))) [1, 3, 4, 37, 38, 39])))))
  (.seq (.seq (.kpost (.reg [⟨some 92, .mv, [.t 3], none⟩,
       ⟨some 93, .bnot, [.t 92], none⟩,
       ⟨some 94, .mv, [.t 93], none⟩,
       ⟨some 95, .fadr 2, [.t 4], some (94, false)⟩,
       ⟨some 96, .load none, [.t 95], some (94, false)⟩,
       ⟨some 97, .fadr 2, [.t 1], some (94, false)⟩,
       ⟨some 98, .load none, [.t 97], some (94, false)⟩,
       ⟨some 99, .fadr 1, [.t 4], some (94, false)⟩,
       ⟨some 100, .load none, [.t 99], some (94, false)⟩,
       ⟨some 101, .call 108 [] 0, [.t 96, .t 98, .t 100], some (94, false)⟩,
       ⟨some 102, .bnot, [.t 101], some (94, false)⟩,
       ⟨some 103, .pick, [.t 94, .c (.bool true), .t 102], none⟩]) [103])
   (.cond (.t 103)
    (.seq (.kpost (.reg [⟨some 2, .mv, [.c (.int .i64 110)], none⟩]) [2])
     .ret)
    .skip))
  (.seq (.kpost (.reg [⟨some 2, .mv, [.c (.int .i64 0)], none⟩]) [2])
  .ret)))))) }
/-- waggoner/change.Check -/
def i70 : IFn := { ns := 72, nt := 68, res := [.t 2], body :=
  (.seq (.kpost (.reg [⟨some 1, .box 0 70, [.t 0], none⟩,
      ⟨some 2, .mv, [.c (.bool false)], none⟩]) [1])
  (.seq (.seq (.kpost (.reg [⟨some 6, .fadr 0, [.t 1], none⟩,
       ⟨some 7, .load none, [.t 6], none⟩,
       ⟨some 8, .call 109 [] 0, [.t 7, .c (.int .i64 1), .c (.int .i64 8)], none⟩,
       ⟨some 9, .bnot, [.t 8], none⟩]) [1, 9])
   (.cond (.t 9)
    (.seq (.kpost (.reg [⟨some 2, .mv, [.c (.bool false)], none⟩]) [2])
     .ret)
    .skip))
  (.seq (.kpost (.regD [⟨some 10, .call 110 [1, 2, 3, 4, 5, 6, 7, 8, 9, 10, 11, 12, 13, 14, 15, 16, 17, 18, 19, 20, 21, 22, 23, 24, 25, 26, 27, 28, 29, 30, 31, 32, 33, 34, 35, 36, 37, 38, 39, 40, 41, 42, 43, 44, 45, 46, 47, 48, 49, 50, 51, 52, 53, 54] 1, [], none⟩,
      ⟨some 11, .fadr 0, [.t 1], none⟩,
      ⟨some 12, .load none, [.t 11], none⟩,
      ⟨some 13, .idx 9 4 (some 4), [.t 10, .t 12], none⟩,
      ⟨some 3, .alloc 55 178 [.bool false, .bool false, .bool false, .nilf], [], none⟩,
      ⟨none, .store 4, [.t 3, .t 13], none⟩] [0, 1, 2, 3, 4, 5] none [(0, 1), (0, 2), (0, 4), (1, 4), (2, 4)]) [1, 3])
  (.seq (.kpost (.reg [⟨some 14, .fadr 1, [.t 1], none⟩,
      ⟨some 15, .load none, [.t 14], none⟩,
      ⟨some 16, .bin .eql 0, [.t 15, .c (.int .i64 0)], none⟩,
      ⟨some 17, .mv, [.t 16], none⟩,
      ⟨some 18, .fadr 2, [.t 1], some (17, true)⟩,
      ⟨some 19, .load none, [.t 18], some (17, true)⟩,
      ⟨some 20, .bin .eql 0, [.t 19, .c (.int .i64 0)], some (17, true)⟩,
      ⟨some 21, .pick, [.t 17, .t 20, .c (.bool false)], none⟩,
      ⟨some 4, .mv, [.t 21], none⟩]) [1, 3, 4])
  (.seq (.seq (.kpost (.reg [⟨some 22, .fadr 0, [.t 3], none⟩,
       ⟨some 23, .load none, [.t 22], none⟩]) [1, 3, 4, 23])
   (.cond (.t 23)
    (.kpost (.reg [⟨some 24, .fadr 1, [.t 1], none⟩,
        ⟨some 25, .load none, [.t 24], none⟩,
        ⟨some 26, .call 109 [] 0, [.t 25, .c (.int .i64 0), .c (.int .i64 64)], none⟩,
        ⟨some 27, .mv, [.t 26], none⟩,
        ⟨some 28, .fadr 2, [.t 1], some (27, true)⟩,
        ⟨some 29, .load none, [.t 28], some (27, true)⟩,
        ⟨some 30, .fadr 1, [.t 1], some (27, true)⟩,
        ⟨some 31, .load none, [.t 30], some (27, true)⟩,
        ⟨some 32, .bin .sub 0, [.c (.int .i64 64), .t 31], some (27, true)⟩,
        ⟨some 33, .call 109 [] 0, [.t 29, .c (.int .i64 1), .t 32], some (27, true)⟩,
        ⟨some 34, .pick, [.t 27, .t 33, .c (.bool false)], none⟩,
        ⟨some 4, .mv, [.t 34], none⟩]) [1, 3, 4])
    .skip))
  (.seq (.kpost (.reg [⟨some 35, .fadr 3, [.t 1], none⟩,
      ⟨some 36, .load none, [.t 35], none⟩,
      ⟨some 37, .bin .eql 0, [.t 36, .c (.int .i64 0)], none⟩,
      ⟨some 5, .mv, [.t 37], none⟩]) [1, 3, 4, 5])
  (.seq (.seq (.kpost (.reg [⟨some 38, .fadr 1, [.t 3], none⟩,
       ⟨some 39, .load none, [.t 38], none⟩]) [1, 3, 4, 5, 39])
   (.cond (.t 39)
    (.kpost (.reg [⟨some 40, .fadr 3, [.t 1], none⟩,
        ⟨some 41, .load none, [.t 40], none⟩,
        ⟨some 42, .call 109 [] 0, [.t 41, .c (.int .i64 1), .c (.int .i64 2147483647)], none⟩,
        ⟨some 5, .mv, [.t 42], none⟩]) [1, 3, 4, 5])
    .skip))
  (.seq (.kpost (.reg [⟨some 43, .mv, [.t 4], none⟩,
      ⟨some 44, .mv, [.t 43], none⟩,
      ⟨some 45, .mv, [.t 5], some (44, true)⟩,
      ⟨some 46, .pick, [.t 44, .t 45, .c (.bool false)], none⟩,
      ⟨some 47, .mv, [.t 46], none⟩,
      ⟨some 48, .fadr 3, [.t 3], some (47, true)⟩,
      ⟨some 49, .load none, [.t 48], some (47, true)⟩,
      ⟨some 50, .load (some 6), [.t 1], some (47, true)⟩,
      ⟨some 51, .callv [56, 57, 58, 59, 60, 61, 62, 63, 64, 65, 66, 67, 68, 69, 70, 71] 0, [.t 49, .t 50], some (47, true)⟩,
      ⟨some 52, .pick, [.t 47, .t 51, .c (.bool false)], none⟩,
      ⟨some 53, .mv, [.t 52], none⟩,
      ⟨some 54, .fadr 5, [.t 1], some (53, true)⟩,
      ⟨some 55, .load none, [.t 54], some (53, true)⟩,
      ⟨some 56, .len, [.t 55], some (53, true)⟩,
      ⟨some 57, .bin .eql 0, [.t 56, .c (.int .i64 0)], some (53, true)⟩,
      ⟨some 58, .mv, [.t 57], some (53, true)⟩,
      ⟨some 59, .fadr 2, [.t 3], some (58, false)⟩,
      ⟨some 60, .load none, [.t 59], some (58, false)⟩,
      ⟨some 61, .mv, [.t 60], some (58, false)⟩,
      ⟨some 62, .fadr 5, [.t 1], some (61, true)⟩,
      ⟨some 63, .load none, [.t 62], some (61, true)⟩,
      ⟨some 64, .call 111 [] 0, [.t 63], some (61, true)⟩,
      ⟨some 65, .pick, [.t 61, .t 64, .c (.bool false)], some (58, false)⟩,
      ⟨some 66, .pick, [.t 58, .c (.bool true), .t 65], some (53, true)⟩,
      ⟨some 67, .pick, [.t 53, .t 66, .c (.bool false)], none⟩,
      ⟨some 2, .mv, [.t 67], none⟩]) [2])
  .ret)))))))) }
/-- waggoner/state.does -/
def i71 : IFn := { ns := 1, nt := 3, res := [.t 0], body :=
  (.seq (.kpost (.reg [⟨some 0, .mv, [.c (.nilm)], none⟩]) [])
  (.seq (.kpost (.reg [⟨some 1, .mkmap 0, [], none⟩,
      ⟨none, .mapset, [.t 1, .c (.int .i64 1), .c (.fn 112 [] [])], none⟩,
      ⟨none, .mapset, [.t 1, .c (.int .i64 2), .c (.fn 113 [] [])], none⟩,
      ⟨none, .mapset, [.t 1, .c (.int .i64 3), .c (.fn 114 [] [])], none⟩,
      ⟨none, .mapset, [.t 1, .c (.int .i64 4), .c (.fn 115 [] [])], none⟩,
      ⟨none, .mapset, [.t 1, .c (.int .i64 5), .c (.fn 116 [] [])], none⟩,
      ⟨none, .mapset, [.t 1, .c (.int .i64 6), .c (.fn 117 [] [])], none⟩,
      ⟨none, .mapset, [.t 1, .c (.int .i64 7), .c (.fn 118 [] [])], none⟩,
      ⟨none, .mapset, [.t 1, .c (.int .i64 8), .c (.fn 119 [] [])], none⟩,
      ⟨some 2, .mv, [.t 1], none⟩,
      ⟨some 0, .mv, [.t 2], none⟩]) [0])
  .ret)) }
/-- waggoner/state.extents -/
def i72 : IFn := { ns := 5, nt := 21, res := [.t 2], body :=
  (.seq (.kpost (.reg [⟨some 2, .mv, [.c (.nils 48 5)], none⟩]) [0, 2])
  (.seq (.seq (.kpost (.reg [⟨some 5, .mv, [.t 0], none⟩,
       ⟨some 6, .len, [.t 5], none⟩,
       ⟨some 7, .mv, [.c (.int .i64 0)], none⟩]) [2, 5, 6, 7])
   (.block 0 (.kpre [2, 5, 6, 7] (.loop (.kpost (.seq (.kpost (.reg [⟨some 8, .bin .lss 0, [.t 7, .t 6], none⟩]) [2, 5, 6, 7, 8])
       (.seq (.cond (.t 8)
         .skip
         (.exit 0))
       (.seq (.block 1 (.seq (.kpost (.reg [⟨some 9, .iadr 5, [.t 5, .t 7], none⟩,
             ⟨some 10, .load (some 5), [.t 9], none⟩,
             ⟨some 4, .alloc 0 48 [.int .i64 0, .int .i64 0, .int .i64 0, .int .i64 0, .nils 5 1], [], none⟩,
             ⟨none, .store 5, [.t 4, .t 10], none⟩]) [2, 4, 5, 6, 7])
         (.seq (.kpost (.reg [⟨some 11, .fadr 4, [.t 4], none⟩,
             ⟨some 12, .load none, [.t 11], none⟩,
             ⟨some 13, .call 74 [1, 2] 1, [.t 12], none⟩,
             ⟨some 14, .fadr 4, [.t 4], none⟩,
             ⟨none, .store 1, [.t 14, .t 13], none⟩]) [2, 4, 5, 6, 7])
         (.kpost (.reg [⟨some 15, .mv, [.t 2], none⟩,
            ⟨some 16, .load (some 5), [.t 4], none⟩,
            ⟨some 17, .bslice 3 48 5 [.int .i64 0, .int .i64 0, .int .i64 0, .int .i64 0, .imm 1 []] 1 [0], [.t 16], none⟩,
            ⟨some 18, .app 4 48 5 56, [.t 15, .t 17], none⟩,
            ⟨some 2, .mv, [.t 18], none⟩]) [2, 5, 6, 7]))))
       (.kpost (.reg [⟨some 19, .bin .add 0, [.t 7, .c (.int .i64 1)], none⟩,
          ⟨some 7, .mv, [.t 19], none⟩]) [2, 5, 6, 7])))) [2, 5, 6, 7])))))
  (.seq (.kpost (.reg [⟨some 20, .mv, [.t 2], none⟩,
      ⟨some 2, .mv, [.t 20], none⟩]) [2])
  .ret))) }
/-- slices.Clone[[]waggoner/api.Point,waggoner/api.Point] -/
def i73 : IFn := { ns := 2, nt := 8, res := [.t 2], body :=
  (.seq (.kpost (.reg [⟨some 2, .mv, [.c (.nils 95 3)], none⟩]) [0])
  (.seq (.seq (.kpost (.reg [⟨some 3, .mv, [.t 0], none⟩,
       ⟨some 4, .bin .eql 7, [.t 3, .c (.nils 95 3)], none⟩]) [0, 4])
   (.cond (.t 4)
    (.seq (.kpost (.reg [⟨some 2, .mv, [.c (.nils 95 3)], none⟩]) [2])
     .ret)
    .skip))
  (.seq (.kpost (.reg [⟨some 5, .bslice 0 95 3 [.int .i64 0, .int .i64 0, .imm 5 []] 0 [], [], none⟩,
      ⟨some 6, .mv, [.t 0], none⟩,
      ⟨some 7, .app 1 95 3 40, [.t 5, .t 6], none⟩,
      ⟨some 2, .mv, [.t 7], none⟩]) [2])
  .ret))) }
/-- bytes.Clone -/
def i74 : IFn := { ns := 2, nt := 8, res := [.t 2], body :=
  (.seq (.kpost (.reg [⟨some 2, .mv, [.c (.nils 5 1)], none⟩]) [0])
  (.seq (.seq (.kpost (.reg [⟨some 3, .mv, [.t 0], none⟩,
       ⟨some 4, .bin .eql 7, [.t 3, .c (.nils 5 1)], none⟩]) [0, 4])
   (.cond (.t 4)
    (.seq (.kpost (.reg [⟨some 2, .mv, [.c (.nils 5 1)], none⟩]) [2])
     .ret)
    .skip))
  (.seq (.kpost (.reg [⟨some 5, .bslice 0 5 1 [.int .u8 0] 0 [], [], none⟩,
      ⟨some 6, .mv, [.t 0], none⟩,
      ⟨some 7, .app 1 5 1 1, [.t 5, .t 6], none⟩,
      ⟨some 2, .mv, [.t 7], none⟩]) [2])
  .ret))) }
/-- waggoner/extent.Check -/
def i75 : IFn := { ns := 1, nt := 32, res := [.t 2], body :=
  (.seq (.kpost (.reg [⟨some 1, .box 0 48, [.t 0], none⟩,
      ⟨some 2, .mv, [.c (.bool false)], none⟩]) [1])
  (.seq (.kpost (.regD [⟨some 3, .fadr 0, [.t 1], none⟩,
      ⟨some 4, .load none, [.t 3], none⟩,
      ⟨some 5, .call 120 [] 0, [.t 4, .c (.int .i64 0), .c (.int .i64 64)], none⟩,
      ⟨some 6, .mv, [.t 5], none⟩,
      ⟨some 7, .fadr 1, [.t 1], some (6, true)⟩,
      ⟨some 8, .load none, [.t 7], some (6, true)⟩,
      ⟨some 9, .fadr 0, [.t 1], some (6, true)⟩,
      ⟨some 10, .load none, [.t 9], some (6, true)⟩,
      ⟨some 11, .bin .sub 0, [.c (.int .i64 64), .t 10], some (6, true)⟩,
      ⟨some 12, .call 120 [] 0, [.t 8, .c (.int .i64 1), .t 11], some (6, true)⟩,
      ⟨some 13, .pick, [.t 6, .t 12, .c (.bool false)], none⟩,
      ⟨some 14, .mv, [.t 13], none⟩,
      ⟨some 15, .fadr 2, [.t 1], some (14, true)⟩,
      ⟨some 16, .load none, [.t 15], some (14, true)⟩,
      ⟨some 17, .call 120 [] 0, [.t 16, .c (.int .i64 0), .c (.int .i64 2)], some (14, true)⟩,
      ⟨some 18, .pick, [.t 14, .t 17, .c (.bool false)], none⟩,
      ⟨some 19, .mv, [.t 18], none⟩,
      ⟨some 20, .fadr 3, [.t 1], some (19, true)⟩,
      ⟨some 21, .load none, [.t 20], some (19, true)⟩,
      ⟨some 22, .call 120 [] 0, [.t 21, .c (.int .i64 0), .c (.int .i64 2147483647)], some (19, true)⟩,
      ⟨some 23, .pick, [.t 19, .t 22, .c (.bool false)], none⟩,
      ⟨some 24, .mv, [.t 23], none⟩,
      ⟨some 25, .fadr 4, [.t 1], some (24, true)⟩,
      ⟨some 26, .load none, [.t 25], some (24, true)⟩,
      ⟨some 27, .len, [.t 26], some (24, true)⟩,
      ⟨some 28, .load (some 5), [.t 1], some (24, true)⟩,
      ⟨some 29, .call 121 [] 0, [.t 28], some (24, true)⟩,
      ⟨some 30, .bin .eql 0, [.t 27, .t 29], some (24, true)⟩,
      ⟨some 31, .pick, [.t 24, .t 30, .c (.bool false)], none⟩,
      ⟨some 2, .mv, [.t 31], none⟩] [0, 1, 2, 3, 4, 5, 6, 7, 8, 9, 10, 11, 12, 13, 14, 15, 16, 17, 18, 19, 20, 21, 22, 23, 24, 25, 26, 27, 28, 29] none [(22, 26), (23, 26), (24, 26)]) [2])
  .ret)) }
/-- waggoner/extent.Joins -/
def i76 : IFn := { ns := 2, nt := 35, res := [.t 4], body :=
  (.seq (.kpost (.reg [⟨some 2, .box 0 48, [.t 0], none⟩,
      ⟨some 3, .box 1 48, [.t 1], none⟩,
      ⟨some 4, .mv, [.c (.bool false)], none⟩]) [2, 3])
  (.seq (.kpost (.reg [⟨some 5, .load (some 5), [.t 2], none⟩,
      ⟨some 6, .call 75 [] 0, [.t 5], none⟩,
      ⟨some 7, .mv, [.t 6], none⟩,
      ⟨some 8, .load (some 5), [.t 3], some (7, true)⟩,
      ⟨some 9, .call 75 [] 0, [.t 8], some (7, true)⟩,
      ⟨some 10, .pick, [.t 7, .t 9, .c (.bool false)], none⟩,
      ⟨some 11, .mv, [.t 10], none⟩,
      ⟨some 12, .fadr 0, [.t 2], some (11, true)⟩,
      ⟨some 13, .load none, [.t 12], some (11, true)⟩,
      ⟨some 14, .fadr 1, [.t 2], some (11, true)⟩,
      ⟨some 15, .load none, [.t 14], some (11, true)⟩,
      ⟨some 16, .bin .add 0, [.t 13, .t 15], some (11, true)⟩,
      ⟨some 17, .fadr 0, [.t 3], some (11, true)⟩,
      ⟨some 18, .load none, [.t 17], some (11, true)⟩,
      ⟨some 19, .bin .eql 0, [.t 16, .t 18], some (11, true)⟩,
      ⟨some 20, .pick, [.t 11, .t 19, .c (.bool false)], none⟩,
      ⟨some 21, .mv, [.t 20], none⟩,
      ⟨some 22, .fadr 2, [.t 2], some (21, true)⟩,
      ⟨some 23, .load none, [.t 22], some (21, true)⟩,
      ⟨some 24, .fadr 2, [.t 3], some (21, true)⟩,
      ⟨some 25, .load none, [.t 24], some (21, true)⟩,
      ⟨some 26, .bin .eql 0, [.t 23, .t 25], some (21, true)⟩,
      ⟨some 27, .pick, [.t 21, .t 26, .c (.bool false)], none⟩,
      ⟨some 28, .mv, [.t 27], none⟩,
      ⟨some 29, .fadr 3, [.t 2], some (28, true)⟩,
      ⟨some 30, .load none, [.t 29], some (28, true)⟩,
      ⟨some 31, .fadr 3, [.t 3], some (28, true)⟩,
      ⟨some 32, .load none, [.t 31], some (28, true)⟩,
      ⟨some 33, .bin .eql 0, [.t 30, .t 32], some (28, true)⟩,
      ⟨some 34, .pick, [.t 28, .t 33, .c (.bool false)], none⟩,
      ⟨some 4, .mv, [.t 34], none⟩]) [4])
  .ret)) }
/-- waggoner/image.done -/
def i77 : IFn := { ns := 18, nt := 52, res := [.t 10, .t 11], body :=
  (.seq (.kpost (.reg [⟨some 10, .mv, [.c (.nils 90 34)], none⟩,
      ⟨some 11, .mv, [.c (.int .i64 0)], none⟩]) [0, 1, 2, 3, 4])
  (.seq (.seq (.kpost (.reg [⟨some 14, .mv, [.t 0], none⟩,
       ⟨some 15, .call 122 [] 0, [.t 14], none⟩,
       ⟨some 16, .bnot, [.t 15], none⟩]) [0, 1, 2, 3, 4, 16])
   (.cond (.t 16)
    (.seq (.kpost (.reg [⟨some 10, .mv, [.c (.nils 90 34)], none⟩,
         ⟨some 11, .mv, [.c (.int .i64 90)], none⟩]) [10, 11])
     .ret)
    .skip))
  (.seq (.kpost (.reg [⟨some 17, .mv, [.t 0], none⟩,
      ⟨some 18, .call 123 [0, 1] 1, [.t 17], none⟩,
      ⟨some 12, .mv, [.t 18], none⟩]) [0, 1, 2, 3, 4, 12])
  (.seq (.seq (.kpost (.reg [⟨some 19, .mv, [.t 3], none⟩,
       ⟨some 20, .bnot, [.t 19], none⟩,
       ⟨some 21, .mv, [.t 20], none⟩,
       ⟨some 22, .mv, [.t 1], some (21, false)⟩,
       ⟨some 23, .mv, [.t 0], some (21, false)⟩,
       ⟨some 24, .len, [.t 23], some (21, false)⟩,
       ⟨some 25, .call 78 [] 0, [.t 22, .c (.int .i64 0), .t 24], some (21, false)⟩,
       ⟨some 26, .bnot, [.t 25], some (21, false)⟩,
       ⟨some 27, .pick, [.t 21, .c (.bool true), .t 26], none⟩,
       ⟨some 28, .mv, [.t 27], none⟩,
       ⟨some 29, .mv, [.t 2], some (28, false)⟩,
       ⟨some 30, .mv, [.t 0], some (28, false)⟩,
       ⟨some 31, .len, [.t 30], some (28, false)⟩,
       ⟨some 32, .mv, [.t 1], some (28, false)⟩,
       ⟨some 33, .bin .sub 0, [.t 31, .t 32], some (28, false)⟩,
       ⟨some 34, .call 78 [] 0, [.t 29, .c (.int .i64 1), .t 33], some (28, false)⟩,
       ⟨some 35, .bnot, [.t 34], some (28, false)⟩,
       ⟨some 36, .pick, [.t 28, .c (.bool true), .t 35], none⟩]) [1, 2, 4, 12, 36])
   (.cond (.t 36)
    (.seq (.kpost (.reg [⟨some 37, .mv, [.t 12], none⟩,
         ⟨some 10, .mv, [.t 37], none⟩,
         ⟨some 11, .mv, [.c (.int .i64 81)], none⟩]) [10, 11])
     .ret)
    .skip))
  (.seq (.seq (.kpost (.reg [⟨some 38, .mv, [.t 2], none⟩,
       ⟨some 39, .mv, [.c (.int .i64 0)], none⟩]) [1, 4, 12, 38, 39])
   (.block 0 (.kpre [1, 4, 12, 38, 39] (.loop (.kpost (.seq (.kpost (.reg [⟨some 40, .bin .lss 0, [.t 39, .t 38], none⟩]) [1, 4, 12, 38, 39, 40])
       (.seq (.cond (.t 40)
         .skip
         (.exit 0))
       (.seq (.block 1 (.seq (.kpost (.reg [⟨some 41, .mv, [.t 39], none⟩,
             ⟨some 13, .mv, [.t 41], none⟩]) [1, 4, 12, 13, 38, 39])
         (.kpost (.reg [⟨some 42, .mv, [.t 12], none⟩,
            ⟨some 43, .mv, [.t 1], none⟩,
            ⟨some 44, .mv, [.t 13], none⟩,
            ⟨some 45, .bin .add 0, [.t 43, .t 44], none⟩,
            ⟨some 46, .mv, [.t 4], none⟩,
            ⟨some 47, .mv, [.t 13], none⟩,
            ⟨some 48, .callv [2, 3, 4, 5, 6, 7, 8, 9, 10, 11, 12, 13, 14, 15, 16, 17] 0, [.t 46, .t 47], none⟩,
            ⟨some 49, .iadr 34, [.t 42, .t 45], none⟩,
            ⟨none, .store 34, [.t 49, .t 48], none⟩]) [1, 4, 12, 38, 39])))
       (.kpost (.reg [⟨some 50, .bin .add 0, [.t 39, .c (.int .i64 1)], none⟩,
          ⟨some 39, .mv, [.t 50], none⟩]) [1, 4, 12, 38, 39])))) [1, 4, 12, 38, 39])))))
  (.seq (.kpost (.reg [⟨some 51, .mv, [.t 12], none⟩,
      ⟨some 10, .mv, [.t 51], none⟩,
      ⟨some 11, .mv, [.c (.int .i64 0)], none⟩]) [10, 11])
  .ret)))))) }
/-- waggoner/image.within -/
def i78 : IFn := { ns := 0, nt := 15, res := [.t 6], body :=
  (.seq (.kpost (.reg [⟨some 6, .mv, [.c (.bool false)], none⟩]) [0, 1, 2])
  (.seq (.kpost (.reg [⟨some 7, .mv, [.t 0], none⟩,
      ⟨some 8, .mv, [.t 1], none⟩,
      ⟨some 9, .bin .geq 0, [.t 7, .t 8], none⟩,
      ⟨some 10, .mv, [.t 9], none⟩,
      ⟨some 11, .mv, [.t 0], some (10, true)⟩,
      ⟨some 12, .mv, [.t 2], some (10, true)⟩,
      ⟨some 13, .bin .leq 0, [.t 11, .t 12], some (10, true)⟩,
      ⟨some 14, .pick, [.t 10, .t 13, .c (.bool false)], none⟩,
      ⟨some 6, .mv, [.t 14], none⟩]) [6])
  .ret)) }
/-- waggoner/image.Fill$1 -/
def i79 : IFn := { ns := 1, nt := 8, res := [.cell 4 (some 34)], body :=
  (.seq (.kpost (.reg [⟨some 4, .alloc 0 90 [.int .i64 0, .int .i64 0, .int .u8 0, .int .u8 0, .int .u8 0, .int .u8 0, .int .u8 0, .int .u8 0, .int .u8 0, .int .u8 0, .int .u8 0, .int .u8 0, .int .u8 0, .int .u8 0, .int .u8 0, .int .u8 0, .int .u8 0, .int .u8 0, .int .u8 0, .int .u8 0, .int .u8 0, .int .u8 0, .int .u8 0, .int .u8 0, .int .u8 0, .int .u8 0, .int .u8 0, .int .u8 0, .int .u8 0, .int .u8 0, .int .u8 0, .int .u8 0, .int .u8 0, .int .u8 0], [], none⟩]) [1, 2, 4])
  (.seq (.kpost (.reg [⟨some 5, .load none, [.t 1], none⟩,
      ⟨some 6, .load none, [.t 2], none⟩,
      ⟨some 7, .build [.int .i64 0, .int .i64 0, .int .u8 0, .int .u8 0, .int .u8 0, .int .u8 0, .int .u8 0, .int .u8 0, .int .u8 0, .int .u8 0, .int .u8 0, .int .u8 0, .int .u8 0, .int .u8 0, .int .u8 0, .int .u8 0, .int .u8 0, .int .u8 0, .int .u8 0, .int .u8 0, .int .u8 0, .int .u8 0, .int .u8 0, .int .u8 0, .int .u8 0, .int .u8 0, .int .u8 0, .int .u8 0, .int .u8 0, .int .u8 0, .int .u8 0, .int .u8 0, .int .u8 0, .int .u8 0] [(0, 1), (1, 1)], [.t 5, .t 6], none⟩,
      ⟨none, .store 34, [.t 4, .t 7], none⟩]) [4])
  .ret)) }
/-- waggoner/waggonerref07.Same -/
def i80 : IFn := { ns := 2, nt := 40, res := [.t 4], body :=
  (.seq (.kpost (.reg [⟨some 2, .box 0 48, [.t 0], none⟩,
      ⟨some 3, .box 1 48, [.t 1], none⟩,
      ⟨some 4, .mv, [.c (.bool false)], none⟩]) [2, 3])
  (.seq (.kpost (.reg [⟨some 5, .fadr 0, [.t 2], none⟩,
      ⟨some 6, .load none, [.t 5], none⟩,
      ⟨some 7, .fadr 0, [.t 3], none⟩,
      ⟨some 8, .load none, [.t 7], none⟩,
      ⟨some 9, .bin .eql 0, [.t 6, .t 8], none⟩,
      ⟨some 10, .mv, [.t 9], none⟩,
      ⟨some 11, .fadr 1, [.t 2], some (10, true)⟩,
      ⟨some 12, .load none, [.t 11], some (10, true)⟩,
      ⟨some 13, .fadr 1, [.t 3], some (10, true)⟩,
      ⟨some 14, .load none, [.t 13], some (10, true)⟩,
      ⟨some 15, .bin .eql 0, [.t 12, .t 14], some (10, true)⟩,
      ⟨some 16, .pick, [.t 10, .t 15, .c (.bool false)], none⟩,
      ⟨some 17, .mv, [.t 16], none⟩,
      ⟨some 18, .fadr 2, [.t 2], some (17, true)⟩,
      ⟨some 19, .load none, [.t 18], some (17, true)⟩,
      ⟨some 20, .fadr 2, [.t 3], some (17, true)⟩,
      ⟨some 21, .load none, [.t 20], some (17, true)⟩,
      ⟨some 22, .bin .eql 0, [.t 19, .t 21], some (17, true)⟩,
      ⟨some 23, .pick, [.t 17, .t 22, .c (.bool false)], none⟩,
      ⟨some 24, .mv, [.t 23], none⟩,
      ⟨some 25, .fadr 3, [.t 2], some (24, true)⟩,
      ⟨some 26, .load none, [.t 25], some (24, true)⟩,
      ⟨some 27, .fadr 3, [.t 3], some (24, true)⟩,
      ⟨some 28, .load none, [.t 27], some (24, true)⟩,
      ⟨some 29, .bin .eql 0, [.t 26, .t 28], some (24, true)⟩,
      ⟨some 30, .pick, [.t 24, .t 29, .c (.bool false)], none⟩,
      ⟨some 31, .mv, [.t 30], none⟩,
      ⟨some 32, .fadr 4, [.t 2], some (31, true)⟩,
      ⟨some 33, .load none, [.t 32], some (31, true)⟩,
      ⟨some 34, .tostr, [.t 33], some (31, true)⟩,
      ⟨some 35, .fadr 4, [.t 3], some (31, true)⟩,
      ⟨some 36, .load none, [.t 35], some (31, true)⟩,
      ⟨some 37, .tostr, [.t 36], some (31, true)⟩,
      ⟨some 38, .bin .eql 2, [.t 34, .t 37], some (31, true)⟩,
      ⟨some 39, .pick, [.t 31, .t 38, .c (.bool false)], none⟩,
      ⟨some 4, .mv, [.t 39], none⟩]) [4])
  .ret)) }
/-- waggoner/dev.own -/
def i81 : IFn := { ns := 22, nt := 32, res := [.cell 4 (some 5)], body :=
  (.seq (.kpost (.reg [⟨some 2, .box 0 51, [.t 0], none⟩,
      ⟨some 4, .alloc 1 51 [.int .i64 0, .nils 54 4, .int .i64 0, .bool false, .int .i64 0], [], none⟩]) [1, 2, 4])
  (.seq (.kpost (.reg [⟨some 6, .fadr 1, [.t 2], none⟩,
      ⟨some 7, .load none, [.t 6], none⟩,
      ⟨some 8, .call 124 [2, 3] 1, [.t 7], none⟩,
      ⟨some 9, .fadr 1, [.t 2], none⟩,
      ⟨none, .store 1, [.t 9, .t 8], none⟩]) [1, 2, 4])
  (.seq (.seq (.kpost (.reg [⟨some 10, .fadr 1, [.t 2], none⟩,
       ⟨some 11, .load none, [.t 10], none⟩,
       ⟨some 12, .len, [.t 11], none⟩,
       ⟨some 13, .mv, [.c (.int .i64 0)], none⟩]) [1, 2, 4, 12, 13])
   (.block 0 (.kpre [1, 2, 4, 12, 13] (.loop (.kpost (.seq (.kpost (.reg [⟨some 14, .bin .lss 0, [.t 13, .t 12], none⟩]) [1, 2, 4, 12, 13, 14])
       (.seq (.cond (.t 14)
         .skip
         (.exit 0))
       (.seq (.block 1 (.seq (.kpost (.reg [⟨some 15, .mv, [.t 13], none⟩,
             ⟨some 5, .mv, [.t 15], none⟩]) [1, 2, 4, 5, 12, 13])
         (.kpost (.regD [⟨some 16, .fadr 1, [.t 2], none⟩,
            ⟨some 17, .load none, [.t 16], none⟩,
            ⟨some 18, .mv, [.t 5], none⟩,
            ⟨some 19, .fadr 1, [.t 2], none⟩,
            ⟨some 20, .load none, [.t 19], none⟩,
            ⟨some 21, .mv, [.t 5], none⟩,
            ⟨some 22, .iadr 4, [.t 20, .t 21], none⟩,
            ⟨some 23, .fadr 2, [.t 22], none⟩,
            ⟨some 24, .load none, [.t 23], none⟩,
            ⟨some 25, .call 74 [4, 5] 1, [.t 24], none⟩,
            ⟨some 26, .iadr 4, [.t 17, .t 18], none⟩,
            ⟨some 27, .fadr 2, [.t 26], none⟩,
            ⟨none, .store 1, [.t 27, .t 25], none⟩] [0, 1, 2, 3, 4, 5, 6, 7, 8, 9, 10, 11, 12] none [(0, 9), (1, 9)]) [1, 2, 4, 12, 13])))
       (.kpost (.reg [⟨some 28, .bin .add 0, [.t 13, .c (.int .i64 1)], none⟩,
          ⟨some 13, .mv, [.t 28], none⟩]) [1, 2, 4, 12, 13])))) [1, 2, 4, 12, 13])))))
  (.seq (.kpost (.reg [⟨some 29, .mv, [.t 1], none⟩,
      ⟨some 30, .callv [6, 7, 8, 9, 10, 11, 12, 13, 14, 15, 16, 17, 18, 19, 20, 21] 0, [.t 29, .t 2], none⟩]) [2, 4])
  (.seq (.kpost (.reg [⟨some 31, .load (some 5), [.t 2], none⟩,
      ⟨none, .store 5, [.t 4, .t 31], none⟩]) [4])
  .ret))))) }
/-- waggoner/dev.Limit$1 -/
def i82 : IFn := { ns := 0, nt := 7, res := [], body :=
  (.kpost (.reg [⟨some 3, .mv, [.t 0], none⟩,
     ⟨some 4, .load none, [.t 1], none⟩,
     ⟨some 5, .nilchk, [.t 3], none⟩,
     ⟨some 6, .fadr 2, [.t 5], none⟩,
     ⟨none, .store 1, [.t 6, .t 4], none⟩]) []) }
/-- waggoner/space.some -/
def i83 : IFn := { ns := 0, nt := 7, res := [.t 2], body :=
  (.seq (.kpost (.reg [⟨some 2, .mv, [.c (.bool false)], none⟩]) [0])
  (.seq (.kpost (.reg [⟨some 3, .mv, [.t 0], none⟩,
      ⟨some 4, .call 49 [] 0, [.t 3, .c (.int .i64 1), .c (.int .i64 64)], none⟩,
      ⟨some 5, .mv, [.t 0], none⟩,
      ⟨some 6, .bin .eql 0, [.t 4, .t 5], none⟩,
      ⟨some 2, .mv, [.t 6], none⟩]) [2])
  .ret)) }
/-- waggoner/space.may -/
def i84 : IFn := { ns := 0, nt := 7, res := [.t 2], body :=
  (.seq (.kpost (.reg [⟨some 2, .mv, [.c (.bool false)], none⟩]) [0])
  (.seq (.kpost (.reg [⟨some 3, .mv, [.t 0], none⟩,
      ⟨some 4, .call 49 [] 0, [.t 3, .c (.int .i64 8192), .c (.int .i64 1048576)], none⟩,
      ⟨some 5, .mv, [.t 0], none⟩,
      ⟨some 6, .bin .eql 0, [.t 4, .t 5], none⟩,
      ⟨some 2, .mv, [.t 6], none⟩]) [2])
  .ret)) }
/-- waggoner/space.Need$1 -/
def i85 : IFn := { ns := 0, nt := 7, res := [.t 3], body :=
  (.seq (.kpost (.reg [⟨some 3, .mv, [.c (.int .i64 0)], none⟩]) [0, 1])
  (.seq (.kpost (.reg [⟨some 4, .mv, [.t 0], none⟩,
      ⟨some 5, .load none, [.t 1], none⟩,
      ⟨some 6, .call 48 [] 0, [.t 4, .t 5], none⟩,
      ⟨some 3, .mv, [.t 6], none⟩]) [3])
  .ret)) }
/-- waggoner/space.Change -/
def i86 : IFn := { ns := 0, nt := 11, res := [.t 2], body :=
  (.seq (.kpost (.reg [⟨some 2, .mv, [.c (.int .i64 0)], none⟩]) [0])
  (.seq (.seq (.kpost (.reg [⟨some 3, .mv, [.t 0], none⟩,
       ⟨some 4, .call 83 [] 0, [.t 3], none⟩,
       ⟨some 5, .bnot, [.t 4], none⟩]) [0, 5])
   (.cond (.t 5)
    (.seq (.kpost (.reg [⟨some 2, .mv, [.c (.int .i64 0)], none⟩]) [2])
     .ret)
    .skip))
  (.seq (.kpost (.reg [⟨some 6, .mv, [.t 0], none⟩,
      ⟨some 7, .bin .mul 0, [.t 6, .c (.int .i64 39)], none⟩,
      ⟨some 8, .bin .add 0, [.c (.int .i64 10), .t 7], none⟩,
      ⟨some 9, .max2, [.t 8, .c (.int .i64 1009)], none⟩,
      ⟨some 10, .call 88 [] 0, [.t 9], none⟩,
      ⟨some 2, .mv, [.t 10], none⟩]) [2])
  .ret))) }
/-- waggoner/space.mapped -/
def i87 : IFn := { ns := 0, nt := 6, res := [.t 2], body :=
  (.seq (.kpost (.reg [⟨some 2, .mv, [.c (.int .i64 0)], none⟩]) [0])
  (.seq (.kpost (.reg [⟨some 3, .mv, [.t 0], none⟩,
      ⟨some 4, .bin .mul 0, [.t 3, .c (.int .i64 39)], none⟩,
      ⟨some 5, .bin .add 0, [.c (.int .i64 3), .t 4], none⟩,
      ⟨some 2, .mv, [.t 5], none⟩]) [2])
  .ret)) }
/-- waggoner/record.Size -/
def i88 : IFn := { ns := 0, nt := 12, res := [.t 2], body :=
  (.seq (.kpost (.reg [⟨some 2, .mv, [.c (.int .i64 0)], none⟩]) [0])
  (.seq (.seq (.kpost (.reg [⟨some 3, .mv, [.t 0], none⟩,
       ⟨some 4, .bin .lss 0, [.t 3, .c (.int .i64 0)], none⟩,
       ⟨some 5, .mv, [.t 4], none⟩,
       ⟨some 6, .mv, [.t 0], some (5, false)⟩,
       ⟨some 7, .bin .gtr 0, [.t 6, .c (.int .i64 4096)], some (5, false)⟩,
       ⟨some 8, .pick, [.t 5, .c (.bool true), .t 7], none⟩]) [0, 8])
   (.cond (.t 8)
    (.seq (.kpost (.reg [⟨some 2, .mv, [.c (.int .i64 0)], none⟩]) [2])
     .ret)
    .skip))
  (.seq (.kpost (.reg [⟨some 9, .mv, [.t 0], none⟩,
      ⟨some 10, .bin .add 0, [.c (.int .i64 16), .t 9], none⟩,
      ⟨some 11, .bin .add 0, [.t 10, .c (.int .i64 4)], none⟩,
      ⟨some 2, .mv, [.t 11], none⟩]) [2])
  .ret))) }

end Go.Wm
