/- The code of functions (KDrive) over abstract values, printed by a program, and that it is what the program's form in Lean turns into. No condition. -/
import Derived.Test.YtjmmompbmjhkpaaProg
import Derived.Test.YtjmmompbmjhkpaaCalcJ
import Derived.KernelRfl
namespace Go.Proofs.Ytjmmompbmjhkpaa.Code
open Go Go.Proofs.Ytjmmompbmjhkpaa.Calc
set_option maxRecDepth 100000
/-- bakelite/bakekeep1.DriveWrites -/
def v8 : List Nat := [0, 1, 2, 3, 8, 9, 10, 11, 12, 13, 14, 15, 17, 18, 19, 20, 36, 37, 38, 39, 71, 72, 73, 74, 84, 107]
def r8 : List AR := [.t 8]
def c8 : AC :=
  .seq (.reg [
     ⟨(some 8), .mv (.k (.bool false)), none⟩] [0, 1, 2, 3, 8, 9, 10, 11, 12, 13, 14, 15, 17, 18, 19, 20, 36, 37, 38, 39, 71, 72, 73, 74, 84, 107]) (
  .seq (.reg [
     ⟨(some 21), .mv (.t 0), none⟩,
     ⟨(some 22), .call 44 [(.t 21), (.k (.int .i64 256))], none⟩,
     ⟨(some 9), .mv (.t 22), none⟩] [0, 1, 2, 3, 8, 9, 10, 11, 12, 13, 14, 15, 17, 18, 19, 20, 36, 37, 38, 39, 71, 72, 73, 74, 84, 107]) (
  .seq (.reg [
     ⟨(some 23), .mv (.t 1), none⟩,
     ⟨(some 24), .call 44 [(.t 23), (.k (.int .i64 16))], none⟩,
     ⟨(some 10), .mv (.t 24), none⟩] [0, 1, 2, 3, 8, 9, 10, 11, 12, 13, 14, 15, 17, 18, 19, 20, 36, 37, 38, 39, 71, 72, 73, 74, 84, 107]) (
  .seq (.reg [
     ⟨(some 25), .mv (.t 2), none⟩,
     ⟨(some 26), .call 29 [(.t 25), (.k (.int .i64 4))], none⟩,
     ⟨(some 27), .mv (.t 3), none⟩,
     ⟨(some 28), .call 29 [(.t 27), (.k (.int .i64 4))], none⟩,
     ⟨(some 2), .mv (.t 26), none⟩,
     ⟨(some 3), .mv (.t 28), none⟩] [0, 1, 2, 3, 8, 9, 10, 11, 12, 13, 14, 15, 17, 18, 19, 20, 36, 37, 38, 39, 71, 72, 73, 74, 84, 107]) (
  .seq (.reg [
     ⟨(some 29), .mv (.t 9), none⟩,
     ⟨(some 30), .call 47 [(.t 29)], none⟩,
     ⟨(some 31), .call 46 [(.t 30), (.k (.int .i64 1))], none⟩,
     ⟨(some 32), .mv (.t 2), none⟩,
     ⟨(some 33), .bin .mul (.k (.int .i64 16)) (.t 32), none⟩,
     ⟨(some 34), .bin .add (.k (.int .i64 4)) (.t 33), none⟩,
     ⟨(some 35), .call 45 [(.t 31), (.k (.int .i64 0)), (.t 34)], none⟩,
     ⟨(some 11), .zero [(.slice none 0 0), (.slice none 0 0)], none⟩,
     ⟨none, .st 2 (.t 11) (.t 35), none⟩] [0, 1, 2, 3, 8, 9, 10, 11, 12, 13, 14, 15, 17, 18, 19, 20, 36, 37, 38, 39, 71, 72, 73, 74, 84, 107]) (
  .seq (.seq (.reg [
      ⟨(some 36), .mv (.t 10), none⟩,
      ⟨(some 37), .len (.t 36), none⟩,
      ⟨(some 38), .mv (.k (.int .i64 0)), none⟩] [0, 1, 2, 3, 8, 9, 10, 11, 12, 13, 14, 15, 17, 18, 19, 20, 36, 37, 38, 39, 71, 72, 73, 74, 84, 107]) (
   .block 0 (.loop (.seq (.reg [
          ⟨(some 39), .bin .lss (.t 38) (.t 37), none⟩] [0, 1, 2, 3, 8, 9, 10, 11, 12, 13, 14, 15, 17, 18, 19, 20, 36, 37, 38, 39, 71, 72, 73, 74, 84, 107]) (
       .seq (.cond (.t 39) (.skip) (
        .exit 0)) (
       .seq (.block 1 (.seq (.reg [
             ⟨(some 40), .mv (.t 38), none⟩,
             ⟨(some 41), .idx 1 none (.t 36) (.t 38), none⟩,
             ⟨(some 42), .ld none (.t 41), none⟩,
             ⟨(some 12), .mv (.t 40), none⟩,
             ⟨(some 13), .mv (.t 42), none⟩] [0, 1, 2, 3, 8, 9, 10, 11, 12, 13, 14, 15, 17, 18, 19, 20, 36, 37, 38, 39, 71, 72, 73, 74, 84, 107]) (
          .dreg [
            ⟨(some 43), .ld (some 2) (.t 11), none⟩,
            ⟨(some 44), .mv (.t 13), none⟩,
            ⟨(some 45), .cvt .i64 (.t 44), none⟩,
            ⟨(some 46), .call 45 [(.t 43), (.k (.int .i64 1)), (.t 45)], none⟩,
            ⟨(some 47), .bsl [(.int .i64 0)] 2 [(0, (.k (.int .i64 30))), (1, (.k (.int .i64 20)))], none⟩,
            ⟨(some 48), .mv (.t 12), none⟩,
            ⟨(some 49), .mnx false [(.t 48), (.k (.int .i64 1))], none⟩,
            ⟨(some 50), .idx 1 none (.t 47) (.t 49), none⟩,
            ⟨(some 51), .ld none (.t 50), none⟩,
            ⟨(some 52), .call 48 [(.t 46), (.t 51)], none⟩,
            ⟨none, .st 2 (.t 11) (.t 52), none⟩] [[], [], [1], [0, 1, 2], [], [], [5], [4, 5, 6], [4, 5, 6, 7], [0, 1, 2, 3, 4, 5, 6, 7, 8], [0, 1, 2, 3, 4, 5, 6, 7, 8, 9]] [0, 1, 2, 3, 8, 9, 10, 11, 12, 13, 14, 15, 17, 18, 19, 20, 36, 37, 38, 39, 71, 72, 73, 74, 84, 107]))) (
       .reg [
         ⟨(some 53), .bin .add (.t 38) (.k (.int .i64 1)), none⟩,
         ⟨(some 38), .mv (.t 53), none⟩] [0, 1, 2, 3, 8, 9, 10, 11, 12, 13, 14, 15, 17, 18, 19, 20, 36, 37, 38, 39, 71, 72, 73, 74, 84, 107]))))))) (
  .seq (.reg [
     ⟨(some 55), .ld (some 2) (.t 11), none⟩,
     ⟨(some 56), .call 49 [(.t 55), (.k (.int .i64 0))], none⟩,
     ⟨(some 54), .mv (.t 56), none⟩,
     ⟨(some 57), .ext (.t 54) 0, none⟩,
     ⟨(some 58), .ext (.t 54) 1, none⟩,
     ⟨none, .st 2 (.t 11) (.t 57), none⟩,
     ⟨(some 14), .mv (.t 58), none⟩] [0, 1, 2, 3, 8, 9, 10, 11, 12, 13, 14, 15, 17, 18, 19, 20, 36, 37, 38, 39, 71, 72, 73, 74, 84, 107]) (
  .seq (.reg [
     ⟨(some 60), .ld (some 2) (.t 11), none⟩,
     ⟨(some 61), .mv (.t 2), none⟩,
     ⟨(some 62), .call 50 [(.t 60), (.t 61)], none⟩,
     ⟨(some 59), .mv (.t 62), none⟩,
     ⟨(some 63), .ext (.t 59) 0, none⟩,
     ⟨(some 64), .ext (.t 59) 1, none⟩,
     ⟨none, .st 2 (.t 11) (.t 63), none⟩,
     ⟨(some 15), .mv (.t 64), none⟩] [0, 1, 2, 3, 8, 9, 10, 11, 12, 13, 14, 15, 17, 18, 19, 20, 36, 37, 38, 39, 71, 72, 73, 74, 84, 107]) (
  .seq (.reg [
     ⟨(some 66), .ld (some 2) (.t 11), none⟩,
     ⟨(some 67), .mv (.t 3), none⟩,
     ⟨(some 68), .call 50 [(.t 66), (.t 67)], none⟩,
     ⟨(some 65), .mv (.t 68), none⟩,
     ⟨(some 69), .ext (.t 65) 0, none⟩,
     ⟨(some 70), .ext (.t 65) 1, none⟩,
     ⟨(some 16), .zero [(.slice none 0 0), (.slice none 0 0)], none⟩,
     ⟨none, .st 2 (.t 16) (.t 69), none⟩,
     ⟨(some 17), .mv (.t 70), none⟩] [0, 1, 2, 3, 8, 9, 10, 11, 12, 13, 14, 15, 17, 18, 19, 20, 36, 37, 38, 39, 71, 72, 73, 74, 84, 107]) (
  .seq (.seq (.reg [
      ⟨(some 71), .mv (.t 15), none⟩,
      ⟨(some 72), .len (.t 71), none⟩,
      ⟨(some 73), .mv (.k (.int .i64 0)), none⟩] [0, 1, 2, 3, 8, 9, 10, 11, 12, 13, 14, 15, 17, 18, 19, 20, 36, 37, 38, 39, 71, 72, 73, 74, 84, 107]) (
   .block 2 (.loop (.seq (.reg [
          ⟨(some 74), .bin .lss (.t 73) (.t 72), none⟩] [0, 1, 2, 3, 8, 9, 10, 11, 12, 13, 14, 15, 17, 18, 19, 20, 36, 37, 38, 39, 71, 72, 73, 74, 84, 107]) (
       .seq (.cond (.t 74) (.skip) (
        .exit 2)) (
       .seq (.block 3 (.seq (.reg [
             ⟨(some 75), .mv (.t 73), none⟩,
             ⟨(some 76), .idx 1 none (.t 71) (.t 73), none⟩,
             ⟨(some 77), .ld none (.t 76), none⟩,
             ⟨(some 18), .mv (.t 75), none⟩,
             ⟨(some 19), .mv (.t 77), none⟩] [0, 1, 2, 3, 8, 9, 10, 11, 12, 13, 14, 15, 17, 18, 19, 20, 36, 37, 38, 39, 71, 72, 73, 74, 84, 107]) (
          .seq (.reg [
             ⟨(some 78), .mv (.t 10), none⟩,
             ⟨(some 79), .mv (.t 18), none⟩,
             ⟨(some 80), .idx 1 none (.t 78) (.t 79), none⟩,
             ⟨(some 81), .ld none (.t 80), none⟩,
             ⟨(some 20), .mv (.t 81), none⟩] [0, 1, 2, 3, 8, 9, 10, 11, 12, 13, 14, 15, 17, 18, 19, 20, 36, 37, 38, 39, 71, 72, 73, 74, 84, 107]) (
          .seq (.seq (.reg [
              ⟨(some 82), .mv (.t 3), none⟩,
              ⟨(some 83), .mv (.t 2), none⟩,
              ⟨(some 84), .bin .neq (.t 82) (.t 83), none⟩] [0, 1, 2, 3, 8, 9, 10, 11, 12, 13, 14, 15, 17, 18, 19, 20, 36, 37, 38, 39, 71, 72, 73, 74, 84, 107]) (
           .cond (.t 84) (.reg [
               ⟨(some 85), .mv (.t 9), none⟩,
               ⟨(some 86), .mv (.t 3), none⟩,
               ⟨(some 87), .bin .mul (.t 86) (.k (.int .i64 16)), none⟩,
               ⟨(some 88), .mv (.t 18), none⟩,
               ⟨(some 89), .bin .add (.t 87) (.t 88), none⟩,
               ⟨(some 90), .idx 1 none (.t 85) (.t 89), none⟩,
               ⟨(some 91), .ld none (.t 90), none⟩,
               ⟨(some 20), .mv (.t 91), none⟩] [0, 1, 2, 3, 8, 9, 10, 11, 12, 13, 14, 15, 17, 18, 19, 20, 36, 37, 38, 39, 71, 72, 73, 74, 84, 107]) (
           .skip))) (
          .seq (.reg [
             ⟨(some 92), .mv (.t 19), none⟩,
             ⟨(some 93), .mv (.t 10), none⟩,
             ⟨(some 94), .mv (.t 18), none⟩,
             ⟨(some 95), .idx 1 none (.t 93) (.t 94), none⟩,
             ⟨(some 96), .ld none (.t 95), none⟩,
             ⟨(some 97), .cvt .i64 (.t 96), none⟩,
             ⟨(some 98), .bin .neq (.t 92) (.t 97), none⟩,
             ⟨(some 99), .mv (.t 98), none⟩,
             ⟨(some 100), .mv (.t 17), (some (99, false))⟩,
             ⟨(some 101), .mv (.t 18), (some (99, false))⟩,
             ⟨(some 102), .idx 1 none (.t 100) (.t 101), (some (99, false))⟩,
             ⟨(some 103), .ld none (.t 102), (some (99, false))⟩,
             ⟨(some 104), .mv (.t 20), (some (99, false))⟩,
             ⟨(some 105), .cvt .i64 (.t 104), (some (99, false))⟩,
             ⟨(some 106), .bin .neq (.t 103) (.t 105), (some (99, false))⟩,
             ⟨(some 107), .pick (.t 99) (.k (.bool true)) (.t 106), none⟩] [0, 1, 2, 3, 8, 9, 10, 11, 12, 13, 14, 15, 17, 18, 19, 20, 36, 37, 38, 39, 71, 72, 73, 74, 84, 107]) (
          .cond (.t 107) (.seq (.reg [
               ⟨(some 8), .mv (.k (.bool false)), none⟩] [0, 1, 2, 3, 8, 9, 10, 11, 12, 13, 14, 15, 17, 18, 19, 20, 36, 37, 38, 39, 71, 72, 73, 74, 84, 107]) (
            .ret)) (
          .skip))))))) (
       .reg [
         ⟨(some 108), .bin .add (.t 73) (.k (.int .i64 1)), none⟩,
         ⟨(some 73), .mv (.t 108), none⟩] [0, 1, 2, 3, 8, 9, 10, 11, 12, 13, 14, 15, 17, 18, 19, 20, 36, 37, 38, 39, 71, 72, 73, 74, 84, 107]))))))) (
  .seq (.reg [
     ⟨(some 109), .call 51 [], none⟩,
     ⟨(some 110), .mv (.t 109), none⟩,
     ⟨(some 111), .mv (.t 14), (some (110, true))⟩,
     ⟨(some 112), .bin .eql (.t 111) (.k (.int .i64 0)), (some (110, true))⟩,
     ⟨(some 113), .pick (.t 110) (.t 112) (.k (.bool false)), none⟩,
     ⟨(some 8), .mv (.t 113), none⟩] [0, 1, 2, 3, 8, 9, 10, 11, 12, 13, 14, 15, 17, 18, 19, 20, 36, 37, 38, 39, 71, 72, 73, 74, 84, 107]) (
  .ret)))))))))))
theorem k8 : Try.f8.body.bind (compC Try.prog Try.f8.ntmps v8) = some c8 := by kernel_rfl
theorem e8 : enters Try.prog 8 = true := by kernel_rfl
theorem q8 : Try.f8.results.toList.mapM (compRes Try.prog) = some r8 := by kernel_rfl
/-- bakelite/bakekeep1.DriveReads -/
def v9 : List Nat := [0, 1, 2, 6, 7, 8, 9, 11, 12, 13, 14, 24, 25, 26, 48, 49, 50, 51, 63]
def r9 : List AR := [.t 6]
def c9 : AC :=
  .seq (.reg [
     ⟨(some 6), .mv (.k (.bool false)), none⟩] [0, 1, 2, 6, 7, 8, 9, 11, 12, 13, 14, 24, 25, 26, 48, 49, 50, 51, 63]) (
  .seq (.reg [
     ⟨(some 15), .mv (.t 0), none⟩,
     ⟨(some 16), .call 44 [(.t 15), (.k (.int .i64 512))], none⟩,
     ⟨(some 7), .mv (.t 16), none⟩] [0, 1, 2, 6, 7, 8, 9, 11, 12, 13, 14, 24, 25, 26, 48, 49, 50, 51, 63]) (
  .seq (.reg [
     ⟨(some 17), .mv (.t 1), none⟩,
     ⟨(some 18), .call 29 [(.t 17), (.k (.int .i64 4))], none⟩,
     ⟨(some 19), .mv (.t 2), none⟩,
     ⟨(some 20), .call 29 [(.t 19), (.k (.int .i64 4))], none⟩,
     ⟨(some 1), .mv (.t 18), none⟩,
     ⟨(some 2), .mv (.t 20), none⟩] [0, 1, 2, 6, 7, 8, 9, 11, 12, 13, 14, 24, 25, 26, 48, 49, 50, 51, 63]) (
  .seq (.reg [
     ⟨(some 21), .mv (.t 7), none⟩,
     ⟨(some 22), .call 47 [(.t 21)], none⟩,
     ⟨(some 23), .call 46 [(.t 22), (.k (.int .i64 2))], none⟩,
     ⟨(some 8), .zero [(.slice none 0 0), (.slice none 0 0)], none⟩,
     ⟨none, .st 2 (.t 8) (.t 23), none⟩] [0, 1, 2, 6, 7, 8, 9, 11, 12, 13, 14, 24, 25, 26, 48, 49, 50, 51, 63]) (
  .seq (.seq (.reg [
      ⟨(some 24), .mv (.t 1), none⟩,
      ⟨(some 25), .mv (.k (.int .i64 0)), none⟩] [0, 1, 2, 6, 7, 8, 9, 11, 12, 13, 14, 24, 25, 26, 48, 49, 50, 51, 63]) (
   .block 0 (.loop (.seq (.reg [
          ⟨(some 26), .bin .lss (.t 25) (.t 24), none⟩] [0, 1, 2, 6, 7, 8, 9, 11, 12, 13, 14, 24, 25, 26, 48, 49, 50, 51, 63]) (
       .seq (.cond (.t 26) (.skip) (
        .exit 0)) (
       .seq (.block 1 (.reg [
            ⟨(some 27), .ld (some 2) (.t 8), none⟩,
            ⟨(some 28), .call 45 [(.t 27), (.k (.int .i64 0)), (.k (.int .i64 1))], none⟩,
            ⟨(some 29), .call 48 [(.t 28), (.k (.int .i64 30))], none⟩,
            ⟨none, .st 2 (.t 8) (.t 29), none⟩] [0, 1, 2, 6, 7, 8, 9, 11, 12, 13, 14, 24, 25, 26, 48, 49, 50, 51, 63])) (
       .reg [
         ⟨(some 30), .bin .add (.t 25) (.k (.int .i64 1)), none⟩,
         ⟨(some 25), .mv (.t 30), none⟩] [0, 1, 2, 6, 7, 8, 9, 11, 12, 13, 14, 24, 25, 26, 48, 49, 50, 51, 63]))))))) (
  .seq (.reg [
     ⟨(some 32), .ld (some 2) (.t 8), none⟩,
     ⟨(some 33), .mv (.t 2), none⟩,
     ⟨(some 34), .call 50 [(.t 32), (.t 33)], none⟩,
     ⟨(some 31), .mv (.t 34), none⟩,
     ⟨(some 35), .ext (.t 31) 0, none⟩,
     ⟨(some 36), .ext (.t 31) 1, none⟩,
     ⟨none, .st 2 (.t 8) (.t 35), none⟩,
     ⟨(some 9), .mv (.t 36), none⟩] [0, 1, 2, 6, 7, 8, 9, 11, 12, 13, 14, 24, 25, 26, 48, 49, 50, 51, 63]) (
  .seq (.reg [
     ⟨(some 38), .ld (some 2) (.t 8), none⟩,
     ⟨(some 39), .call 49 [(.t 38), (.k (.int .i64 0))], none⟩,
     ⟨(some 37), .mv (.t 39), none⟩,
     ⟨(some 40), .ext (.t 37) 0, none⟩,
     ⟨(some 41), .ext (.t 37) 1, none⟩,
     ⟨(some 10), .zero [(.slice none 0 0), (.slice none 0 0)], none⟩,
     ⟨none, .st 2 (.t 10) (.t 40), none⟩,
     ⟨(some 11), .mv (.t 41), none⟩] [0, 1, 2, 6, 7, 8, 9, 11, 12, 13, 14, 24, 25, 26, 48, 49, 50, 51, 63]) (
  .seq (.reg [
     ⟨(some 42), .mv (.t 1), none⟩,
     ⟨(some 43), .bin .mul (.t 42) (.k (.int .i64 4)), none⟩,
     ⟨(some 44), .mv (.t 2), none⟩,
     ⟨(some 45), .bin .add (.t 43) (.t 44), none⟩,
     ⟨(some 46), .bin .mul (.t 45) (.k (.int .i64 16)), none⟩,
     ⟨(some 47), .bin .add (.k (.int .i64 256)) (.t 46), none⟩,
     ⟨(some 12), .mv (.t 47), none⟩] [0, 1, 2, 6, 7, 8, 9, 11, 12, 13, 14, 24, 25, 26, 48, 49, 50, 51, 63]) (
  .seq (.seq (.reg [
      ⟨(some 48), .mv (.t 9), none⟩,
      ⟨(some 49), .len (.t 48), none⟩,
      ⟨(some 50), .mv (.k (.int .i64 0)), none⟩] [0, 1, 2, 6, 7, 8, 9, 11, 12, 13, 14, 24, 25, 26, 48, 49, 50, 51, 63]) (
   .block 2 (.loop (.seq (.reg [
          ⟨(some 51), .bin .lss (.t 50) (.t 49), none⟩] [0, 1, 2, 6, 7, 8, 9, 11, 12, 13, 14, 24, 25, 26, 48, 49, 50, 51, 63]) (
       .seq (.cond (.t 51) (.skip) (
        .exit 2)) (
       .seq (.block 3 (.seq (.reg [
             ⟨(some 52), .mv (.t 50), none⟩,
             ⟨(some 53), .idx 1 none (.t 48) (.t 50), none⟩,
             ⟨(some 54), .ld none (.t 53), none⟩,
             ⟨(some 13), .mv (.t 52), none⟩,
             ⟨(some 14), .mv (.t 54), none⟩] [0, 1, 2, 6, 7, 8, 9, 11, 12, 13, 14, 24, 25, 26, 48, 49, 50, 51, 63]) (
          .seq (.reg [
             ⟨(some 55), .mv (.t 14), none⟩,
             ⟨(some 56), .mv (.t 7), none⟩,
             ⟨(some 57), .mv (.t 12), none⟩,
             ⟨(some 58), .mv (.t 13), none⟩,
             ⟨(some 59), .bin .add (.t 57) (.t 58), none⟩,
             ⟨(some 60), .idx 1 none (.t 56) (.t 59), none⟩,
             ⟨(some 61), .ld none (.t 60), none⟩,
             ⟨(some 62), .cvt .i64 (.t 61), none⟩,
             ⟨(some 63), .bin .neq (.t 55) (.t 62), none⟩] [0, 1, 2, 6, 7, 8, 9, 11, 12, 13, 14, 24, 25, 26, 48, 49, 50, 51, 63]) (
          .cond (.t 63) (.seq (.reg [
               ⟨(some 6), .mv (.k (.bool false)), none⟩] [0, 1, 2, 6, 7, 8, 9, 11, 12, 13, 14, 24, 25, 26, 48, 49, 50, 51, 63]) (
            .ret)) (
          .skip))))) (
       .reg [
         ⟨(some 64), .bin .add (.t 50) (.k (.int .i64 1)), none⟩,
         ⟨(some 50), .mv (.t 64), none⟩] [0, 1, 2, 6, 7, 8, 9, 11, 12, 13, 14, 24, 25, 26, 48, 49, 50, 51, 63]))))))) (
  .seq (.reg [
     ⟨(some 65), .call 51 [], none⟩,
     ⟨(some 66), .mv (.t 65), none⟩,
     ⟨(some 67), .mv (.t 11), (some (66, true))⟩,
     ⟨(some 68), .bin .eql (.t 67) (.k (.int .i64 0)), (some (66, true))⟩,
     ⟨(some 69), .pick (.t 66) (.t 68) (.k (.bool false)), none⟩,
     ⟨(some 70), .mv (.t 69), none⟩,
     ⟨(some 71), .ld (some 2) (.t 8), (some (70, true))⟩,
     ⟨(some 72), .call 52 [(.t 71)], (some (70, true))⟩,
     ⟨(some 73), .mv (.t 1), (some (70, true))⟩,
     ⟨(some 74), .bin .eql (.t 72) (.t 73), (some (70, true))⟩,
     ⟨(some 75), .pick (.t 70) (.t 74) (.k (.bool false)), none⟩,
     ⟨(some 76), .mv (.t 75), none⟩,
     ⟨(some 77), .mv (.t 9), (some (76, true))⟩,
     ⟨(some 78), .len (.t 77), (some (76, true))⟩,
     ⟨(some 79), .bin .eql (.t 78) (.k (.int .i64 16)), (some (76, true))⟩,
     ⟨(some 80), .pick (.t 76) (.t 79) (.k (.bool false)), none⟩,
     ⟨(some 6), .mv (.t 80), none⟩] [0, 1, 2, 6, 7, 8, 9, 11, 12, 13, 14, 24, 25, 26, 48, 49, 50, 51, 63]) (
  .ret))))))))))
theorem k9 : Try.f9.body.bind (compC Try.prog Try.f9.ntmps v9) = some c9 := by kernel_rfl
theorem e9 : enters Try.prog 9 = true := by kernel_rfl
theorem q9 : Try.f9.results.toList.mapM (compRes Try.prog) = some r9 := by kernel_rfl
/-- bakelite/bakekeep1.DriveSteps -/
def v10 : List Nat := [0, 2, 3, 4, 6, 7, 9, 11, 19, 20, 21, 22, 63]
def r10 : List AR := [.t 2]
def c10 : AC :=
  .seq (.reg [
     ⟨(some 2), .mv (.k (.bool false)), none⟩] [0, 2, 3, 4, 6, 7, 9, 11, 19, 20, 21, 22, 63]) (
  .seq (.reg [
     ⟨(some 12), .mksl [(.int .u8 0)] 1 (.k (.int .i64 256)) (.k (.int .i64 256)), none⟩,
     ⟨(some 13), .call 47 [(.t 12)], none⟩,
     ⟨(some 14), .call 46 [(.t 13), (.k (.int .i64 1))], none⟩,
     ⟨(some 3), .zero [(.slice none 0 0), (.slice none 0 0)], none⟩,
     ⟨none, .st 2 (.t 3) (.t 14), none⟩] [0, 2, 3, 4, 6, 7, 9, 11, 19, 20, 21, 22, 63]) (
  .seq (.reg [
     ⟨(some 4), .mv (.k (.int .i64 0)), none⟩] [0, 2, 3, 4, 6, 7, 9, 11, 19, 20, 21, 22, 63]) (
  .seq (.seq (.reg [
      ⟨(some 15), .mv (.t 0), none⟩,
      ⟨(some 16), .mv (.t 0), none⟩,
      ⟨(some 17), .len (.t 16), none⟩,
      ⟨(some 18), .mnx false [(.t 17), (.k (.int .i64 20))], none⟩,
      ⟨(some 19), .slc 1 (.t 15) none (some (.t 18)), none⟩,
      ⟨(some 20), .len (.t 19), none⟩,
      ⟨(some 21), .mv (.k (.int .i64 0)), none⟩] [0, 2, 3, 4, 6, 7, 9, 11, 19, 20, 21, 22, 63]) (
   .block 0 (.loop (.seq (.reg [
          ⟨(some 22), .bin .lss (.t 21) (.t 20), none⟩] [0, 2, 3, 4, 6, 7, 9, 11, 19, 20, 21, 22, 63]) (
       .seq (.cond (.t 22) (.skip) (
        .exit 0)) (
       .seq (.block 1 (.seq (.reg [
             ⟨(some 23), .idx 1 none (.t 19) (.t 21), none⟩,
             ⟨(some 24), .ld none (.t 23), none⟩,
             ⟨(some 6), .mv (.t 24), none⟩] [0, 2, 3, 4, 6, 7, 9, 11, 19, 20, 21, 22, 63]) (
          .seq (.reg [
             ⟨(some 25), .bsl [(.int .i64 0)] 2 [(0, (.k (.int .i64 1))), (1, (.k (.int .i64 2)))], none⟩,
             ⟨(some 26), .mv (.t 6), none⟩,
             ⟨(some 27), .call 29 [(.t 26), (.k (.int .i64 2))], none⟩,
             ⟨(some 28), .idx 1 none (.t 25) (.t 27), none⟩,
             ⟨(some 29), .ld none (.t 28), none⟩,
             ⟨(some 7), .mv (.t 29), none⟩] [0, 2, 3, 4, 6, 7, 9, 11, 19, 20, 21, 22, 63]) (
          .seq (.reg [
             ⟨(some 30), .ld (some 2) (.t 3), none⟩,
             ⟨(some 31), .mv (.t 7), none⟩,
             ⟨(some 32), .call 45 [(.t 30), (.k (.int .i64 0)), (.t 31)], none⟩,
             ⟨none, .st 2 (.t 3) (.t 32), none⟩] [0, 2, 3, 4, 6, 7, 9, 11, 19, 20, 21, 22, 63]) (
          .seq (.dreg [
             ⟨(some 33), .ld (some 2) (.t 3), none⟩,
             ⟨(some 34), .mv (.t 6), none⟩,
             ⟨(some 35), .bin .quo (.t 34) (.k (.int .i64 2)), none⟩,
             ⟨(some 36), .call 29 [(.t 35), (.k (.int .i64 30))], none⟩,
             ⟨(some 37), .call 48 [(.t 33), (.t 36)], none⟩,
             ⟨(some 38), .mv (.t 7), none⟩,
             ⟨(some 39), .bin .sub (.k (.int .i64 3)) (.t 38), none⟩,
             ⟨(some 40), .call 45 [(.t 37), (.k (.int .i64 0)), (.t 39)], none⟩,
             ⟨none, .st 2 (.t 3) (.t 40), none⟩] [[], [], [1], [1, 2], [0, 1, 2, 3], [], [5], [0, 1, 2, 3, 4, 5, 6], [0, 1, 2, 3, 4, 5, 6, 7]] [0, 2, 3, 4, 6, 7, 9, 11, 19, 20, 21, 22, 63]) (
          .seq (.reg [
             ⟨(some 41), .ld (some 2) (.t 3), none⟩,
             ⟨(some 42), .call 48 [(.t 41), (.k (.int .i64 30))], none⟩,
             ⟨none, .st 2 (.t 3) (.t 42), none⟩] [0, 2, 3, 4, 6, 7, 9, 11, 19, 20, 21, 22, 63]) (
          .seq (.reg [
             ⟨(some 43), .mv (.t 4), none⟩,
             ⟨(some 44), .bin .add (.t 43) (.k (.int .i64 3)), none⟩,
             ⟨(some 45), .mv (.t 7), none⟩,
             ⟨(some 46), .bin .mul (.k (.int .i64 2)) (.t 45), none⟩,
             ⟨(some 47), .bin .sub (.t 44) (.t 46), none⟩,
             ⟨(some 48), .mnx false [(.t 47), (.k (.int .i64 3))], none⟩,
             ⟨(some 49), .mnx true [(.k (.int .i64 0)), (.t 48)], none⟩,
             ⟨(some 4), .mv (.t 49), none⟩] [0, 2, 3, 4, 6, 7, 9, 11, 19, 20, 21, 22, 63]) (
          .seq (.reg [
             ⟨(some 51), .ld (some 2) (.t 3), none⟩,
             ⟨(some 52), .call 49 [(.t 51), (.k (.int .i64 2))], none⟩,
             ⟨(some 50), .mv (.t 52), none⟩,
             ⟨(some 53), .ext (.t 50) 0, none⟩,
             ⟨(some 54), .ext (.t 50) 1, none⟩,
             ⟨(some 8), .zero [(.slice none 0 0), (.slice none 0 0)], none⟩,
             ⟨none, .st 2 (.t 8) (.t 53), none⟩,
             ⟨(some 9), .mv (.t 54), none⟩] [0, 2, 3, 4, 6, 7, 9, 11, 19, 20, 21, 22, 63]) (
          .seq (.reg [
             ⟨(some 55), .mv (.t 9), none⟩,
             ⟨(some 56), .mv (.t 4), none⟩,
             ⟨(some 57), .bin .neq (.t 55) (.t 56), none⟩,
             ⟨(some 58), .mv (.t 57), none⟩,
             ⟨(some 59), .ld (some 2) (.t 3), (some (58, false))⟩,
             ⟨(some 60), .call 52 [(.t 59)], (some (58, false))⟩,
             ⟨(some 61), .mv (.t 4), (some (58, false))⟩,
             ⟨(some 62), .bin .neq (.t 60) (.t 61), (some (58, false))⟩,
             ⟨(some 63), .pick (.t 58) (.k (.bool true)) (.t 62), none⟩] [0, 2, 3, 4, 6, 7, 9, 11, 19, 20, 21, 22, 63]) (
          .cond (.t 63) (.seq (.reg [
               ⟨(some 2), .mv (.k (.bool false)), none⟩] [0, 2, 3, 4, 6, 7, 9, 11, 19, 20, 21, 22, 63]) (
            .ret)) (
          .skip))))))))))) (
       .reg [
         ⟨(some 64), .bin .add (.t 21) (.k (.int .i64 1)), none⟩,
         ⟨(some 21), .mv (.t 64), none⟩] [0, 2, 3, 4, 6, 7, 9, 11, 19, 20, 21, 22, 63]))))))) (
  .seq (.reg [
     ⟨(some 66), .ld (some 2) (.t 3), none⟩,
     ⟨(some 67), .call 49 [(.t 66), (.k (.int .i64 0))], none⟩,
     ⟨(some 65), .mv (.t 67), none⟩,
     ⟨(some 68), .ext (.t 65) 0, none⟩,
     ⟨(some 69), .ext (.t 65) 1, none⟩,
     ⟨(some 10), .zero [(.slice none 0 0), (.slice none 0 0)], none⟩,
     ⟨none, .st 2 (.t 10) (.t 68), none⟩,
     ⟨(some 11), .mv (.t 69), none⟩] [0, 2, 3, 4, 6, 7, 9, 11, 19, 20, 21, 22, 63]) (
  .seq (.reg [
     ⟨(some 70), .call 51 [], none⟩,
     ⟨(some 71), .mv (.t 70), none⟩,
     ⟨(some 72), .mv (.t 11), (some (71, true))⟩,
     ⟨(some 73), .bin .eql (.t 72) (.k (.int .i64 0)), (some (71, true))⟩,
     ⟨(some 74), .pick (.t 71) (.t 73) (.k (.bool false)), none⟩,
     ⟨(some 2), .mv (.t 74), none⟩] [0, 2, 3, 4, 6, 7, 9, 11, 19, 20, 21, 22, 63]) (
  .ret))))))
theorem k10 : Try.f10.body.bind (compC Try.prog Try.f10.ntmps v10) = some c10 := by kernel_rfl
theorem e10 : enters Try.prog 10 = true := by kernel_rfl
theorem q10 : Try.f10.results.toList.mapM (compRes Try.prog) = some r10 := by kernel_rfl
/-- bakelite/bakekeep1.fetch -/
def v50 : List Nat := [0, 1, 2, 4, 5, 6, 7, 8, 14, 15]
def r50 : List AR := [.cell (some 2) 4, .t 5]
def c50 : AC :=
  .seq (.reg [
     ⟨(some 2), .new 2 (.t 0), none⟩,
     ⟨(some 4), .zero [(.slice none 0 0), (.slice none 0 0)], none⟩,
     ⟨(some 5), .mv (.k (.slice none 0 0)), none⟩] [0, 1, 2, 4, 5, 6, 7, 8, 14, 15]) (
  .seq (.reg [
     ⟨(some 6), .mv (.k (.slice none 0 0)), none⟩] [0, 1, 2, 4, 5, 6, 7, 8, 14, 15]) (
  .seq (.reg [
     ⟨(some 9), .ld (some 2) (.t 2), none⟩,
     ⟨(some 10), .mv (.t 1), none⟩,
     ⟨(some 11), .bin .mul (.k (.int .i64 16)) (.t 10), none⟩,
     ⟨(some 12), .bin .add (.k (.int .i64 3)) (.t 11), none⟩,
     ⟨(some 13), .call 45 [(.t 9), (.k (.int .i64 0)), (.t 12)], none⟩,
     ⟨none, .st 2 (.t 2) (.t 13), none⟩] [0, 1, 2, 4, 5, 6, 7, 8, 14, 15]) (
  .seq (.seq (.reg [
      ⟨(some 14), .mv (.k (.int .i64 0)), none⟩] [0, 1, 2, 4, 5, 6, 7, 8, 14, 15]) (
   .block 0 (.loop (.seq (.reg [
          ⟨(some 15), .bin .lss (.t 14) (.k (.int .i64 16)), none⟩] [0, 1, 2, 4, 5, 6, 7, 8, 14, 15]) (
       .seq (.cond (.t 15) (.skip) (
        .exit 0)) (
       .seq (.block 1 (.seq (.reg [
             ⟨(some 16), .mv (.t 14), none⟩,
             ⟨(some 7), .mv (.t 16), none⟩] [0, 1, 2, 4, 5, 6, 7, 8, 14, 15]) (
          .seq (.dreg [
             ⟨(some 17), .ld (some 2) (.t 2), none⟩,
             ⟨(some 18), .bsl [(.int .i64 0)] 2 [(0, (.k (.int .i64 30))), (1, (.k (.int .i64 20)))], none⟩,
             ⟨(some 19), .mv (.t 7), none⟩,
             ⟨(some 20), .mnx false [(.t 19), (.k (.int .i64 1))], none⟩,
             ⟨(some 21), .idx 1 none (.t 18) (.t 20), none⟩,
             ⟨(some 22), .ld none (.t 21), none⟩,
             ⟨(some 23), .call 48 [(.t 17), (.t 22)], none⟩,
             ⟨none, .st 2 (.t 2) (.t 23), none⟩] [[], [], [], [2], [1, 2, 3], [1, 2, 3, 4], [0, 1, 2, 3, 4, 5], [0, 1, 2, 3, 4, 5, 6]] [0, 1, 2, 4, 5, 6, 7, 8, 14, 15]) (
          .seq (.reg [
             ⟨(some 8), .mv (.k (.int .i64 0)), none⟩] [0, 1, 2, 4, 5, 6, 7, 8, 14, 15]) (
          .seq (.reg [
             ⟨(some 25), .ld (some 2) (.t 2), none⟩,
             ⟨(some 26), .call 49 [(.t 25), (.k (.int .i64 1))], none⟩,
             ⟨(some 24), .mv (.t 26), none⟩,
             ⟨(some 27), .ext (.t 24) 0, none⟩,
             ⟨(some 28), .ext (.t 24) 1, none⟩,
             ⟨none, .st 2 (.t 2) (.t 27), none⟩,
             ⟨(some 8), .mv (.t 28), none⟩] [0, 1, 2, 4, 5, 6, 7, 8, 14, 15]) (
          .reg [
            ⟨(some 29), .mv (.t 6), none⟩,
            ⟨(some 30), .mv (.t 8), none⟩,
            ⟨(some 31), .bsl [(.int .i64 0)] 1 [(0, (.t 30))], none⟩,
            ⟨(some 32), .app 1 8 (.t 29) (.t 31), none⟩,
            ⟨(some 6), .mv (.t 32), none⟩] [0, 1, 2, 4, 5, 6, 7, 8, 14, 15])))))) (
       .reg [
         ⟨(some 33), .bin .add (.t 14) (.k (.int .i64 1)), none⟩,
         ⟨(some 14), .mv (.t 33), none⟩] [0, 1, 2, 4, 5, 6, 7, 8, 14, 15]))))))) (
  .seq (.reg [
     ⟨(some 34), .ld (some 2) (.t 2), none⟩,
     ⟨(some 35), .mv (.t 6), none⟩,
     ⟨none, .st 2 (.t 4) (.t 34), none⟩,
     ⟨(some 5), .mv (.t 35), none⟩] [0, 1, 2, 4, 5, 6, 7, 8, 14, 15]) (
  .ret)))))
theorem k50 : Try.f50.body.bind (compC Try.prog Try.f50.ntmps v50) = some c50 := by kernel_rfl
theorem e50 : enters Try.prog 50 = true := by kernel_rfl
theorem q50 : Try.f50.results.toList.mapM (compRes Try.prog) = some r50 := by kernel_rfl
/-- bakelite/bakekeep1.drives -/
def v51 : List Nat := [0, 2]
def r51 : List AR := [.t 0]
def c51 : AC :=
  .seq (.reg [
     ⟨(some 0), .mv (.k (.bool false)), none⟩] [0, 2]) (
  .seq (.reg [
     ⟨(some 4), .mksl [(.int .u8 0)] 1 (.k (.int .i64 256)) (.k (.int .i64 256)), none⟩,
     ⟨(some 5), .call 47 [(.t 4)], none⟩,
     ⟨(some 6), .call 49 [(.t 5), (.k (.int .i64 0))], none⟩,
     ⟨(some 3), .mv (.t 6), none⟩,
     ⟨(some 7), .ext (.t 3) 0, none⟩,
     ⟨(some 8), .ext (.t 3) 1, none⟩,
     ⟨(some 1), .zero [(.slice none 0 0), (.slice none 0 0)], none⟩,
     ⟨none, .st 2 (.t 1) (.t 7), none⟩,
     ⟨(some 2), .mv (.t 8), none⟩] [0, 2]) (
  .seq (.reg [
     ⟨(some 9), .mv (.t 2), none⟩,
     ⟨(some 10), .bin .eql (.t 9) (.k (.int .i64 8)), none⟩,
     ⟨(some 0), .mv (.t 10), none⟩] [0, 2]) (
  .ret)))
theorem k51 : Try.f51.body.bind (compC Try.prog Try.f51.ntmps v51) = some c51 := by kernel_rfl
theorem e51 : enters Try.prog 51 = true := by kernel_rfl
theorem q51 : Try.f51.results.toList.mapM (compRes Try.prog) = some r51 := by kernel_rfl
end Go.Proofs.Ytjmmompbmjhkpaa.Code
