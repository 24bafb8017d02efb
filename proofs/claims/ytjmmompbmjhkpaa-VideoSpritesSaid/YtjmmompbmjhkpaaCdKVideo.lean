/- The code of functions (KVideo) over abstract values, printed by a program, and that it is what the program's form in Lean turns into. No condition. -/
import Derived.Test.YtjmmompbmjhkpaaProg
import Derived.Test.YtjmmompbmjhkpaaCalcJ
import Derived.KernelRfl
namespace Go.Proofs.Ytjmmompbmjhkpaa.Code
open Go Go.Proofs.Ytjmmompbmjhkpaa.Calc
set_option maxRecDepth 100000
/-- bakelite/bakekeep1.VideoFrames -/
def v3 : List Nat := [0, 1, 2, 6, 7, 8, 9]
def r3 : List AR := [.t 6]
def c3 : AC :=
  .seq (.reg [
     ⟨(some 6), .mv (.k (.bool false)), none⟩] [0, 1, 2, 6, 7, 8, 9]) (
  .seq (.reg [
     ⟨(some 10), .mv (.t 0), none⟩,
     ⟨(some 11), .call 28 [(.t 10)], none⟩,
     ⟨(some 12), .mv (.t 1), none⟩,
     ⟨(some 13), .call 29 [(.t 12), (.k (.int .i64 2560))], none⟩,
     ⟨(some 14), .call 27 [(.t 11), (.t 13)], none⟩,
     ⟨(some 7), .zero [(.slice none 0 0), (.slice none 0 0)], none⟩,
     ⟨none, .st 2 (.t 7) (.t 14), none⟩] [0, 1, 2, 6, 7, 8, 9]) (
  .seq (.reg [
     ⟨(some 15), .ld (some 2) (.t 7), none⟩,
     ⟨(some 16), .call 30 [(.t 15)], none⟩,
     ⟨(some 8), .mv (.t 16), none⟩] [0, 1, 2, 6, 7, 8, 9]) (
  .seq (.dreg [
     ⟨(some 17), .ld (some 2) (.t 7), none⟩,
     ⟨(some 18), .mv (.t 2), none⟩,
     ⟨(some 19), .mv (.t 8), none⟩,
     ⟨(some 20), .mnx false [(.t 19), (.k (.int .i64 2560))], none⟩,
     ⟨(some 21), .bin .add (.t 20) (.k (.int .i64 1)), none⟩,
     ⟨(some 22), .call 29 [(.t 18), (.t 21)], none⟩,
     ⟨(some 23), .call 27 [(.t 17), (.t 22)], none⟩,
     ⟨(some 9), .zero [(.slice none 0 0), (.slice none 0 0)], none⟩,
     ⟨none, .st 2 (.t 9) (.t 23), none⟩] [[], [], [], [2], [2, 3], [1, 2, 3, 4], [0, 1, 2, 3, 4, 5], [], [0, 1, 2, 3, 4, 5, 6, 7]] [0, 1, 2, 6, 7, 8, 9]) (
  .seq (.dreg [
     ⟨(some 24), .call 31 [], none⟩,
     ⟨(some 25), .mv (.t 24), none⟩,
     ⟨(some 26), .ld (some 2) (.t 7), (some (25, true))⟩,
     ⟨(some 27), .call 27 [(.t 26), (.k (.int .i64 2560))], (some (25, true))⟩,
     ⟨(some 28), .call 32 [(.t 27)], (some (25, true))⟩,
     ⟨(some 29), .ld (some 2) (.t 7), (some (25, true))⟩,
     ⟨(some 30), .call 32 [(.t 29)], (some (25, true))⟩,
     ⟨(some 31), .bin .eql (.t 28) (.t 30), (some (25, true))⟩,
     ⟨(some 32), .pick (.t 25) (.t 31) (.k (.bool false)), none⟩,
     ⟨(some 33), .mv (.t 32), none⟩,
     ⟨(some 34), .ld (some 2) (.t 9), (some (33, true))⟩,
     ⟨(some 35), .call 32 [(.t 34)], (some (33, true))⟩,
     ⟨(some 36), .ld (some 2) (.t 7), (some (33, true))⟩,
     ⟨(some 37), .call 32 [(.t 36)], (some (33, true))⟩,
     ⟨(some 38), .bin .eql (.t 35) (.t 37), (some (33, true))⟩,
     ⟨(some 39), .pick (.t 33) (.t 38) (.k (.bool false)), none⟩,
     ⟨(some 40), .mv (.t 39), none⟩,
     ⟨(some 41), .mv (.t 8), (some (40, true))⟩,
     ⟨(some 42), .bin .eql (.t 41) (.k (.int .i64 100000)), (some (40, true))⟩,
     ⟨(some 43), .mv (.t 42), (some (40, true))⟩,
     ⟨(some 44), .ld (some 2) (.t 7), (some (43, false))⟩,
     ⟨(some 45), .mv (.t 8), (some (43, false))⟩,
     ⟨(some 46), .bin .add (.t 45) (.k (.int .i64 1)), (some (43, false))⟩,
     ⟨(some 47), .call 27 [(.t 44), (.t 46)], (some (43, false))⟩,
     ⟨(some 48), .call 32 [(.t 47)], (some (43, false))⟩,
     ⟨(some 49), .ld (some 2) (.t 7), (some (43, false))⟩,
     ⟨(some 50), .call 32 [(.t 49)], (some (43, false))⟩,
     ⟨(some 51), .bin .neq (.t 48) (.t 50), (some (43, false))⟩,
     ⟨(some 52), .pick (.t 43) (.k (.bool true)) (.t 51), (some (40, true))⟩,
     ⟨(some 53), .pick (.t 40) (.t 52) (.k (.bool false)), none⟩,
     ⟨(some 6), .mv (.t 53), none⟩] [[], [0], [0, 1], [0, 1, 2], [0, 1, 2, 3], [0, 1], [0, 1, 2, 3, 4, 5], [0, 1, 2, 3, 4, 5, 6], [0, 1, 2, 3, 4, 5, 6, 7], [0, 1, 2, 3, 4, 5, 6, 7, 8], [0, 1, 2, 3, 4, 5, 6, 7, 8, 9], [0, 1, 2, 3, 4, 5, 6, 7, 8, 9, 10], [0, 1, 2, 3, 4, 5, 6, 7, 8, 9], [0, 1, 2, 3, 4, 5, 6, 7, 8, 9, 10, 11, 12], [0, 1, 2, 3, 4, 5, 6, 7, 8, 9, 10, 11, 12, 13], [0, 1, 2, 3, 4, 5, 6, 7, 8, 9, 10, 11, 12, 13, 14], [0, 1, 2, 3, 4, 5, 6, 7, 8, 9, 10, 11, 12, 13, 14, 15], [0, 1, 2, 3, 4, 5, 6, 7, 8, 9, 10, 11, 12, 13, 14, 15, 16], [0, 1, 2, 3, 4, 5, 6, 7, 8, 9, 10, 11, 12, 13, 14, 15, 16, 17], [0, 1, 2, 3, 4, 5, 6, 7, 8, 9, 10, 11, 12, 13, 14, 15, 16, 17, 18], [0, 1, 2, 3, 4, 5, 6, 7, 8, 9, 10, 11, 12, 13, 14, 15, 16, 17, 18, 19], [0, 1, 2, 3, 4, 5, 6, 7, 8, 9, 10, 11, 12, 13, 14, 15, 16, 17, 18, 19], [0, 1, 2, 3, 4, 5, 6, 7, 8, 9, 10, 11, 12, 13, 14, 15, 16, 17, 18, 19, 21], [0, 1, 2, 3, 4, 5, 6, 7, 8, 9, 10, 11, 12, 13, 14, 15, 16, 17, 18, 19, 20, 21, 22], [0, 1, 2, 3, 4, 5, 6, 7, 8, 9, 10, 11, 12, 13, 14, 15, 16, 17, 18, 19, 20, 21, 22, 23], [0, 1, 2, 3, 4, 5, 6, 7, 8, 9, 10, 11, 12, 13, 14, 15, 16, 17, 18, 19], [0, 1, 2, 3, 4, 5, 6, 7, 8, 9, 10, 11, 12, 13, 14, 15, 16, 17, 18, 19, 20, 21, 22, 23, 24, 25], [0, 1, 2, 3, 4, 5, 6, 7, 8, 9, 10, 11, 12, 13, 14, 15, 16, 17, 18, 19, 20, 21, 22, 23, 24, 25, 26], [0, 1, 2, 3, 4, 5, 6, 7, 8, 9, 10, 11, 12, 13, 14, 15, 16, 17, 18, 19, 20, 21, 22, 23, 24, 25, 26, 27], [0, 1, 2, 3, 4, 5, 6, 7, 8, 9, 10, 11, 12, 13, 14, 15, 16, 17, 18, 19, 20, 21, 22, 23, 24, 25, 26, 27, 28], [0, 1, 2, 3, 4, 5, 6, 7, 8, 9, 10, 11, 12, 13, 14, 15, 16, 17, 18, 19, 20, 21, 22, 23, 24, 25, 26, 27, 28, 29]] [0, 1, 2, 6, 7, 8, 9]) (
  .ret)))))
theorem k3 : Try.f3.body.bind (compC Try.prog Try.f3.ntmps v3) = some c3 := by kernel_rfl
theorem e3 : enters Try.prog 3 = true := by kernel_rfl
theorem q3 : Try.f3.results.toList.mapM (compRes Try.prog) = some r3 := by kernel_rfl
/-- bakelite/bakekeep1.VideoKeeps -/
def v4 : List Nat := [0, 1, 2, 3, 8, 9, 10, 12, 14, 16, 18, 19, 20, 70]
def r4 : List AR := [.t 8]
def c4 : AC :=
  .seq (.reg [
     ⟨(some 8), .mv (.k (.bool false)), none⟩] [0, 1, 2, 3, 8, 9, 10, 12, 14, 16, 18, 19, 20, 70]) (
  .seq (.reg [
     ⟨(some 21), .mv (.t 1), none⟩,
     ⟨(some 22), .call 29 [(.t 21), (.k (.int .i64 32))], none⟩,
     ⟨(some 23), .mv (.t 3), none⟩,
     ⟨(some 24), .call 29 [(.t 23), (.k (.int .i64 6000))], none⟩,
     ⟨(some 1), .mv (.t 22), none⟩,
     ⟨(some 3), .mv (.t 24), none⟩] [0, 1, 2, 3, 8, 9, 10, 12, 14, 16, 18, 19, 20, 70]) (
  .seq (.reg [
     ⟨(some 25), .mv (.t 0), none⟩,
     ⟨(some 26), .call 28 [(.t 25)], none⟩,
     ⟨(some 27), .mv (.t 3), none⟩,
     ⟨(some 28), .call 27 [(.t 26), (.t 27)], none⟩,
     ⟨(some 9), .zero [(.slice none 0 0), (.slice none 0 0)], none⟩,
     ⟨none, .st 2 (.t 9) (.t 28), none⟩] [0, 1, 2, 3, 8, 9, 10, 12, 14, 16, 18, 19, 20, 70]) (
  .seq (.reg [
     ⟨(some 29), .ld (some 2) (.t 9), none⟩,
     ⟨(some 30), .mv (.t 1), none⟩,
     ⟨(some 31), .mv (.t 2), none⟩,
     ⟨(some 32), .call 33 [(.t 29), (.t 30), (.t 31)], none⟩,
     ⟨(some 10), .zero [(.slice none 0 0), (.slice none 0 0)], none⟩,
     ⟨none, .st 2 (.t 10) (.t 32), none⟩] [0, 1, 2, 3, 8, 9, 10, 12, 14, 16, 18, 19, 20, 70]) (
  .seq (.reg [
     ⟨(some 34), .ld (some 2) (.t 10), none⟩,
     ⟨(some 35), .mv (.t 1), none⟩,
     ⟨(some 36), .call 34 [(.t 34), (.t 35)], none⟩,
     ⟨(some 33), .mv (.t 36), none⟩,
     ⟨(some 37), .ext (.t 33) 0, none⟩,
     ⟨(some 38), .ext (.t 33) 1, none⟩,
     ⟨(some 11), .zero [(.slice none 0 0), (.slice none 0 0)], none⟩,
     ⟨none, .st 2 (.t 11) (.t 37), none⟩,
     ⟨(some 12), .mv (.t 38), none⟩] [0, 1, 2, 3, 8, 9, 10, 12, 14, 16, 18, 19, 20, 70]) (
  .seq (.reg [
     ⟨(some 40), .ld (some 2) (.t 9), none⟩,
     ⟨(some 41), .mv (.t 1), none⟩,
     ⟨(some 42), .call 34 [(.t 40), (.t 41)], none⟩,
     ⟨(some 39), .mv (.t 42), none⟩,
     ⟨(some 43), .ext (.t 39) 0, none⟩,
     ⟨(some 44), .ext (.t 39) 1, none⟩,
     ⟨(some 13), .zero [(.slice none 0 0), (.slice none 0 0)], none⟩,
     ⟨none, .st 2 (.t 13) (.t 43), none⟩,
     ⟨(some 14), .mv (.t 44), none⟩] [0, 1, 2, 3, 8, 9, 10, 12, 14, 16, 18, 19, 20, 70]) (
  .seq (.reg [
     ⟨(some 46), .ld (some 2) (.t 10), none⟩,
     ⟨(some 47), .call 34 [(.t 46), (.k (.int .i64 5))], none⟩,
     ⟨(some 45), .mv (.t 47), none⟩,
     ⟨(some 48), .ext (.t 45) 0, none⟩,
     ⟨(some 49), .ext (.t 45) 1, none⟩,
     ⟨(some 15), .zero [(.slice none 0 0), (.slice none 0 0)], none⟩,
     ⟨none, .st 2 (.t 15) (.t 48), none⟩,
     ⟨(some 16), .mv (.t 49), none⟩] [0, 1, 2, 3, 8, 9, 10, 12, 14, 16, 18, 19, 20, 70]) (
  .seq (.reg [
     ⟨(some 51), .ld (some 2) (.t 10), none⟩,
     ⟨(some 52), .call 34 [(.t 51), (.k (.int .i64 6))], none⟩,
     ⟨(some 50), .mv (.t 52), none⟩,
     ⟨(some 53), .ext (.t 50) 0, none⟩,
     ⟨(some 54), .ext (.t 50) 1, none⟩,
     ⟨(some 17), .zero [(.slice none 0 0), (.slice none 0 0)], none⟩,
     ⟨none, .st 2 (.t 17) (.t 53), none⟩,
     ⟨(some 18), .mv (.t 54), none⟩] [0, 1, 2, 3, 8, 9, 10, 12, 14, 16, 18, 19, 20, 70]) (
  .seq (.reg [
     ⟨(some 55), .mv (.t 3), none⟩,
     ⟨(some 56), .bin .add (.t 55) (.k (.int .i64 2560)), none⟩,
     ⟨(some 57), .bin .sub (.t 56) (.k (.int .i64 1)), none⟩,
     ⟨(some 58), .bin .rem (.t 57) (.k (.int .i64 2560)), none⟩,
     ⟨(some 19), .mv (.t 58), none⟩] [0, 1, 2, 3, 8, 9, 10, 12, 14, 16, 18, 19, 20, 70]) (
  .seq (.reg [
     ⟨(some 59), .mv (.t 2), none⟩,
     ⟨(some 60), .call 35 [(.t 59), (.k (.int .i64 8))], none⟩,
     ⟨(some 20), .mv (.t 60), none⟩] [0, 1, 2, 3, 8, 9, 10, 12, 14, 16, 18, 19, 20, 70]) (
  .seq (.seq (.reg [
      ⟨(some 61), .mv (.t 1), none⟩,
      ⟨(some 62), .bin .eql (.t 61) (.k (.int .i64 5)), none⟩,
      ⟨(some 63), .mv (.t 62), none⟩,
      ⟨(some 64), .mv (.t 1), (some (63, false))⟩,
      ⟨(some 65), .bin .eql (.t 64) (.k (.int .i64 6)), (some (63, false))⟩,
      ⟨(some 66), .pick (.t 63) (.k (.bool true)) (.t 65), none⟩,
      ⟨(some 67), .mv (.t 66), none⟩,
      ⟨(some 68), .mv (.t 1), (some (67, false))⟩,
      ⟨(some 69), .bin .eql (.t 68) (.k (.int .i64 7)), (some (67, false))⟩,
      ⟨(some 70), .pick (.t 67) (.k (.bool true)) (.t 69), none⟩] [0, 1, 2, 3, 8, 9, 10, 12, 14, 16, 18, 19, 20, 70]) (
   .cond (.t 70) (.reg [
       ⟨(some 71), .mv (.t 14), none⟩,
       ⟨(some 20), .mv (.t 71), none⟩] [0, 1, 2, 3, 8, 9, 10, 12, 14, 16, 18, 19, 20, 70]) (
   .skip))) (
  .seq (.reg [
     ⟨(some 72), .call 31 [], none⟩,
     ⟨(some 73), .mv (.t 72), none⟩,
     ⟨(some 74), .mv (.t 12), (some (73, true))⟩,
     ⟨(some 75), .mv (.t 20), (some (73, true))⟩,
     ⟨(some 76), .bin .eql (.t 74) (.t 75), (some (73, true))⟩,
     ⟨(some 77), .pick (.t 73) (.t 76) (.k (.bool false)), none⟩,
     ⟨(some 78), .mv (.t 77), none⟩,
     ⟨(some 79), .mv (.t 16), (some (78, true))⟩,
     ⟨(some 80), .bin .mul (.t 79) (.k (.int .i64 64)), (some (78, true))⟩,
     ⟨(some 81), .mv (.t 18), (some (78, true))⟩,
     ⟨(some 82), .bin .add (.t 80) (.t 81), (some (78, true))⟩,
     ⟨(some 83), .mv (.t 19), (some (78, true))⟩,
     ⟨(some 84), .bin .eql (.t 82) (.t 83), (some (78, true))⟩,
     ⟨(some 85), .pick (.t 78) (.t 84) (.k (.bool false)), none⟩,
     ⟨(some 8), .mv (.t 85), none⟩] [0, 1, 2, 3, 8, 9, 10, 12, 14, 16, 18, 19, 20, 70]) (
  .ret))))))))))))
theorem k4 : Try.f4.body.bind (compC Try.prog Try.f4.ntmps v4) = some c4 := by kernel_rfl
theorem e4 : enters Try.prog 4 = true := by kernel_rfl
theorem q4 : Try.f4.results.toList.mapM (compRes Try.prog) = some r4 := by kernel_rfl
/-- bakelite/bakekeep1.VideoSprites -/
def v5 : List Nat := [0, 1, 2, 6, 7, 8, 9, 10, 11, 13, 14, 15, 25, 26, 27, 28, 37, 38, 46, 47, 52]
def r5 : List AR := [.t 6]
def c5 : AC :=
  .seq (.reg [
     ⟨(some 6), .mv (.k (.bool false)), none⟩] [0, 1, 2, 6, 7, 8, 9, 10, 11, 13, 14, 15, 25, 26, 27, 28, 37, 38, 46, 47, 52]) (
  .seq (.reg [
     ⟨(some 16), .mv (.t 0), none⟩,
     ⟨(some 17), .call 29 [(.t 16), (.k (.int .i64 60))], none⟩,
     ⟨(some 18), .mv (.t 1), none⟩,
     ⟨(some 19), .call 29 [(.t 18), (.k (.int .i64 40))], none⟩,
     ⟨(some 20), .mv (.t 2), none⟩,
     ⟨(some 21), .call 29 [(.t 20), (.k (.int .i64 2))], none⟩,
     ⟨(some 0), .mv (.t 17), none⟩,
     ⟨(some 1), .mv (.t 19), none⟩,
     ⟨(some 2), .mv (.t 21), none⟩] [0, 1, 2, 6, 7, 8, 9, 10, 11, 13, 14, 15, 25, 26, 27, 28, 37, 38, 46, 47, 52]) (
  .seq (.reg [
     ⟨(some 22), .call 36 [], none⟩,
     ⟨(some 7), .zero [(.slice none 0 0), (.slice none 0 0)], none⟩,
     ⟨none, .st 2 (.t 7) (.t 22), none⟩] [0, 1, 2, 6, 7, 8, 9, 10, 11, 13, 14, 15, 25, 26, 27, 28, 37, 38, 46, 47, 52]) (
  .seq (.seq (.reg [
      ⟨(some 23), .mv (.t 0), none⟩,
      ⟨(some 24), .mv (.t 1), none⟩,
      ⟨(some 25), .bsl [(.int .i64 0)] 5 [(0, (.k (.int .i64 0))), (1, (.t 23)), (2, (.t 24)), (3, (.k (.int .i64 9))), (4, (.k (.int .i64 255)))], none⟩,
      ⟨(some 26), .len (.t 25), none⟩,
      ⟨(some 27), .mv (.k (.int .i64 0)), none⟩] [0, 1, 2, 6, 7, 8, 9, 10, 11, 13, 14, 15, 25, 26, 27, 28, 37, 38, 46, 47, 52]) (
   .block 0 (.loop (.seq (.reg [
          ⟨(some 28), .bin .lss (.t 27) (.t 26), none⟩] [0, 1, 2, 6, 7, 8, 9, 10, 11, 13, 14, 15, 25, 26, 27, 28, 37, 38, 46, 47, 52]) (
       .seq (.cond (.t 28) (.skip) (
        .exit 0)) (
       .seq (.block 1 (.seq (.reg [
             ⟨(some 29), .mv (.t 27), none⟩,
             ⟨(some 30), .idx 1 none (.t 25) (.t 27), none⟩,
             ⟨(some 31), .ld none (.t 30), none⟩,
             ⟨(some 8), .mv (.t 29), none⟩,
             ⟨(some 9), .mv (.t 31), none⟩] [0, 1, 2, 6, 7, 8, 9, 10, 11, 13, 14, 15, 25, 26, 27, 28, 37, 38, 46, 47, 52]) (
          .reg [
            ⟨(some 32), .ld (some 2) (.t 7), none⟩,
            ⟨(some 33), .mv (.t 8), none⟩,
            ⟨(some 34), .mv (.t 9), none⟩,
            ⟨(some 35), .call 33 [(.t 32), (.t 33), (.t 34)], none⟩,
            ⟨none, .st 2 (.t 7) (.t 35), none⟩] [0, 1, 2, 6, 7, 8, 9, 10, 11, 13, 14, 15, 25, 26, 27, 28, 37, 38, 46, 47, 52]))) (
       .reg [
         ⟨(some 36), .bin .add (.t 27) (.k (.int .i64 1)), none⟩,
         ⟨(some 27), .mv (.t 36), none⟩] [0, 1, 2, 6, 7, 8, 9, 10, 11, 13, 14, 15, 25, 26, 27, 28, 37, 38, 46, 47, 52]))))))) (
  .seq (.seq (.reg [
      ⟨(some 37), .mv (.k (.int .i64 0)), none⟩] [0, 1, 2, 6, 7, 8, 9, 10, 11, 13, 14, 15, 25, 26, 27, 28, 37, 38, 46, 47, 52]) (
   .block 2 (.loop (.seq (.reg [
          ⟨(some 38), .bin .lss (.t 37) (.k (.int .i64 24)), none⟩] [0, 1, 2, 6, 7, 8, 9, 10, 11, 13, 14, 15, 25, 26, 27, 28, 37, 38, 46, 47, 52]) (
       .seq (.cond (.t 38) (.skip) (
        .exit 2)) (
       .seq (.block 3 (.seq (.reg [
             ⟨(some 39), .mv (.t 37), none⟩,
             ⟨(some 10), .mv (.t 39), none⟩] [0, 1, 2, 6, 7, 8, 9, 10, 11, 13, 14, 15, 25, 26, 27, 28, 37, 38, 46, 47, 52]) (
          .reg [
            ⟨(some 40), .ld (some 2) (.t 7), none⟩,
            ⟨(some 41), .mv (.t 10), none⟩,
            ⟨(some 42), .bin .add (.k (.int .i64 8)) (.t 41), none⟩,
            ⟨(some 43), .mv (.t 2), none⟩,
            ⟨(some 44), .call 33 [(.t 40), (.t 42), (.t 43)], none⟩,
            ⟨none, .st 2 (.t 7) (.t 44), none⟩] [0, 1, 2, 6, 7, 8, 9, 10, 11, 13, 14, 15, 25, 26, 27, 28, 37, 38, 46, 47, 52]))) (
       .reg [
         ⟨(some 45), .bin .add (.t 37) (.k (.int .i64 1)), none⟩,
         ⟨(some 37), .mv (.t 45), none⟩] [0, 1, 2, 6, 7, 8, 9, 10, 11, 13, 14, 15, 25, 26, 27, 28, 37, 38, 46, 47, 52]))))))) (
  .seq (.reg [
     ⟨(some 11), .mv (.k (.int .i64 0)), none⟩] [0, 1, 2, 6, 7, 8, 9, 10, 11, 13, 14, 15, 25, 26, 27, 28, 37, 38, 46, 47, 52]) (
  .seq (.seq (.reg [
      ⟨(some 46), .mv (.k (.int .i64 0)), none⟩] [0, 1, 2, 6, 7, 8, 9, 10, 11, 13, 14, 15, 25, 26, 27, 28, 37, 38, 46, 47, 52]) (
   .block 4 (.loop (.seq (.reg [
          ⟨(some 47), .bin .lss (.t 46) (.k (.int .i64 2560)), none⟩] [0, 1, 2, 6, 7, 8, 9, 10, 11, 13, 14, 15, 25, 26, 27, 28, 37, 38, 46, 47, 52]) (
       .seq (.cond (.t 47) (.skip) (
        .exit 4)) (
       .seq (.block 5 (.seq (.reg [
             ⟨(some 48), .ld (some 2) (.t 7), none⟩,
             ⟨(some 49), .call 37 [(.t 48)], none⟩,
             ⟨none, .st 2 (.t 7) (.t 49), none⟩] [0, 1, 2, 6, 7, 8, 9, 10, 11, 13, 14, 15, 25, 26, 27, 28, 37, 38, 46, 47, 52]) (
          .seq (.reg [
             ⟨(some 50), .ld (some 2) (.t 7), none⟩,
             ⟨(some 51), .call 32 [(.t 50)], none⟩,
             ⟨(some 52), .bin .eql (.t 51) (.k (.int .i64 9)), none⟩] [0, 1, 2, 6, 7, 8, 9, 10, 11, 13, 14, 15, 25, 26, 27, 28, 37, 38, 46, 47, 52]) (
          .cond (.t 52) (.reg [
              ⟨(some 53), .mv (.t 11), none⟩,
              ⟨(some 54), .bin .add (.t 53) (.k (.int .i64 1)), none⟩,
              ⟨(some 11), .mv (.t 54), none⟩] [0, 1, 2, 6, 7, 8, 9, 10, 11, 13, 14, 15, 25, 26, 27, 28, 37, 38, 46, 47, 52]) (
          .skip))))) (
       .reg [
         ⟨(some 55), .bin .add (.t 46) (.k (.int .i64 1)), none⟩,
         ⟨(some 46), .mv (.t 55), none⟩] [0, 1, 2, 6, 7, 8, 9, 10, 11, 13, 14, 15, 25, 26, 27, 28, 37, 38, 46, 47, 52]))))))) (
  .seq (.reg [
     ⟨(some 57), .ld (some 2) (.t 7), none⟩,
     ⟨(some 58), .call 34 [(.t 57), (.k (.int .i64 7))], none⟩,
     ⟨(some 56), .mv (.t 58), none⟩,
     ⟨(some 59), .ext (.t 56) 0, none⟩,
     ⟨(some 60), .ext (.t 56) 1, none⟩,
     ⟨(some 12), .zero [(.slice none 0 0), (.slice none 0 0)], none⟩,
     ⟨none, .st 2 (.t 12) (.t 59), none⟩,
     ⟨(some 13), .mv (.t 60), none⟩] [0, 1, 2, 6, 7, 8, 9, 10, 11, 13, 14, 15, 25, 26, 27, 28, 37, 38, 46, 47, 52]) (
  .seq (.reg [
     ⟨(some 61), .mv (.t 0), none⟩,
     ⟨(some 62), .bin .sub (.k (.int .i64 48)) (.t 61), none⟩,
     ⟨(some 63), .mnx false [(.k (.int .i64 8)), (.t 62)], none⟩,
     ⟨(some 64), .mnx true [(.k (.int .i64 0)), (.t 63)], none⟩,
     ⟨(some 65), .mv (.t 1), none⟩,
     ⟨(some 66), .bin .sub (.k (.int .i64 32)) (.t 65), none⟩,
     ⟨(some 67), .mnx false [(.k (.int .i64 8)), (.t 66)], none⟩,
     ⟨(some 68), .mnx true [(.k (.int .i64 0)), (.t 67)], none⟩,
     ⟨(some 14), .mv (.t 64), none⟩,
     ⟨(some 15), .mv (.t 68), none⟩] [0, 1, 2, 6, 7, 8, 9, 10, 11, 13, 14, 15, 25, 26, 27, 28, 37, 38, 46, 47, 52]) (
  .seq (.reg [
     ⟨(some 69), .call 31 [], none⟩,
     ⟨(some 70), .mv (.t 69), none⟩,
     ⟨(some 71), .mv (.t 11), (some (70, true))⟩,
     ⟨(some 72), .mv (.t 14), (some (70, true))⟩,
     ⟨(some 73), .mv (.t 15), (some (70, true))⟩,
     ⟨(some 74), .bin .mul (.t 72) (.t 73), (some (70, true))⟩,
     ⟨(some 75), .bin .eql (.t 71) (.t 74), (some (70, true))⟩,
     ⟨(some 76), .pick (.t 70) (.t 75) (.k (.bool false)), none⟩,
     ⟨(some 77), .mv (.t 76), none⟩,
     ⟨(some 78), .mv (.t 13), (some (77, true))⟩,
     ⟨(some 79), .bin .eql (.t 78) (.k (.int .i64 1)), (some (77, true))⟩,
     ⟨(some 80), .mv (.t 11), (some (77, true))⟩,
     ⟨(some 81), .bin .gtr (.t 80) (.k (.int .i64 0)), (some (77, true))⟩,
     ⟨(some 82), .mv (.t 81), (some (77, true))⟩,
     ⟨(some 83), .mv (.t 2), (some (82, true))⟩,
     ⟨(some 84), .bin .eql (.t 83) (.k (.int .i64 1)), (some (82, true))⟩,
     ⟨(some 85), .pick (.t 82) (.t 84) (.k (.bool false)), (some (77, true))⟩,
     ⟨(some 86), .eqb false (.t 79) (.t 85), (some (77, true))⟩,
     ⟨(some 87), .pick (.t 77) (.t 86) (.k (.bool false)), none⟩,
     ⟨(some 6), .mv (.t 87), none⟩] [0, 1, 2, 6, 7, 8, 9, 10, 11, 13, 14, 15, 25, 26, 27, 28, 37, 38, 46, 47, 52]) (
  .ret))))))))))
theorem k5 : Try.f5.body.bind (compC Try.prog Try.f5.ntmps v5) = some c5 := by kernel_rfl
theorem e5 : enters Try.prog 5 = true := by kernel_rfl
theorem q5 : Try.f5.results.toList.mapM (compRes Try.prog) = some r5 := by kernel_rfl
/-- bakelite/bakekeep1.screen -/
def v28 : List Nat := [0, 2, 3, 4, 5, 6, 9, 10, 11, 12, 23]
def r28 : List AR := [.cell (some 2) 2]
def c28 : AC :=
  .seq (.reg [
     ⟨(some 2), .zero [(.slice none 0 0), (.slice none 0 0)], none⟩] [0, 2, 3, 4, 5, 6, 9, 10, 11, 12, 23]) (
  .seq (.reg [
     ⟨(some 7), .call 36 [], none⟩,
     ⟨(some 3), .zero [(.slice none 0 0), (.slice none 0 0)], none⟩,
     ⟨none, .st 2 (.t 3) (.t 7), none⟩] [0, 2, 3, 4, 5, 6, 9, 10, 11, 12, 23]) (
  .seq (.seq (.reg [
      ⟨(some 8), .mv (.t 0), none⟩,
      ⟨(some 9), .call 44 [(.t 8), (.k (.int .i64 32))], none⟩,
      ⟨(some 10), .len (.t 9), none⟩,
      ⟨(some 11), .mv (.k (.int .i64 0)), none⟩] [0, 2, 3, 4, 5, 6, 9, 10, 11, 12, 23]) (
   .block 0 (.loop (.seq (.reg [
          ⟨(some 12), .bin .lss (.t 11) (.t 10), none⟩] [0, 2, 3, 4, 5, 6, 9, 10, 11, 12, 23]) (
       .seq (.cond (.t 12) (.skip) (
        .exit 0)) (
       .seq (.block 1 (.seq (.reg [
             ⟨(some 13), .mv (.t 11), none⟩,
             ⟨(some 14), .idx 1 none (.t 9) (.t 11), none⟩,
             ⟨(some 15), .ld none (.t 14), none⟩,
             ⟨(some 4), .mv (.t 13), none⟩,
             ⟨(some 5), .mv (.t 15), none⟩] [0, 2, 3, 4, 5, 6, 9, 10, 11, 12, 23]) (
          .seq (.reg [
             ⟨(some 16), .mv (.t 5), none⟩,
             ⟨(some 17), .cvt .i64 (.t 16), none⟩,
             ⟨(some 6), .mv (.t 17), none⟩] [0, 2, 3, 4, 5, 6, 9, 10, 11, 12, 23]) (
          .seq (.seq (.reg [
              ⟨(some 18), .mv (.t 4), none⟩,
              ⟨(some 19), .bin .eql (.t 18) (.k (.int .i64 1)), none⟩,
              ⟨(some 20), .mv (.t 19), none⟩,
              ⟨(some 21), .mv (.t 4), (some (20, false))⟩,
              ⟨(some 22), .bin .eql (.t 21) (.k (.int .i64 2)), (some (20, false))⟩,
              ⟨(some 23), .pick (.t 20) (.k (.bool true)) (.t 22), none⟩] [0, 2, 3, 4, 5, 6, 9, 10, 11, 12, 23]) (
           .cond (.t 23) (.reg [
               ⟨(some 24), .mv (.t 6), none⟩,
               ⟨(some 25), .bin .rem (.t 24) (.k (.int .i64 50)), none⟩,
               ⟨(some 6), .mv (.t 25), none⟩] [0, 2, 3, 4, 5, 6, 9, 10, 11, 12, 23]) (
           .skip))) (
          .reg [
            ⟨(some 26), .ld (some 2) (.t 3), none⟩,
            ⟨(some 27), .mv (.t 4), none⟩,
            ⟨(some 28), .mv (.t 6), none⟩,
            ⟨(some 29), .call 33 [(.t 26), (.t 27), (.t 28)], none⟩,
            ⟨none, .st 2 (.t 3) (.t 29), none⟩] [0, 2, 3, 4, 5, 6, 9, 10, 11, 12, 23]))))) (
       .reg [
         ⟨(some 30), .bin .add (.t 11) (.k (.int .i64 1)), none⟩,
         ⟨(some 11), .mv (.t 30), none⟩] [0, 2, 3, 4, 5, 6, 9, 10, 11, 12, 23]))))))) (
  .seq (.reg [
     ⟨(some 31), .ld (some 2) (.t 3), none⟩,
     ⟨none, .st 2 (.t 2) (.t 31), none⟩] [0, 2, 3, 4, 5, 6, 9, 10, 11, 12, 23]) (
  .ret))))
theorem k28 : Try.f28.body.bind (compC Try.prog Try.f28.ntmps v28) = some c28 := by kernel_rfl
theorem e28 : enters Try.prog 28 = true := by kernel_rfl
theorem q28 : Try.f28.results.toList.mapM (compRes Try.prog) = some r28 := by kernel_rfl
/-- bakelite/bakekeep1.videos -/
def v31 : List Nat := [0]
def r31 : List AR := [.t 0]
def c31 : AC :=
  .seq (.reg [
     ⟨(some 0), .mv (.k (.bool false)), none⟩] [0]) (
  .seq (.reg [
     ⟨(some 1), .call 36 [], none⟩,
     ⟨(some 2), .call 33 [(.t 1), (.k (.int .i64 0)), (.k (.int .i64 7))], none⟩,
     ⟨(some 3), .call 32 [(.t 2)], none⟩,
     ⟨(some 4), .bin .eql (.t 3) (.k (.int .i64 7)), none⟩,
     ⟨(some 0), .mv (.t 4), none⟩] [0]) (
  .ret))
theorem k31 : Try.f31.body.bind (compC Try.prog Try.f31.ntmps v31) = some c31 := by kernel_rfl
theorem e31 : enters Try.prog 31 = true := by kernel_rfl
theorem q31 : Try.f31.results.toList.mapM (compRes Try.prog) = some r31 := by kernel_rfl
end Go.Proofs.Ytjmmompbmjhkpaa.Code
