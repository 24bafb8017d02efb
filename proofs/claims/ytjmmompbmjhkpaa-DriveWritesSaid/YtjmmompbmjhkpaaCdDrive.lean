/- The code of functions (Drive) over abstract values, printed by a program, and that it is what the program's form in Lean turns into. No condition. -/
import Derived.Test.YtjmmompbmjhkpaaProg
import Derived.Test.YtjmmompbmjhkpaaCalcJ
import Derived.KernelRfl
namespace Go.Proofs.Ytjmmompbmjhkpaa.Code
open Go Go.Proofs.Ytjmmompbmjhkpaa.Calc
set_option maxRecDepth 100000
/-- bakelite/drive.Write -/
def v45 : List Nat := [0, 1, 2, 3, 6, 7, 8, 14, 15, 21, 30, 33]
def r45 : List AR := [.cell (some 2) 6]
def c45 : AC :=
  .seq (.reg [
     ⟨(some 3), .new 2 (.t 0), none⟩,
     ⟨(some 6), .zero [(.slice none 0 0), (.slice none 0 0)], none⟩] [0, 1, 2, 3, 6, 7, 8, 14, 15, 21, 30, 33]) (
  .seq (.reg [
     ⟨(some 10), .ld (some 2) (.t 3), none⟩,
     ⟨(some 11), .call 100 [(.t 10)], none⟩,
     ⟨(some 9), .mv (.t 11), none⟩,
     ⟨(some 12), .ext (.t 9) 0, none⟩,
     ⟨(some 13), .ext (.t 9) 1, none⟩,
     ⟨(some 7), .mv (.t 12), none⟩,
     ⟨(some 8), .mv (.t 13), none⟩] [0, 1, 2, 3, 6, 7, 8, 14, 15, 21, 30, 33]) (
  .seq (.seq (.reg [
      ⟨(some 14), .mv (.t 1), none⟩] [0, 1, 2, 3, 6, 7, 8, 14, 15, 21, 30, 33]) (
   .block 0 (.seq (.reg [
        ⟨(some 16), .bin .eql (.t 14) (.k (.int .i64 0)), none⟩,
        ⟨(some 15), .mv (.t 16), none⟩] [0, 1, 2, 3, 6, 7, 8, 14, 15, 21, 30, 33]) (
     .cond (.t 15) (.reg [
         ⟨(some 17), .mv (.t 7), none⟩,
         ⟨(some 18), .mv (.t 2), none⟩,
         ⟨(some 19), .call 35 [(.t 18), (.k (.int .i64 8))], none⟩,
         ⟨(some 20), .call 101 [(.t 17), (.t 19)], none⟩] [0, 1, 2, 3, 6, 7, 8, 14, 15, 21, 30, 33]) (
     .seq (.reg [
          ⟨(some 22), .bin .eql (.t 14) (.k (.int .i64 1)), none⟩,
          ⟨(some 21), .mv (.t 22), none⟩] [0, 1, 2, 3, 6, 7, 8, 14, 15, 21, 30, 33]) (
       .cond (.t 21) (.seq (.reg [
            ⟨(some 23), .mv (.t 7), none⟩,
            ⟨(some 24), .mv (.t 2), none⟩,
            ⟨(some 25), .call 35 [(.t 24), (.k (.int .i64 8))], none⟩,
            ⟨(some 26), .idx 1 none (.t 23) (.k (.int .i64 6)), none⟩,
            ⟨none, .st 1 (.t 26) (.t 25), none⟩] [0, 1, 2, 3, 6, 7, 8, 14, 15, 21, 30, 33]) (
         .seq (.reg [
            ⟨(some 27), .mv (.t 7), none⟩,
            ⟨(some 28), .idx 1 none (.t 27) (.k (.int .i64 2)), none⟩,
            ⟨(some 29), .ld none (.t 28), none⟩,
            ⟨(some 30), .bin .eql (.t 29) (.k (.int .i64 4)), none⟩] [0, 1, 2, 3, 6, 7, 8, 14, 15, 21, 30, 33]) (
         .cond (.t 30) (.reg [
             ⟨(some 31), .mv (.t 7), none⟩,
             ⟨(some 32), .idx 1 none (.t 31) (.k (.int .i64 7)), none⟩,
             ⟨none, .st 1 (.t 32) (.k (.int .i64 0)), none⟩] [0, 1, 2, 3, 6, 7, 8, 14, 15, 21, 30, 33]) (
         .skip)))) (
       .seq (.reg [
            ⟨(some 34), .bin .eql (.t 14) (.k (.int .i64 3)), none⟩,
            ⟨(some 33), .mv (.t 34), none⟩] [0, 1, 2, 3, 6, 7, 8, 14, 15, 21, 30, 33]) (
         .cond (.t 33) (.reg [
             ⟨(some 35), .mv (.t 7), none⟩,
             ⟨(some 36), .mv (.t 2), none⟩,
             ⟨(some 37), .call 35 [(.t 36), (.k (.int .i64 1))], none⟩,
             ⟨(some 38), .idx 1 none (.t 35) (.k (.int .i64 9)), none⟩,
             ⟨none, .st 1 (.t 38) (.t 37), none⟩] [0, 1, 2, 3, 6, 7, 8, 14, 15, 21, 30, 33]) (
         .skip))))))))) (
  .seq (.reg [
     ⟨(some 39), .mv (.t 7), none⟩,
     ⟨(some 40), .mv (.t 8), none⟩,
     ⟨(some 41), .build [(.slice none 0 0), (.slice none 0 0)] [(0, 1, (.t 39)), (1, 1, (.t 40))], none⟩,
     ⟨none, .st 2 (.t 6) (.t 41), none⟩] [0, 1, 2, 3, 6, 7, 8, 14, 15, 21, 30, 33]) (
  .ret))))
theorem k45 : Try.f45.body.bind (compC Try.prog Try.f45.ntmps v45) = some c45 := by kernel_rfl
theorem e45 : enters Try.prog 45 = true := by kernel_rfl
theorem q45 : Try.f45.results.toList.mapM (compRes Try.prog) = some r45 := by kernel_rfl
/-- bakelite/drive.Change -/
def v46 : List Nat := [0, 1, 2, 4, 5, 6, 15, 26]
def r46 : List AR := [.cell (some 2) 4]
def c46 : AC :=
  .seq (.reg [
     ⟨(some 2), .new 2 (.t 0), none⟩,
     ⟨(some 4), .zero [(.slice none 0 0), (.slice none 0 0)], none⟩] [0, 1, 2, 4, 5, 6, 15, 26]) (
  .seq (.reg [
     ⟨(some 8), .ld (some 2) (.t 2), none⟩,
     ⟨(some 9), .call 100 [(.t 8)], none⟩,
     ⟨(some 7), .mv (.t 9), none⟩,
     ⟨(some 10), .ext (.t 7) 0, none⟩,
     ⟨(some 11), .ext (.t 7) 1, none⟩,
     ⟨(some 5), .mv (.t 10), none⟩,
     ⟨(some 6), .mv (.t 11), none⟩] [0, 1, 2, 4, 5, 6, 15, 26]) (
  .seq (.seq (.reg [
      ⟨(some 12), .mv (.t 5), none⟩,
      ⟨(some 13), .idx 1 none (.t 12) (.k (.int .i64 2)), none⟩,
      ⟨(some 14), .ld none (.t 13), none⟩,
      ⟨(some 15), .bin .eql (.t 14) (.k (.int .i64 0)), none⟩] [0, 1, 2, 4, 5, 6, 15, 26]) (
   .cond (.t 15) (.seq (.reg [
        ⟨(some 16), .mv (.t 5), none⟩,
        ⟨(some 17), .idx 1 none (.t 16) (.k (.int .i64 0)), none⟩,
        ⟨none, .st 1 (.t 17) (.k (.int .i64 0)), none⟩] [0, 1, 2, 4, 5, 6, 15, 26]) (
     .seq (.reg [
        ⟨(some 18), .mv (.t 1), none⟩,
        ⟨(some 19), .bin .gtr (.t 18) (.k (.int .i64 0)), none⟩,
        ⟨(some 20), .mv (.t 19), none⟩,
        ⟨(some 21), .mv (.t 1), (some (20, true))⟩,
        ⟨(some 22), .mv (.t 6), (some (20, true))⟩,
        ⟨(some 23), .len (.t 22), (some (20, true))⟩,
        ⟨(some 24), .bin .quo (.t 23) (.k (.int .i64 256)), (some (20, true))⟩,
        ⟨(some 25), .bin .leq (.t 21) (.t 24), (some (20, true))⟩,
        ⟨(some 26), .pick (.t 20) (.t 25) (.k (.bool false)), none⟩] [0, 1, 2, 4, 5, 6, 15, 26]) (
     .cond (.t 26) (.reg [
         ⟨(some 27), .mv (.t 5), none⟩,
         ⟨(some 28), .mv (.t 1), none⟩,
         ⟨(some 29), .bin .rem (.t 28) (.k (.int .i64 256)), none⟩,
         ⟨(some 30), .idx 1 none (.t 27) (.k (.int .i64 0)), none⟩,
         ⟨none, .st 1 (.t 30) (.t 29), none⟩] [0, 1, 2, 4, 5, 6, 15, 26]) (
     .skip)))) (
   .skip))) (
  .seq (.reg [
     ⟨(some 31), .mv (.t 5), none⟩,
     ⟨(some 32), .mv (.t 6), none⟩,
     ⟨(some 33), .build [(.slice none 0 0), (.slice none 0 0)] [(0, 1, (.t 31)), (1, 1, (.t 32))], none⟩,
     ⟨none, .st 2 (.t 4) (.t 33), none⟩] [0, 1, 2, 4, 5, 6, 15, 26]) (
  .ret))))
theorem k46 : Try.f46.body.bind (compC Try.prog Try.f46.ntmps v46) = some c46 := by kernel_rfl
theorem e46 : enters Try.prog 46 = true := by kernel_rfl
theorem q46 : Try.f46.results.toList.mapM (compRes Try.prog) = some r46 := by kernel_rfl
/-- bakelite/drive.New -/
def v47 : List Nat := [0, 2, 3]
def r47 : List AR := [.cell (some 2) 2]
def c47 : AC :=
  .seq (.reg [
     ⟨(some 2), .zero [(.slice none 0 0), (.slice none 0 0)], none⟩] [0, 2, 3]) (
  .seq (.reg [
     ⟨(some 4), .mv (.t 0), none⟩,
     ⟨(some 5), .len (.t 4), none⟩,
     ⟨(some 6), .bin .quo (.t 5) (.k (.int .i64 256)), none⟩,
     ⟨(some 7), .bin .mul (.t 6) (.k (.int .i64 256)), none⟩,
     ⟨(some 8), .mksl [(.int .u8 0)] 1 (.t 7) (.t 7), none⟩,
     ⟨(some 3), .mv (.t 8), none⟩] [0, 2, 3]) (
  .seq (.reg [
     ⟨(some 9), .mv (.t 3), none⟩,
     ⟨(some 10), .mv (.t 0), none⟩,
     ⟨(some 11), .copy 1 (.t 9) (.t 10), none⟩] [0, 2, 3]) (
  .seq (.reg [
     ⟨(some 12), .mksl [(.int .i64 0)] 8 (.k (.int .i64 10)) (.k (.int .i64 10)), none⟩,
     ⟨(some 13), .mv (.t 3), none⟩,
     ⟨(some 14), .build [(.slice none 0 0), (.slice none 0 0)] [(0, 1, (.t 12)), (1, 1, (.t 13))], none⟩,
     ⟨none, .st 2 (.t 2) (.t 14), none⟩] [0, 2, 3]) (
  .ret))))
theorem k47 : Try.f47.body.bind (compC Try.prog Try.f47.ntmps v47) = some c47 := by kernel_rfl
theorem e47 : enters Try.prog 47 = true := by kernel_rfl
theorem q47 : Try.f47.results.toList.mapM (compRes Try.prog) = some r47 := by kernel_rfl
/-- bakelite/drive.Skip -/
def v48 : List Nat := [0, 1, 2, 4, 5, 6, 19, 29, 36]
def r48 : List AR := [.cell (some 2) 4]
def c48 : AC :=
  .seq (.reg [
     ⟨(some 2), .new 2 (.t 0), none⟩,
     ⟨(some 4), .zero [(.slice none 0 0), (.slice none 0 0)], none⟩] [0, 1, 2, 4, 5, 6, 19, 29, 36]) (
  .seq (.reg [
     ⟨(some 8), .ld (some 2) (.t 2), none⟩,
     ⟨(some 9), .call 100 [(.t 8)], none⟩,
     ⟨(some 7), .mv (.t 9), none⟩,
     ⟨(some 10), .ext (.t 7) 0, none⟩,
     ⟨(some 11), .ext (.t 7) 1, none⟩,
     ⟨(some 5), .mv (.t 10), none⟩,
     ⟨(some 6), .mv (.t 11), none⟩] [0, 1, 2, 4, 5, 6, 19, 29, 36]) (
  .seq (.block 0 (.loop (.seq (.seq (.reg [
           ⟨(some 12), .mv (.t 1), none⟩,
           ⟨(some 13), .bin .gtr (.t 12) (.k (.int .i64 0)), none⟩,
           ⟨(some 14), .mv (.t 13), none⟩,
           ⟨(some 15), .mv (.t 5), (some (14, true))⟩,
           ⟨(some 16), .idx 1 none (.t 15) (.k (.int .i64 2)), (some (14, true))⟩,
           ⟨(some 17), .ld none (.t 16), (some (14, true))⟩,
           ⟨(some 18), .bin .gtr (.t 17) (.k (.int .i64 0)), (some (14, true))⟩,
           ⟨(some 19), .pick (.t 14) (.t 18) (.k (.bool false)), none⟩] [0, 1, 2, 4, 5, 6, 19, 29, 36]) (
        .cond (.t 19) (.skip) (
        .exit 0))) (
       .block 1 (.seq (.seq (.reg [
             ⟨(some 20), .mv (.t 5), none⟩,
             ⟨(some 21), .idx 1 none (.t 20) (.k (.int .i64 2)), none⟩,
             ⟨(some 22), .ld none (.t 21), none⟩,
             ⟨(some 23), .bin .geq (.t 22) (.k (.int .i64 3)), none⟩,
             ⟨(some 24), .mv (.t 23), none⟩,
             ⟨(some 25), .mv (.t 5), (some (24, true))⟩,
             ⟨(some 26), .idx 1 none (.t 25) (.k (.int .i64 0)), (some (24, true))⟩,
             ⟨(some 27), .ld none (.t 26), (some (24, true))⟩,
             ⟨(some 28), .bin .eql (.t 27) (.k (.int .i64 0)), (some (24, true))⟩,
             ⟨(some 29), .pick (.t 24) (.t 28) (.k (.bool false)), none⟩] [0, 1, 2, 4, 5, 6, 19, 29, 36]) (
          .cond (.t 29) (.seq (.reg [
               ⟨(some 30), .mv (.t 5), none⟩,
               ⟨(some 31), .idx 1 none (.t 30) (.k (.int .i64 2)), none⟩,
               ⟨none, .st 1 (.t 31) (.k (.int .i64 0)), none⟩] [0, 1, 2, 4, 5, 6, 19, 29, 36]) (
            .exit 0)) (
          .skip))) (
         .seq (.seq (.reg [
             ⟨(some 32), .mv (.t 1), none⟩,
             ⟨(some 33), .mv (.t 5), none⟩,
             ⟨(some 34), .idx 1 none (.t 33) (.k (.int .i64 5)), none⟩,
             ⟨(some 35), .ld none (.t 34), none⟩,
             ⟨(some 36), .bin .lss (.t 32) (.t 35), none⟩] [0, 1, 2, 4, 5, 6, 19, 29, 36]) (
          .cond (.t 36) (.seq (.reg [
               ⟨(some 37), .mv (.t 5), none⟩,
               ⟨(some 38), .idx 1 none (.t 37) (.k (.int .i64 5)), none⟩,
               ⟨(some 39), .ld none (.t 38), none⟩,
               ⟨(some 40), .mv (.t 1), none⟩,
               ⟨(some 41), .bin .sub (.t 39) (.t 40), none⟩,
               ⟨(some 42), .idx 1 none (.t 37) (.k (.int .i64 5)), none⟩,
               ⟨none, .st 1 (.t 42) (.t 41), none⟩] [0, 1, 2, 4, 5, 6, 19, 29, 36]) (
            .exit 0)) (
          .skip))) (
         .seq (.reg [
            ⟨(some 43), .mv (.t 1), none⟩,
            ⟨(some 44), .mv (.t 5), none⟩,
            ⟨(some 45), .idx 1 none (.t 44) (.k (.int .i64 5)), none⟩,
            ⟨(some 46), .ld none (.t 45), none⟩,
            ⟨(some 47), .mnx true [(.k (.int .i64 1)), (.t 46)], none⟩,
            ⟨(some 48), .bin .sub (.t 43) (.t 47), none⟩,
            ⟨(some 1), .mv (.t 48), none⟩] [0, 1, 2, 4, 5, 6, 19, 29, 36]) (
         .seq (.reg [
            ⟨(some 49), .mv (.t 5), none⟩,
            ⟨(some 50), .idx 1 none (.t 49) (.k (.int .i64 5)), none⟩,
            ⟨none, .st 1 (.t 50) (.k (.int .i64 0)), none⟩] [0, 1, 2, 4, 5, 6, 19, 29, 36]) (
         .reg [
           ⟨(some 51), .mv (.t 5), none⟩,
           ⟨(some 52), .mv (.t 6), none⟩,
           ⟨(some 53), .call 102 [(.t 51), (.t 52)], none⟩] [0, 1, 2, 4, 5, 6, 19, 29, 36]))))))))) (
  .seq (.reg [
     ⟨(some 54), .mv (.t 5), none⟩,
     ⟨(some 55), .mv (.t 6), none⟩,
     ⟨(some 56), .build [(.slice none 0 0), (.slice none 0 0)] [(0, 1, (.t 54)), (1, 1, (.t 55))], none⟩,
     ⟨none, .st 2 (.t 4) (.t 56), none⟩] [0, 1, 2, 4, 5, 6, 19, 29, 36]) (
  .ret))))
theorem k48 : Try.f48.body.bind (compC Try.prog Try.f48.ntmps v48) = some c48 := by kernel_rfl
theorem e48 : enters Try.prog 48 = true := by kernel_rfl
theorem q48 : Try.f48.results.toList.mapM (compRes Try.prog) = some r48 := by kernel_rfl
/-- bakelite/drive.Read -/
def v49 : List Nat := [0, 1, 2, 4, 5, 6, 7, 8, 9, 15, 16, 21, 38, 46, 49, 54]
def r49 : List AR := [.cell (some 2) 4, .t 5]
def c49 : AC :=
  .seq (.reg [
     ⟨(some 2), .new 2 (.t 0), none⟩,
     ⟨(some 4), .zero [(.slice none 0 0), (.slice none 0 0)], none⟩,
     ⟨(some 5), .mv (.k (.int .i64 0)), none⟩] [0, 1, 2, 4, 5, 6, 7, 8, 9, 15, 16, 21, 38, 46, 49, 54]) (
  .seq (.reg [
     ⟨(some 11), .ld (some 2) (.t 2), none⟩,
     ⟨(some 12), .call 100 [(.t 11)], none⟩,
     ⟨(some 10), .mv (.t 12), none⟩,
     ⟨(some 13), .ext (.t 10) 0, none⟩,
     ⟨(some 14), .ext (.t 10) 1, none⟩,
     ⟨(some 6), .mv (.t 13), none⟩,
     ⟨(some 7), .mv (.t 14), none⟩] [0, 1, 2, 4, 5, 6, 7, 8, 9, 15, 16, 21, 38, 46, 49, 54]) (
  .seq (.reg [
     ⟨(some 8), .mv (.k (.int .i64 0)), none⟩] [0, 1, 2, 4, 5, 6, 7, 8, 9, 15, 16, 21, 38, 46, 49, 54]) (
  .seq (.seq (.reg [
      ⟨(some 15), .mv (.t 1), none⟩] [0, 1, 2, 4, 5, 6, 7, 8, 9, 15, 16, 21, 38, 46, 49, 54]) (
   .block 0 (.seq (.reg [
        ⟨(some 17), .bin .eql (.t 15) (.k (.int .i64 0)), none⟩,
        ⟨(some 16), .mv (.t 17), none⟩] [0, 1, 2, 4, 5, 6, 7, 8, 9, 15, 16, 21, 38, 46, 49, 54]) (
     .cond (.t 16) (.seq (.reg [
          ⟨(some 9), .mv (.k (.int .i64 0)), none⟩] [0, 1, 2, 4, 5, 6, 7, 8, 9, 15, 16, 21, 38, 46, 49, 54]) (
       .seq (.seq (.reg [
           ⟨(some 18), .mv (.t 6), none⟩,
           ⟨(some 19), .idx 1 none (.t 18) (.k (.int .i64 0)), none⟩,
           ⟨(some 20), .ld none (.t 19), none⟩,
           ⟨(some 21), .bin .eql (.t 20) (.k (.int .i64 0)), none⟩] [0, 1, 2, 4, 5, 6, 7, 8, 9, 15, 16, 21, 38, 46, 49, 54]) (
        .cond (.t 21) (.reg [
            ⟨(some 9), .mv (.k (.int .i64 8)), none⟩] [0, 1, 2, 4, 5, 6, 7, 8, 9, 15, 16, 21, 38, 46, 49, 54]) (
        .skip))) (
       .seq (.dreg [
          ⟨(some 22), .mv (.t 6), none⟩,
          ⟨(some 23), .call 103 [(.t 22)], none⟩,
          ⟨(some 24), .mv (.t 6), none⟩,
          ⟨(some 25), .idx 1 none (.t 24) (.k (.int .i64 7)), none⟩,
          ⟨(some 26), .ld none (.t 25), none⟩,
          ⟨(some 27), .bin .shl (.t 26) (.k (.int .u64 1)), none⟩,
          ⟨(some 28), .bin .or (.t 23) (.t 27), none⟩,
          ⟨(some 29), .mv (.t 6), none⟩,
          ⟨(some 30), .idx 1 none (.t 29) (.k (.int .i64 8)), none⟩,
          ⟨(some 31), .ld none (.t 30), none⟩,
          ⟨(some 32), .bin .shl (.t 31) (.k (.int .u64 2)), none⟩,
          ⟨(some 33), .bin .or (.t 28) (.t 32), none⟩,
          ⟨(some 34), .mv (.t 9), none⟩,
          ⟨(some 35), .bin .or (.t 33) (.t 34), none⟩,
          ⟨(some 8), .mv (.t 35), none⟩] [[], [0], [], [2], [2, 3], [2, 3, 4], [0, 1, 2, 3, 4, 5], [], [7], [7, 8], [7, 8, 9], [0, 1, 2, 3, 4, 5, 6, 7, 8, 9, 10], [], [0, 1, 2, 3, 4, 5, 6, 7, 8, 9, 10, 11, 12], [0, 1, 2, 3, 4, 5, 6, 7, 8, 9, 10, 11, 12, 13]] [0, 1, 2, 4, 5, 6, 7, 8, 9, 15, 16, 21, 38, 46, 49, 54]) (
       .reg [
         ⟨(some 36), .mv (.t 6), none⟩,
         ⟨(some 37), .idx 1 none (.t 36) (.k (.int .i64 8)), none⟩,
         ⟨none, .st 1 (.t 37) (.k (.int .i64 0)), none⟩] [0, 1, 2, 4, 5, 6, 7, 8, 9, 15, 16, 21, 38, 46, 49, 54])))) (
     .seq (.reg [
          ⟨(some 39), .bin .eql (.t 15) (.k (.int .i64 1)), none⟩,
          ⟨(some 38), .mv (.t 39), none⟩] [0, 1, 2, 4, 5, 6, 7, 8, 9, 15, 16, 21, 38, 46, 49, 54]) (
       .cond (.t 38) (.seq (.reg [
            ⟨(some 40), .mv (.t 6), none⟩,
            ⟨(some 41), .idx 1 none (.t 40) (.k (.int .i64 6)), none⟩,
            ⟨(some 42), .ld none (.t 41), none⟩,
            ⟨(some 8), .mv (.t 42), none⟩] [0, 1, 2, 4, 5, 6, 7, 8, 9, 15, 16, 21, 38, 46, 49, 54]) (
         .seq (.reg [
            ⟨(some 43), .mv (.t 6), none⟩,
            ⟨(some 44), .idx 1 none (.t 43) (.k (.int .i64 2)), none⟩,
            ⟨(some 45), .ld none (.t 44), none⟩,
            ⟨(some 46), .bin .neq (.t 45) (.k (.int .i64 4)), none⟩] [0, 1, 2, 4, 5, 6, 7, 8, 9, 15, 16, 21, 38, 46, 49, 54]) (
         .cond (.t 46) (.reg [
             ⟨(some 47), .mv (.t 6), none⟩,
             ⟨(some 48), .idx 1 none (.t 47) (.k (.int .i64 7)), none⟩,
             ⟨none, .st 1 (.t 48) (.k (.int .i64 0)), none⟩] [0, 1, 2, 4, 5, 6, 7, 8, 9, 15, 16, 21, 38, 46, 49, 54]) (
         .skip)))) (
       .seq (.reg [
            ⟨(some 50), .bin .eql (.t 15) (.k (.int .i64 2)), none⟩,
            ⟨(some 49), .mv (.t 50), none⟩] [0, 1, 2, 4, 5, 6, 7, 8, 9, 15, 16, 21, 38, 46, 49, 54]) (
         .cond (.t 49) (.reg [
             ⟨(some 51), .mv (.t 6), none⟩,
             ⟨(some 52), .idx 1 none (.t 51) (.k (.int .i64 1)), none⟩,
             ⟨(some 53), .ld none (.t 52), none⟩,
             ⟨(some 8), .mv (.t 53), none⟩] [0, 1, 2, 4, 5, 6, 7, 8, 9, 15, 16, 21, 38, 46, 49, 54]) (
         .seq (.reg [
              ⟨(some 55), .bin .eql (.t 15) (.k (.int .i64 3)), none⟩,
              ⟨(some 54), .mv (.t 55), none⟩] [0, 1, 2, 4, 5, 6, 7, 8, 9, 15, 16, 21, 38, 46, 49, 54]) (
           .cond (.t 54) (.reg [
               ⟨(some 56), .mv (.t 6), none⟩,
               ⟨(some 57), .idx 1 none (.t 56) (.k (.int .i64 9)), none⟩,
               ⟨(some 58), .ld none (.t 57), none⟩,
               ⟨(some 8), .mv (.t 58), none⟩] [0, 1, 2, 4, 5, 6, 7, 8, 9, 15, 16, 21, 38, 46, 49, 54]) (
           .skip))))))))))) (
  .seq (.reg [
     ⟨(some 59), .mv (.t 6), none⟩,
     ⟨(some 60), .mv (.t 7), none⟩,
     ⟨(some 61), .build [(.slice none 0 0), (.slice none 0 0)] [(0, 1, (.t 59)), (1, 1, (.t 60))], none⟩,
     ⟨(some 62), .mv (.t 8), none⟩,
     ⟨none, .st 2 (.t 4) (.t 61), none⟩,
     ⟨(some 5), .mv (.t 62), none⟩] [0, 1, 2, 4, 5, 6, 7, 8, 9, 15, 16, 21, 38, 46, 49, 54]) (
  .ret)))))
theorem k49 : Try.f49.body.bind (compC Try.prog Try.f49.ntmps v49) = some c49 := by kernel_rfl
theorem e49 : enters Try.prog 49 = true := by kernel_rfl
theorem q49 : Try.f49.results.toList.mapM (compRes Try.prog) = some r49 := by kernel_rfl
/-- bakelite/drive.Out -/
def v52 : List Nat := [0, 1, 2, 3]
def r52 : List AR := [.t 2]
def c52 : AC :=
  .seq (.reg [
     ⟨(some 1), .new 2 (.t 0), none⟩,
     ⟨(some 2), .mv (.k (.int .i64 0)), none⟩] [0, 1, 2, 3]) (
  .seq (.reg [
     ⟨(some 6), .ld (some 2) (.t 1), none⟩,
     ⟨(some 7), .call 100 [(.t 6)], none⟩,
     ⟨(some 5), .mv (.t 7), none⟩,
     ⟨(some 8), .ext (.t 5) 0, none⟩,
     ⟨(some 9), .ext (.t 5) 1, none⟩,
     ⟨(some 3), .mv (.t 8), none⟩,
     ⟨(some 4), .mv (.t 9), none⟩] [0, 1, 2, 3]) (
  .seq (.reg [
     ⟨(some 10), .mv (.t 3), none⟩,
     ⟨(some 11), .idx 1 none (.t 10) (.k (.int .i64 1)), none⟩,
     ⟨(some 12), .ld none (.t 11), none⟩,
     ⟨(some 2), .mv (.t 12), none⟩] [0, 1, 2, 3]) (
  .ret)))
theorem k52 : Try.f52.body.bind (compC Try.prog Try.f52.ntmps v52) = some c52 := by kernel_rfl
theorem e52 : enters Try.prog 52 = true := by kernel_rfl
theorem q52 : Try.f52.results.toList.mapM (compRes Try.prog) = some r52 := by kernel_rfl
/-- bakelite/drive.fit -/
def v100 : List Nat := [0, 1, 2, 3, 4, 5, 6, 7, 13, 14, 15, 44, 50]
def r100 : List AR := [.t 2, .t 3]
def c100 : AC :=
  .seq (.reg [
     ⟨(some 1), .new 2 (.t 0), none⟩,
     ⟨(some 2), .mv (.k (.slice none 0 0)), none⟩,
     ⟨(some 3), .mv (.k (.slice none 0 0)), none⟩] [0, 1, 2, 3, 4, 5, 6, 7, 13, 14, 15, 44, 50]) (
  .seq (.reg [
     ⟨(some 8), .mksl [(.int .i64 0)] 8 (.k (.int .i64 10)) (.k (.int .i64 10)), none⟩,
     ⟨(some 4), .mv (.t 8), none⟩] [0, 1, 2, 3, 4, 5, 6, 7, 13, 14, 15, 44, 50]) (
  .seq (.reg [
     ⟨(some 9), .mv (.t 4), none⟩,
     ⟨(some 10), .fad 0 (.t 1), none⟩,
     ⟨(some 11), .ld none (.t 10), none⟩,
     ⟨(some 12), .copy 1 (.t 9) (.t 11), none⟩] [0, 1, 2, 3, 4, 5, 6, 7, 13, 14, 15, 44, 50]) (
  .seq (.seq (.reg [
      ⟨(some 13), .build [(.int .i64 0), (.int .i64 0), (.int .i64 0), (.int .i64 0), (.int .i64 0), (.int .i64 0), (.int .i64 0), (.int .i64 0), (.int .i64 0), (.int .i64 0)] [(0, 1, (.k (.int .i64 8))), (1, 1, (.k (.int .i64 2))), (2, 1, (.k (.int .i64 3))), (3, 1, (.k (.int .i64 2))), (4, 1, (.k (.int .i64 4))), (5, 1, (.k (.int .i64 6))), (6, 1, (.k (.int .i64 8))), (7, 1, (.k (.int .i64 1))), (8, 1, (.k (.int .i64 1))), (9, 1, (.k (.int .i64 1)))], none⟩,
      ⟨(some 14), .mv (.k (.int .i64 0)), none⟩] [0, 1, 2, 3, 4, 5, 6, 7, 13, 14, 15, 44, 50]) (
   .block 0 (.loop (.seq (.reg [
          ⟨(some 15), .bin .lss (.t 14) (.k (.int .i64 10)), none⟩] [0, 1, 2, 3, 4, 5, 6, 7, 13, 14, 15, 44, 50]) (
       .seq (.cond (.t 15) (.skip) (
        .exit 0)) (
       .seq (.block 1 (.seq (.reg [
             ⟨(some 16), .mv (.t 14), none⟩,
             ⟨(some 17), .ixa 10 1 none (.t 13) (.t 14), none⟩,
             ⟨(some 5), .mv (.t 16), none⟩,
             ⟨(some 6), .mv (.t 17), none⟩] [0, 1, 2, 3, 4, 5, 6, 7, 13, 14, 15, 44, 50]) (
          .reg [
            ⟨(some 18), .mv (.t 4), none⟩,
            ⟨(some 19), .mv (.t 5), none⟩,
            ⟨(some 20), .mv (.t 4), none⟩,
            ⟨(some 21), .mv (.t 5), none⟩,
            ⟨(some 22), .idx 1 none (.t 20) (.t 21), none⟩,
            ⟨(some 23), .ld none (.t 22), none⟩,
            ⟨(some 24), .mv (.t 6), none⟩,
            ⟨(some 25), .call 35 [(.t 23), (.t 24)], none⟩,
            ⟨(some 26), .idx 1 none (.t 18) (.t 19), none⟩,
            ⟨none, .st 1 (.t 26) (.t 25), none⟩] [0, 1, 2, 3, 4, 5, 6, 7, 13, 14, 15, 44, 50]))) (
       .reg [
         ⟨(some 27), .bin .add (.t 14) (.k (.int .i64 1)), none⟩,
         ⟨(some 14), .mv (.t 27), none⟩] [0, 1, 2, 3, 4, 5, 6, 7, 13, 14, 15, 44, 50]))))))) (
  .seq (.reg [
     ⟨(some 28), .fad 1 (.t 1), none⟩,
     ⟨(some 29), .ld none (.t 28), none⟩,
     ⟨(some 30), .len (.t 29), none⟩,
     ⟨(some 31), .bin .quo (.t 30) (.k (.int .i64 256)), none⟩,
     ⟨(some 32), .bin .mul (.t 31) (.k (.int .i64 256)), none⟩,
     ⟨(some 33), .mksl [(.int .u8 0)] 1 (.t 32) (.t 32), none⟩,
     ⟨(some 7), .mv (.t 33), none⟩] [0, 1, 2, 3, 4, 5, 6, 7, 13, 14, 15, 44, 50]) (
  .seq (.reg [
     ⟨(some 34), .mv (.t 7), none⟩,
     ⟨(some 35), .fad 1 (.t 1), none⟩,
     ⟨(some 36), .ld none (.t 35), none⟩,
     ⟨(some 37), .copy 1 (.t 34) (.t 36), none⟩] [0, 1, 2, 3, 4, 5, 6, 7, 13, 14, 15, 44, 50]) (
  .seq (.seq (.reg [
      ⟨(some 38), .mv (.t 4), none⟩,
      ⟨(some 39), .idx 1 none (.t 38) (.k (.int .i64 0)), none⟩,
      ⟨(some 40), .ld none (.t 39), none⟩,
      ⟨(some 41), .mv (.t 7), none⟩,
      ⟨(some 42), .len (.t 41), none⟩,
      ⟨(some 43), .bin .quo (.t 42) (.k (.int .i64 256)), none⟩,
      ⟨(some 44), .bin .gtr (.t 40) (.t 43), none⟩] [0, 1, 2, 3, 4, 5, 6, 7, 13, 14, 15, 44, 50]) (
   .cond (.t 44) (.reg [
       ⟨(some 45), .mv (.t 4), none⟩,
       ⟨(some 46), .idx 1 none (.t 45) (.k (.int .i64 0)), none⟩,
       ⟨none, .st 1 (.t 46) (.k (.int .i64 0)), none⟩] [0, 1, 2, 3, 4, 5, 6, 7, 13, 14, 15, 44, 50]) (
   .skip))) (
  .seq (.seq (.reg [
      ⟨(some 47), .mv (.t 4), none⟩,
      ⟨(some 48), .idx 1 none (.t 47) (.k (.int .i64 2)), none⟩,
      ⟨(some 49), .ld none (.t 48), none⟩,
      ⟨(some 50), .bin .gtr (.t 49) (.k (.int .i64 4)), none⟩] [0, 1, 2, 3, 4, 5, 6, 7, 13, 14, 15, 44, 50]) (
   .cond (.t 50) (.reg [
       ⟨(some 51), .mv (.t 4), none⟩,
       ⟨(some 52), .idx 1 none (.t 51) (.k (.int .i64 2)), none⟩,
       ⟨none, .st 1 (.t 52) (.k (.int .i64 0)), none⟩] [0, 1, 2, 3, 4, 5, 6, 7, 13, 14, 15, 44, 50]) (
   .skip))) (
  .seq (.reg [
     ⟨(some 53), .mv (.t 4), none⟩,
     ⟨(some 54), .mv (.t 7), none⟩,
     ⟨(some 2), .mv (.t 53), none⟩,
     ⟨(some 3), .mv (.t 54), none⟩] [0, 1, 2, 3, 4, 5, 6, 7, 13, 14, 15, 44, 50]) (
  .ret)))))))))
theorem k100 : Try.f100.body.bind (compC Try.prog Try.f100.ntmps v100) = some c100 := by kernel_rfl
theorem e100 : enters Try.prog 100 = true := by kernel_rfl
theorem q100 : Try.f100.results.toList.mapM (compRes Try.prog) = some r100 := by kernel_rfl
/-- bakelite/drive.begin -/
def v101 : List Nat := [0, 1, 4, 28, 44]
def r101 : List AR := []
def c101 : AC :=
  .seq (.reg [
     ⟨(some 5), .mv (.t 1), none⟩,
     ⟨(some 6), .bin .and (.t 5) (.k (.int .i64 15)), none⟩,
     ⟨(some 4), .mv (.t 6), none⟩] [0, 1, 4, 28, 44]) (
  .seq (.seq (.reg [
      ⟨(some 7), .mv (.t 0), none⟩,
      ⟨(some 8), .idx 1 none (.t 7) (.k (.int .i64 2)), none⟩,
      ⟨(some 9), .ld none (.t 8), none⟩,
      ⟨(some 10), .bin .gtr (.t 9) (.k (.int .i64 0)), none⟩,
      ⟨(some 11), .mv (.t 10), none⟩,
      ⟨(some 12), .mv (.t 4), (some (11, false))⟩,
      ⟨(some 13), .bin .lss (.t 12) (.k (.int .i64 1)), (some (11, false))⟩,
      ⟨(some 14), .pick (.t 11) (.k (.bool true)) (.t 13), none⟩,
      ⟨(some 15), .mv (.t 14), none⟩,
      ⟨(some 16), .mv (.t 4), (some (15, false))⟩,
      ⟨(some 17), .bin .gtr (.t 16) (.k (.int .i64 4)), (some (15, false))⟩,
      ⟨(some 18), .pick (.t 15) (.k (.bool true)) (.t 17), none⟩,
      ⟨(some 19), .mv (.t 18), none⟩,
      ⟨(some 20), .mv (.t 4), (some (19, false))⟩,
      ⟨(some 21), .bin .geq (.t 20) (.k (.int .i64 3)), (some (19, false))⟩,
      ⟨(some 22), .mv (.t 21), (some (19, false))⟩,
      ⟨(some 23), .mv (.t 0), (some (22, true))⟩,
      ⟨(some 24), .idx 1 none (.t 23) (.k (.int .i64 0)), (some (22, true))⟩,
      ⟨(some 25), .ld none (.t 24), (some (22, true))⟩,
      ⟨(some 26), .bin .eql (.t 25) (.k (.int .i64 0)), (some (22, true))⟩,
      ⟨(some 27), .pick (.t 22) (.t 26) (.k (.bool false)), (some (19, false))⟩,
      ⟨(some 28), .pick (.t 19) (.k (.bool true)) (.t 27), none⟩] [0, 1, 4, 28, 44]) (
   .cond (.t 28) (.ret) (
   .skip))) (
  .seq (.reg [
     ⟨(some 29), .mv (.t 0), none⟩,
     ⟨(some 30), .mv (.t 0), none⟩,
     ⟨(some 31), .mv (.t 0), none⟩,
     ⟨(some 32), .mv (.t 0), none⟩,
     ⟨(some 33), .mv (.t 4), none⟩,
     ⟨(some 34), .mv (.t 1), none⟩,
     ⟨(some 35), .bin .shr (.t 34) (.k (.int .u64 4)), none⟩,
     ⟨(some 36), .bin .and (.t 35) (.k (.int .i64 3)), none⟩,
     ⟨(some 37), .idx 1 none (.t 29) (.k (.int .i64 2)), none⟩,
     ⟨none, .st 1 (.t 37) (.t 33), none⟩,
     ⟨(some 38), .idx 1 none (.t 30) (.k (.int .i64 3)), none⟩,
     ⟨none, .st 1 (.t 38) (.t 36), none⟩,
     ⟨(some 39), .idx 1 none (.t 31) (.k (.int .i64 4)), none⟩,
     ⟨none, .st 1 (.t 39) (.k (.int .i64 0)), none⟩,
     ⟨(some 40), .idx 1 none (.t 32) (.k (.int .i64 5)), none⟩,
     ⟨none, .st 1 (.t 40) (.k (.int .i64 30)), none⟩] [0, 1, 4, 28, 44]) (
  .seq (.reg [
     ⟨(some 41), .mv (.t 0), none⟩,
     ⟨(some 42), .idx 1 none (.t 41) (.k (.int .i64 7)), none⟩,
     ⟨none, .st 1 (.t 42) (.k (.int .i64 0)), none⟩] [0, 1, 4, 28, 44]) (
  .seq (.reg [
     ⟨(some 43), .mv (.t 4), none⟩,
     ⟨(some 44), .bin .eql (.t 43) (.k (.int .i64 4)), none⟩] [0, 1, 4, 28, 44]) (
  .cond (.t 44) (.reg [
      ⟨(some 45), .mv (.t 0), none⟩,
      ⟨(some 46), .idx 1 none (.t 45) (.k (.int .i64 7)), none⟩,
      ⟨none, .st 1 (.t 46) (.k (.int .i64 1)), none⟩] [0, 1, 4, 28, 44]) (
  .skip))))))
theorem k101 : Try.f101.body.bind (compC Try.prog Try.f101.ntmps v101) = some c101 := by kernel_rfl
theorem e101 : enters Try.prog 101 = true := by kernel_rfl
theorem q101 : Try.f101.results.toList.mapM (compRes Try.prog) = some r101 := by kernel_rfl
/-- bakelite/drive.done -/
def v102 : List Nat := [0, 1, 6, 25, 43, 73, 77]
def r102 : List AR := []
def c102 : AC :=
  .seq (.seq (.reg [
      ⟨(some 4), .mv (.t 0), none⟩,
      ⟨(some 5), .idx 1 none (.t 4) (.k (.int .i64 2)), none⟩,
      ⟨(some 6), .ld none (.t 5), none⟩] [0, 1, 6, 25, 43, 73, 77]) (
   .block 0 (.seq (.seq (.reg [
         ⟨(some 26), .bin .eql (.t 6) (.k (.int .i64 1)), none⟩,
         ⟨(some 25), .mv (.t 26), none⟩] [0, 1, 6, 25, 43, 73, 77]) (
      .cond (.t 25) (.skip) (
      .reg [
          ⟨(some 27), .bin .eql (.t 6) (.k (.int .i64 2)), none⟩,
          ⟨(some 25), .mv (.t 27), none⟩] [0, 1, 6, 25, 43, 73, 77]))) (
     .cond (.t 25) (.seq (.dreg [
          ⟨(some 28), .mv (.t 0), none⟩,
          ⟨(some 29), .mv (.t 0), none⟩,
          ⟨(some 30), .idx 1 none (.t 29) (.k (.int .i64 1)), none⟩,
          ⟨(some 31), .ld none (.t 30), none⟩,
          ⟨(some 32), .bin .add (.t 31) (.k (.int .i64 3)), none⟩,
          ⟨(some 33), .mv (.t 0), none⟩,
          ⟨(some 34), .idx 1 none (.t 33) (.k (.int .i64 2)), none⟩,
          ⟨(some 35), .ld none (.t 34), none⟩,
          ⟨(some 36), .bin .mul (.k (.int .i64 2)) (.t 35), none⟩,
          ⟨(some 37), .bin .sub (.t 32) (.t 36), none⟩,
          ⟨(some 38), .mnx false [(.t 37), (.k (.int .i64 3))], none⟩,
          ⟨(some 39), .mnx true [(.k (.int .i64 0)), (.t 38)], none⟩,
          ⟨(some 40), .idx 1 none (.t 28) (.k (.int .i64 1)), none⟩,
          ⟨none, .st 1 (.t 40) (.t 39), none⟩] [[], [], [1], [1, 2], [1, 2, 3], [], [5], [5, 6], [5, 6, 7], [1, 2, 3, 4, 5, 6, 7, 8], [1, 2, 3, 4, 5, 6, 7, 8, 9], [1, 2, 3, 4, 5, 6, 7, 8, 9, 10], [0, 1, 2, 3, 4, 5, 6, 7, 8, 9, 10, 11], [0, 1, 2, 3, 4, 5, 6, 7, 8, 9, 10, 11, 12]] [0, 1, 6, 25, 43, 73, 77]) (
       .seq (.reg [
          ⟨(some 41), .mv (.t 0), none⟩,
          ⟨(some 42), .idx 1 none (.t 41) (.k (.int .i64 2)), none⟩,
          ⟨none, .st 1 (.t 42) (.k (.int .i64 0)), none⟩] [0, 1, 6, 25, 43, 73, 77]) (
       .ret))) (
     .seq (.reg [
          ⟨(some 44), .bin .eql (.t 6) (.k (.int .i64 3)), none⟩,
          ⟨(some 43), .mv (.t 44), none⟩] [0, 1, 6, 25, 43, 73, 77]) (
       .cond (.t 43) (.seq (.dreg [
            ⟨(some 45), .mv (.t 0), none⟩,
            ⟨(some 46), .idx 1 none (.t 45) (.k (.int .i64 8)), none⟩,
            ⟨(some 47), .ld none (.t 46), none⟩,
            ⟨(some 48), .mv (.t 0), none⟩,
            ⟨(some 49), .idx 1 none (.t 48) (.k (.int .i64 7)), none⟩,
            ⟨(some 50), .ld none (.t 49), none⟩,
            ⟨(some 51), .bin .or (.t 47) (.t 50), none⟩,
            ⟨(some 52), .idx 1 none (.t 45) (.k (.int .i64 8)), none⟩,
            ⟨none, .st 1 (.t 52) (.t 51), none⟩] [[], [0], [0, 1], [], [3], [3, 4], [0, 1, 2, 3, 4, 5], [0, 1, 2, 3, 4, 5, 6], [0, 1, 2, 3, 4, 5, 6, 7]] [0, 1, 6, 25, 43, 73, 77]) (
         .reg [
           ⟨(some 53), .mv (.t 0), none⟩,
           ⟨(some 54), .mv (.t 0), none⟩,
           ⟨(some 55), .mv (.t 1), none⟩,
           ⟨(some 56), .mv (.t 0), none⟩,
           ⟨(some 57), .call 156 [(.t 56)], none⟩,
           ⟨(some 58), .idx 1 none (.t 55) (.t 57), none⟩,
           ⟨(some 59), .ld none (.t 58), none⟩,
           ⟨(some 60), .cvt .i64 (.t 59), none⟩,
           ⟨(some 61), .idx 1 none (.t 53) (.k (.int .i64 6)), none⟩,
           ⟨none, .st 1 (.t 61) (.t 60), none⟩,
           ⟨(some 62), .idx 1 none (.t 54) (.k (.int .i64 7)), none⟩,
           ⟨none, .st 1 (.t 62) (.k (.int .i64 1)), none⟩] [0, 1, 6, 25, 43, 73, 77])) (
       .seq (.dreg [
            ⟨(some 7), .mv (.t 0), none⟩,
            ⟨(some 8), .idx 1 none (.t 7) (.k (.int .i64 8)), none⟩,
            ⟨(some 9), .ld none (.t 8), none⟩,
            ⟨(some 10), .mv (.t 0), none⟩,
            ⟨(some 11), .idx 1 none (.t 10) (.k (.int .i64 7)), none⟩,
            ⟨(some 12), .ld none (.t 11), none⟩,
            ⟨(some 13), .bin .or (.t 9) (.t 12), none⟩,
            ⟨(some 14), .idx 1 none (.t 7) (.k (.int .i64 8)), none⟩,
            ⟨none, .st 1 (.t 14) (.t 13), none⟩] [[], [0], [0, 1], [], [3], [3, 4], [0, 1, 2, 3, 4, 5], [0, 1, 2, 3, 4, 5, 6], [0, 1, 2, 3, 4, 5, 6, 7]] [0, 1, 6, 25, 43, 73, 77]) (
         .seq (.dreg [
            ⟨(some 15), .mv (.t 1), none⟩,
            ⟨(some 16), .mv (.t 0), none⟩,
            ⟨(some 17), .call 156 [(.t 16)], none⟩,
            ⟨(some 18), .mv (.t 0), none⟩,
            ⟨(some 19), .idx 1 none (.t 18) (.k (.int .i64 6)), none⟩,
            ⟨(some 20), .ld none (.t 19), none⟩,
            ⟨(some 21), .cvt .u8 (.t 20), none⟩,
            ⟨(some 22), .idx 1 none (.t 15) (.t 17), none⟩,
            ⟨none, .st 1 (.t 22) (.t 21), none⟩] [[], [], [1], [], [3], [3, 4], [3, 4, 5], [0, 1, 2, 3, 4, 5, 6], [0, 1, 2, 3, 4, 5, 6, 7]] [0, 1, 6, 25, 43, 73, 77]) (
         .reg [
           ⟨(some 23), .mv (.t 0), none⟩,
           ⟨(some 24), .idx 1 none (.t 23) (.k (.int .i64 7)), none⟩,
           ⟨none, .st 1 (.t 24) (.k (.int .i64 1)), none⟩] [0, 1, 6, 25, 43, 73, 77]))))))))) (
  .seq (.reg [
     ⟨(some 63), .mv (.t 0), none⟩,
     ⟨(some 64), .idx 1 none (.t 63) (.k (.int .i64 5)), none⟩,
     ⟨none, .st 1 (.t 64) (.k (.int .i64 20)), none⟩] [0, 1, 6, 25, 43, 73, 77]) (
  .seq (.reg [
     ⟨(some 65), .mv (.t 0), none⟩,
     ⟨(some 66), .idx 1 none (.t 65) (.k (.int .i64 4)), none⟩,
     ⟨(some 67), .ld none (.t 66), none⟩,
     ⟨(some 68), .bin .add (.t 67) (.k (.int .i64 1)), none⟩,
     ⟨(some 69), .idx 1 none (.t 65) (.k (.int .i64 4)), none⟩,
     ⟨none, .st 1 (.t 69) (.t 68), none⟩] [0, 1, 6, 25, 43, 73, 77]) (
  .seq (.reg [
     ⟨(some 70), .mv (.t 0), none⟩,
     ⟨(some 71), .idx 1 none (.t 70) (.k (.int .i64 4)), none⟩,
     ⟨(some 72), .ld none (.t 71), none⟩,
     ⟨(some 73), .bin .eql (.t 72) (.k (.int .i64 16)), none⟩] [0, 1, 6, 25, 43, 73, 77]) (
  .cond (.t 73) (.seq (.seq (.reg [
        ⟨(some 74), .mv (.t 0), none⟩,
        ⟨(some 75), .idx 1 none (.t 74) (.k (.int .i64 2)), none⟩,
        ⟨(some 76), .ld none (.t 75), none⟩,
        ⟨(some 77), .bin .eql (.t 76) (.k (.int .i64 4)), none⟩] [0, 1, 6, 25, 43, 73, 77]) (
     .cond (.t 77) (.reg [
         ⟨(some 78), .mv (.t 0), none⟩,
         ⟨(some 79), .idx 1 none (.t 78) (.k (.int .i64 7)), none⟩,
         ⟨none, .st 1 (.t 79) (.k (.int .i64 0)), none⟩] [0, 1, 6, 25, 43, 73, 77]) (
     .skip))) (
    .reg [
      ⟨(some 80), .mv (.t 0), none⟩,
      ⟨(some 81), .mv (.t 0), none⟩,
      ⟨(some 82), .mv (.t 0), none⟩,
      ⟨(some 83), .idx 1 none (.t 80) (.k (.int .i64 2)), none⟩,
      ⟨none, .st 1 (.t 83) (.k (.int .i64 0)), none⟩,
      ⟨(some 84), .idx 1 none (.t 81) (.k (.int .i64 4)), none⟩,
      ⟨none, .st 1 (.t 84) (.k (.int .i64 0)), none⟩,
      ⟨(some 85), .idx 1 none (.t 82) (.k (.int .i64 5)), none⟩,
      ⟨none, .st 1 (.t 85) (.k (.int .i64 0)), none⟩] [0, 1, 6, 25, 43, 73, 77])) (
  .skip)))))
theorem k102 : Try.f102.body.bind (compC Try.prog Try.f102.ntmps v102) = some c102 := by kernel_rfl
theorem e102 : enters Try.prog 102 = true := by kernel_rfl
theorem q102 : Try.f102.results.toList.mapM (compRes Try.prog) = some r102 := by kernel_rfl
/-- bakelite/drive.busy -/
def v103 : List Nat := [0, 2]
def r103 : List AR := [.t 2]
def c103 : AC :=
  .seq (.reg [
     ⟨(some 2), .mv (.k (.int .i64 0)), none⟩] [0, 2]) (
  .seq (.reg [
     ⟨(some 3), .mv (.t 0), none⟩,
     ⟨(some 4), .idx 1 none (.t 3) (.k (.int .i64 2)), none⟩,
     ⟨(some 5), .ld none (.t 4), none⟩,
     ⟨(some 6), .mnx false [(.k (.int .i64 1)), (.t 5)], none⟩,
     ⟨(some 2), .mv (.t 6), none⟩] [0, 2]) (
  .ret))
theorem k103 : Try.f103.body.bind (compC Try.prog Try.f103.ntmps v103) = some c103 := by kernel_rfl
theorem e103 : enters Try.prog 103 = true := by kernel_rfl
theorem q103 : Try.f103.results.toList.mapM (compRes Try.prog) = some r103 := by kernel_rfl
/-- bakelite/drive.place -/
def v156 : List Nat := [0, 2]
def r156 : List AR := [.t 2]
def c156 : AC :=
  .seq (.reg [
     ⟨(some 2), .mv (.k (.int .i64 0)), none⟩] [0, 2]) (
  .seq (.dreg [
     ⟨(some 3), .mv (.t 0), none⟩,
     ⟨(some 4), .idx 1 none (.t 3) (.k (.int .i64 0)), none⟩,
     ⟨(some 5), .ld none (.t 4), none⟩,
     ⟨(some 6), .bin .sub (.t 5) (.k (.int .i64 1)), none⟩,
     ⟨(some 7), .bin .mul (.t 6) (.k (.int .i64 256)), none⟩,
     ⟨(some 8), .mv (.t 0), none⟩,
     ⟨(some 9), .idx 1 none (.t 8) (.k (.int .i64 1)), none⟩,
     ⟨(some 10), .ld none (.t 9), none⟩,
     ⟨(some 11), .bin .mul (.t 10) (.k (.int .i64 4)), none⟩,
     ⟨(some 12), .mv (.t 0), none⟩,
     ⟨(some 13), .idx 1 none (.t 12) (.k (.int .i64 3)), none⟩,
     ⟨(some 14), .ld none (.t 13), none⟩,
     ⟨(some 15), .bin .add (.t 11) (.t 14), none⟩,
     ⟨(some 16), .bin .mul (.t 15) (.k (.int .i64 16)), none⟩,
     ⟨(some 17), .bin .add (.t 7) (.t 16), none⟩,
     ⟨(some 18), .mv (.t 0), none⟩,
     ⟨(some 19), .idx 1 none (.t 18) (.k (.int .i64 4)), none⟩,
     ⟨(some 20), .ld none (.t 19), none⟩,
     ⟨(some 21), .bin .add (.t 17) (.t 20), none⟩,
     ⟨(some 2), .mv (.t 21), none⟩] [[], [0], [0, 1], [0, 1, 2], [0, 1, 2, 3], [], [5], [5, 6], [5, 6, 7], [], [9], [9, 10], [5, 6, 7, 8, 9, 10, 11], [5, 6, 7, 8, 9, 10, 11, 12], [0, 1, 2, 3, 4, 5, 6, 7, 8, 9, 10, 11, 12, 13], [], [15], [15, 16], [0, 1, 2, 3, 4, 5, 6, 7, 8, 9, 10, 11, 12, 13, 14, 15, 16, 17], [0, 1, 2, 3, 4, 5, 6, 7, 8, 9, 10, 11, 12, 13, 14, 15, 16, 17, 18]] [0, 2]) (
  .ret))
theorem k156 : Try.f156.body.bind (compC Try.prog Try.f156.ntmps v156) = some c156 := by kernel_rfl
theorem e156 : enters Try.prog 156 = true := by kernel_rfl
theorem q156 : Try.f156.results.toList.mapM (compRes Try.prog) = some r156 := by kernel_rfl
end Go.Proofs.Ytjmmompbmjhkpaa.Code
