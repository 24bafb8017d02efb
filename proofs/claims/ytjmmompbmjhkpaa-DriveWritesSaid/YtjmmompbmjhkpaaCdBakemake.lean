/- The code of functions (Bakemake) over abstract values, printed by a program, and that it is what the program's form in Lean turns into. No condition. -/
import Derived.Test.YtjmmompbmjhkpaaProg
import Derived.Test.YtjmmompbmjhkpaaCalcJ
import Derived.KernelRfl
namespace Go.Proofs.Ytjmmompbmjhkpaa.Code
open Go Go.Proofs.Ytjmmompbmjhkpaa.Calc
set_option maxRecDepth 100000
/-- bakelite/bakemake.Below -/
def v29 : List Nat := [0, 1, 4, 9]
def r29 : List AR := [.t 4]
def c29 : AC :=
  .seq (.reg [
     ⟨(some 4), .mv (.k (.int .i64 0)), none⟩] [0, 1, 4, 9]) (
  .seq (.seq (.reg [
      ⟨(some 5), .mv (.t 0), none⟩,
      ⟨(some 6), .mv (.t 1), none⟩,
      ⟨(some 7), .bin .rem (.t 5) (.t 6), none⟩,
      ⟨(some 0), .mv (.t 7), none⟩] [0, 1, 4, 9]) (
   .seq (.reg [
      ⟨(some 8), .mv (.t 0), none⟩,
      ⟨(some 9), .bin .lss (.t 8) (.k (.int .i64 0)), none⟩] [0, 1, 4, 9]) (
   .cond (.t 9) (.reg [
       ⟨(some 10), .mv (.t 0), none⟩,
       ⟨(some 11), .mv (.t 1), none⟩,
       ⟨(some 12), .bin .add (.t 10) (.t 11), none⟩,
       ⟨(some 0), .mv (.t 12), none⟩] [0, 1, 4, 9]) (
   .skip)))) (
  .seq (.reg [
     ⟨(some 13), .mv (.t 0), none⟩,
     ⟨(some 4), .mv (.t 13), none⟩] [0, 1, 4, 9]) (
  .ret)))
theorem k29 : Try.f29.body.bind (compC Try.prog Try.f29.ntmps v29) = some c29 := by kernel_rfl
theorem e29 : enters Try.prog 29 = true := by kernel_rfl
theorem q29 : Try.f29.results.toList.mapM (compRes Try.prog) = some r29 := by kernel_rfl
/-- bakelite/bakemake.Bytes -/
def v44 : List Nat := [0, 1, 4, 5, 6, 7, 15, 16, 17]
def r44 : List AR := [.t 4]
def c44 : AC :=
  .seq (.reg [
     ⟨(some 4), .mv (.k (.slice none 0 0)), none⟩] [0, 1, 4, 5, 6, 7, 15, 16, 17]) (
  .seq (.reg [
     ⟨(some 8), .mv (.t 0), none⟩,
     ⟨(some 9), .build [(.slice none 0 0)] [(0, 1, (.t 8))], none⟩,
     ⟨(some 10), .new 1 (.t 9), none⟩,
     ⟨(some 5), .mv (.t 10), none⟩] [0, 1, 4, 5, 6, 7, 15, 16, 17]) (
  .seq (.reg [
     ⟨(some 11), .mv (.t 1), none⟩,
     ⟨(some 12), .mnx true [(.k (.int .i64 0)), (.t 11)], none⟩,
     ⟨(some 13), .mksl [(.int .u8 0)] 1 (.t 12) (.t 12), none⟩,
     ⟨(some 6), .mv (.t 13), none⟩] [0, 1, 4, 5, 6, 7, 15, 16, 17]) (
  .seq (.seq (.reg [
      ⟨(some 14), .mv (.t 6), none⟩,
      ⟨(some 15), .len (.t 14), none⟩,
      ⟨(some 16), .mv (.k (.int .i64 0)), none⟩] [0, 1, 4, 5, 6, 7, 15, 16, 17]) (
   .block 0 (.loop (.seq (.reg [
          ⟨(some 17), .bin .lss (.t 16) (.t 15), none⟩] [0, 1, 4, 5, 6, 7, 15, 16, 17]) (
       .seq (.cond (.t 17) (.skip) (
        .exit 0)) (
       .seq (.block 1 (.seq (.reg [
             ⟨(some 18), .mv (.t 16), none⟩,
             ⟨(some 7), .mv (.t 18), none⟩] [0, 1, 4, 5, 6, 7, 15, 16, 17]) (
          .reg [
            ⟨(some 19), .mv (.t 6), none⟩,
            ⟨(some 20), .mv (.t 7), none⟩,
            ⟨(some 21), .mv (.t 5), none⟩,
            ⟨(some 22), .call 56 [(.t 21), (.k (.int .i64 256))], none⟩,
            ⟨(some 23), .cvt .u8 (.t 22), none⟩,
            ⟨(some 24), .idx 1 none (.t 19) (.t 20), none⟩,
            ⟨none, .st 1 (.t 24) (.t 23), none⟩] [0, 1, 4, 5, 6, 7, 15, 16, 17]))) (
       .reg [
         ⟨(some 25), .bin .add (.t 16) (.k (.int .i64 1)), none⟩,
         ⟨(some 16), .mv (.t 25), none⟩] [0, 1, 4, 5, 6, 7, 15, 16, 17]))))))) (
  .seq (.reg [
     ⟨(some 26), .mv (.t 6), none⟩,
     ⟨(some 4), .mv (.t 26), none⟩] [0, 1, 4, 5, 6, 7, 15, 16, 17]) (
  .ret)))))
theorem k44 : Try.f44.body.bind (compC Try.prog Try.f44.ntmps v44) = some c44 := by kernel_rfl
theorem e44 : enters Try.prog 44 = true := by kernel_rfl
theorem q44 : Try.f44.results.toList.mapM (compRes Try.prog) = some r44 := by kernel_rfl
/-- (*bakelite/bakemake.Stream).Next -/
def v56 : List Nat := [0, 1, 4, 5, 15]
def r56 : List AR := [.t 4]
def c56 : AC :=
  .seq (.reg [
     ⟨(some 4), .mv (.k (.int .i64 0)), none⟩] [0, 1, 4, 5, 15]) (
  .seq (.seq (.reg [
      ⟨(some 6), .mv (.t 1), none⟩,
      ⟨(some 7), .bin .lss (.t 6) (.k (.int .i64 1)), none⟩,
      ⟨(some 8), .mv (.t 7), none⟩,
      ⟨(some 9), .mv (.t 0), (some (8, false))⟩,
      ⟨(some 10), .nilc (.t 9), (some (8, false))⟩,
      ⟨(some 11), .fad 0 (.t 10), (some (8, false))⟩,
      ⟨(some 12), .ld none (.t 11), (some (8, false))⟩,
      ⟨(some 13), .len (.t 12), (some (8, false))⟩,
      ⟨(some 14), .bin .eql (.t 13) (.k (.int .i64 0)), (some (8, false))⟩,
      ⟨(some 15), .pick (.t 8) (.k (.bool true)) (.t 14), none⟩] [0, 1, 4, 5, 15]) (
   .cond (.t 15) (.seq (.reg [
        ⟨(some 4), .mv (.k (.int .i64 0)), none⟩] [0, 1, 4, 5, 15]) (
     .ret)) (
   .skip))) (
  .seq (.reg [
     ⟨(some 16), .mv (.t 0), none⟩,
     ⟨(some 17), .nilc (.t 16), none⟩,
     ⟨(some 18), .fad 0 (.t 17), none⟩,
     ⟨(some 19), .ld none (.t 18), none⟩,
     ⟨(some 20), .idx 1 none (.t 19) (.k (.int .i64 0)), none⟩,
     ⟨(some 21), .ld none (.t 20), none⟩,
     ⟨(some 5), .mv (.t 21), none⟩] [0, 1, 4, 5, 15]) (
  .seq (.reg [
     ⟨(some 22), .mv (.t 0), none⟩,
     ⟨(some 23), .mv (.t 0), none⟩,
     ⟨(some 24), .nilc (.t 23), none⟩,
     ⟨(some 25), .fad 0 (.t 24), none⟩,
     ⟨(some 26), .ld none (.t 25), none⟩,
     ⟨(some 27), .slc 1 (.t 26) (some (.k (.int .i64 1))) none, none⟩,
     ⟨(some 28), .nilc (.t 22), none⟩,
     ⟨(some 29), .fad 0 (.t 28), none⟩,
     ⟨none, .st 1 (.t 29) (.t 27), none⟩] [0, 1, 4, 5, 15]) (
  .seq (.reg [
     ⟨(some 30), .mv (.t 5), none⟩,
     ⟨(some 31), .mv (.t 1), none⟩,
     ⟨(some 32), .call 29 [(.t 30), (.t 31)], none⟩,
     ⟨(some 4), .mv (.t 32), none⟩] [0, 1, 4, 5, 15]) (
  .ret)))))
theorem k56 : Try.f56.body.bind (compC Try.prog Try.f56.ntmps v56) = some c56 := by kernel_rfl
theorem e56 : enters Try.prog 56 = true := by kernel_rfl
theorem q56 : Try.f56.results.toList.mapM (compRes Try.prog) = some r56 := by kernel_rfl
/-- bakelite/bakemake.Cpu -/
def v58 : List Nat := [0, 2, 3, 4, 5, 6, 7, 8, 21, 22, 23]
def r58 : List AR := [.cell (some 5) 2]
def c58 : AC :=
  .seq (.reg [
     ⟨(some 2), .zero [(.string ⟨#[]⟩), (.slice none 0 0), (.slice none 0 0), (.slice none 0 0), (.slice none 0 0)], none⟩] [0, 2, 3, 4, 5, 6, 7, 8, 21, 22, 23]) (
  .seq (.reg [
     ⟨(some 9), .mv (.t 0), none⟩,
     ⟨(some 10), .build [(.slice none 0 0)] [(0, 1, (.t 9))], none⟩,
     ⟨(some 11), .new 1 (.t 10), none⟩,
     ⟨(some 3), .mv (.t 11), none⟩] [0, 2, 3, 4, 5, 6, 7, 8, 21, 22, 23]) (
  .seq (.reg [
     ⟨(some 12), .mv (.t 3), none⟩,
     ⟨(some 13), .call 56 [(.t 12), (.k (.int .i64 26))], none⟩,
     ⟨(some 14), .bin .add (.k (.int .i64 97)) (.t 13), none⟩,
     ⟨(some 15), .cvt .i32 (.t 14), none⟩,
     ⟨(some 16), .i2s (.t 15), none⟩,
     ⟨(some 17), .bin .add (.k (.string ⟨#[99, 112, 117, 45]⟩)) (.t 16), none⟩,
     ⟨(some 18), .build [(.string ⟨#[]⟩), (.slice none 0 0), (.slice none 0 0), (.slice none 0 0), (.slice none 0 0)] [(0, 1, (.t 17))], none⟩,
     ⟨(some 4), .zero [(.string ⟨#[]⟩), (.slice none 0 0), (.slice none 0 0), (.slice none 0 0), (.slice none 0 0)], none⟩,
     ⟨none, .st 5 (.t 4) (.t 18), none⟩] [0, 2, 3, 4, 5, 6, 7, 8, 21, 22, 23]) (
  .seq (.reg [
     ⟨(some 5), .mv (.k (.int .i64 0)), none⟩] [0, 2, 3, 4, 5, 6, 7, 8, 21, 22, 23]) (
  .seq (.seq (.reg [
      ⟨(some 19), .mv (.t 3), none⟩,
      ⟨(some 20), .call 56 [(.t 19), (.k (.int .i64 8))], none⟩,
      ⟨(some 21), .bin .add (.k (.int .i64 1)) (.t 20), none⟩,
      ⟨(some 22), .mv (.k (.int .i64 0)), none⟩] [0, 2, 3, 4, 5, 6, 7, 8, 21, 22, 23]) (
   .block 0 (.loop (.seq (.reg [
          ⟨(some 23), .bin .lss (.t 22) (.t 21), none⟩] [0, 2, 3, 4, 5, 6, 7, 8, 21, 22, 23]) (
       .seq (.cond (.t 23) (.skip) (
        .exit 0)) (
       .seq (.block 1 (.seq (.reg [
             ⟨(some 24), .mv (.t 22), none⟩,
             ⟨(some 6), .mv (.t 24), none⟩] [0, 2, 3, 4, 5, 6, 7, 8, 21, 22, 23]) (
          .seq (.reg [
             ⟨(some 25), .mv (.t 5), none⟩,
             ⟨(some 26), .mv (.t 3), none⟩,
             ⟨(some 27), .call 56 [(.t 26), (.k (.int .i64 30))], none⟩,
             ⟨(some 28), .bin .add (.k (.int .i64 1)) (.t 27), none⟩,
             ⟨(some 29), .bin .add (.t 25) (.t 28), none⟩,
             ⟨(some 5), .mv (.t 29), none⟩] [0, 2, 3, 4, 5, 6, 7, 8, 21, 22, 23]) (
          .seq (.reg [
             ⟨(some 30), .mv (.t 3), none⟩,
             ⟨(some 31), .call 56 [(.t 30), (.k (.int .i64 9))], none⟩,
             ⟨(some 7), .mv (.t 31), none⟩] [0, 2, 3, 4, 5, 6, 7, 8, 21, 22, 23]) (
          .seq (.reg [
             ⟨(some 32), .bsl [(.int .i64 0)] 9 [(0, (.k (.int .i64 0))), (1, (.k (.int .i64 1))), (2, (.k (.int .i64 1))), (3, (.k (.int .i64 1))), (4, (.k (.int .i64 2))), (5, (.k (.int .i64 2))), (6, (.k (.int .i64 2))), (7, (.k (.int .i64 1))), (8, (.k (.int .i64 1)))], none⟩,
             ⟨(some 33), .mv (.t 7), none⟩,
             ⟨(some 34), .idx 1 none (.t 32) (.t 33), none⟩,
             ⟨(some 35), .ld none (.t 34), none⟩,
             ⟨(some 8), .mv (.t 35), none⟩] [0, 2, 3, 4, 5, 6, 7, 8, 21, 22, 23]) (
          .dreg [
            ⟨(some 36), .fad 1 (.t 4), none⟩,
            ⟨(some 37), .ld none (.t 36), none⟩,
            ⟨(some 38), .mv (.t 5), none⟩,
            ⟨(some 39), .bin .sub (.t 38) (.k (.int .i64 1)), none⟩,
            ⟨(some 40), .mv (.t 6), none⟩,
            ⟨(some 41), .bin .add (.k (.int .i64 97)) (.t 40), none⟩,
            ⟨(some 42), .cvt .i32 (.t 41), none⟩,
            ⟨(some 43), .i2s (.t 42), none⟩,
            ⟨(some 44), .bin .add (.k (.string ⟨#[105, 110, 45]⟩)) (.t 43), none⟩,
            ⟨(some 45), .mv (.t 7), none⟩,
            ⟨(some 46), .mv (.t 3), none⟩,
            ⟨(some 47), .mv (.t 8), none⟩,
            ⟨(some 48), .call 112 [(.t 46), (.t 47)], none⟩,
            ⟨(some 49), .build [(.int .i64 0), (.string ⟨#[]⟩), (.int .i64 0), (.slice none 0 0)] [(0, 1, (.t 39)), (1, 1, (.t 44)), (2, 1, (.t 45)), (3, 1, (.t 48))], none⟩,
            ⟨(some 50), .bsl [(.int .i64 0), (.string ⟨#[]⟩), (.int .i64 0), (.slice none 0 0)] 1 [(0, (.t 49))], none⟩,
            ⟨(some 51), .app 4 56 (.t 37) (.t 50), none⟩,
            ⟨(some 52), .fad 1 (.t 4), none⟩,
            ⟨none, .st 1 (.t 52) (.t 51), none⟩] [[], [0], [], [2], [], [4], [4, 5], [4, 5, 6], [4, 5, 6, 7], [], [], [], [10, 11], [2, 3, 4, 5, 6, 7, 8, 9, 10, 11, 12], [2, 3, 4, 5, 6, 7, 8, 9, 10, 11, 12, 13], [0, 1, 2, 3, 4, 5, 6, 7, 8, 9, 10, 11, 12, 13, 14], [0, 1, 2, 3, 4, 5, 6, 7, 8, 9, 10, 11, 12, 13, 14, 15], [0, 1, 2, 3, 4, 5, 6, 7, 8, 9, 10, 11, 12, 13, 14, 15, 16]] [0, 2, 3, 4, 5, 6, 7, 8, 21, 22, 23])))))) (
       .reg [
         ⟨(some 53), .bin .add (.t 22) (.k (.int .i64 1)), none⟩,
         ⟨(some 22), .mv (.t 53), none⟩] [0, 2, 3, 4, 5, 6, 7, 8, 21, 22, 23]))))))) (
  .seq (.reg [
     ⟨(some 54), .mv (.t 3), none⟩,
     ⟨(some 55), .call 112 [(.t 54), (.k (.int .i64 0))], none⟩,
     ⟨(some 56), .mv (.t 3), none⟩,
     ⟨(some 57), .call 112 [(.t 56), (.k (.int .i64 0))], none⟩,
     ⟨(some 58), .mv (.t 3), none⟩,
     ⟨(some 59), .call 112 [(.t 58), (.k (.int .i64 0))], none⟩,
     ⟨(some 60), .fad 2 (.t 4), none⟩,
     ⟨none, .st 1 (.t 60) (.t 55), none⟩,
     ⟨(some 61), .fad 3 (.t 4), none⟩,
     ⟨none, .st 1 (.t 61) (.t 57), none⟩,
     ⟨(some 62), .fad 4 (.t 4), none⟩,
     ⟨none, .st 1 (.t 62) (.t 59), none⟩] [0, 2, 3, 4, 5, 6, 7, 8, 21, 22, 23]) (
  .seq (.reg [
     ⟨(some 63), .ld (some 5) (.t 4), none⟩,
     ⟨none, .st 5 (.t 2) (.t 63), none⟩] [0, 2, 3, 4, 5, 6, 7, 8, 21, 22, 23]) (
  .ret)))))))
theorem k58 : Try.f58.body.bind (compC Try.prog Try.f58.ntmps v58) = some c58 := by kernel_rfl
theorem e58 : enters Try.prog 58 = true := by kernel_rfl
theorem q58 : Try.f58.results.toList.mapM (compRes Try.prog) = some r58 := by kernel_rfl
/-- bakelite/bakemake.cycles -/
def v112 : List Nat := [0, 1, 4, 5, 6, 7, 8, 9, 10, 19, 20, 21, 27, 41, 42, 43, 46, 47, 48]
def r112 : List AR := [.t 4]
def c112 : AC :=
  .seq (.reg [
     ⟨(some 4), .mv (.k (.slice none 0 0)), none⟩] [0, 1, 4, 5, 6, 7, 8, 9, 10, 19, 20, 21, 27, 41, 42, 43, 46, 47, 48]) (
  .seq (.reg [
     ⟨(some 5), .mv (.k (.slice none 0 0)), none⟩] [0, 1, 4, 5, 6, 7, 8, 9, 10, 19, 20, 21, 27, 41, 42, 43, 46, 47, 48]) (
  .seq (.seq (.reg [
      ⟨(some 8), .mv (.t 1), none⟩,
      ⟨(some 9), .mv (.k (.int .i64 0)), none⟩] [0, 1, 4, 5, 6, 7, 8, 9, 10, 19, 20, 21, 27, 41, 42, 43, 46, 47, 48]) (
   .block 0 (.loop (.seq (.reg [
          ⟨(some 10), .bin .lss (.t 9) (.t 8), none⟩] [0, 1, 4, 5, 6, 7, 8, 9, 10, 19, 20, 21, 27, 41, 42, 43, 46, 47, 48]) (
       .seq (.cond (.t 10) (.skip) (
        .exit 0)) (
       .seq (.block 1 (.reg [
            ⟨(some 11), .mv (.t 5), none⟩,
            ⟨(some 12), .mv (.t 0), none⟩,
            ⟨(some 13), .call 56 [(.t 12), (.k (.int .i64 7))], none⟩,
            ⟨(some 14), .build [(.int .i64 0), (.int .i64 0), (.int .i64 0), (.slice none 0 0)] [(0, 1, (.k (.int .i64 1))), (1, 1, (.k (.int .i64 0))), (2, 1, (.t 13))], none⟩,
            ⟨(some 15), .bsl [(.int .i64 0), (.int .i64 0), (.int .i64 0), (.slice none 0 0)] 1 [(0, (.t 14))], none⟩,
            ⟨(some 16), .app 4 48 (.t 11) (.t 15), none⟩,
            ⟨(some 5), .mv (.t 16), none⟩] [0, 1, 4, 5, 6, 7, 8, 9, 10, 19, 20, 21, 27, 41, 42, 43, 46, 47, 48])) (
       .reg [
         ⟨(some 17), .bin .add (.t 9) (.k (.int .i64 1)), none⟩,
         ⟨(some 9), .mv (.t 17), none⟩] [0, 1, 4, 5, 6, 7, 8, 9, 10, 19, 20, 21, 27, 41, 42, 43, 46, 47, 48]))))))) (
  .seq (.seq (.reg [
      ⟨(some 18), .mv (.t 0), none⟩,
      ⟨(some 19), .call 56 [(.t 18), (.k (.int .i64 4))], none⟩,
      ⟨(some 20), .mv (.k (.int .i64 0)), none⟩] [0, 1, 4, 5, 6, 7, 8, 9, 10, 19, 20, 21, 27, 41, 42, 43, 46, 47, 48]) (
   .block 2 (.loop (.seq (.reg [
          ⟨(some 21), .bin .lss (.t 20) (.t 19), none⟩] [0, 1, 4, 5, 6, 7, 8, 9, 10, 19, 20, 21, 27, 41, 42, 43, 46, 47, 48]) (
       .seq (.cond (.t 21) (.skip) (
        .exit 2)) (
       .seq (.block 3 (.seq (.reg [
             ⟨(some 22), .mv (.t 0), none⟩,
             ⟨(some 23), .call 56 [(.t 22), (.k (.int .i64 3))], none⟩,
             ⟨(some 24), .build [(.int .i64 0), (.int .i64 0), (.int .i64 0), (.slice none 0 0)] [(0, 1, (.t 23))], none⟩,
             ⟨(some 6), .zero [(.int .i64 0), (.int .i64 0), (.int .i64 0), (.slice none 0 0)], none⟩,
             ⟨none, .st 4 (.t 6) (.t 24), none⟩] [0, 1, 4, 5, 6, 7, 8, 9, 10, 19, 20, 21, 27, 41, 42, 43, 46, 47, 48]) (
          .seq (.seq (.reg [
              ⟨(some 25), .fad 0 (.t 6), none⟩,
              ⟨(some 26), .ld none (.t 25), none⟩,
              ⟨(some 27), .bin .neq (.t 26) (.k (.int .i64 0)), none⟩] [0, 1, 4, 5, 6, 7, 8, 9, 10, 19, 20, 21, 27, 41, 42, 43, 46, 47, 48]) (
           .cond (.t 27) (.reg [
               ⟨(some 28), .mv (.t 0), none⟩,
               ⟨(some 29), .call 56 [(.t 28), (.k (.int .i64 11))], none⟩,
               ⟨(some 30), .bin .add (.k (.int .i64 1)) (.t 29), none⟩,
               ⟨(some 31), .mv (.t 0), none⟩,
               ⟨(some 32), .call 56 [(.t 31), (.k (.int .i64 7))], none⟩,
               ⟨(some 33), .fad 1 (.t 6), none⟩,
               ⟨none, .st 1 (.t 33) (.t 30), none⟩,
               ⟨(some 34), .fad 2 (.t 6), none⟩,
               ⟨none, .st 1 (.t 34) (.t 32), none⟩] [0, 1, 4, 5, 6, 7, 8, 9, 10, 19, 20, 21, 27, 41, 42, 43, 46, 47, 48]) (
           .skip))) (
          .reg [
            ⟨(some 35), .mv (.t 5), none⟩,
            ⟨(some 36), .ld (some 4) (.t 6), none⟩,
            ⟨(some 37), .bsl [(.int .i64 0), (.int .i64 0), (.int .i64 0), (.slice none 0 0)] 1 [(0, (.t 36))], none⟩,
            ⟨(some 38), .app 4 48 (.t 35) (.t 37), none⟩,
            ⟨(some 5), .mv (.t 38), none⟩] [0, 1, 4, 5, 6, 7, 8, 9, 10, 19, 20, 21, 27, 41, 42, 43, 46, 47, 48])))) (
       .reg [
         ⟨(some 39), .bin .add (.t 20) (.k (.int .i64 1)), none⟩,
         ⟨(some 20), .mv (.t 39), none⟩] [0, 1, 4, 5, 6, 7, 8, 9, 10, 19, 20, 21, 27, 41, 42, 43, 46, 47, 48]))))))) (
  .seq (.seq (.reg [
      ⟨(some 40), .mv (.t 5), none⟩,
      ⟨(some 41), .len (.t 40), none⟩,
      ⟨(some 42), .mv (.k (.int .i64 0)), none⟩] [0, 1, 4, 5, 6, 7, 8, 9, 10, 19, 20, 21, 27, 41, 42, 43, 46, 47, 48]) (
   .block 4 (.loop (.seq (.reg [
          ⟨(some 43), .bin .lss (.t 42) (.t 41), none⟩] [0, 1, 4, 5, 6, 7, 8, 9, 10, 19, 20, 21, 27, 41, 42, 43, 46, 47, 48]) (
       .seq (.cond (.t 43) (.skip) (
        .exit 4)) (
       .seq (.block 5 (.seq (.reg [
             ⟨(some 44), .mv (.t 42), none⟩,
             ⟨(some 7), .mv (.t 44), none⟩] [0, 1, 4, 5, 6, 7, 8, 9, 10, 19, 20, 21, 27, 41, 42, 43, 46, 47, 48]) (
          .seq (.reg [
             ⟨(some 45), .mv (.t 0), none⟩,
             ⟨(some 46), .call 56 [(.t 45), (.k (.int .i64 3))], none⟩,
             ⟨(some 47), .mv (.k (.int .i64 0)), none⟩] [0, 1, 4, 5, 6, 7, 8, 9, 10, 19, 20, 21, 27, 41, 42, 43, 46, 47, 48]) (
          .block 6 (.loop (.seq (.reg [
                 ⟨(some 48), .bin .lss (.t 47) (.t 46), none⟩] [0, 1, 4, 5, 6, 7, 8, 9, 10, 19, 20, 21, 27, 41, 42, 43, 46, 47, 48]) (
              .seq (.cond (.t 48) (.skip) (
               .exit 6)) (
              .seq (.block 7 (.dreg [
                   ⟨(some 49), .mv (.t 5), none⟩,
                   ⟨(some 50), .mv (.t 7), none⟩,
                   ⟨(some 51), .mv (.t 5), none⟩,
                   ⟨(some 52), .mv (.t 7), none⟩,
                   ⟨(some 53), .idx 4 none (.t 51) (.t 52), none⟩,
                   ⟨(some 54), .fad 3 (.t 53), none⟩,
                   ⟨(some 55), .ld none (.t 54), none⟩,
                   ⟨(some 56), .mv (.t 0), none⟩,
                   ⟨(some 57), .call 163 [(.t 56)], none⟩,
                   ⟨(some 58), .bsl [(.int .i64 0), (.int .i64 0), (.int .i64 0), (.int .i64 0)] 1 [(0, (.t 57))], none⟩,
                   ⟨(some 59), .app 4 32 (.t 55) (.t 58), none⟩,
                   ⟨(some 60), .idx 4 none (.t 49) (.t 50), none⟩,
                   ⟨(some 61), .fad 3 (.t 60), none⟩,
                   ⟨none, .st 1 (.t 61) (.t 59), none⟩] [[], [], [], [], [2, 3], [2, 3, 4], [2, 3, 4, 5], [], [7], [7, 8], [2, 3, 4, 5, 6, 7, 8, 9], [0, 1, 2, 3, 4, 5, 6, 7, 8, 9, 10], [0, 1, 2, 3, 4, 5, 6, 7, 8, 9, 10, 11], [0, 1, 2, 3, 4, 5, 6, 7, 8, 9, 10, 11, 12]] [0, 1, 4, 5, 6, 7, 8, 9, 10, 19, 20, 21, 27, 41, 42, 43, 46, 47, 48])) (
              .reg [
                ⟨(some 62), .bin .add (.t 47) (.k (.int .i64 1)), none⟩,
                ⟨(some 47), .mv (.t 62), none⟩] [0, 1, 4, 5, 6, 7, 8, 9, 10, 19, 20, 21, 27, 41, 42, 43, 46, 47, 48]))))))))) (
       .reg [
         ⟨(some 63), .bin .add (.t 42) (.k (.int .i64 1)), none⟩,
         ⟨(some 42), .mv (.t 63), none⟩] [0, 1, 4, 5, 6, 7, 8, 9, 10, 19, 20, 21, 27, 41, 42, 43, 46, 47, 48]))))))) (
  .seq (.reg [
     ⟨(some 64), .mv (.t 5), none⟩,
     ⟨(some 4), .mv (.t 64), none⟩] [0, 1, 4, 5, 6, 7, 8, 9, 10, 19, 20, 21, 27, 41, 42, 43, 46, 47, 48]) (
  .ret))))))
theorem k112 : Try.f112.body.bind (compC Try.prog Try.f112.ntmps v112) = some c112 := by kernel_rfl
theorem e112 : enters Try.prog 112 = true := by kernel_rfl
theorem q112 : Try.f112.results.toList.mapM (compRes Try.prog) = some r112 := by kernel_rfl
/-- bakelite/bakemake.step -/
def v163 : List Nat := [0, 2, 3, 4, 5, 13, 14, 17, 24, 31, 38, 47, 54, 62]
def r163 : List AR := [.cell (some 4) 2]
def c163 : AC :=
  .seq (.reg [
     ⟨(some 2), .zero [(.int .i64 0), (.int .i64 0), (.int .i64 0), (.int .i64 0)], none⟩] [0, 2, 3, 4, 5, 13, 14, 17, 24, 31, 38, 47, 54, 62]) (
  .seq (.reg [
     ⟨(some 6), .mv (.t 0), none⟩,
     ⟨(some 7), .call 56 [(.t 6), (.k (.int .i64 7))], none⟩,
     ⟨(some 8), .mv (.t 0), none⟩,
     ⟨(some 9), .call 56 [(.t 8), (.k (.int .i64 2))], none⟩,
     ⟨(some 10), .bin .add (.k (.int .i64 7)) (.t 9), none⟩,
     ⟨(some 3), .mv (.t 7), none⟩,
     ⟨(some 4), .mv (.t 10), none⟩] [0, 2, 3, 4, 5, 13, 14, 17, 24, 31, 38, 47, 54, 62]) (
  .seq (.reg [
     ⟨(some 11), .mv (.t 0), none⟩,
     ⟨(some 12), .call 56 [(.t 11), (.k (.int .i64 25))], none⟩,
     ⟨(some 5), .mv (.t 12), none⟩] [0, 2, 3, 4, 5, 13, 14, 17, 24, 31, 38, 47, 54, 62]) (
  .seq (.seq (.reg [
      ⟨(some 13), .mv (.t 5), none⟩] [0, 2, 3, 4, 5, 13, 14, 17, 24, 31, 38, 47, 54, 62]) (
   .block 0 (.seq (.reg [
        ⟨(some 15), .bin .eql (.t 13) (.k (.int .i64 0)), none⟩,
        ⟨(some 14), .mv (.t 15), none⟩] [0, 2, 3, 4, 5, 13, 14, 17, 24, 31, 38, 47, 54, 62]) (
     .cond (.t 14) (.seq (.reg [
          ⟨(some 16), .build [(.int .i64 0), (.int .i64 0), (.int .i64 0), (.int .i64 0)] [], none⟩,
          ⟨none, .st 4 (.t 2) (.t 16), none⟩] [0, 2, 3, 4, 5, 13, 14, 17, 24, 31, 38, 47, 54, 62]) (
       .ret)) (
     .seq (.reg [
          ⟨(some 18), .bin .eql (.t 13) (.k (.int .i64 1)), none⟩,
          ⟨(some 17), .mv (.t 18), none⟩] [0, 2, 3, 4, 5, 13, 14, 17, 24, 31, 38, 47, 54, 62]) (
       .cond (.t 17) (.seq (.reg [
            ⟨(some 19), .mv (.t 5), none⟩,
            ⟨(some 20), .mv (.t 3), none⟩,
            ⟨(some 21), .mv (.t 0), none⟩,
            ⟨(some 22), .call 56 [(.t 21), (.k (.int .i64 7))], none⟩,
            ⟨(some 23), .build [(.int .i64 0), (.int .i64 0), (.int .i64 0), (.int .i64 0)] [(0, 1, (.t 19)), (1, 1, (.t 20)), (2, 1, (.t 22))], none⟩,
            ⟨none, .st 4 (.t 2) (.t 23), none⟩] [0, 2, 3, 4, 5, 13, 14, 17, 24, 31, 38, 47, 54, 62]) (
         .ret)) (
       .seq (.reg [
            ⟨(some 25), .bin .eql (.t 13) (.k (.int .i64 2)), none⟩,
            ⟨(some 24), .mv (.t 25), none⟩] [0, 2, 3, 4, 5, 13, 14, 17, 24, 31, 38, 47, 54, 62]) (
         .cond (.t 24) (.seq (.reg [
              ⟨(some 26), .mv (.t 5), none⟩,
              ⟨(some 27), .mv (.t 3), none⟩,
              ⟨(some 28), .mv (.t 0), none⟩,
              ⟨(some 29), .call 56 [(.t 28), (.k (.int .i64 256))], none⟩,
              ⟨(some 30), .build [(.int .i64 0), (.int .i64 0), (.int .i64 0), (.int .i64 0)] [(0, 1, (.t 26)), (1, 1, (.t 27)), (3, 1, (.t 29))], none⟩,
              ⟨none, .st 4 (.t 2) (.t 30), none⟩] [0, 2, 3, 4, 5, 13, 14, 17, 24, 31, 38, 47, 54, 62]) (
           .ret)) (
         .seq (.seq (.reg [
               ⟨(some 32), .bin .eql (.t 13) (.k (.int .i64 16)), none⟩,
               ⟨(some 31), .mv (.t 32), none⟩] [0, 2, 3, 4, 5, 13, 14, 17, 24, 31, 38, 47, 54, 62]) (
            .cond (.t 31) (.skip) (
            .reg [
                ⟨(some 33), .bin .eql (.t 13) (.k (.int .i64 17)), none⟩,
                ⟨(some 31), .mv (.t 33), none⟩] [0, 2, 3, 4, 5, 13, 14, 17, 24, 31, 38, 47, 54, 62]))) (
           .cond (.t 31) (.seq (.reg [
                ⟨(some 34), .mv (.t 5), none⟩,
                ⟨(some 35), .mv (.t 0), none⟩,
                ⟨(some 36), .call 56 [(.t 35), (.k (.int .i64 256))], none⟩,
                ⟨(some 37), .build [(.int .i64 0), (.int .i64 0), (.int .i64 0), (.int .i64 0)] [(0, 1, (.t 34)), (3, 1, (.t 36))], none⟩,
                ⟨none, .st 4 (.t 2) (.t 37), none⟩] [0, 2, 3, 4, 5, 13, 14, 17, 24, 31, 38, 47, 54, 62]) (
             .ret)) (
           .seq (.seq (.reg [
                 ⟨(some 39), .bin .eql (.t 13) (.k (.int .i64 18)), none⟩,
                 ⟨(some 38), .mv (.t 39), none⟩] [0, 2, 3, 4, 5, 13, 14, 17, 24, 31, 38, 47, 54, 62]) (
              .cond (.t 38) (.skip) (
              .seq (.reg [
                   ⟨(some 40), .bin .eql (.t 13) (.k (.int .i64 19)), none⟩,
                   ⟨(some 38), .mv (.t 40), none⟩] [0, 2, 3, 4, 5, 13, 14, 17, 24, 31, 38, 47, 54, 62]) (
                .cond (.t 38) (.skip) (
                .seq (.reg [
                     ⟨(some 41), .bin .eql (.t 13) (.k (.int .i64 22)), none⟩,
                     ⟨(some 38), .mv (.t 41), none⟩] [0, 2, 3, 4, 5, 13, 14, 17, 24, 31, 38, 47, 54, 62]) (
                  .cond (.t 38) (.skip) (
                  .reg [
                      ⟨(some 42), .bin .eql (.t 13) (.k (.int .i64 23)), none⟩,
                      ⟨(some 38), .mv (.t 42), none⟩] [0, 2, 3, 4, 5, 13, 14, 17, 24, 31, 38, 47, 54, 62]))))))) (
             .cond (.t 38) (.seq (.reg [
                  ⟨(some 43), .mv (.t 5), none⟩,
                  ⟨(some 44), .mv (.t 4), none⟩,
                  ⟨(some 45), .mv (.t 3), none⟩,
                  ⟨(some 46), .build [(.int .i64 0), (.int .i64 0), (.int .i64 0), (.int .i64 0)] [(0, 1, (.t 43)), (1, 1, (.t 44)), (2, 1, (.t 45))], none⟩,
                  ⟨none, .st 4 (.t 2) (.t 46), none⟩] [0, 2, 3, 4, 5, 13, 14, 17, 24, 31, 38, 47, 54, 62]) (
               .ret)) (
             .seq (.seq (.reg [
                   ⟨(some 48), .bin .eql (.t 13) (.k (.int .i64 20)), none⟩,
                   ⟨(some 47), .mv (.t 48), none⟩] [0, 2, 3, 4, 5, 13, 14, 17, 24, 31, 38, 47, 54, 62]) (
                .cond (.t 47) (.skip) (
                .reg [
                    ⟨(some 49), .bin .eql (.t 13) (.k (.int .i64 21)), none⟩,
                    ⟨(some 47), .mv (.t 49), none⟩] [0, 2, 3, 4, 5, 13, 14, 17, 24, 31, 38, 47, 54, 62]))) (
               .cond (.t 47) (.seq (.reg [
                    ⟨(some 50), .mv (.t 5), none⟩,
                    ⟨(some 51), .mv (.t 3), none⟩,
                    ⟨(some 52), .mv (.t 4), none⟩,
                    ⟨(some 53), .build [(.int .i64 0), (.int .i64 0), (.int .i64 0), (.int .i64 0)] [(0, 1, (.t 50)), (1, 1, (.t 51)), (2, 1, (.t 52))], none⟩,
                    ⟨none, .st 4 (.t 2) (.t 53), none⟩] [0, 2, 3, 4, 5, 13, 14, 17, 24, 31, 38, 47, 54, 62]) (
                 .ret)) (
               .seq (.reg [
                    ⟨(some 55), .bin .eql (.t 13) (.k (.int .i64 24)), none⟩,
                    ⟨(some 54), .mv (.t 55), none⟩] [0, 2, 3, 4, 5, 13, 14, 17, 24, 31, 38, 47, 54, 62]) (
                 .cond (.t 54) (.seq (.reg [
                      ⟨(some 56), .mv (.t 5), none⟩,
                      ⟨(some 57), .mv (.t 0), none⟩,
                      ⟨(some 58), .call 56 [(.t 57), (.k (.int .i64 2))], none⟩,
                      ⟨(some 59), .mv (.t 0), none⟩,
                      ⟨(some 60), .call 56 [(.t 59), (.k (.int .i64 256))], none⟩,
                      ⟨(some 61), .build [(.int .i64 0), (.int .i64 0), (.int .i64 0), (.int .i64 0)] [(0, 1, (.t 56)), (2, 1, (.t 58)), (3, 1, (.t 60))], none⟩,
                      ⟨none, .st 4 (.t 2) (.t 61), none⟩] [0, 2, 3, 4, 5, 13, 14, 17, 24, 31, 38, 47, 54, 62]) (
                   .ret)) (
                 .seq (.seq (.reg [
                       ⟨(some 63), .bin .eql (.t 13) (.k (.int .i64 4)), none⟩,
                       ⟨(some 62), .mv (.t 63), none⟩] [0, 2, 3, 4, 5, 13, 14, 17, 24, 31, 38, 47, 54, 62]) (
                    .cond (.t 62) (.skip) (
                    .seq (.reg [
                         ⟨(some 64), .bin .eql (.t 13) (.k (.int .i64 5)), none⟩,
                         ⟨(some 62), .mv (.t 64), none⟩] [0, 2, 3, 4, 5, 13, 14, 17, 24, 31, 38, 47, 54, 62]) (
                      .cond (.t 62) (.skip) (
                      .seq (.reg [
                           ⟨(some 65), .bin .eql (.t 13) (.k (.int .i64 6)), none⟩,
                           ⟨(some 62), .mv (.t 65), none⟩] [0, 2, 3, 4, 5, 13, 14, 17, 24, 31, 38, 47, 54, 62]) (
                        .cond (.t 62) (.skip) (
                        .seq (.reg [
                             ⟨(some 66), .bin .eql (.t 13) (.k (.int .i64 7)), none⟩,
                             ⟨(some 62), .mv (.t 66), none⟩] [0, 2, 3, 4, 5, 13, 14, 17, 24, 31, 38, 47, 54, 62]) (
                          .cond (.t 62) (.skip) (
                          .seq (.reg [
                               ⟨(some 67), .bin .eql (.t 13) (.k (.int .i64 8)), none⟩,
                               ⟨(some 62), .mv (.t 67), none⟩] [0, 2, 3, 4, 5, 13, 14, 17, 24, 31, 38, 47, 54, 62]) (
                            .cond (.t 62) (.skip) (
                            .reg [
                                ⟨(some 68), .bin .eql (.t 13) (.k (.int .i64 9)), none⟩,
                                ⟨(some 62), .mv (.t 68), none⟩] [0, 2, 3, 4, 5, 13, 14, 17, 24, 31, 38, 47, 54, 62]))))))))))) (
                   .cond (.t 62) (.seq (.reg [
                        ⟨(some 69), .mv (.t 5), none⟩,
                        ⟨(some 70), .mv (.t 3), none⟩,
                        ⟨(some 71), .mv (.t 0), none⟩,
                        ⟨(some 72), .call 56 [(.t 71), (.k (.int .i64 7))], none⟩,
                        ⟨(some 73), .build [(.int .i64 0), (.int .i64 0), (.int .i64 0), (.int .i64 0)] [(0, 1, (.t 69)), (1, 1, (.t 70)), (2, 1, (.t 72))], none⟩,
                        ⟨none, .st 4 (.t 2) (.t 73), none⟩] [0, 2, 3, 4, 5, 13, 14, 17, 24, 31, 38, 47, 54, 62]) (
                     .ret)) (
                   .skip))))))))))))))))))) (
  .seq (.reg [
     ⟨(some 74), .mv (.t 5), none⟩,
     ⟨(some 75), .mv (.t 3), none⟩,
     ⟨(some 76), .build [(.int .i64 0), (.int .i64 0), (.int .i64 0), (.int .i64 0)] [(0, 1, (.t 74)), (1, 1, (.t 75))], none⟩,
     ⟨none, .st 4 (.t 2) (.t 76), none⟩] [0, 2, 3, 4, 5, 13, 14, 17, 24, 31, 38, 47, 54, 62]) (
  .ret)))))
theorem k163 : Try.f163.body.bind (compC Try.prog Try.f163.ntmps v163) = some c163 := by kernel_rfl
theorem e163 : enters Try.prog 163 = true := by kernel_rfl
theorem q163 : Try.f163.results.toList.mapM (compRes Try.prog) = some r163 := by kernel_rfl
end Go.Proofs.Ytjmmompbmjhkpaa.Code
