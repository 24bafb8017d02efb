/- The code of functions (Video) over abstract values, printed by a program, and that it is what the program's form in Lean turns into. No condition. -/
import Derived.Test.YtjmmompbmjhkpaaProg
import Derived.Test.YtjmmompbmjhkpaaCalcJ
import Derived.KernelRfl
namespace Go.Proofs.Ytjmmompbmjhkpaa.Code
open Go Go.Proofs.Ytjmmompbmjhkpaa.Calc
set_option maxRecDepth 100000
/-- bakelite/video.Skip -/
def v27 : List Nat := [0, 1, 2, 4, 5, 6, 7, 15, 19, 20, 21, 27]
def r27 : List AR := [.cell (some 2) 4]
def c27 : AC :=
  .seq (.reg [
     ⟨(some 2), .new 2 (.t 0), none⟩,
     ⟨(some 4), .zero [(.slice none 0 0), (.slice none 0 0)], none⟩] [0, 1, 2, 4, 5, 6, 7, 15, 19, 20, 21, 27]) (
  .seq (.reg [
     ⟨(some 9), .ld (some 2) (.t 2), none⟩,
     ⟨(some 10), .call 88 [(.t 9)], none⟩,
     ⟨(some 8), .mv (.t 10), none⟩,
     ⟨(some 11), .ext (.t 8) 0, none⟩,
     ⟨(some 12), .ext (.t 8) 1, none⟩,
     ⟨(some 13), .ext (.t 8) 2, none⟩,
     ⟨(some 5), .mv (.t 11), none⟩,
     ⟨(some 6), .mv (.t 12), none⟩,
     ⟨(some 7), .mv (.t 13), none⟩] [0, 1, 2, 4, 5, 6, 7, 15, 19, 20, 21, 27]) (
  .seq (.seq (.reg [
      ⟨(some 14), .mv (.t 1), none⟩,
      ⟨(some 15), .bin .gtr (.t 14) (.k (.int .i64 5120)), none⟩] [0, 1, 2, 4, 5, 6, 7, 15, 19, 20, 21, 27]) (
   .cond (.t 15) (.reg [
       ⟨(some 16), .mv (.t 1), none⟩,
       ⟨(some 17), .bin .rem (.t 16) (.k (.int .i64 2560)), none⟩,
       ⟨(some 18), .bin .add (.k (.int .i64 2560)) (.t 17), none⟩,
       ⟨(some 1), .mv (.t 18), none⟩] [0, 1, 2, 4, 5, 6, 7, 15, 19, 20, 21, 27]) (
   .skip))) (
  .seq (.seq (.reg [
      ⟨(some 19), .mv (.t 1), none⟩,
      ⟨(some 20), .mv (.k (.int .i64 0)), none⟩] [0, 1, 2, 4, 5, 6, 7, 15, 19, 20, 21, 27]) (
   .block 0 (.loop (.seq (.reg [
          ⟨(some 21), .bin .lss (.t 20) (.t 19), none⟩] [0, 1, 2, 4, 5, 6, 7, 15, 19, 20, 21, 27]) (
       .seq (.cond (.t 21) (.skip) (
        .exit 0)) (
       .seq (.block 1 (.seq (.reg [
             ⟨(some 22), .mv (.t 5), none⟩,
             ⟨(some 23), .bin .add (.t 22) (.k (.int .i64 1)), none⟩,
             ⟨(some 24), .bin .rem (.t 23) (.k (.int .i64 2560)), none⟩,
             ⟨(some 5), .mv (.t 24), none⟩] [0, 1, 2, 4, 5, 6, 7, 15, 19, 20, 21, 27]) (
          .seq (.reg [
             ⟨(some 25), .mv (.t 7), none⟩,
             ⟨(some 26), .mv (.t 5), none⟩,
             ⟨(some 27), .call 89 [(.t 25), (.t 26)], none⟩] [0, 1, 2, 4, 5, 6, 7, 15, 19, 20, 21, 27]) (
          .cond (.t 27) (.reg [
              ⟨(some 6), .mv (.k (.int .i64 1)), none⟩] [0, 1, 2, 4, 5, 6, 7, 15, 19, 20, 21, 27]) (
          .skip))))) (
       .reg [
         ⟨(some 28), .bin .add (.t 20) (.k (.int .i64 1)), none⟩,
         ⟨(some 20), .mv (.t 28), none⟩] [0, 1, 2, 4, 5, 6, 7, 15, 19, 20, 21, 27]))))))) (
  .seq (.reg [
     ⟨(some 29), .mv (.t 5), none⟩,
     ⟨(some 30), .mv (.t 6), none⟩,
     ⟨(some 31), .mv (.t 7), none⟩,
     ⟨(some 32), .call 90 [(.t 29), (.t 30), (.t 31)], none⟩,
     ⟨none, .st 2 (.t 4) (.t 32), none⟩] [0, 1, 2, 4, 5, 6, 7, 15, 19, 20, 21, 27]) (
  .ret)))))
theorem k27 : Try.f27.body.bind (compC Try.prog Try.f27.ntmps v27) = some c27 := by kernel_rfl
theorem e27 : enters Try.prog 27 = true := by kernel_rfl
theorem q27 : Try.f27.results.toList.mapM (compRes Try.prog) = some r27 := by kernel_rfl
/-- bakelite/video.Next -/
def v30 : List Nat := [0, 1, 2, 3, 5, 6, 7, 17, 18, 27]
def r30 : List AR := [.t 2]
def c30 : AC :=
  .seq (.reg [
     ⟨(some 1), .new 2 (.t 0), none⟩,
     ⟨(some 2), .mv (.k (.int .i64 0)), none⟩] [0, 1, 2, 3, 5, 6, 7, 17, 18, 27]) (
  .seq (.reg [
     ⟨(some 9), .ld (some 2) (.t 1), none⟩,
     ⟨(some 10), .call 88 [(.t 9)], none⟩,
     ⟨(some 8), .mv (.t 10), none⟩,
     ⟨(some 11), .ext (.t 8) 0, none⟩,
     ⟨(some 12), .ext (.t 8) 1, none⟩,
     ⟨(some 13), .ext (.t 8) 2, none⟩,
     ⟨(some 3), .mv (.t 11), none⟩,
     ⟨(some 4), .mv (.t 12), none⟩,
     ⟨(some 5), .mv (.t 13), none⟩] [0, 1, 2, 3, 5, 6, 7, 17, 18, 27]) (
  .seq (.reg [
     ⟨(some 14), .mv (.t 5), none⟩,
     ⟨(some 15), .mv (.t 3), none⟩,
     ⟨(some 16), .call 91 [(.t 14), (.t 15)], none⟩,
     ⟨(some 6), .mv (.t 16), none⟩] [0, 1, 2, 3, 5, 6, 7, 17, 18, 27]) (
  .seq (.seq (.reg [
      ⟨(some 17), .mv (.k (.int .i64 0)), none⟩] [0, 1, 2, 3, 5, 6, 7, 17, 18, 27]) (
   .block 0 (.loop (.seq (.reg [
          ⟨(some 18), .bin .lss (.t 17) (.k (.int .i64 2560)), none⟩] [0, 1, 2, 3, 5, 6, 7, 17, 18, 27]) (
       .seq (.cond (.t 18) (.skip) (
        .exit 0)) (
       .seq (.block 1 (.seq (.reg [
             ⟨(some 19), .mv (.t 17), none⟩,
             ⟨(some 7), .mv (.t 19), none⟩] [0, 1, 2, 3, 5, 6, 7, 17, 18, 27]) (
          .seq (.reg [
             ⟨(some 20), .mv (.t 3), none⟩,
             ⟨(some 21), .bin .add (.t 20) (.k (.int .i64 1)), none⟩,
             ⟨(some 22), .bin .rem (.t 21) (.k (.int .i64 2560)), none⟩,
             ⟨(some 3), .mv (.t 22), none⟩] [0, 1, 2, 3, 5, 6, 7, 17, 18, 27]) (
          .seq (.reg [
             ⟨(some 23), .mv (.t 5), none⟩,
             ⟨(some 24), .mv (.t 3), none⟩,
             ⟨(some 25), .call 91 [(.t 23), (.t 24)], none⟩,
             ⟨(some 26), .mv (.t 6), none⟩,
             ⟨(some 27), .bin .neq (.t 25) (.t 26), none⟩] [0, 1, 2, 3, 5, 6, 7, 17, 18, 27]) (
          .cond (.t 27) (.seq (.reg [
               ⟨(some 28), .mv (.t 7), none⟩,
               ⟨(some 2), .mv (.t 28), none⟩] [0, 1, 2, 3, 5, 6, 7, 17, 18, 27]) (
            .ret)) (
          .skip)))))) (
       .reg [
         ⟨(some 29), .bin .add (.t 17) (.k (.int .i64 1)), none⟩,
         ⟨(some 17), .mv (.t 29), none⟩] [0, 1, 2, 3, 5, 6, 7, 17, 18, 27]))))))) (
  .seq (.reg [
     ⟨(some 2), .mv (.k (.int .i64 100000)), none⟩] [0, 1, 2, 3, 5, 6, 7, 17, 18, 27]) (
  .ret)))))
theorem k30 : Try.f30.body.bind (compC Try.prog Try.f30.ntmps v30) = some c30 := by kernel_rfl
theorem e30 : enters Try.prog 30 = true := by kernel_rfl
theorem q30 : Try.f30.results.toList.mapM (compRes Try.prog) = some r30 := by kernel_rfl
/-- bakelite/video.Out -/
def v32 : List Nat := [0, 1, 2, 3, 5]
def r32 : List AR := [.t 2]
def c32 : AC :=
  .seq (.reg [
     ⟨(some 1), .new 2 (.t 0), none⟩,
     ⟨(some 2), .mv (.k (.int .i64 0)), none⟩] [0, 1, 2, 3, 5]) (
  .seq (.reg [
     ⟨(some 7), .ld (some 2) (.t 1), none⟩,
     ⟨(some 8), .call 88 [(.t 7)], none⟩,
     ⟨(some 6), .mv (.t 8), none⟩,
     ⟨(some 9), .ext (.t 6) 0, none⟩,
     ⟨(some 10), .ext (.t 6) 1, none⟩,
     ⟨(some 11), .ext (.t 6) 2, none⟩,
     ⟨(some 3), .mv (.t 9), none⟩,
     ⟨(some 4), .mv (.t 10), none⟩,
     ⟨(some 5), .mv (.t 11), none⟩] [0, 1, 2, 3, 5]) (
  .seq (.reg [
     ⟨(some 12), .mv (.t 5), none⟩,
     ⟨(some 13), .mv (.t 3), none⟩,
     ⟨(some 14), .call 91 [(.t 12), (.t 13)], none⟩,
     ⟨(some 2), .mv (.t 14), none⟩] [0, 1, 2, 3, 5]) (
  .ret)))
theorem k32 : Try.f32.body.bind (compC Try.prog Try.f32.ntmps v32) = some c32 := by kernel_rfl
theorem e32 : enters Try.prog 32 = true := by kernel_rfl
theorem q32 : Try.f32.results.toList.mapM (compRes Try.prog) = some r32 := by kernel_rfl
/-- bakelite/video.Write -/
def v33 : List Nat := [0, 1, 2, 3, 6, 7, 8, 9, 29]
def r33 : List AR := [.cell (some 2) 6]
def c33 : AC :=
  .seq (.reg [
     ⟨(some 3), .new 2 (.t 0), none⟩,
     ⟨(some 6), .zero [(.slice none 0 0), (.slice none 0 0)], none⟩] [0, 1, 2, 3, 6, 7, 8, 9, 29]) (
  .seq (.reg [
     ⟨(some 11), .ld (some 2) (.t 3), none⟩,
     ⟨(some 12), .call 88 [(.t 11)], none⟩,
     ⟨(some 10), .mv (.t 12), none⟩,
     ⟨(some 13), .ext (.t 10) 0, none⟩,
     ⟨(some 14), .ext (.t 10) 1, none⟩,
     ⟨(some 15), .ext (.t 10) 2, none⟩,
     ⟨(some 7), .mv (.t 13), none⟩,
     ⟨(some 8), .mv (.t 14), none⟩,
     ⟨(some 9), .mv (.t 15), none⟩] [0, 1, 2, 3, 6, 7, 8, 9, 29]) (
  .seq (.seq (.reg [
      ⟨(some 16), .mv (.t 1), none⟩,
      ⟨(some 17), .bin .geq (.t 16) (.k (.int .i64 0)), none⟩,
      ⟨(some 18), .mv (.t 17), none⟩,
      ⟨(some 19), .mv (.t 1), (some (18, true))⟩,
      ⟨(some 20), .bin .lss (.t 19) (.k (.int .i64 32)), (some (18, true))⟩,
      ⟨(some 21), .pick (.t 18) (.t 20) (.k (.bool false)), none⟩,
      ⟨(some 22), .mv (.t 21), none⟩,
      ⟨(some 23), .mv (.t 1), (some (22, true))⟩,
      ⟨(some 24), .bin .lss (.t 23) (.k (.int .i64 5)), (some (22, true))⟩,
      ⟨(some 25), .mv (.t 24), (some (22, true))⟩,
      ⟨(some 26), .mv (.t 1), (some (25, false))⟩,
      ⟨(some 27), .bin .gtr (.t 26) (.k (.int .i64 7)), (some (25, false))⟩,
      ⟨(some 28), .pick (.t 25) (.k (.bool true)) (.t 27), (some (22, true))⟩,
      ⟨(some 29), .pick (.t 22) (.t 28) (.k (.bool false)), none⟩] [0, 1, 2, 3, 6, 7, 8, 9, 29]) (
   .cond (.t 29) (.reg [
       ⟨(some 30), .mv (.t 9), none⟩,
       ⟨(some 31), .mv (.t 1), none⟩,
       ⟨(some 32), .mv (.t 2), none⟩,
       ⟨(some 33), .call 35 [(.t 32), (.k (.int .i64 8))], none⟩,
       ⟨(some 34), .cvt .u8 (.t 33), none⟩,
       ⟨(some 35), .idx 1 none (.t 30) (.t 31), none⟩,
       ⟨none, .st 1 (.t 35) (.t 34), none⟩] [0, 1, 2, 3, 6, 7, 8, 9, 29]) (
   .skip))) (
  .seq (.reg [
     ⟨(some 36), .mv (.t 7), none⟩,
     ⟨(some 37), .mv (.t 8), none⟩,
     ⟨(some 38), .mv (.t 9), none⟩,
     ⟨(some 39), .call 90 [(.t 36), (.t 37), (.t 38)], none⟩,
     ⟨none, .st 2 (.t 6) (.t 39), none⟩] [0, 1, 2, 3, 6, 7, 8, 9, 29]) (
  .ret))))
theorem k33 : Try.f33.body.bind (compC Try.prog Try.f33.ntmps v33) = some c33 := by kernel_rfl
theorem e33 : enters Try.prog 33 = true := by kernel_rfl
theorem q33 : Try.f33.results.toList.mapM (compRes Try.prog) = some r33 := by kernel_rfl
/-- bakelite/video.Read -/
def v34 : List Nat := [0, 1, 2, 4, 5, 6, 7, 8, 9, 16, 21, 26, 30]
def r34 : List AR := [.cell (some 2) 4, .t 5]
def c34 : AC :=
  .seq (.reg [
     ⟨(some 2), .new 2 (.t 0), none⟩,
     ⟨(some 4), .zero [(.slice none 0 0), (.slice none 0 0)], none⟩,
     ⟨(some 5), .mv (.k (.int .i64 0)), none⟩] [0, 1, 2, 4, 5, 6, 7, 8, 9, 16, 21, 26, 30]) (
  .seq (.reg [
     ⟨(some 11), .ld (some 2) (.t 2), none⟩,
     ⟨(some 12), .call 88 [(.t 11)], none⟩,
     ⟨(some 10), .mv (.t 12), none⟩,
     ⟨(some 13), .ext (.t 10) 0, none⟩,
     ⟨(some 14), .ext (.t 10) 1, none⟩,
     ⟨(some 15), .ext (.t 10) 2, none⟩,
     ⟨(some 6), .mv (.t 13), none⟩,
     ⟨(some 7), .mv (.t 14), none⟩,
     ⟨(some 8), .mv (.t 15), none⟩] [0, 1, 2, 4, 5, 6, 7, 8, 9, 16, 21, 26, 30]) (
  .seq (.reg [
     ⟨(some 9), .mv (.k (.int .i64 0)), none⟩] [0, 1, 2, 4, 5, 6, 7, 8, 9, 16, 21, 26, 30]) (
  .seq (.block 0 (.seq (.reg [
        ⟨(some 17), .mv (.t 1), none⟩,
        ⟨(some 18), .bin .eql (.t 17) (.k (.int .i64 5)), none⟩,
        ⟨(some 16), .mv (.t 18), none⟩] [0, 1, 2, 4, 5, 6, 7, 8, 9, 16, 21, 26, 30]) (
     .cond (.t 16) (.reg [
         ⟨(some 19), .mv (.t 6), none⟩,
         ⟨(some 20), .bin .quo (.t 19) (.k (.int .i64 64)), none⟩,
         ⟨(some 9), .mv (.t 20), none⟩] [0, 1, 2, 4, 5, 6, 7, 8, 9, 16, 21, 26, 30]) (
     .seq (.reg [
          ⟨(some 22), .mv (.t 1), none⟩,
          ⟨(some 23), .bin .eql (.t 22) (.k (.int .i64 6)), none⟩,
          ⟨(some 21), .mv (.t 23), none⟩] [0, 1, 2, 4, 5, 6, 7, 8, 9, 16, 21, 26, 30]) (
       .cond (.t 21) (.reg [
           ⟨(some 24), .mv (.t 6), none⟩,
           ⟨(some 25), .bin .rem (.t 24) (.k (.int .i64 64)), none⟩,
           ⟨(some 9), .mv (.t 25), none⟩] [0, 1, 2, 4, 5, 6, 7, 8, 9, 16, 21, 26, 30]) (
       .seq (.reg [
            ⟨(some 27), .mv (.t 1), none⟩,
            ⟨(some 28), .bin .eql (.t 27) (.k (.int .i64 7)), none⟩,
            ⟨(some 26), .mv (.t 28), none⟩] [0, 1, 2, 4, 5, 6, 7, 8, 9, 16, 21, 26, 30]) (
         .cond (.t 26) (.reg [
             ⟨(some 29), .mv (.t 7), none⟩,
             ⟨(some 9), .mv (.t 29), none⟩,
             ⟨(some 7), .mv (.k (.int .i64 0)), none⟩] [0, 1, 2, 4, 5, 6, 7, 8, 9, 16, 21, 26, 30]) (
         .seq (.reg [
              ⟨(some 31), .mv (.t 1), none⟩,
              ⟨(some 32), .bin .geq (.t 31) (.k (.int .i64 0)), none⟩,
              ⟨(some 33), .mv (.t 32), none⟩,
              ⟨(some 34), .mv (.t 1), (some (33, true))⟩,
              ⟨(some 35), .bin .lss (.t 34) (.k (.int .i64 32)), (some (33, true))⟩,
              ⟨(some 36), .pick (.t 33) (.t 35) (.k (.bool false)), none⟩,
              ⟨(some 30), .mv (.t 36), none⟩] [0, 1, 2, 4, 5, 6, 7, 8, 9, 16, 21, 26, 30]) (
           .cond (.t 30) (.reg [
               ⟨(some 37), .mv (.t 8), none⟩,
               ⟨(some 38), .mv (.t 1), none⟩,
               ⟨(some 39), .idx 1 none (.t 37) (.t 38), none⟩,
               ⟨(some 40), .ld none (.t 39), none⟩,
               ⟨(some 41), .cvt .i64 (.t 40), none⟩,
               ⟨(some 9), .mv (.t 41), none⟩] [0, 1, 2, 4, 5, 6, 7, 8, 9, 16, 21, 26, 30]) (
           .skip)))))))))) (
  .seq (.reg [
     ⟨(some 42), .mv (.t 6), none⟩,
     ⟨(some 43), .mv (.t 7), none⟩,
     ⟨(some 44), .mv (.t 8), none⟩,
     ⟨(some 45), .call 90 [(.t 42), (.t 43), (.t 44)], none⟩,
     ⟨(some 46), .mv (.t 9), none⟩,
     ⟨none, .st 2 (.t 4) (.t 45), none⟩,
     ⟨(some 5), .mv (.t 46), none⟩] [0, 1, 2, 4, 5, 6, 7, 8, 9, 16, 21, 26, 30]) (
  .ret)))))
theorem k34 : Try.f34.body.bind (compC Try.prog Try.f34.ntmps v34) = some c34 := by kernel_rfl
theorem e34 : enters Try.prog 34 = true := by kernel_rfl
theorem q34 : Try.f34.results.toList.mapM (compRes Try.prog) = some r34 := by kernel_rfl
/-- bakelite/video.New -/
def v36 : List Nat := [0]
def r36 : List AR := [.cell (some 2) 0]
def c36 : AC :=
  .seq (.reg [
     ⟨(some 0), .zero [(.slice none 0 0), (.slice none 0 0)], none⟩] [0]) (
  .seq (.reg [
     ⟨(some 1), .mksl [(.int .u8 0)] 1 (.k (.int .i64 32)) (.k (.int .i64 32)), none⟩,
     ⟨(some 2), .call 90 [(.k (.int .i64 2559)), (.k (.int .i64 0)), (.t 1)], none⟩,
     ⟨none, .st 2 (.t 0) (.t 2), none⟩] [0]) (
  .ret))
theorem k36 : Try.f36.body.bind (compC Try.prog Try.f36.ntmps v36) = some c36 := by kernel_rfl
theorem e36 : enters Try.prog 36 = true := by kernel_rfl
theorem q36 : Try.f36.results.toList.mapM (compRes Try.prog) = some r36 := by kernel_rfl
/-- bakelite/video.Tick -/
def v37 : List Nat := [0, 1, 2]
def r37 : List AR := [.cell (some 2) 2]
def c37 : AC :=
  .seq (.reg [
     ⟨(some 1), .new 2 (.t 0), none⟩,
     ⟨(some 2), .zero [(.slice none 0 0), (.slice none 0 0)], none⟩] [0, 1, 2]) (
  .seq (.reg [
     ⟨(some 3), .ld (some 2) (.t 1), none⟩,
     ⟨(some 4), .call 27 [(.t 3), (.k (.int .i64 1))], none⟩,
     ⟨none, .st 2 (.t 2) (.t 4), none⟩] [0, 1, 2]) (
  .ret))
theorem k37 : Try.f37.body.bind (compC Try.prog Try.f37.ntmps v37) = some c37 := by kernel_rfl
theorem e37 : enters Try.prog 37 = true := by kernel_rfl
theorem q37 : Try.f37.results.toList.mapM (compRes Try.prog) = some r37 := by kernel_rfl
/-- bakelite/video.fit -/
def v88 : List Nat := [0, 1, 2, 3, 4, 5, 6, 7, 11, 22]
def r88 : List AR := [.t 2, .t 3, .t 4]
def c88 : AC :=
  .seq (.reg [
     ⟨(some 1), .new 2 (.t 0), none⟩,
     ⟨(some 2), .mv (.k (.int .i64 0)), none⟩,
     ⟨(some 3), .mv (.k (.int .i64 0)), none⟩,
     ⟨(some 4), .mv (.k (.slice none 0 0)), none⟩] [0, 1, 2, 3, 4, 5, 6, 7, 11, 22]) (
  .seq (.reg [
     ⟨(some 5), .mv (.k (.int .i64 2559)), none⟩,
     ⟨(some 6), .mv (.k (.int .i64 0)), none⟩] [0, 1, 2, 3, 4, 5, 6, 7, 11, 22]) (
  .seq (.seq (.reg [
      ⟨(some 8), .fad 0 (.t 1), none⟩,
      ⟨(some 9), .ld none (.t 8), none⟩,
      ⟨(some 10), .len (.t 9), none⟩,
      ⟨(some 11), .bin .gtr (.t 10) (.k (.int .i64 0)), none⟩] [0, 1, 2, 3, 4, 5, 6, 7, 11, 22]) (
   .cond (.t 11) (.reg [
       ⟨(some 12), .fad 0 (.t 1), none⟩,
       ⟨(some 13), .ld none (.t 12), none⟩,
       ⟨(some 14), .idx 1 none (.t 13) (.k (.int .i64 0)), none⟩,
       ⟨(some 15), .ld none (.t 14), none⟩,
       ⟨(some 16), .bin .rem (.t 15) (.k (.int .i64 2560)), none⟩,
       ⟨(some 17), .bin .add (.t 16) (.k (.int .i64 2560)), none⟩,
       ⟨(some 18), .bin .rem (.t 17) (.k (.int .i64 2560)), none⟩,
       ⟨(some 5), .mv (.t 18), none⟩] [0, 1, 2, 3, 4, 5, 6, 7, 11, 22]) (
   .skip))) (
  .seq (.seq (.reg [
      ⟨(some 19), .fad 0 (.t 1), none⟩,
      ⟨(some 20), .ld none (.t 19), none⟩,
      ⟨(some 21), .len (.t 20), none⟩,
      ⟨(some 22), .bin .gtr (.t 21) (.k (.int .i64 1)), none⟩] [0, 1, 2, 3, 4, 5, 6, 7, 11, 22]) (
   .cond (.t 22) (.reg [
       ⟨(some 23), .fad 0 (.t 1), none⟩,
       ⟨(some 24), .ld none (.t 23), none⟩,
       ⟨(some 25), .idx 1 none (.t 24) (.k (.int .i64 1)), none⟩,
       ⟨(some 26), .ld none (.t 25), none⟩,
       ⟨(some 27), .call 35 [(.t 26), (.k (.int .i64 1))], none⟩,
       ⟨(some 6), .mv (.t 27), none⟩] [0, 1, 2, 3, 4, 5, 6, 7, 11, 22]) (
   .skip))) (
  .seq (.reg [
     ⟨(some 28), .mksl [(.int .u8 0)] 1 (.k (.int .i64 32)) (.k (.int .i64 32)), none⟩,
     ⟨(some 7), .mv (.t 28), none⟩] [0, 1, 2, 3, 4, 5, 6, 7, 11, 22]) (
  .seq (.reg [
     ⟨(some 29), .mv (.t 7), none⟩,
     ⟨(some 30), .fad 1 (.t 1), none⟩,
     ⟨(some 31), .ld none (.t 30), none⟩,
     ⟨(some 32), .copy 1 (.t 29) (.t 31), none⟩] [0, 1, 2, 3, 4, 5, 6, 7, 11, 22]) (
  .seq (.reg [
     ⟨(some 33), .mv (.t 5), none⟩,
     ⟨(some 34), .mv (.t 6), none⟩,
     ⟨(some 35), .mv (.t 7), none⟩,
     ⟨(some 2), .mv (.t 33), none⟩,
     ⟨(some 3), .mv (.t 34), none⟩,
     ⟨(some 4), .mv (.t 35), none⟩] [0, 1, 2, 3, 4, 5, 6, 7, 11, 22]) (
  .ret)))))))
theorem k88 : Try.f88.body.bind (compC Try.prog Try.f88.ntmps v88) = some c88 := by kernel_rfl
theorem e88 : enters Try.prog 88 = true := by kernel_rfl
theorem q88 : Try.f88.results.toList.mapM (compRes Try.prog) = some r88 := by kernel_rfl
/-- bakelite/video.hits -/
def v89 : List Nat := [0, 1, 4]
def r89 : List AR := [.t 4]
def c89 : AC :=
  .seq (.reg [
     ⟨(some 4), .mv (.k (.bool false)), none⟩] [0, 1, 4]) (
  .seq (.reg [
     ⟨(some 5), .mv (.t 1), none⟩,
     ⟨(some 6), .call 152 [(.t 5)], none⟩,
     ⟨(some 7), .mv (.t 6), none⟩,
     ⟨(some 8), .mv (.t 0), (some (7, true))⟩,
     ⟨(some 9), .mv (.t 1), (some (7, true))⟩,
     ⟨(some 10), .call 153 [(.t 8), (.t 9)], (some (7, true))⟩,
     ⟨(some 11), .pick (.t 7) (.t 10) (.k (.bool false)), none⟩,
     ⟨(some 12), .mv (.t 11), none⟩,
     ⟨(some 13), .mv (.t 0), (some (12, true))⟩,
     ⟨(some 14), .mv (.t 1), (some (12, true))⟩,
     ⟨(some 15), .call 154 [(.t 13), (.t 14)], (some (12, true))⟩,
     ⟨(some 16), .bin .neq (.t 15) (.k (.int .i64 0)), (some (12, true))⟩,
     ⟨(some 17), .pick (.t 12) (.t 16) (.k (.bool false)), none⟩,
     ⟨(some 4), .mv (.t 17), none⟩] [0, 1, 4]) (
  .ret))
theorem k89 : Try.f89.body.bind (compC Try.prog Try.f89.ntmps v89) = some c89 := by kernel_rfl
theorem e89 : enters Try.prog 89 = true := by kernel_rfl
theorem q89 : Try.f89.results.toList.mapM (compRes Try.prog) = some r89 := by kernel_rfl
/-- bakelite/video.made -/
def v90 : List Nat := [0, 1, 2, 6]
def r90 : List AR := [.cell (some 2) 6]
def c90 : AC :=
  .seq (.reg [
     ⟨(some 6), .zero [(.slice none 0 0), (.slice none 0 0)], none⟩] [0, 1, 2, 6]) (
  .seq (.reg [
     ⟨(some 7), .mv (.t 0), none⟩,
     ⟨(some 8), .mv (.t 1), none⟩,
     ⟨(some 9), .bsl [(.int .i64 0)] 2 [(0, (.t 7)), (1, (.t 8))], none⟩,
     ⟨(some 10), .mv (.t 2), none⟩,
     ⟨(some 11), .build [(.slice none 0 0), (.slice none 0 0)] [(0, 1, (.t 9)), (1, 1, (.t 10))], none⟩,
     ⟨none, .st 2 (.t 6) (.t 11), none⟩] [0, 1, 2, 6]) (
  .ret))
theorem k90 : Try.f90.body.bind (compC Try.prog Try.f90.ntmps v90) = some c90 := by kernel_rfl
theorem e90 : enters Try.prog 90 = true := by kernel_rfl
theorem q90 : Try.f90.results.toList.mapM (compRes Try.prog) = some r90 := by kernel_rfl
/-- bakelite/video.color -/
def v91 : List Nat := [0, 1, 4, 5, 14]
def r91 : List AR := [.t 4]
def c91 : AC :=
  .seq (.reg [
     ⟨(some 4), .mv (.k (.int .i64 0)), none⟩] [0, 1, 4, 5, 14]) (
  .seq (.block 0 (.seq (.reg [
        ⟨(some 6), .mv (.t 1), none⟩,
        ⟨(some 7), .call 152 [(.t 6)], none⟩,
        ⟨(some 8), .not (.t 7), none⟩,
        ⟨(some 5), .mv (.t 8), none⟩] [0, 1, 4, 5, 14]) (
     .cond (.t 5) (.seq (.reg [
          ⟨(some 9), .mv (.t 0), none⟩,
          ⟨(some 10), .idx 1 none (.t 9) (.k (.int .i64 0)), none⟩,
          ⟨(some 11), .ld none (.t 10), none⟩,
          ⟨(some 12), .cvt .i64 (.t 11), none⟩,
          ⟨(some 13), .bin .and (.t 12) (.k (.int .i64 15)), none⟩,
          ⟨(some 4), .mv (.t 13), none⟩] [0, 1, 4, 5, 14]) (
       .ret)) (
     .seq (.reg [
          ⟨(some 15), .mv (.t 0), none⟩,
          ⟨(some 16), .mv (.t 1), none⟩,
          ⟨(some 17), .call 153 [(.t 15), (.t 16)], none⟩,
          ⟨(some 14), .mv (.t 17), none⟩] [0, 1, 4, 5, 14]) (
       .cond (.t 14) (.seq (.reg [
            ⟨(some 18), .mv (.t 0), none⟩,
            ⟨(some 19), .idx 1 none (.t 18) (.k (.int .i64 3)), none⟩,
            ⟨(some 20), .ld none (.t 19), none⟩,
            ⟨(some 21), .cvt .i64 (.t 20), none⟩,
            ⟨(some 22), .bin .and (.t 21) (.k (.int .i64 15)), none⟩,
            ⟨(some 4), .mv (.t 22), none⟩] [0, 1, 4, 5, 14]) (
         .ret)) (
       .skip)))))) (
  .seq (.reg [
     ⟨(some 23), .mv (.t 0), none⟩,
     ⟨(some 24), .mv (.t 1), none⟩,
     ⟨(some 25), .call 154 [(.t 23), (.t 24)], none⟩,
     ⟨(some 4), .mv (.t 25), none⟩] [0, 1, 4, 5, 14]) (
  .ret)))
theorem k91 : Try.f91.body.bind (compC Try.prog Try.f91.ntmps v91) = some c91 := by kernel_rfl
theorem e91 : enters Try.prog 91 = true := by kernel_rfl
theorem q91 : Try.f91.results.toList.mapM (compRes Try.prog) = some r91 := by kernel_rfl
/-- bakelite/video.visible -/
def v152 : List Nat := [0, 2]
def r152 : List AR := [.t 2]
def c152 : AC :=
  .seq (.reg [
     ⟨(some 2), .mv (.k (.bool false)), none⟩] [0, 2]) (
  .seq (.reg [
     ⟨(some 3), .mv (.t 0), none⟩,
     ⟨(some 4), .bin .rem (.t 3) (.k (.int .i64 64)), none⟩,
     ⟨(some 5), .bin .lss (.t 4) (.k (.int .i64 48)), none⟩,
     ⟨(some 6), .mv (.t 5), none⟩,
     ⟨(some 7), .mv (.t 0), (some (6, true))⟩,
     ⟨(some 8), .bin .quo (.t 7) (.k (.int .i64 64)), (some (6, true))⟩,
     ⟨(some 9), .bin .lss (.t 8) (.k (.int .i64 32)), (some (6, true))⟩,
     ⟨(some 10), .pick (.t 6) (.t 9) (.k (.bool false)), none⟩,
     ⟨(some 2), .mv (.t 10), none⟩] [0, 2]) (
  .ret))
theorem k152 : Try.f152.body.bind (compC Try.prog Try.f152.ntmps v152) = some c152 := by kernel_rfl
theorem e152 : enters Try.prog 152 = true := by kernel_rfl
theorem q152 : Try.f152.results.toList.mapM (compRes Try.prog) = some r152 := by kernel_rfl
/-- bakelite/video.sprite -/
def v153 : List Nat := [0, 1, 4, 5, 6]
def r153 : List AR := [.t 4]
def c153 : AC :=
  .seq (.reg [
     ⟨(some 4), .mv (.k (.bool false)), none⟩] [0, 1, 4, 5, 6]) (
  .seq (.dreg [
     ⟨(some 7), .mv (.t 1), none⟩,
     ⟨(some 8), .bin .rem (.t 7) (.k (.int .i64 64)), none⟩,
     ⟨(some 9), .mv (.t 0), none⟩,
     ⟨(some 10), .idx 1 none (.t 9) (.k (.int .i64 1)), none⟩,
     ⟨(some 11), .ld none (.t 10), none⟩,
     ⟨(some 12), .cvt .i64 (.t 11), none⟩,
     ⟨(some 13), .bin .sub (.t 8) (.t 12), none⟩,
     ⟨(some 14), .mv (.t 1), none⟩,
     ⟨(some 15), .bin .quo (.t 14) (.k (.int .i64 64)), none⟩,
     ⟨(some 16), .mv (.t 0), none⟩,
     ⟨(some 17), .idx 1 none (.t 16) (.k (.int .i64 2)), none⟩,
     ⟨(some 18), .ld none (.t 17), none⟩,
     ⟨(some 19), .cvt .i64 (.t 18), none⟩,
     ⟨(some 20), .bin .sub (.t 15) (.t 19), none⟩,
     ⟨(some 5), .mv (.t 13), none⟩,
     ⟨(some 6), .mv (.t 20), none⟩] [[], [0], [], [2], [2, 3], [2, 3, 4], [0, 1, 2, 3, 4, 5], [], [7], [], [9], [9, 10], [9, 10, 11], [7, 8, 9, 10, 11, 12], [0, 1, 2, 3, 4, 5, 6], [0, 1, 2, 3, 4, 5, 6, 7, 8, 9, 10, 11, 12, 13, 14]] [0, 1, 4, 5, 6]) (
  .seq (.reg [
     ⟨(some 21), .mv (.t 5), none⟩,
     ⟨(some 22), .bin .geq (.t 21) (.k (.int .i64 0)), none⟩,
     ⟨(some 23), .mv (.t 22), none⟩,
     ⟨(some 24), .mv (.t 5), (some (23, true))⟩,
     ⟨(some 25), .bin .lss (.t 24) (.k (.int .i64 8)), (some (23, true))⟩,
     ⟨(some 26), .pick (.t 23) (.t 25) (.k (.bool false)), none⟩,
     ⟨(some 27), .mv (.t 26), none⟩,
     ⟨(some 28), .mv (.t 6), (some (27, true))⟩,
     ⟨(some 29), .bin .geq (.t 28) (.k (.int .i64 0)), (some (27, true))⟩,
     ⟨(some 30), .pick (.t 27) (.t 29) (.k (.bool false)), none⟩,
     ⟨(some 31), .mv (.t 30), none⟩,
     ⟨(some 32), .mv (.t 6), (some (31, true))⟩,
     ⟨(some 33), .bin .lss (.t 32) (.k (.int .i64 8)), (some (31, true))⟩,
     ⟨(some 34), .pick (.t 31) (.t 33) (.k (.bool false)), none⟩,
     ⟨(some 35), .mv (.t 34), none⟩,
     ⟨(some 36), .mv (.t 0), (some (35, true))⟩,
     ⟨(some 37), .idx 1 none (.t 36) (.k (.int .i64 4)), (some (35, true))⟩,
     ⟨(some 38), .ld none (.t 37), (some (35, true))⟩,
     ⟨(some 39), .mv (.t 5), (some (35, true))⟩,
     ⟨(some 40), .bin .sub (.k (.int .i64 7)) (.t 39), (some (35, true))⟩,
     ⟨(some 41), .bin .shr (.t 38) (.t 40), (some (35, true))⟩,
     ⟨(some 42), .bin .and (.t 41) (.k (.int .u8 1)), (some (35, true))⟩,
     ⟨(some 43), .bin .eql (.t 42) (.k (.int .u8 1)), (some (35, true))⟩,
     ⟨(some 44), .pick (.t 35) (.t 43) (.k (.bool false)), none⟩,
     ⟨(some 4), .mv (.t 44), none⟩] [0, 1, 4, 5, 6]) (
  .ret)))
theorem k153 : Try.f153.body.bind (compC Try.prog Try.f153.ntmps v153) = some c153 := by kernel_rfl
theorem e153 : enters Try.prog 153 = true := by kernel_rfl
theorem q153 : Try.f153.results.toList.mapM (compRes Try.prog) = some r153 := by kernel_rfl
/-- bakelite/video.cell -/
def v154 : List Nat := [0, 1, 4]
def r154 : List AR := [.t 4]
def c154 : AC :=
  .seq (.reg [
     ⟨(some 4), .mv (.k (.int .i64 0)), none⟩] [0, 1, 4]) (
  .seq (.reg [
     ⟨(some 5), .mv (.t 0), none⟩,
     ⟨(some 6), .mv (.t 1), none⟩,
     ⟨(some 7), .bin .quo (.t 6) (.k (.int .i64 64)), none⟩,
     ⟨(some 8), .bin .quo (.t 7) (.k (.int .i64 8)), none⟩,
     ⟨(some 9), .bin .mul (.t 8) (.k (.int .i64 6)), none⟩,
     ⟨(some 10), .bin .add (.k (.int .i64 8)) (.t 9), none⟩,
     ⟨(some 11), .mv (.t 1), none⟩,
     ⟨(some 12), .bin .rem (.t 11) (.k (.int .i64 64)), none⟩,
     ⟨(some 13), .bin .quo (.t 12) (.k (.int .i64 8)), none⟩,
     ⟨(some 14), .bin .add (.t 10) (.t 13), none⟩,
     ⟨(some 15), .idx 1 none (.t 5) (.t 14), none⟩,
     ⟨(some 16), .ld none (.t 15), none⟩,
     ⟨(some 17), .cvt .i64 (.t 16), none⟩,
     ⟨(some 18), .bin .and (.t 17) (.k (.int .i64 15)), none⟩,
     ⟨(some 4), .mv (.t 18), none⟩] [0, 1, 4]) (
  .ret))
theorem k154 : Try.f154.body.bind (compC Try.prog Try.f154.ntmps v154) = some c154 := by kernel_rfl
theorem e154 : enters Try.prog 154 = true := by kernel_rfl
theorem q154 : Try.f154.results.toList.mapM (compRes Try.prog) = some r154 := by kernel_rfl
end Go.Proofs.Ytjmmompbmjhkpaa.Code
