/- The code of functions (Sound) over abstract values, printed by a program, and that it is what the program's form in Lean turns into. No condition. -/
import Derived.Test.YtjmmompbmjhkpaaProg
import Derived.Test.YtjmmompbmjhkpaaCalcJ
import Derived.KernelRfl
namespace Go.Proofs.Ytjmmompbmjhkpaa.Code
open Go Go.Proofs.Ytjmmompbmjhkpaa.Calc
set_option maxRecDepth 100000
/-- bakelite/sound.New -/
def v38 : List Nat := [0]
def r38 : List AR := [.cell (some 2) 0]
def c38 : AC :=
  .seq (.reg [
     ⟨(some 0), .zero [(.slice none 0 0), (.slice none 0 0)], none⟩] [0]) (
  .seq (.reg [
     ⟨(some 1), .mksl [(.int .i64 0)] 8 (.k (.int .i64 12)) (.k (.int .i64 12)), none⟩,
     ⟨(some 2), .build [(.slice none 0 0), (.slice none 0 0)] [(0, 1, (.t 1))], none⟩,
     ⟨none, .st 2 (.t 0) (.t 2), none⟩] [0]) (
  .ret))
theorem k38 : Try.f38.body.bind (compC Try.prog Try.f38.ntmps v38) = some c38 := by kernel_rfl
theorem e38 : enters Try.prog 38 = true := by kernel_rfl
theorem q38 : Try.f38.results.toList.mapM (compRes Try.prog) = some r38 := by kernel_rfl
/-- bakelite/sound.Write -/
def v39 : List Nat := [0, 1, 2, 3, 6, 7, 8, 15, 17, 22, 31, 40]
def r39 : List AR := [.cell (some 2) 6]
def c39 : AC :=
  .seq (.reg [
     ⟨(some 3), .new 2 (.t 0), none⟩,
     ⟨(some 6), .zero [(.slice none 0 0), (.slice none 0 0)], none⟩] [0, 1, 2, 3, 6, 7, 8, 15, 17, 22, 31, 40]) (
  .seq (.reg [
     ⟨(some 9), .ld (some 2) (.t 3), none⟩,
     ⟨(some 10), .call 93 [(.t 9)], none⟩,
     ⟨(some 7), .mv (.t 10), none⟩] [0, 1, 2, 3, 6, 7, 8, 15, 17, 22, 31, 40]) (
  .seq (.seq (.reg [
      ⟨(some 11), .mv (.t 7), none⟩,
      ⟨(some 12), .mv (.t 1), none⟩,
      ⟨(some 13), .call 94 [(.t 11), (.t 12)], none⟩,
      ⟨(some 8), .mv (.t 13), none⟩] [0, 1, 2, 3, 6, 7, 8, 15, 17, 22, 31, 40]) (
   .seq (.reg [
      ⟨(some 14), .mv (.t 8), none⟩,
      ⟨(some 15), .eqn true (.t 14), none⟩] [0, 1, 2, 3, 6, 7, 8, 15, 17, 22, 31, 40]) (
   .cond (.t 15) (.seq (.reg [
        ⟨(some 16), .mv (.t 1), none⟩,
        ⟨(some 17), .bin .rem (.t 16) (.k (.int .i64 4)), none⟩] [0, 1, 2, 3, 6, 7, 8, 15, 17, 22, 31, 40]) (
     .block 0 (.seq (.reg [
          ⟨(some 23), .bin .eql (.t 17) (.k (.int .i64 0)), none⟩,
          ⟨(some 22), .mv (.t 23), none⟩] [0, 1, 2, 3, 6, 7, 8, 15, 17, 22, 31, 40]) (
       .cond (.t 22) (.reg [
           ⟨(some 24), .mv (.t 8), none⟩,
           ⟨(some 25), .mv (.t 8), none⟩,
           ⟨(some 26), .idx 1 none (.t 25) (.k (.int .i64 0)), none⟩,
           ⟨(some 27), .ld none (.t 26), none⟩,
           ⟨(some 28), .mv (.t 2), none⟩,
           ⟨(some 29), .call 95 [(.t 27), (.k (.int .i64 0)), (.k (.int .i64 8)), (.t 28)], none⟩,
           ⟨(some 30), .idx 1 none (.t 24) (.k (.int .i64 0)), none⟩,
           ⟨none, .st 1 (.t 30) (.t 29), none⟩] [0, 1, 2, 3, 6, 7, 8, 15, 17, 22, 31, 40]) (
       .seq (.reg [
            ⟨(some 32), .bin .eql (.t 17) (.k (.int .i64 1)), none⟩,
            ⟨(some 31), .mv (.t 32), none⟩] [0, 1, 2, 3, 6, 7, 8, 15, 17, 22, 31, 40]) (
         .cond (.t 31) (.reg [
             ⟨(some 33), .mv (.t 8), none⟩,
             ⟨(some 34), .mv (.t 8), none⟩,
             ⟨(some 35), .idx 1 none (.t 34) (.k (.int .i64 0)), none⟩,
             ⟨(some 36), .ld none (.t 35), none⟩,
             ⟨(some 37), .mv (.t 2), none⟩,
             ⟨(some 38), .call 95 [(.t 36), (.k (.int .i64 8)), (.k (.int .i64 4)), (.t 37)], none⟩,
             ⟨(some 39), .idx 1 none (.t 33) (.k (.int .i64 0)), none⟩,
             ⟨none, .st 1 (.t 39) (.t 38), none⟩] [0, 1, 2, 3, 6, 7, 8, 15, 17, 22, 31, 40]) (
         .seq (.reg [
              ⟨(some 41), .bin .eql (.t 17) (.k (.int .i64 2)), none⟩,
              ⟨(some 40), .mv (.t 41), none⟩] [0, 1, 2, 3, 6, 7, 8, 15, 17, 22, 31, 40]) (
           .cond (.t 40) (.reg [
               ⟨(some 42), .mv (.t 8), none⟩,
               ⟨(some 43), .mv (.t 8), none⟩,
               ⟨(some 44), .mv (.t 2), none⟩,
               ⟨(some 45), .call 35 [(.t 44), (.k (.int .i64 4))], none⟩,
               ⟨(some 46), .idx 1 none (.t 42) (.k (.int .i64 1)), none⟩,
               ⟨none, .st 1 (.t 46) (.t 45), none⟩,
               ⟨(some 47), .idx 1 none (.t 43) (.k (.int .i64 5)), none⟩,
               ⟨none, .st 1 (.t 47) (.k (.int .i64 0)), none⟩] [0, 1, 2, 3, 6, 7, 8, 15, 17, 22, 31, 40]) (
           .reg [
               ⟨(some 18), .mv (.t 8), none⟩,
               ⟨(some 19), .mv (.t 2), none⟩,
               ⟨(some 20), .call 35 [(.t 19), (.k (.int .i64 8))], none⟩,
               ⟨(some 21), .idx 1 none (.t 18) (.k (.int .i64 2)), none⟩,
               ⟨none, .st 1 (.t 21) (.t 20), none⟩] [0, 1, 2, 3, 6, 7, 8, 15, 17, 22, 31, 40]))))))))) (
   .skip)))) (
  .seq (.reg [
     ⟨(some 48), .mv (.t 7), none⟩,
     ⟨(some 49), .build [(.slice none 0 0), (.slice none 0 0)] [(0, 1, (.t 48))], none⟩,
     ⟨none, .st 2 (.t 6) (.t 49), none⟩] [0, 1, 2, 3, 6, 7, 8, 15, 17, 22, 31, 40]) (
  .ret))))
theorem k39 : Try.f39.body.bind (compC Try.prog Try.f39.ntmps v39) = some c39 := by kernel_rfl
theorem e39 : enters Try.prog 39 = true := by kernel_rfl
theorem q39 : Try.f39.results.toList.mapM (compRes Try.prog) = some r39 := by kernel_rfl
/-- bakelite/sound.Out -/
def v41 : List Nat := [0, 1, 2, 3]
def r41 : List AR := [.t 2]
def c41 : AC :=
  .seq (.reg [
     ⟨(some 1), .new 2 (.t 0), none⟩,
     ⟨(some 2), .mv (.k (.int .i64 0)), none⟩] [0, 1, 2, 3]) (
  .seq (.reg [
     ⟨(some 4), .ld (some 2) (.t 1), none⟩,
     ⟨(some 5), .call 93 [(.t 4)], none⟩,
     ⟨(some 3), .mv (.t 5), none⟩] [0, 1, 2, 3]) (
  .seq (.dreg [
     ⟨(some 6), .mv (.t 3), none⟩,
     ⟨(some 7), .idx 1 none (.t 6) (.k (.int .i64 1)), none⟩,
     ⟨(some 8), .ld none (.t 7), none⟩,
     ⟨(some 9), .mv (.t 3), none⟩,
     ⟨(some 10), .idx 1 none (.t 9) (.k (.int .i64 4)), none⟩,
     ⟨(some 11), .ld none (.t 10), none⟩,
     ⟨(some 12), .bin .mul (.t 8) (.t 11), none⟩,
     ⟨(some 13), .mv (.t 3), none⟩,
     ⟨(some 14), .idx 1 none (.t 13) (.k (.int .i64 7)), none⟩,
     ⟨(some 15), .ld none (.t 14), none⟩,
     ⟨(some 16), .mv (.t 3), none⟩,
     ⟨(some 17), .idx 1 none (.t 16) (.k (.int .i64 10)), none⟩,
     ⟨(some 18), .ld none (.t 17), none⟩,
     ⟨(some 19), .bin .mul (.t 15) (.t 18), none⟩,
     ⟨(some 20), .bin .add (.t 12) (.t 19), none⟩,
     ⟨(some 2), .mv (.t 20), none⟩] [[], [0], [0, 1], [], [3], [3, 4], [0, 1, 2, 3, 4, 5], [], [7], [7, 8], [], [10], [10, 11], [7, 8, 9, 10, 11, 12], [0, 1, 2, 3, 4, 5, 6, 7, 8, 9, 10, 11, 12, 13], [0, 1, 2, 3, 4, 5, 6, 7, 8, 9, 10, 11, 12, 13, 14]] [0, 1, 2, 3]) (
  .ret)))
theorem k41 : Try.f41.body.bind (compC Try.prog Try.f41.ntmps v41) = some c41 := by kernel_rfl
theorem e41 : enters Try.prog 41 = true := by kernel_rfl
theorem q41 : Try.f41.results.toList.mapM (compRes Try.prog) = some r41 := by kernel_rfl
/-- bakelite/sound.Skip -/
def v42 : List Nat := [0, 1, 2, 4, 5, 6, 7, 8, 9, 14, 15, 26, 35]
def r42 : List AR := [.cell (some 2) 4]
def c42 : AC :=
  .seq (.reg [
     ⟨(some 2), .new 2 (.t 0), none⟩,
     ⟨(some 4), .zero [(.slice none 0 0), (.slice none 0 0)], none⟩] [0, 1, 2, 4, 5, 6, 7, 8, 9, 14, 15, 26, 35]) (
  .seq (.reg [
     ⟨(some 10), .ld (some 2) (.t 2), none⟩,
     ⟨(some 11), .call 93 [(.t 10)], none⟩,
     ⟨(some 5), .mv (.t 11), none⟩] [0, 1, 2, 4, 5, 6, 7, 8, 9, 14, 15, 26, 35]) (
  .seq (.reg [
     ⟨(some 12), .mv (.t 1), none⟩,
     ⟨(some 13), .mnx false [(.t 12), (.k (.int .i64 10000000))], none⟩,
     ⟨(some 1), .mv (.t 13), none⟩] [0, 1, 2, 4, 5, 6, 7, 8, 9, 14, 15, 26, 35]) (
  .seq (.seq (.reg [
      ⟨(some 14), .mv (.k (.int .i64 0)), none⟩] [0, 1, 2, 4, 5, 6, 7, 8, 9, 14, 15, 26, 35]) (
   .block 0 (.loop (.seq (.reg [
          ⟨(some 15), .bin .lss (.t 14) (.k (.int .i64 2)), none⟩] [0, 1, 2, 4, 5, 6, 7, 8, 9, 14, 15, 26, 35]) (
       .seq (.cond (.t 15) (.skip) (
        .exit 0)) (
       .seq (.block 1 (.seq (.reg [
             ⟨(some 16), .mv (.t 14), none⟩,
             ⟨(some 6), .mv (.t 16), none⟩] [0, 1, 2, 4, 5, 6, 7, 8, 9, 14, 15, 26, 35]) (
          .seq (.reg [
             ⟨(some 17), .mv (.t 5), none⟩,
             ⟨(some 18), .mv (.t 6), none⟩,
             ⟨(some 19), .bin .mul (.t 18) (.k (.int .i64 6)), none⟩,
             ⟨(some 20), .mv (.t 6), none⟩,
             ⟨(some 21), .bin .mul (.t 20) (.k (.int .i64 6)), none⟩,
             ⟨(some 22), .bin .add (.t 21) (.k (.int .i64 6)), none⟩,
             ⟨(some 23), .slc 1 (.t 17) (some (.t 19)) (some (.t 22)), none⟩,
             ⟨(some 7), .mv (.t 23), none⟩] [0, 1, 2, 4, 5, 6, 7, 8, 9, 14, 15, 26, 35]) (
          .seq (.reg [
             ⟨(some 24), .mv (.t 1), none⟩,
             ⟨(some 8), .mv (.t 24), none⟩] [0, 1, 2, 4, 5, 6, 7, 8, 9, 14, 15, 26, 35]) (
          .block 2 (.loop (.seq (.seq (.reg [
                  ⟨(some 25), .mv (.t 8), none⟩,
                  ⟨(some 26), .bin .gtr (.t 25) (.k (.int .i64 0)), none⟩] [0, 1, 2, 4, 5, 6, 7, 8, 9, 14, 15, 26, 35]) (
               .cond (.t 26) (.skip) (
               .exit 2))) (
              .block 3 (.seq (.reg [
                   ⟨(some 27), .mv (.t 7), none⟩,
                   ⟨(some 28), .call 97 [(.t 27)], none⟩,
                   ⟨(some 9), .mv (.t 28), none⟩] [0, 1, 2, 4, 5, 6, 7, 8, 9, 14, 15, 26, 35]) (
                .seq (.seq (.reg [
                    ⟨(some 29), .mv (.t 9), none⟩,
                    ⟨(some 30), .mv (.t 8), none⟩,
                    ⟨(some 31), .bin .geq (.t 29) (.t 30), none⟩,
                    ⟨(some 32), .mv (.t 31), none⟩,
                    ⟨(some 33), .mv (.t 9), (some (32, false))⟩,
                    ⟨(some 34), .bin .eql (.t 33) (.k (.int .i64 100000)), (some (32, false))⟩,
                    ⟨(some 35), .pick (.t 32) (.k (.bool true)) (.t 34), none⟩] [0, 1, 2, 4, 5, 6, 7, 8, 9, 14, 15, 26, 35]) (
                 .cond (.t 35) (.seq (.reg [
                      ⟨(some 36), .mv (.t 7), none⟩,
                      ⟨(some 37), .mv (.t 8), none⟩,
                      ⟨(some 38), .call 98 [(.t 36), (.t 37)], none⟩] [0, 1, 2, 4, 5, 6, 7, 8, 9, 14, 15, 26, 35]) (
                   .exit 2)) (
                 .skip))) (
                .seq (.reg [
                   ⟨(some 39), .mv (.t 7), none⟩,
                   ⟨(some 40), .mv (.t 9), none⟩,
                   ⟨(some 41), .bin .add (.t 40) (.k (.int .i64 1)), none⟩,
                   ⟨(some 42), .call 98 [(.t 39), (.t 41)], none⟩] [0, 1, 2, 4, 5, 6, 7, 8, 9, 14, 15, 26, 35]) (
                .reg [
                  ⟨(some 43), .mv (.t 8), none⟩,
                  ⟨(some 44), .mv (.t 9), none⟩,
                  ⟨(some 45), .bin .add (.t 44) (.k (.int .i64 1)), none⟩,
                  ⟨(some 46), .bin .sub (.t 43) (.t 45), none⟩,
                  ⟨(some 8), .mv (.t 46), none⟩] [0, 1, 2, 4, 5, 6, 7, 8, 9, 14, 15, 26, 35])))))))))))) (
       .reg [
         ⟨(some 47), .bin .add (.t 14) (.k (.int .i64 1)), none⟩,
         ⟨(some 14), .mv (.t 47), none⟩] [0, 1, 2, 4, 5, 6, 7, 8, 9, 14, 15, 26, 35]))))))) (
  .seq (.reg [
     ⟨(some 48), .mv (.t 5), none⟩,
     ⟨(some 49), .build [(.slice none 0 0), (.slice none 0 0)] [(0, 1, (.t 48))], none⟩,
     ⟨none, .st 2 (.t 4) (.t 49), none⟩] [0, 1, 2, 4, 5, 6, 7, 8, 9, 14, 15, 26, 35]) (
  .ret)))))
theorem k42 : Try.f42.body.bind (compC Try.prog Try.f42.ntmps v42) = some c42 := by kernel_rfl
theorem e42 : enters Try.prog 42 = true := by kernel_rfl
theorem q42 : Try.f42.results.toList.mapM (compRes Try.prog) = some r42 := by kernel_rfl
/-- bakelite/sound.Read -/
def v43 : List Nat := [0, 1, 2, 4, 5, 6, 7, 8, 15]
def r43 : List AR := [.cell (some 2) 4, .t 5]
def c43 : AC :=
  .seq (.reg [
     ⟨(some 2), .new 2 (.t 0), none⟩,
     ⟨(some 4), .zero [(.slice none 0 0), (.slice none 0 0)], none⟩,
     ⟨(some 5), .mv (.k (.int .i64 0)), none⟩] [0, 1, 2, 4, 5, 6, 7, 8, 15]) (
  .seq (.reg [
     ⟨(some 9), .ld (some 2) (.t 2), none⟩,
     ⟨(some 10), .call 93 [(.t 9)], none⟩,
     ⟨(some 6), .mv (.t 10), none⟩] [0, 1, 2, 4, 5, 6, 7, 8, 15]) (
  .seq (.reg [
     ⟨(some 7), .mv (.k (.int .i64 0)), none⟩] [0, 1, 2, 4, 5, 6, 7, 8, 15]) (
  .seq (.seq (.reg [
      ⟨(some 11), .mv (.t 6), none⟩,
      ⟨(some 12), .mv (.t 1), none⟩,
      ⟨(some 13), .call 94 [(.t 11), (.t 12)], none⟩,
      ⟨(some 8), .mv (.t 13), none⟩] [0, 1, 2, 4, 5, 6, 7, 8, 15]) (
   .seq (.reg [
      ⟨(some 14), .mv (.t 8), none⟩,
      ⟨(some 15), .eqn true (.t 14), none⟩] [0, 1, 2, 4, 5, 6, 7, 8, 15]) (
   .cond (.t 15) (.dreg [
       ⟨(some 16), .mv (.t 8), none⟩,
       ⟨(some 17), .idx 1 none (.t 16) (.k (.int .i64 0)), none⟩,
       ⟨(some 18), .ld none (.t 17), none⟩,
       ⟨(some 19), .call 99 [(.t 18), (.k (.int .i64 0)), (.k (.int .i64 8))], none⟩,
       ⟨(some 20), .mv (.t 8), none⟩,
       ⟨(some 21), .idx 1 none (.t 20) (.k (.int .i64 0)), none⟩,
       ⟨(some 22), .ld none (.t 21), none⟩,
       ⟨(some 23), .call 99 [(.t 22), (.k (.int .i64 8)), (.k (.int .i64 4))], none⟩,
       ⟨(some 24), .mv (.t 8), none⟩,
       ⟨(some 25), .idx 1 none (.t 24) (.k (.int .i64 1)), none⟩,
       ⟨(some 26), .ld none (.t 25), none⟩,
       ⟨(some 27), .mv (.t 8), none⟩,
       ⟨(some 28), .idx 1 none (.t 27) (.k (.int .i64 2)), none⟩,
       ⟨(some 29), .ld none (.t 28), none⟩,
       ⟨(some 30), .bsl [(.int .i64 0)] 4 [(0, (.t 19)), (1, (.t 23)), (2, (.t 26)), (3, (.t 29))], none⟩,
       ⟨(some 31), .mv (.t 1), none⟩,
       ⟨(some 32), .bin .rem (.t 31) (.k (.int .i64 4)), none⟩,
       ⟨(some 33), .idx 1 none (.t 30) (.t 32), none⟩,
       ⟨(some 34), .ld none (.t 33), none⟩,
       ⟨(some 7), .mv (.t 34), none⟩] [[], [0], [0, 1], [0, 1, 2], [], [4], [4, 5], [0, 1, 2, 3, 4, 5, 6], [], [8], [8, 9], [], [11], [11, 12], [0, 1, 2, 3, 4, 5, 6, 7, 8, 9, 10, 11, 12, 13], [], [15], [0, 1, 2, 3, 4, 5, 6, 7, 8, 9, 10, 11, 12, 13, 14, 15, 16], [0, 1, 2, 3, 4, 5, 6, 7, 8, 9, 10, 11, 12, 13, 14, 15, 16, 17], [0, 1, 2, 3, 4, 5, 6, 7, 8, 9, 10, 11, 12, 13, 14, 15, 16, 17, 18]] [0, 1, 2, 4, 5, 6, 7, 8, 15]) (
   .skip)))) (
  .seq (.reg [
     ⟨(some 35), .mv (.t 6), none⟩,
     ⟨(some 36), .build [(.slice none 0 0), (.slice none 0 0)] [(0, 1, (.t 35))], none⟩,
     ⟨(some 37), .mv (.t 7), none⟩,
     ⟨none, .st 2 (.t 4) (.t 36), none⟩,
     ⟨(some 5), .mv (.t 37), none⟩] [0, 1, 2, 4, 5, 6, 7, 8, 15]) (
  .ret)))))
theorem k43 : Try.f43.body.bind (compC Try.prog Try.f43.ntmps v43) = some c43 := by kernel_rfl
theorem e43 : enters Try.prog 43 = true := by kernel_rfl
theorem q43 : Try.f43.results.toList.mapM (compRes Try.prog) = some r43 := by kernel_rfl
/-- bakelite/sound.fit -/
def v93 : List Nat := [0, 1, 2, 3, 4, 5, 6, 12, 13, 15, 16, 17]
def r93 : List AR := [.t 2]
def c93 : AC :=
  .seq (.reg [
     ⟨(some 1), .new 2 (.t 0), none⟩,
     ⟨(some 2), .mv (.k (.slice none 0 0)), none⟩] [0, 1, 2, 3, 4, 5, 6, 12, 13, 15, 16, 17]) (
  .seq (.reg [
     ⟨(some 7), .mksl [(.int .i64 0)] 8 (.k (.int .i64 12)) (.k (.int .i64 12)), none⟩,
     ⟨(some 3), .mv (.t 7), none⟩] [0, 1, 2, 3, 4, 5, 6, 12, 13, 15, 16, 17]) (
  .seq (.reg [
     ⟨(some 8), .mv (.t 3), none⟩,
     ⟨(some 9), .fad 0 (.t 1), none⟩,
     ⟨(some 10), .ld none (.t 9), none⟩,
     ⟨(some 11), .copy 1 (.t 8) (.t 10), none⟩] [0, 1, 2, 3, 4, 5, 6, 12, 13, 15, 16, 17]) (
  .seq (.seq (.reg [
      ⟨(some 12), .mv (.k (.int .i64 0)), none⟩] [0, 1, 2, 3, 4, 5, 6, 12, 13, 15, 16, 17]) (
   .block 0 (.loop (.seq (.reg [
          ⟨(some 13), .bin .lss (.t 12) (.k (.int .i64 2)), none⟩] [0, 1, 2, 3, 4, 5, 6, 12, 13, 15, 16, 17]) (
       .seq (.cond (.t 13) (.skip) (
        .exit 0)) (
       .seq (.block 1 (.seq (.reg [
             ⟨(some 14), .mv (.t 12), none⟩,
             ⟨(some 4), .mv (.t 14), none⟩] [0, 1, 2, 3, 4, 5, 6, 12, 13, 15, 16, 17]) (
          .seq (.reg [
             ⟨(some 15), .build [(.int .i64 0), (.int .i64 0), (.int .i64 0), (.int .i64 0), (.int .i64 0), (.int .i64 0)] [(0, 1, (.k (.int .i64 12))), (1, 1, (.k (.int .i64 4))), (2, 1, (.k (.int .i64 8))), (3, 1, (.k (.int .i64 12))), (4, 1, (.k (.int .i64 1))), (5, 1, (.k (.int .i64 14)))], none⟩,
             ⟨(some 16), .mv (.k (.int .i64 0)), none⟩] [0, 1, 2, 3, 4, 5, 6, 12, 13, 15, 16, 17]) (
          .block 2 (.loop (.seq (.reg [
                 ⟨(some 17), .bin .lss (.t 16) (.k (.int .i64 6)), none⟩] [0, 1, 2, 3, 4, 5, 6, 12, 13, 15, 16, 17]) (
              .seq (.cond (.t 17) (.skip) (
               .exit 2)) (
              .seq (.block 3 (.seq (.reg [
                    ⟨(some 18), .mv (.t 16), none⟩,
                    ⟨(some 19), .ixa 6 1 none (.t 15) (.t 16), none⟩,
                    ⟨(some 5), .mv (.t 18), none⟩,
                    ⟨(some 6), .mv (.t 19), none⟩] [0, 1, 2, 3, 4, 5, 6, 12, 13, 15, 16, 17]) (
                 .reg [
                   ⟨(some 20), .mv (.t 3), none⟩,
                   ⟨(some 21), .mv (.t 4), none⟩,
                   ⟨(some 22), .bin .mul (.t 21) (.k (.int .i64 6)), none⟩,
                   ⟨(some 23), .mv (.t 5), none⟩,
                   ⟨(some 24), .bin .add (.t 22) (.t 23), none⟩,
                   ⟨(some 25), .mv (.t 3), none⟩,
                   ⟨(some 26), .mv (.t 4), none⟩,
                   ⟨(some 27), .bin .mul (.t 26) (.k (.int .i64 6)), none⟩,
                   ⟨(some 28), .mv (.t 5), none⟩,
                   ⟨(some 29), .bin .add (.t 27) (.t 28), none⟩,
                   ⟨(some 30), .idx 1 none (.t 25) (.t 29), none⟩,
                   ⟨(some 31), .ld none (.t 30), none⟩,
                   ⟨(some 32), .mv (.t 6), none⟩,
                   ⟨(some 33), .call 35 [(.t 31), (.t 32)], none⟩,
                   ⟨(some 34), .idx 1 none (.t 20) (.t 24), none⟩,
                   ⟨none, .st 1 (.t 34) (.t 33), none⟩] [0, 1, 2, 3, 4, 5, 6, 12, 13, 15, 16, 17]))) (
              .reg [
                ⟨(some 35), .bin .add (.t 16) (.k (.int .i64 1)), none⟩,
                ⟨(some 16), .mv (.t 35), none⟩] [0, 1, 2, 3, 4, 5, 6, 12, 13, 15, 16, 17]))))))))) (
       .reg [
         ⟨(some 36), .bin .add (.t 12) (.k (.int .i64 1)), none⟩,
         ⟨(some 12), .mv (.t 36), none⟩] [0, 1, 2, 3, 4, 5, 6, 12, 13, 15, 16, 17]))))))) (
  .seq (.reg [
     ⟨(some 37), .mv (.t 3), none⟩,
     ⟨(some 2), .mv (.t 37), none⟩] [0, 1, 2, 3, 4, 5, 6, 12, 13, 15, 16, 17]) (
  .ret)))))
theorem k93 : Try.f93.body.bind (compC Try.prog Try.f93.ntmps v93) = some c93 := by kernel_rfl
theorem e93 : enters Try.prog 93 = true := by kernel_rfl
theorem q93 : Try.f93.results.toList.mapM (compRes Try.prog) = some r93 := by kernel_rfl
/-- bakelite/sound.voice -/
def v94 : List Nat := [0, 1, 4, 10]
def r94 : List AR := [.t 4]
def c94 : AC :=
  .seq (.reg [
     ⟨(some 4), .mv (.k (.slice none 0 0)), none⟩] [0, 1, 4, 10]) (
  .seq (.seq (.reg [
      ⟨(some 5), .mv (.t 1), none⟩,
      ⟨(some 6), .bin .lss (.t 5) (.k (.int .i64 0)), none⟩,
      ⟨(some 7), .mv (.t 6), none⟩,
      ⟨(some 8), .mv (.t 1), (some (7, false))⟩,
      ⟨(some 9), .bin .geq (.t 8) (.k (.int .i64 8)), (some (7, false))⟩,
      ⟨(some 10), .pick (.t 7) (.k (.bool true)) (.t 9), none⟩] [0, 1, 4, 10]) (
   .cond (.t 10) (.seq (.reg [
        ⟨(some 4), .mv (.k (.slice none 0 0)), none⟩] [0, 1, 4, 10]) (
     .ret)) (
   .skip))) (
  .seq (.reg [
     ⟨(some 11), .mv (.t 0), none⟩,
     ⟨(some 12), .mv (.t 1), none⟩,
     ⟨(some 13), .bin .quo (.t 12) (.k (.int .i64 4)), none⟩,
     ⟨(some 14), .bin .mul (.t 13) (.k (.int .i64 6)), none⟩,
     ⟨(some 15), .mv (.t 1), none⟩,
     ⟨(some 16), .bin .quo (.t 15) (.k (.int .i64 4)), none⟩,
     ⟨(some 17), .bin .mul (.t 16) (.k (.int .i64 6)), none⟩,
     ⟨(some 18), .bin .add (.t 17) (.k (.int .i64 6)), none⟩,
     ⟨(some 19), .slc 1 (.t 11) (some (.t 14)) (some (.t 18)), none⟩,
     ⟨(some 4), .mv (.t 19), none⟩] [0, 1, 4, 10]) (
  .ret)))
theorem k94 : Try.f94.body.bind (compC Try.prog Try.f94.ntmps v94) = some c94 := by kernel_rfl
theorem e94 : enters Try.prog 94 = true := by kernel_rfl
theorem q94 : Try.f94.results.toList.mapM (compRes Try.prog) = some r94 := by kernel_rfl
/-- bakelite/sound.Tick -/
def v96 : List Nat := [0, 1, 2]
def r96 : List AR := [.cell (some 2) 2]
def c96 : AC :=
  .seq (.reg [
     ⟨(some 1), .new 2 (.t 0), none⟩,
     ⟨(some 2), .zero [(.slice none 0 0), (.slice none 0 0)], none⟩] [0, 1, 2]) (
  .seq (.reg [
     ⟨(some 3), .ld (some 2) (.t 1), none⟩,
     ⟨(some 4), .call 42 [(.t 3), (.k (.int .i64 1))], none⟩,
     ⟨none, .st 2 (.t 2) (.t 4), none⟩] [0, 1, 2]) (
  .ret))
theorem k96 : Try.f96.body.bind (compC Try.prog Try.f96.ntmps v96) = some c96 := by kernel_rfl
theorem e96 : enters Try.prog 96 = true := by kernel_rfl
theorem q96 : Try.f96.results.toList.mapM (compRes Try.prog) = some r96 := by kernel_rfl
/-- bakelite/sound.quiet -/
def v97 : List Nat := [0, 2, 3, 7, 28]
def r97 : List AR := [.t 2]
def c97 : AC :=
  .seq (.reg [
     ⟨(some 2), .mv (.k (.int .i64 0)), none⟩] [0, 2, 3, 7, 28]) (
  .seq (.reg [
     ⟨(some 3), .mv (.k (.int .i64 100000)), none⟩] [0, 2, 3, 7, 28]) (
  .seq (.seq (.reg [
      ⟨(some 4), .mv (.t 0), none⟩,
      ⟨(some 5), .idx 1 none (.t 4) (.k (.int .i64 0)), none⟩,
      ⟨(some 6), .ld none (.t 5), none⟩,
      ⟨(some 7), .bin .gtr (.t 6) (.k (.int .i64 0)), none⟩] [0, 2, 3, 7, 28]) (
   .cond (.t 7) (.dreg [
       ⟨(some 8), .mv (.t 3), none⟩,
       ⟨(some 9), .mv (.t 0), none⟩,
       ⟨(some 10), .idx 1 none (.t 9) (.k (.int .i64 0)), none⟩,
       ⟨(some 11), .ld none (.t 10), none⟩,
       ⟨(some 12), .mv (.t 0), none⟩,
       ⟨(some 13), .idx 1 none (.t 12) (.k (.int .i64 3)), none⟩,
       ⟨(some 14), .ld none (.t 13), none⟩,
       ⟨(some 15), .bin .sub (.t 11) (.t 14), none⟩,
       ⟨(some 16), .mnx true [(.k (.int .i64 1)), (.t 15)], none⟩,
       ⟨(some 17), .bin .sub (.t 16) (.k (.int .i64 1)), none⟩,
       ⟨(some 18), .mnx false [(.t 8), (.t 17)], none⟩,
       ⟨(some 3), .mv (.t 18), none⟩] [[], [], [1], [1, 2], [], [4], [4, 5], [1, 2, 3, 4, 5, 6], [1, 2, 3, 4, 5, 6, 7], [1, 2, 3, 4, 5, 6, 7, 8], [0, 1, 2, 3, 4, 5, 6, 7, 8, 9], [0, 1, 2, 3, 4, 5, 6, 7, 8, 9, 10]] [0, 2, 3, 7, 28]) (
   .skip))) (
  .seq (.seq (.reg [
      ⟨(some 19), .mv (.t 0), none⟩,
      ⟨(some 20), .idx 1 none (.t 19) (.k (.int .i64 2)), none⟩,
      ⟨(some 21), .ld none (.t 20), none⟩,
      ⟨(some 22), .bin .gtr (.t 21) (.k (.int .i64 0)), none⟩,
      ⟨(some 23), .mv (.t 22), none⟩,
      ⟨(some 24), .mv (.t 0), (some (23, true))⟩,
      ⟨(some 25), .idx 1 none (.t 24) (.k (.int .i64 1)), (some (23, true))⟩,
      ⟨(some 26), .ld none (.t 25), (some (23, true))⟩,
      ⟨(some 27), .bin .gtr (.t 26) (.k (.int .i64 0)), (some (23, true))⟩,
      ⟨(some 28), .pick (.t 23) (.t 27) (.k (.bool false)), none⟩] [0, 2, 3, 7, 28]) (
   .cond (.t 28) (.dreg [
       ⟨(some 29), .mv (.t 3), none⟩,
       ⟨(some 30), .mv (.t 0), none⟩,
       ⟨(some 31), .idx 1 none (.t 30) (.k (.int .i64 2)), none⟩,
       ⟨(some 32), .ld none (.t 31), none⟩,
       ⟨(some 33), .bin .mul (.t 32) (.k (.int .i64 64)), none⟩,
       ⟨(some 34), .mv (.t 0), none⟩,
       ⟨(some 35), .idx 1 none (.t 34) (.k (.int .i64 5)), none⟩,
       ⟨(some 36), .ld none (.t 35), none⟩,
       ⟨(some 37), .bin .sub (.t 33) (.t 36), none⟩,
       ⟨(some 38), .mnx true [(.k (.int .i64 1)), (.t 37)], none⟩,
       ⟨(some 39), .bin .sub (.t 38) (.k (.int .i64 1)), none⟩,
       ⟨(some 40), .mnx false [(.t 29), (.t 39)], none⟩,
       ⟨(some 3), .mv (.t 40), none⟩] [[], [], [1], [1, 2], [1, 2, 3], [], [5], [5, 6], [1, 2, 3, 4, 5, 6, 7], [1, 2, 3, 4, 5, 6, 7, 8], [1, 2, 3, 4, 5, 6, 7, 8, 9], [0, 1, 2, 3, 4, 5, 6, 7, 8, 9, 10], [0, 1, 2, 3, 4, 5, 6, 7, 8, 9, 10, 11]] [0, 2, 3, 7, 28]) (
   .skip))) (
  .seq (.reg [
     ⟨(some 41), .mv (.t 3), none⟩,
     ⟨(some 2), .mv (.t 41), none⟩] [0, 2, 3, 7, 28]) (
  .ret)))))
theorem k97 : Try.f97.body.bind (compC Try.prog Try.f97.ntmps v97) = some c97 := by kernel_rfl
theorem e97 : enters Try.prog 97 = true := by kernel_rfl
theorem q97 : Try.f97.results.toList.mapM (compRes Try.prog) = some r97 := by kernel_rfl
/-- bakelite/sound.pass -/
def v98 : List Nat := [0, 1, 7, 20, 38, 52]
def r98 : List AR := []
def c98 : AC :=
  .seq (.seq (.reg [
      ⟨(some 4), .mv (.t 0), none⟩,
      ⟨(some 5), .idx 1 none (.t 4) (.k (.int .i64 0)), none⟩,
      ⟨(some 6), .ld none (.t 5), none⟩,
      ⟨(some 7), .bin .gtr (.t 6) (.k (.int .i64 0)), none⟩] [0, 1, 7, 20, 38, 52]) (
   .cond (.t 7) (.seq (.reg [
        ⟨(some 8), .mv (.t 0), none⟩,
        ⟨(some 9), .idx 1 none (.t 8) (.k (.int .i64 3)), none⟩,
        ⟨(some 10), .ld none (.t 9), none⟩,
        ⟨(some 11), .mv (.t 1), none⟩,
        ⟨(some 12), .bin .add (.t 10) (.t 11), none⟩,
        ⟨(some 13), .idx 1 none (.t 8) (.k (.int .i64 3)), none⟩,
        ⟨none, .st 1 (.t 13) (.t 12), none⟩] [0, 1, 7, 20, 38, 52]) (
     .seq (.dreg [
        ⟨(some 14), .mv (.t 0), none⟩,
        ⟨(some 15), .idx 1 none (.t 14) (.k (.int .i64 3)), none⟩,
        ⟨(some 16), .ld none (.t 15), none⟩,
        ⟨(some 17), .mv (.t 0), none⟩,
        ⟨(some 18), .idx 1 none (.t 17) (.k (.int .i64 0)), none⟩,
        ⟨(some 19), .ld none (.t 18), none⟩,
        ⟨(some 20), .bin .geq (.t 16) (.t 19), none⟩] [[], [0], [0, 1], [], [3], [3, 4], [0, 1, 2, 3, 4, 5]] [0, 1, 7, 20, 38, 52]) (
     .cond (.t 20) (.reg [
         ⟨(some 21), .mv (.t 0), none⟩,
         ⟨(some 22), .mv (.t 0), none⟩,
         ⟨(some 23), .mv (.t 0), none⟩,
         ⟨(some 24), .idx 1 none (.t 23) (.k (.int .i64 4)), none⟩,
         ⟨(some 25), .ld none (.t 24), none⟩,
         ⟨(some 26), .bin .sub (.k (.int .i64 1)) (.t 25), none⟩,
         ⟨(some 27), .idx 1 none (.t 21) (.k (.int .i64 3)), none⟩,
         ⟨none, .st 1 (.t 27) (.k (.int .i64 0)), none⟩,
         ⟨(some 28), .idx 1 none (.t 22) (.k (.int .i64 4)), none⟩,
         ⟨none, .st 1 (.t 28) (.t 26), none⟩] [0, 1, 7, 20, 38, 52]) (
     .skip)))) (
   .skip))) (
  .seq (.reg [
     ⟨(some 29), .mv (.t 0), none⟩,
     ⟨(some 30), .idx 1 none (.t 29) (.k (.int .i64 2)), none⟩,
     ⟨(some 31), .ld none (.t 30), none⟩,
     ⟨(some 32), .bin .gtr (.t 31) (.k (.int .i64 0)), none⟩,
     ⟨(some 33), .mv (.t 32), none⟩,
     ⟨(some 34), .mv (.t 0), (some (33, true))⟩,
     ⟨(some 35), .idx 1 none (.t 34) (.k (.int .i64 1)), (some (33, true))⟩,
     ⟨(some 36), .ld none (.t 35), (some (33, true))⟩,
     ⟨(some 37), .bin .gtr (.t 36) (.k (.int .i64 0)), (some (33, true))⟩,
     ⟨(some 38), .pick (.t 33) (.t 37) (.k (.bool false)), none⟩] [0, 1, 7, 20, 38, 52]) (
  .cond (.t 38) (.seq (.reg [
       ⟨(some 39), .mv (.t 0), none⟩,
       ⟨(some 40), .idx 1 none (.t 39) (.k (.int .i64 5)), none⟩,
       ⟨(some 41), .ld none (.t 40), none⟩,
       ⟨(some 42), .mv (.t 1), none⟩,
       ⟨(some 43), .bin .add (.t 41) (.t 42), none⟩,
       ⟨(some 44), .idx 1 none (.t 39) (.k (.int .i64 5)), none⟩,
       ⟨none, .st 1 (.t 44) (.t 43), none⟩] [0, 1, 7, 20, 38, 52]) (
    .seq (.dreg [
       ⟨(some 45), .mv (.t 0), none⟩,
       ⟨(some 46), .idx 1 none (.t 45) (.k (.int .i64 5)), none⟩,
       ⟨(some 47), .ld none (.t 46), none⟩,
       ⟨(some 48), .mv (.t 0), none⟩,
       ⟨(some 49), .idx 1 none (.t 48) (.k (.int .i64 2)), none⟩,
       ⟨(some 50), .ld none (.t 49), none⟩,
       ⟨(some 51), .bin .mul (.t 50) (.k (.int .i64 64)), none⟩,
       ⟨(some 52), .bin .geq (.t 47) (.t 51), none⟩] [[], [0], [0, 1], [], [3], [3, 4], [3, 4, 5], [0, 1, 2, 3, 4, 5, 6]] [0, 1, 7, 20, 38, 52]) (
    .cond (.t 52) (.seq (.reg [
         ⟨(some 53), .mv (.t 0), none⟩,
         ⟨(some 54), .idx 1 none (.t 53) (.k (.int .i64 5)), none⟩,
         ⟨none, .st 1 (.t 54) (.k (.int .i64 0)), none⟩] [0, 1, 7, 20, 38, 52]) (
      .reg [
        ⟨(some 55), .mv (.t 0), none⟩,
        ⟨(some 56), .idx 1 none (.t 55) (.k (.int .i64 1)), none⟩,
        ⟨(some 57), .ld none (.t 56), none⟩,
        ⟨(some 58), .bin .sub (.t 57) (.k (.int .i64 1)), none⟩,
        ⟨(some 59), .idx 1 none (.t 55) (.k (.int .i64 1)), none⟩,
        ⟨none, .st 1 (.t 59) (.t 58), none⟩] [0, 1, 7, 20, 38, 52])) (
    .skip)))) (
  .skip)))
theorem k98 : Try.f98.body.bind (compC Try.prog Try.f98.ntmps v98) = some c98 := by kernel_rfl
theorem e98 : enters Try.prog 98 = true := by kernel_rfl
theorem q98 : Try.f98.results.toList.mapM (compRes Try.prog) = some r98 := by kernel_rfl
end Go.Proofs.Ytjmmompbmjhkpaa.Code
