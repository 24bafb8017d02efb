/- The code of functions (KSound) over abstract values, printed by a program, and that it is what the program's form in Lean turns into. No condition. -/
import Derived.Test.YtjmmompbmjhkpaaProg
import Derived.Test.YtjmmompbmjhkpaaCalcJ
import Derived.KernelRfl
namespace Go.Proofs.Ytjmmompbmjhkpaa.Code
open Go Go.Proofs.Ytjmmompbmjhkpaa.Calc
set_option maxRecDepth 100000
/-- bakelite/bakekeep1.SoundTurns -/
def v6 : List Nat := [0, 1, 4, 5, 6, 7, 17, 18, 19, 20]
def r6 : List AR := [.t 4]
def c6 : AC :=
  .seq (.reg [
     ⟨(some 4), .mv (.k (.bool false)), none⟩] [0, 1, 4, 5, 6, 7, 17, 18, 19, 20]) (
  .seq (.reg [
     ⟨(some 8), .mv (.t 0), none⟩,
     ⟨(some 9), .call 29 [(.t 8), (.k (.int .i64 300))], none⟩,
     ⟨(some 10), .bin .add (.k (.int .i64 1)) (.t 9), none⟩,
     ⟨(some 11), .mv (.t 1), none⟩,
     ⟨(some 12), .call 29 [(.t 11), (.k (.int .i64 2000))], none⟩,
     ⟨(some 0), .mv (.t 10), none⟩,
     ⟨(some 1), .mv (.t 12), none⟩] [0, 1, 4, 5, 6, 7, 17, 18, 19, 20]) (
  .seq (.reg [
     ⟨(some 13), .call 38 [], none⟩,
     ⟨(some 5), .zero [(.slice none 0 0), (.slice none 0 0)], none⟩,
     ⟨none, .st 2 (.t 5) (.t 13), none⟩] [0, 1, 4, 5, 6, 7, 17, 18, 19, 20]) (
  .seq (.seq (.reg [
      ⟨(some 14), .mv (.t 0), none⟩,
      ⟨(some 15), .mv (.t 0), none⟩,
      ⟨(some 16), .bin .shr (.t 15) (.k (.int .u64 8)), none⟩,
      ⟨(some 17), .bsl [(.int .i64 0)] 4 [(0, (.t 14)), (1, (.t 16)), (2, (.k (.int .i64 7))), (3, (.k (.int .i64 0)))], none⟩,
      ⟨(some 18), .len (.t 17), none⟩,
      ⟨(some 19), .mv (.k (.int .i64 0)), none⟩] [0, 1, 4, 5, 6, 7, 17, 18, 19, 20]) (
   .block 0 (.loop (.seq (.reg [
          ⟨(some 20), .bin .lss (.t 19) (.t 18), none⟩] [0, 1, 4, 5, 6, 7, 17, 18, 19, 20]) (
       .seq (.cond (.t 20) (.skip) (
        .exit 0)) (
       .seq (.block 1 (.seq (.reg [
             ⟨(some 21), .mv (.t 19), none⟩,
             ⟨(some 22), .idx 1 none (.t 17) (.t 19), none⟩,
             ⟨(some 23), .ld none (.t 22), none⟩,
             ⟨(some 6), .mv (.t 21), none⟩,
             ⟨(some 7), .mv (.t 23), none⟩] [0, 1, 4, 5, 6, 7, 17, 18, 19, 20]) (
          .reg [
            ⟨(some 24), .ld (some 2) (.t 5), none⟩,
            ⟨(some 25), .mv (.t 6), none⟩,
            ⟨(some 26), .mv (.t 7), none⟩,
            ⟨(some 27), .call 39 [(.t 24), (.t 25), (.t 26)], none⟩,
            ⟨none, .st 2 (.t 5) (.t 27), none⟩] [0, 1, 4, 5, 6, 7, 17, 18, 19, 20]))) (
       .reg [
         ⟨(some 28), .bin .add (.t 19) (.k (.int .i64 1)), none⟩,
         ⟨(some 19), .mv (.t 28), none⟩] [0, 1, 4, 5, 6, 7, 17, 18, 19, 20]))))))) (
  .seq (.dreg [
     ⟨(some 29), .call 40 [], none⟩,
     ⟨(some 30), .mv (.t 29), none⟩,
     ⟨(some 31), .ld (some 2) (.t 5), (some (30, true))⟩,
     ⟨(some 32), .mv (.t 1), (some (30, true))⟩,
     ⟨(some 33), .call 42 [(.t 31), (.t 32)], (some (30, true))⟩,
     ⟨(some 34), .call 41 [(.t 33)], (some (30, true))⟩,
     ⟨(some 35), .mv (.t 1), (some (30, true))⟩,
     ⟨(some 36), .mv (.t 0), (some (30, true))⟩,
     ⟨(some 37), .bin .quo (.t 35) (.t 36), (some (30, true))⟩,
     ⟨(some 38), .bin .rem (.t 37) (.k (.int .i64 2)), (some (30, true))⟩,
     ⟨(some 39), .bin .mul (.k (.int .i64 7)) (.t 38), (some (30, true))⟩,
     ⟨(some 40), .bin .eql (.t 34) (.t 39), (some (30, true))⟩,
     ⟨(some 41), .pick (.t 30) (.t 40) (.k (.bool false)), none⟩,
     ⟨(some 4), .mv (.t 41), none⟩] [[], [0], [0, 1], [0, 1], [0, 1, 2, 3], [0, 1, 2, 3, 4], [0, 1], [0, 1], [0, 1, 6, 7], [0, 1, 6, 7, 8], [0, 1, 6, 7, 8, 9], [0, 1, 2, 3, 4, 5, 6, 7, 8, 9, 10], [0, 1, 2, 3, 4, 5, 6, 7, 8, 9, 10, 11], [0, 1, 2, 3, 4, 5, 6, 7, 8, 9, 10, 11, 12]] [0, 1, 4, 5, 6, 7, 17, 18, 19, 20]) (
  .ret)))))
theorem k6 : Try.f6.body.bind (compC Try.prog Try.f6.ntmps v6) = some c6 := by kernel_rfl
theorem e6 : enters Try.prog 6 = true := by kernel_rfl
theorem q6 : Try.f6.results.toList.mapM (compRes Try.prog) = some r6 := by kernel_rfl
/-- bakelite/bakekeep1.SoundFades -/
def v7 : List Nat := [0, 1, 4, 5, 6, 8, 10]
def r7 : List AR := [.t 4]
def c7 : AC :=
  .seq (.reg [
     ⟨(some 4), .mv (.k (.bool false)), none⟩] [0, 1, 4, 5, 6, 8, 10]) (
  .seq (.reg [
     ⟨(some 11), .mv (.t 0), none⟩,
     ⟨(some 12), .call 29 [(.t 11), (.k (.int .i64 15))], none⟩,
     ⟨(some 13), .bin .add (.k (.int .i64 1)) (.t 12), none⟩,
     ⟨(some 14), .mv (.t 1), none⟩,
     ⟨(some 15), .call 29 [(.t 14), (.k (.int .i64 40))], none⟩,
     ⟨(some 16), .bin .add (.k (.int .i64 1)) (.t 15), none⟩,
     ⟨(some 0), .mv (.t 13), none⟩,
     ⟨(some 1), .mv (.t 16), none⟩] [0, 1, 4, 5, 6, 8, 10]) (
  .seq (.reg [
     ⟨(some 17), .call 38 [], none⟩,
     ⟨(some 18), .mv (.t 1), none⟩,
     ⟨(some 19), .call 39 [(.t 17), (.k (.int .i64 3)), (.t 18)], none⟩,
     ⟨(some 20), .mv (.t 0), none⟩,
     ⟨(some 21), .call 39 [(.t 19), (.k (.int .i64 2)), (.t 20)], none⟩,
     ⟨(some 5), .zero [(.slice none 0 0), (.slice none 0 0)], none⟩,
     ⟨none, .st 2 (.t 5) (.t 21), none⟩] [0, 1, 4, 5, 6, 8, 10]) (
  .seq (.reg [
     ⟨(some 22), .mv (.t 1), none⟩,
     ⟨(some 23), .bin .mul (.k (.int .i64 64)) (.t 22), none⟩,
     ⟨(some 24), .mv (.t 0), none⟩,
     ⟨(some 25), .bin .mul (.t 23) (.t 24), none⟩,
     ⟨(some 6), .mv (.t 25), none⟩] [0, 1, 4, 5, 6, 8, 10]) (
  .seq (.reg [
     ⟨(some 27), .ld (some 2) (.t 5), none⟩,
     ⟨(some 28), .mv (.t 6), none⟩,
     ⟨(some 29), .bin .sub (.t 28) (.k (.int .i64 1)), none⟩,
     ⟨(some 30), .call 42 [(.t 27), (.t 29)], none⟩,
     ⟨(some 31), .call 43 [(.t 30), (.k (.int .i64 2))], none⟩,
     ⟨(some 26), .mv (.t 31), none⟩,
     ⟨(some 32), .ext (.t 26) 0, none⟩,
     ⟨(some 33), .ext (.t 26) 1, none⟩,
     ⟨(some 7), .zero [(.slice none 0 0), (.slice none 0 0)], none⟩,
     ⟨none, .st 2 (.t 7) (.t 32), none⟩,
     ⟨(some 8), .mv (.t 33), none⟩] [0, 1, 4, 5, 6, 8, 10]) (
  .seq (.reg [
     ⟨(some 35), .ld (some 2) (.t 5), none⟩,
     ⟨(some 36), .mv (.t 6), none⟩,
     ⟨(some 37), .call 42 [(.t 35), (.t 36)], none⟩,
     ⟨(some 38), .call 43 [(.t 37), (.k (.int .i64 2))], none⟩,
     ⟨(some 34), .mv (.t 38), none⟩,
     ⟨(some 39), .ext (.t 34) 0, none⟩,
     ⟨(some 40), .ext (.t 34) 1, none⟩,
     ⟨(some 9), .zero [(.slice none 0 0), (.slice none 0 0)], none⟩,
     ⟨none, .st 2 (.t 9) (.t 39), none⟩,
     ⟨(some 10), .mv (.t 40), none⟩] [0, 1, 4, 5, 6, 8, 10]) (
  .seq (.reg [
     ⟨(some 41), .call 40 [], none⟩,
     ⟨(some 42), .mv (.t 41), none⟩,
     ⟨(some 43), .mv (.t 8), (some (42, true))⟩,
     ⟨(some 44), .bin .eql (.t 43) (.k (.int .i64 1)), (some (42, true))⟩,
     ⟨(some 45), .pick (.t 42) (.t 44) (.k (.bool false)), none⟩,
     ⟨(some 46), .mv (.t 45), none⟩,
     ⟨(some 47), .mv (.t 10), (some (46, true))⟩,
     ⟨(some 48), .bin .eql (.t 47) (.k (.int .i64 0)), (some (46, true))⟩,
     ⟨(some 49), .pick (.t 46) (.t 48) (.k (.bool false)), none⟩,
     ⟨(some 4), .mv (.t 49), none⟩] [0, 1, 4, 5, 6, 8, 10]) (
  .ret)))))))
theorem k7 : Try.f7.body.bind (compC Try.prog Try.f7.ntmps v7) = some c7 := by kernel_rfl
theorem e7 : enters Try.prog 7 = true := by kernel_rfl
theorem q7 : Try.f7.results.toList.mapM (compRes Try.prog) = some r7 := by kernel_rfl
/-- bakelite/bakekeep1.sounds -/
def v40 : List Nat := [0]
def r40 : List AR := [.t 0]
def c40 : AC :=
  .seq (.reg [
     ⟨(some 0), .mv (.k (.bool false)), none⟩] [0]) (
  .seq (.reg [
     ⟨(some 1), .call 38 [], none⟩,
     ⟨(some 2), .call 39 [(.t 1), (.k (.int .i64 0)), (.k (.int .i64 1))], none⟩,
     ⟨(some 3), .call 39 [(.t 2), (.k (.int .i64 2)), (.k (.int .i64 15))], none⟩,
     ⟨(some 4), .call 96 [(.t 3)], none⟩,
     ⟨(some 5), .call 41 [(.t 4)], none⟩,
     ⟨(some 6), .bin .eql (.t 5) (.k (.int .i64 15)), none⟩,
     ⟨(some 0), .mv (.t 6), none⟩] [0]) (
  .ret))
theorem k40 : Try.f40.body.bind (compC Try.prog Try.f40.ntmps v40) = some c40 := by kernel_rfl
theorem e40 : enters Try.prog 40 = true := by kernel_rfl
theorem q40 : Try.f40.results.toList.mapM (compRes Try.prog) = some r40 := by kernel_rfl
end Go.Proofs.Ytjmmompbmjhkpaa.Code
