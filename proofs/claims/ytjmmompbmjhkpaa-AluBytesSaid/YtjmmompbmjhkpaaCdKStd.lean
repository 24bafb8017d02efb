/- The code of functions (KStd) over abstract values, printed by a program, and that it is what the program's form in Lean turns into. No condition. -/
import Derived.Test.YtjmmompbmjhkpaaProg
import Derived.Test.YtjmmompbmjhkpaaCalcJ
import Derived.KernelRfl
namespace Go.Proofs.Ytjmmompbmjhkpaa.Code
open Go Go.Proofs.Ytjmmompbmjhkpaa.Calc
set_option maxRecDepth 100000
/-- bakelite/bakekeep1.StdStores -/
def v21 : List (Nat × List Nat) := [(0, [0, 1, 2, 3]), (1, [0, 1, 2, 3]), (2, [1, 3, 9, 10]), (3, [1, 3, 9]), (4, [8])]
def r21 : List AR := [.t 8]
def c21x0 : AC := .seq (.reg [
  ⟨(some 50), .call 82 [], none⟩,
  ⟨(some 51), .mv (.t 50), none⟩,
  ⟨(some 52), .fad 0 (.t 9), (some (51, true))⟩,
  ⟨(some 53), .idx 1 (some 9) (.t 52) (.k (.int .i64 0)), (some (51, true))⟩,
  ⟨(some 54), .ld none (.t 53), (some (51, true))⟩,
  ⟨(some 55), .mv (.t 1), (some (51, true))⟩,
  ⟨(some 56), .bin .eql (.t 54) (.t 55), (some (51, true))⟩,
  ⟨(some 57), .pick (.t 51) (.t 56) (.k (.bool false)), none⟩,
  ⟨(some 58), .mv (.t 57), none⟩,
  ⟨(some 59), .fad 0 (.t 9), (some (58, true))⟩,
  ⟨(some 60), .idx 1 (some 9) (.t 59) (.k (.int .i64 2)), (some (58, true))⟩,
  ⟨(some 61), .ld none (.t 60), (some (58, true))⟩,
  ⟨(some 62), .mv (.t 1), (some (58, true))⟩,
  ⟨(some 63), .bin .eql (.t 61) (.t 62), (some (58, true))⟩,
  ⟨(some 64), .pick (.t 58) (.t 63) (.k (.bool false)), none⟩,
  ⟨(some 65), .mv (.t 64), none⟩,
  ⟨(some 66), .fad 0 (.t 9), (some (65, true))⟩,
  ⟨(some 67), .idx 1 (some 9) (.t 66) (.k (.int .i64 1)), (some (65, true))⟩,
  ⟨(some 68), .ld none (.t 67), (some (65, true))⟩,
  ⟨(some 69), .mv (.t 3), (some (65, true))⟩,
  ⟨(some 70), .bin .eql (.t 68) (.t 69), (some (65, true))⟩,
  ⟨(some 71), .pick (.t 65) (.t 70) (.k (.bool false)), none⟩,
  ⟨(some 72), .mv (.t 71), none⟩,
  ⟨(some 73), .fad 0 (.t 9), (some (72, true))⟩,
  ⟨(some 74), .idx 1 (some 9) (.t 73) (.k (.int .i64 4)), (some (72, true))⟩,
  ⟨(some 75), .ld none (.t 74), (some (72, true))⟩,
  ⟨(some 76), .bin .and (.t 75) (.k (.int .i64 2)), (some (72, true))⟩,
  ⟨(some 77), .bin .neq (.t 76) (.k (.int .i64 0)), (some (72, true))⟩,
  ⟨(some 78), .mv (.t 1), (some (72, true))⟩,
  ⟨(some 79), .bin .eql (.t 78) (.k (.int .i64 0)), (some (72, true))⟩,
  ⟨(some 80), .eqb false (.t 77) (.t 79), (some (72, true))⟩,
  ⟨(some 81), .pick (.t 72) (.t 80) (.k (.bool false)), none⟩,
  ⟨(some 82), .mv (.t 81), none⟩,
  ⟨(some 83), .fad 0 (.t 9), (some (82, true))⟩,
  ⟨(some 84), .idx 1 (some 9) (.t 83) (.k (.int .i64 7)), (some (82, true))⟩,
  ⟨(some 85), .ld none (.t 84), (some (82, true))⟩,
  ⟨(some 86), .bin .eql (.t 85) (.k (.int .i64 1037)), (some (82, true))⟩,
  ⟨(some 87), .pick (.t 82) (.t 86) (.k (.bool false)), none⟩,
  ⟨(some 8), .mv (.t 87), none⟩] [8]) (.ret)
def c21x1 : AC := .seq (.reg [
  ⟨(some 46), .ld (some 12) (.t 9), none⟩,
  ⟨(some 47), .mv (.t 10), none⟩,
  ⟨(some 48), .mki 98 (.t 47), none⟩,
  ⟨(some 49), .call 85 [(.t 46), (.t 48), (.k (.int .i64 6))], none⟩,
  ⟨none, .st 12 (.t 9) (.t 49), none⟩] [1, 3, 9]) (c21x0)
def c21x2 : AC := .seq (.reg [
  ⟨(some 18), .mv (.t 0), none⟩,
  ⟨(some 19), .call 84 [(.k (.string ⟨#[108, 100, 120]⟩)), (.k (.int .i64 1))], none⟩,
  ⟨(some 20), .mv (.t 3), none⟩,
  ⟨(some 21), .cvt .u8 (.t 20), none⟩,
  ⟨(some 22), .call 84 [(.k (.string ⟨#[108, 100, 97]⟩)), (.k (.int .i64 1))], none⟩,
  ⟨(some 23), .mv (.t 1), none⟩,
  ⟨(some 24), .cvt .u8 (.t 23), none⟩,
  ⟨(some 25), .call 84 [(.k (.string ⟨#[115, 116, 97]⟩)), (.k (.int .i64 3))], none⟩,
  ⟨(some 26), .mv (.t 2), none⟩,
  ⟨(some 27), .cvt .u8 (.t 26), none⟩,
  ⟨(some 28), .call 84 [(.k (.string ⟨#[108, 100, 97]⟩)), (.k (.int .i64 1))], none⟩,
  ⟨(some 29), .mv (.t 1), none⟩,
  ⟨(some 30), .bin .add (.t 29) (.k (.int .i64 1)), none⟩,
  ⟨(some 31), .cvt .u8 (.t 30), none⟩,
  ⟨(some 32), .call 84 [(.k (.string ⟨#[108, 100, 97]⟩)), (.k (.int .i64 2))], none⟩,
  ⟨(some 33), .mv (.t 2), none⟩,
  ⟨(some 34), .mv (.t 3), none⟩,
  ⟨(some 35), .bin .add (.t 33) (.t 34), none⟩,
  ⟨(some 36), .cvt .u8 (.t 35), none⟩,
  ⟨(some 37), .call 84 [(.k (.string ⟨#[108, 100, 121]⟩)), (.k (.int .i64 4))], none⟩,
  ⟨(some 38), .mv (.t 2), none⟩,
  ⟨(some 39), .mv (.t 3), none⟩,
  ⟨(some 40), .bin .add (.t 38) (.t 39), none⟩,
  ⟨(some 41), .cvt .u8 (.t 40), none⟩,
  ⟨(some 42), .bsl [(.int .u8 0)] 13 [(0, (.t 19)), (1, (.t 21)), (2, (.t 22)), (3, (.t 24)), (4, (.t 25)), (5, (.t 27)), (6, (.t 28)), (7, (.t 31)), (8, (.t 32)), (9, (.t 36)), (10, (.t 37)), (11, (.t 41)), (12, (.k (.int .u8 0)))], none⟩,
  ⟨(some 43), .call 83 [(.t 18), (.t 42)], none⟩,
  ⟨(some 17), .mv (.t 43), none⟩,
  ⟨(some 44), .ext (.t 17) 0, none⟩,
  ⟨(some 45), .ext (.t 17) 1, none⟩,
  ⟨(some 9), .zero [(.int .i64 0), (.int .i64 0), (.int .i64 0), (.int .i64 0), (.int .i64 0), (.int .i64 0), (.int .i64 0), (.int .i64 0), (.int .i64 0), (.int .i64 0), (.int .i64 0), (.bool false)], none⟩,
  ⟨none, .st 12 (.t 9) (.t 44), none⟩,
  ⟨(some 10), .mv (.t 45), none⟩] [1, 3, 9, 10]) (c21x1)
def c21x3 : AC := .seq (.reg [
  ⟨(some 11), .mv (.t 1), none⟩,
  ⟨(some 12), .call 29 [(.t 11), (.k (.int .i64 256))], none⟩,
  ⟨(some 13), .mv (.t 2), none⟩,
  ⟨(some 14), .call 29 [(.t 13), (.k (.int .i64 200))], none⟩,
  ⟨(some 15), .mv (.t 3), none⟩,
  ⟨(some 16), .call 29 [(.t 15), (.k (.int .i64 50))], none⟩,
  ⟨(some 1), .mv (.t 12), none⟩,
  ⟨(some 2), .mv (.t 14), none⟩,
  ⟨(some 3), .mv (.t 16), none⟩] [0, 1, 2, 3]) (c21x2)
def c21 : AC := .seq (.reg [
  ⟨(some 8), .mv (.k (.bool false)), none⟩] [0, 1, 2, 3]) (c21x3)
theorem k21 : Try.f21.body.bind (compC Try.prog Try.f21.ntmps v21) = some c21 := by kernel_rfl
theorem e21 : enters Try.prog 21 = true := by kernel_rfl
theorem q21 : Try.f21.results.toList.mapM (compRes Try.prog) = some r21 := by kernel_rfl
/-- bakelite/bakekeep1.StdStack -/
def v22 : List (Nat × List Nat) := [(0, [0, 1, 2]), (1, [1, 2, 7, 8]), (2, [1, 2, 7, 8]), (3, [1, 7, 8]), (4, [1, 7, 8, 9]), (5, [1, 7, 9]), (6, [6])]
def r22 : List AR := [.t 6]
def c22x0 : AC := .seq (.dreg [
  ⟨(some 44), .call 82 [], none⟩,
  ⟨(some 45), .mv (.t 44), none⟩,
  ⟨(some 46), .fad 0 (.t 7), (some (45, true))⟩,
  ⟨(some 47), .idx 1 (some 9) (.t 46) (.k (.int .i64 0)), (some (45, true))⟩,
  ⟨(some 48), .ld none (.t 47), (some (45, true))⟩,
  ⟨(some 49), .mv (.t 1), (some (45, true))⟩,
  ⟨(some 50), .call 35 [(.t 49), (.k (.int .i64 8))], (some (45, true))⟩,
  ⟨(some 51), .bin .eql (.t 48) (.t 50), (some (45, true))⟩,
  ⟨(some 52), .pick (.t 45) (.t 51) (.k (.bool false)), none⟩,
  ⟨(some 53), .mv (.t 52), none⟩,
  ⟨(some 54), .fad 0 (.t 7), (some (53, true))⟩,
  ⟨(some 55), .idx 1 (some 9) (.t 54) (.k (.int .i64 3)), (some (53, true))⟩,
  ⟨(some 56), .ld none (.t 55), (some (53, true))⟩,
  ⟨(some 57), .fad 0 (.t 9), (some (53, true))⟩,
  ⟨(some 58), .idx 1 (some 9) (.t 57) (.k (.int .i64 3)), (some (53, true))⟩,
  ⟨(some 59), .ld none (.t 58), (some (53, true))⟩,
  ⟨(some 60), .bin .eql (.t 56) (.t 59), (some (53, true))⟩,
  ⟨(some 61), .pick (.t 53) (.t 60) (.k (.bool false)), none⟩,
  ⟨(some 62), .mv (.t 61), none⟩,
  ⟨(some 63), .fad 0 (.t 7), (some (62, true))⟩,
  ⟨(some 64), .idx 1 (some 9) (.t 63) (.k (.int .i64 1)), (some (62, true))⟩,
  ⟨(some 65), .ld none (.t 64), (some (62, true))⟩,
  ⟨(some 66), .fad 0 (.t 9), (some (62, true))⟩,
  ⟨(some 67), .idx 1 (some 9) (.t 66) (.k (.int .i64 1)), (some (62, true))⟩,
  ⟨(some 68), .ld none (.t 67), (some (62, true))⟩,
  ⟨(some 69), .bin .add (.t 68) (.k (.int .i64 1)), (some (62, true))⟩,
  ⟨(some 70), .call 35 [(.t 69), (.k (.int .i64 8))], (some (62, true))⟩,
  ⟨(some 71), .bin .eql (.t 65) (.t 70), (some (62, true))⟩,
  ⟨(some 72), .pick (.t 62) (.t 71) (.k (.bool false)), none⟩,
  ⟨(some 73), .mv (.t 72), none⟩,
  ⟨(some 74), .fad 0 (.t 7), (some (73, true))⟩,
  ⟨(some 75), .idx 1 (some 9) (.t 74) (.k (.int .i64 7)), (some (73, true))⟩,
  ⟨(some 76), .ld none (.t 75), (some (73, true))⟩,
  ⟨(some 77), .bin .eql (.t 76) (.k (.int .i64 1033)), (some (73, true))⟩,
  ⟨(some 78), .pick (.t 73) (.t 77) (.k (.bool false)), none⟩,
  ⟨(some 6), .mv (.t 78), none⟩] [[], [0], [0, 1], [0, 1, 2], [0, 1, 2, 3], [0, 1], [0, 1, 5], [0, 1, 2, 3, 4, 5, 6], [0, 1, 2, 3, 4, 5, 6, 7], [0, 1, 2, 3, 4, 5, 6, 7, 8], [0, 1, 2, 3, 4, 5, 6, 7, 8, 9], [0, 1, 2, 3, 4, 5, 6, 7, 8, 9, 10], [0, 1, 2, 3, 4, 5, 6, 7, 8, 9, 10, 11], [0, 1, 2, 3, 4, 5, 6, 7, 8, 9], [0, 1, 2, 3, 4, 5, 6, 7, 8, 9, 13], [0, 1, 2, 3, 4, 5, 6, 7, 8, 9, 13, 14], [0, 1, 2, 3, 4, 5, 6, 7, 8, 9, 10, 11, 12, 13, 14, 15], [0, 1, 2, 3, 4, 5, 6, 7, 8, 9, 10, 11, 12, 13, 14, 15, 16], [0, 1, 2, 3, 4, 5, 6, 7, 8, 9, 10, 11, 12, 13, 14, 15, 16, 17], [0, 1, 2, 3, 4, 5, 6, 7, 8, 9, 10, 11, 12, 13, 14, 15, 16, 17, 18], [0, 1, 2, 3, 4, 5, 6, 7, 8, 9, 10, 11, 12, 13, 14, 15, 16, 17, 18, 19], [0, 1, 2, 3, 4, 5, 6, 7, 8, 9, 10, 11, 12, 13, 14, 15, 16, 17, 18, 19, 20], [0, 1, 2, 3, 4, 5, 6, 7, 8, 9, 10, 11, 12, 13, 14, 15, 16, 17, 18], [0, 1, 2, 3, 4, 5, 6, 7, 8, 9, 10, 11, 12, 13, 14, 15, 16, 17, 18, 22], [0, 1, 2, 3, 4, 5, 6, 7, 8, 9, 10, 11, 12, 13, 14, 15, 16, 17, 18, 22, 23], [0, 1, 2, 3, 4, 5, 6, 7, 8, 9, 10, 11, 12, 13, 14, 15, 16, 17, 18, 22, 23, 24], [0, 1, 2, 3, 4, 5, 6, 7, 8, 9, 10, 11, 12, 13, 14, 15, 16, 17, 18, 22, 23, 24, 25], [0, 1, 2, 3, 4, 5, 6, 7, 8, 9, 10, 11, 12, 13, 14, 15, 16, 17, 18, 19, 20, 21, 22, 23, 24, 25, 26], [0, 1, 2, 3, 4, 5, 6, 7, 8, 9, 10, 11, 12, 13, 14, 15, 16, 17, 18, 19, 20, 21, 22, 23, 24, 25, 26, 27], [0, 1, 2, 3, 4, 5, 6, 7, 8, 9, 10, 11, 12, 13, 14, 15, 16, 17, 18, 19, 20, 21, 22, 23, 24, 25, 26, 27, 28], [0, 1, 2, 3, 4, 5, 6, 7, 8, 9, 10, 11, 12, 13, 14, 15, 16, 17, 18, 19, 20, 21, 22, 23, 24, 25, 26, 27, 28, 29], [0, 1, 2, 3, 4, 5, 6, 7, 8, 9, 10, 11, 12, 13, 14, 15, 16, 17, 18, 19, 20, 21, 22, 23, 24, 25, 26, 27, 28, 29, 30], [0, 1, 2, 3, 4, 5, 6, 7, 8, 9, 10, 11, 12, 13, 14, 15, 16, 17, 18, 19, 20, 21, 22, 23, 24, 25, 26, 27, 28, 29, 30, 31], [0, 1, 2, 3, 4, 5, 6, 7, 8, 9, 10, 11, 12, 13, 14, 15, 16, 17, 18, 19, 20, 21, 22, 23, 24, 25, 26, 27, 28, 29, 30, 31, 32], [0, 1, 2, 3, 4, 5, 6, 7, 8, 9, 10, 11, 12, 13, 14, 15, 16, 17, 18, 19, 20, 21, 22, 23, 24, 25, 26, 27, 28, 29, 30, 31, 32, 33], [0, 1, 2, 3, 4, 5, 6, 7, 8, 9, 10, 11, 12, 13, 14, 15, 16, 17, 18, 19, 20, 21, 22, 23, 24, 25, 26, 27, 28, 29, 30, 31, 32, 33, 34]] [6]) (.ret)
def c22x1 : AC := .seq (.reg [
  ⟨(some 40), .ld (some 12) (.t 7), none⟩,
  ⟨(some 41), .mv (.t 8), none⟩,
  ⟨(some 42), .mki 98 (.t 41), none⟩,
  ⟨(some 43), .call 85 [(.t 40), (.t 42), (.k (.int .i64 7))], none⟩,
  ⟨none, .st 12 (.t 7) (.t 43), none⟩] [1, 7, 9]) (c22x0)
def c22x2 : AC := .seq (.reg [
  ⟨(some 39), .ld (some 12) (.t 7), none⟩,
  ⟨(some 9), .zero [(.int .i64 0), (.int .i64 0), (.int .i64 0), (.int .i64 0), (.int .i64 0), (.int .i64 0), (.int .i64 0), (.int .i64 0), (.int .i64 0), (.int .i64 0), (.int .i64 0), (.bool false)], none⟩,
  ⟨none, .st 12 (.t 9) (.t 39), none⟩] [1, 7, 8, 9]) (c22x1)
def c22x3 : AC := .seq (.reg [
  ⟨(some 35), .mv (.t 2), none⟩,
  ⟨(some 36), .call 29 [(.t 35), (.k (.int .i64 256))], none⟩,
  ⟨(some 37), .fad 0 (.t 7), none⟩,
  ⟨(some 38), .idx 1 (some 9) (.t 37) (.k (.int .i64 3)), none⟩,
  ⟨none, .st 1 (.t 38) (.t 36), none⟩] [1, 7, 8]) (c22x2)
def c22x4 : AC := .seq (.dreg [
  ⟨(some 23), .mv (.t 8), none⟩,
  ⟨(some 24), .nilc (.t 23), none⟩,
  ⟨(some 25), .fad 0 (.t 24), none⟩,
  ⟨(some 26), .ld none (.t 25), none⟩,
  ⟨(some 27), .mv (.t 8), none⟩,
  ⟨(some 28), .nilc (.t 27), none⟩,
  ⟨(some 29), .fad 0 (.t 28), none⟩,
  ⟨(some 30), .ld none (.t 29), none⟩,
  ⟨(some 31), .call 84 [(.k (.string ⟨#[105, 110, 120]⟩)), (.k (.int .i64 0))], none⟩,
  ⟨(some 32), .call 84 [(.k (.string ⟨#[114, 116, 115]⟩)), (.k (.int .i64 0))], none⟩,
  ⟨(some 33), .idx 1 none (.t 26) (.k (.int .i64 2048)), none⟩,
  ⟨none, .st 1 (.t 33) (.t 31), none⟩,
  ⟨(some 34), .idx 1 none (.t 30) (.k (.int .i64 2049)), none⟩,
  ⟨none, .st 1 (.t 34) (.t 32), none⟩] [[], [0], [0, 1], [0, 1, 2], [], [4], [4, 5], [4, 5, 6], [], [8], [0, 1, 2, 3, 4, 5, 6, 7, 8, 9], [0, 1, 2, 3, 4, 5, 6, 7, 8, 9, 10], [0, 1, 2, 3, 4, 5, 6, 7, 8, 9, 10, 11], [0, 1, 2, 3, 4, 5, 6, 7, 8, 9, 10, 11, 12]] [1, 2, 7, 8]) (c22x3)
def c22x5 : AC := .seq (.reg [
  ⟨(some 11), .mv (.t 0), none⟩,
  ⟨(some 12), .call 84 [(.k (.string ⟨#[108, 100, 97]⟩)), (.k (.int .i64 1))], none⟩,
  ⟨(some 13), .mv (.t 1), none⟩,
  ⟨(some 14), .cvt .u8 (.t 13), none⟩,
  ⟨(some 15), .call 84 [(.k (.string ⟨#[112, 104, 97]⟩)), (.k (.int .i64 0))], none⟩,
  ⟨(some 16), .call 84 [(.k (.string ⟨#[106, 115, 114]⟩)), (.k (.int .i64 4))], none⟩,
  ⟨(some 17), .call 84 [(.k (.string ⟨#[108, 100, 97]⟩)), (.k (.int .i64 1))], none⟩,
  ⟨(some 18), .call 84 [(.k (.string ⟨#[112, 108, 97]⟩)), (.k (.int .i64 0))], none⟩,
  ⟨(some 19), .bsl [(.int .u8 0)] 9 [(0, (.t 12)), (1, (.t 14)), (2, (.t 15)), (3, (.t 16)), (4, (.k (.int .u8 0))), (5, (.k (.int .u8 8))), (6, (.t 17)), (7, (.k (.int .u8 5))), (8, (.t 18))], none⟩,
  ⟨(some 20), .call 83 [(.t 11), (.t 19)], none⟩,
  ⟨(some 10), .mv (.t 20), none⟩,
  ⟨(some 21), .ext (.t 10) 0, none⟩,
  ⟨(some 22), .ext (.t 10) 1, none⟩,
  ⟨(some 7), .zero [(.int .i64 0), (.int .i64 0), (.int .i64 0), (.int .i64 0), (.int .i64 0), (.int .i64 0), (.int .i64 0), (.int .i64 0), (.int .i64 0), (.int .i64 0), (.int .i64 0), (.bool false)], none⟩,
  ⟨none, .st 12 (.t 7) (.t 21), none⟩,
  ⟨(some 8), .mv (.t 22), none⟩] [1, 2, 7, 8]) (c22x4)
def c22 : AC := .seq (.reg [
  ⟨(some 6), .mv (.k (.bool false)), none⟩] [0, 1, 2]) (c22x5)
theorem k22 : Try.f22.body.bind (compC Try.prog Try.f22.ntmps v22) = some c22 := by kernel_rfl
theorem e22 : enters Try.prog 22 = true := by kernel_rfl
theorem q22 : Try.f22.results.toList.mapM (compRes Try.prog) = some r22 := by kernel_rfl
/-- bakelite/bakekeep1.StdCounts -/
def v23 : List (Nat × List Nat) := [(0, [0, 1]), (1, [0, 1]), (2, [1, 5, 6]), (3, [1, 5]), (4, [4])]
def r23 : List AR := [.t 4]
def c23x0 : AC := .seq (.reg [
  ⟨(some 31), .call 82 [], none⟩,
  ⟨(some 32), .mv (.t 31), none⟩,
  ⟨(some 33), .fad 0 (.t 5), (some (32, true))⟩,
  ⟨(some 34), .idx 1 (some 9) (.t 33) (.k (.int .i64 1)), (some (32, true))⟩,
  ⟨(some 35), .ld none (.t 34), (some (32, true))⟩,
  ⟨(some 36), .bin .eql (.t 35) (.k (.int .i64 0)), (some (32, true))⟩,
  ⟨(some 37), .pick (.t 32) (.t 36) (.k (.bool false)), none⟩,
  ⟨(some 38), .mv (.t 37), none⟩,
  ⟨(some 39), .fad 0 (.t 5), (some (38, true))⟩,
  ⟨(some 40), .idx 1 (some 9) (.t 39) (.k (.int .i64 2)), (some (38, true))⟩,
  ⟨(some 41), .ld none (.t 40), (some (38, true))⟩,
  ⟨(some 42), .mv (.t 1), (some (38, true))⟩,
  ⟨(some 43), .bin .eql (.t 41) (.t 42), (some (38, true))⟩,
  ⟨(some 44), .pick (.t 38) (.t 43) (.k (.bool false)), none⟩,
  ⟨(some 45), .mv (.t 44), none⟩,
  ⟨(some 46), .fad 0 (.t 5), (some (45, true))⟩,
  ⟨(some 47), .idx 1 (some 9) (.t 46) (.k (.int .i64 7)), (some (45, true))⟩,
  ⟨(some 48), .ld none (.t 47), (some (45, true))⟩,
  ⟨(some 49), .bin .eql (.t 48) (.k (.int .i64 1032)), (some (45, true))⟩,
  ⟨(some 50), .pick (.t 45) (.t 49) (.k (.bool false)), none⟩,
  ⟨(some 4), .mv (.t 50), none⟩] [4]) (.ret)
def c23x1 : AC := .seq (.reg [
  ⟨(some 24), .ld (some 12) (.t 5), none⟩,
  ⟨(some 25), .mv (.t 6), none⟩,
  ⟨(some 26), .mki 98 (.t 25), none⟩,
  ⟨(some 27), .mv (.t 1), none⟩,
  ⟨(some 28), .bin .mul (.k (.int .i64 3)) (.t 27), none⟩,
  ⟨(some 29), .bin .add (.k (.int .i64 2)) (.t 28), none⟩,
  ⟨(some 30), .call 85 [(.t 24), (.t 26), (.t 29)], none⟩,
  ⟨none, .st 12 (.t 5) (.t 30), none⟩] [1, 5]) (c23x0)
def c23x2 : AC := .seq (.reg [
  ⟨(some 11), .mv (.t 0), none⟩,
  ⟨(some 12), .call 84 [(.k (.string ⟨#[108, 100, 120]⟩)), (.k (.int .i64 1))], none⟩,
  ⟨(some 13), .mv (.t 1), none⟩,
  ⟨(some 14), .cvt .u8 (.t 13), none⟩,
  ⟨(some 15), .call 84 [(.k (.string ⟨#[108, 100, 121]⟩)), (.k (.int .i64 1))], none⟩,
  ⟨(some 16), .call 84 [(.k (.string ⟨#[105, 110, 121]⟩)), (.k (.int .i64 0))], none⟩,
  ⟨(some 17), .call 84 [(.k (.string ⟨#[100, 101, 120]⟩)), (.k (.int .i64 0))], none⟩,
  ⟨(some 18), .call 84 [(.k (.string ⟨#[98, 110, 101]⟩)), (.k (.int .i64 7))], none⟩,
  ⟨(some 19), .call 84 [(.k (.string ⟨#[110, 111, 112]⟩)), (.k (.int .i64 0))], none⟩,
  ⟨(some 20), .bsl [(.int .u8 0)] 9 [(0, (.t 12)), (1, (.t 14)), (2, (.t 15)), (3, (.k (.int .u8 0))), (4, (.t 16)), (5, (.t 17)), (6, (.t 18)), (7, (.k (.int .u8 252))), (8, (.t 19))], none⟩,
  ⟨(some 21), .call 83 [(.t 11), (.t 20)], none⟩,
  ⟨(some 10), .mv (.t 21), none⟩,
  ⟨(some 22), .ext (.t 10) 0, none⟩,
  ⟨(some 23), .ext (.t 10) 1, none⟩,
  ⟨(some 5), .zero [(.int .i64 0), (.int .i64 0), (.int .i64 0), (.int .i64 0), (.int .i64 0), (.int .i64 0), (.int .i64 0), (.int .i64 0), (.int .i64 0), (.int .i64 0), (.int .i64 0), (.bool false)], none⟩,
  ⟨none, .st 12 (.t 5) (.t 22), none⟩,
  ⟨(some 6), .mv (.t 23), none⟩] [1, 5, 6]) (c23x1)
def c23x3 : AC := .seq (.reg [
  ⟨(some 7), .mv (.t 1), none⟩,
  ⟨(some 8), .call 29 [(.t 7), (.k (.int .i64 40))], none⟩,
  ⟨(some 9), .bin .add (.k (.int .i64 1)) (.t 8), none⟩,
  ⟨(some 1), .mv (.t 9), none⟩] [0, 1]) (c23x2)
def c23 : AC := .seq (.reg [
  ⟨(some 4), .mv (.k (.bool false)), none⟩] [0, 1]) (c23x3)
theorem k23 : Try.f23.body.bind (compC Try.prog Try.f23.ntmps v23) = some c23 := by kernel_rfl
theorem e23 : enters Try.prog 23 = true := by kernel_rfl
theorem q23 : Try.f23.results.toList.mapM (compRes Try.prog) = some r23 := by kernel_rfl
/-- bakelite/bakekeep1.StdAnswers -/
def v24 : List (Nat × List Nat) := [(0, [0, 1]), (1, [1, 5, 6]), (2, [1, 5, 6]), (3, [1, 5, 6]), (4, [1, 5, 6]), (5, [1, 5, 6, 7]), (6, [5, 6, 7, 40]), (7, [5, 6, 7]), (8, [5, 6, 7, 8]), (9, [5, 6, 7, 8, 9]), (10, [5, 6, 7, 8, 9, 45]), (11, [5, 6, 7, 8, 9]), (12, [5, 6, 7, 8, 9]), (13, [5, 6, 7, 79]), (14, [4]), (15, [5, 7]), (16, [5, 7]), (17, [4])]
def r24 : List AR := [.t 4]
def c24x0 : AC := .seq (.reg [
  ⟨(some 94), .ld (some 12) (.t 5), none⟩,
  ⟨(some 95), .ld (some 12) (.t 7), none⟩,
  ⟨(some 96), .eqs [.i .i64, .i .i64, .i .i64, .i .i64, .i .i64, .i .i64, .i .i64, .i .i64, .i .i64, .i .i64, .i .i64, .b] false (.t 94) (.t 95), none⟩,
  ⟨(some 4), .mv (.t 96), none⟩] [4]) (.ret)
def c24x1 : AC := .seq (.dreg [
  ⟨(some 84), .fad 0 (.t 7), none⟩,
  ⟨(some 85), .idx 1 (some 9) (.t 84) (.k (.int .i64 5)), none⟩,
  ⟨(some 86), .ld none (.t 85), none⟩,
  ⟨(some 87), .fad 0 (.t 7), none⟩,
  ⟨(some 88), .idx 1 (some 9) (.t 87) (.k (.int .i64 6)), none⟩,
  ⟨(some 89), .ld none (.t 88), none⟩,
  ⟨(some 90), .fad 0 (.t 5), none⟩,
  ⟨(some 91), .idx 1 (some 9) (.t 90) (.k (.int .i64 5)), none⟩,
  ⟨none, .st 1 (.t 91) (.t 86), none⟩,
  ⟨(some 92), .fad 0 (.t 5), none⟩,
  ⟨(some 93), .idx 1 (some 9) (.t 92) (.k (.int .i64 6)), none⟩,
  ⟨none, .st 1 (.t 93) (.t 89), none⟩] [[], [0], [0, 1], [], [3], [3, 4], [], [0, 1, 2, 6], [0, 1, 2, 6, 7], [], [0, 1, 2, 3, 4, 5, 6, 7, 8, 9], [0, 1, 2, 3, 4, 5, 6, 7, 8, 9, 10]] [5, 7]) (c24x0)
def c24x2 : AC := .seq (.reg [
  ⟨(some 80), .ld (some 12) (.t 5), none⟩,
  ⟨(some 81), .mv (.t 6), none⟩,
  ⟨(some 82), .mki 98 (.t 81), none⟩,
  ⟨(some 83), .call 85 [(.t 80), (.t 82), (.k (.int .i64 1))], none⟩,
  ⟨none, .st 12 (.t 5) (.t 83), none⟩] [5, 7]) (c24x1)
def c24x3 : AC := .seq (.reg [
  ⟨(some 4), .mv (.k (.bool false)), none⟩] [4]) (.ret)
def c24x4 : AC := .cond (.t 79) (c24x3) (.skip)
def c24x5 : AC := .seq (.reg [
  ⟨(some 56), .call 82 [], none⟩,
  ⟨(some 57), .not (.t 56), none⟩,
  ⟨(some 58), .mv (.t 57), none⟩,
  ⟨(some 59), .fad 9 (.t 5), (some (58, false))⟩,
  ⟨(some 60), .ld none (.t 59), (some (58, false))⟩,
  ⟨(some 61), .bin .neq (.t 60) (.k (.int .i64 (-1))), (some (58, false))⟩,
  ⟨(some 62), .pick (.t 58) (.k (.bool true)) (.t 61), none⟩,
  ⟨(some 63), .mv (.t 62), none⟩,
  ⟨(some 64), .fad 0 (.t 5), (some (63, false))⟩,
  ⟨(some 65), .idx 1 (some 9) (.t 64) (.k (.int .i64 7)), (some (63, false))⟩,
  ⟨(some 66), .ld none (.t 65), (some (63, false))⟩,
  ⟨(some 67), .bin .neq (.t 66) (.k (.int .i64 2048)), (some (63, false))⟩,
  ⟨(some 68), .pick (.t 63) (.k (.bool true)) (.t 67), none⟩,
  ⟨(some 69), .mv (.t 68), none⟩,
  ⟨(some 70), .fad 0 (.t 5), (some (69, false))⟩,
  ⟨(some 71), .idx 1 (some 9) (.t 70) (.k (.int .i64 4)), (some (69, false))⟩,
  ⟨(some 72), .ld none (.t 71), (some (69, false))⟩,
  ⟨(some 73), .bin .and (.t 72) (.k (.int .i64 4)), (some (69, false))⟩,
  ⟨(some 74), .bin .eql (.t 73) (.k (.int .i64 0)), (some (69, false))⟩,
  ⟨(some 75), .pick (.t 69) (.k (.bool true)) (.t 74), none⟩,
  ⟨(some 76), .mv (.t 75), none⟩,
  ⟨(some 77), .fad 11 (.t 5), (some (76, false))⟩,
  ⟨(some 78), .ld none (.t 77), (some (76, false))⟩,
  ⟨(some 79), .pick (.t 76) (.k (.bool true)) (.t 78), none⟩] [5, 6, 7, 79]) (c24x4)
def c24x6 : AC := .seq (c24x5) (c24x2)
def c24x7 : AC := .reg [
  ⟨(some 46), .mv (.t 9), none⟩,
  ⟨(some 47), .bin .add (.t 46) (.k (.int .i64 1)), none⟩,
  ⟨(some 9), .mv (.t 47), none⟩] [5, 6, 7, 8, 9]
def c24x8 : AC := .reg [
  ⟨(some 49), .ld (some 5) (.t 8), none⟩,
  ⟨(some 50), .ld (some 12) (.t 5), none⟩,
  ⟨(some 51), .mv (.t 6), none⟩,
  ⟨(some 52), .mki 98 (.t 51), none⟩,
  ⟨(some 53), .call 86 [(.t 49), (.t 50), (.k (.bool true)), (.t 52)], none⟩,
  ⟨(some 48), .mv (.t 53), none⟩,
  ⟨(some 54), .ext (.t 48) 0, none⟩,
  ⟨(some 55), .ext (.t 48) 1, none⟩,
  ⟨none, .st 12 (.t 5) (.t 54), none⟩] [5, 6, 7, 8, 9]
def c24x9 : AC := .block 1 (c24x8)
def c24x10 : AC := .seq (c24x9) (c24x7)
def c24x11 : AC := .cond (.t 45) (.skip) (.exit 0)
def c24x12 : AC := .seq (.reg [
  ⟨(some 44), .mv (.t 9), none⟩,
  ⟨(some 45), .bin .lss (.t 44) (.k (.int .i64 6)), none⟩] [5, 6, 7, 8, 9, 45]) (c24x11)
def c24x13 : AC := .seq (c24x12) (c24x10)
def c24x14 : AC := .loop (c24x13)
def c24x15 : AC := .block 0 (c24x14)
def c24x16 : AC := .seq (c24x15) (c24x6)
def c24x17 : AC := .seq (.reg [
  ⟨(some 9), .mv (.k (.int .i64 0)), none⟩] [5, 6, 7, 8, 9]) (c24x16)
def c24x18 : AC := .seq (.reg [
  ⟨(some 43), .call 78 [], none⟩,
  ⟨(some 8), .zero [(.string ⟨#[]⟩), (.slice none 0 0), (.slice none 0 0), (.slice none 0 0), (.slice none 0 0)], none⟩,
  ⟨none, .st 5 (.t 8) (.t 43), none⟩] [5, 6, 7, 8]) (c24x17)
def c24x19 : AC := .reg [
  ⟨(some 41), .ld (some 12) (.t 5), none⟩,
  ⟨(some 42), .call 79 [(.t 41)], none⟩,
  ⟨none, .st 12 (.t 5) (.t 42), none⟩] [5, 6, 7]
def c24x20 : AC := .cond (.t 40) (c24x19) (.skip)
def c24x21 : AC := .seq (.reg [
  ⟨(some 40), .mv (.t 1), none⟩] [5, 6, 7, 40]) (c24x20)
def c24x22 : AC := .seq (c24x21) (c24x18)
def c24x23 : AC := .seq (.reg [
  ⟨(some 39), .ld (some 12) (.t 5), none⟩,
  ⟨(some 7), .zero [(.int .i64 0), (.int .i64 0), (.int .i64 0), (.int .i64 0), (.int .i64 0), (.int .i64 0), (.int .i64 0), (.int .i64 0), (.int .i64 0), (.int .i64 0), (.int .i64 0), (.bool false)], none⟩,
  ⟨none, .st 12 (.t 7) (.t 39), none⟩] [1, 5, 6, 7]) (c24x22)
def c24x24 : AC := .seq (.dreg [
  ⟨(some 29), .mv (.t 6), none⟩,
  ⟨(some 30), .nilc (.t 29), none⟩,
  ⟨(some 31), .fad 0 (.t 30), none⟩,
  ⟨(some 32), .ld none (.t 31), none⟩,
  ⟨(some 33), .mv (.t 6), none⟩,
  ⟨(some 34), .nilc (.t 33), none⟩,
  ⟨(some 35), .fad 0 (.t 34), none⟩,
  ⟨(some 36), .ld none (.t 35), none⟩,
  ⟨(some 37), .idx 1 none (.t 32) (.k (.int .i64 65531)), none⟩,
  ⟨none, .st 1 (.t 37) (.k (.int .u8 8)), none⟩,
  ⟨(some 38), .idx 1 none (.t 36) (.k (.int .i64 65535)), none⟩,
  ⟨none, .st 1 (.t 38) (.k (.int .u8 8)), none⟩] [[], [0], [0, 1], [0, 1, 2], [], [4], [4, 5], [4, 5, 6], [0, 1, 2, 3, 4, 5, 6, 7], [0, 1, 2, 3, 4, 5, 6, 7, 8], [0, 1, 2, 3, 4, 5, 6, 7, 8, 9], [0, 1, 2, 3, 4, 5, 6, 7, 8, 9, 10]] [1, 5, 6]) (c24x23)
def c24x25 : AC := .seq (.dreg [
  ⟨(some 23), .mv (.t 6), none⟩,
  ⟨(some 24), .nilc (.t 23), none⟩,
  ⟨(some 25), .fad 0 (.t 24), none⟩,
  ⟨(some 26), .ld none (.t 25), none⟩,
  ⟨(some 27), .call 84 [(.k (.string ⟨#[114, 116, 105]⟩)), (.k (.int .i64 0))], none⟩,
  ⟨(some 28), .idx 1 none (.t 26) (.k (.int .i64 2048)), none⟩,
  ⟨none, .st 1 (.t 28) (.t 27), none⟩] [[], [0], [0, 1], [0, 1, 2], [], [0, 1, 2, 3, 4], [0, 1, 2, 3, 4, 5]] [1, 5, 6]) (c24x24)
def c24x26 : AC := .seq (.reg [
  ⟨(some 17), .fad 0 (.t 5), none⟩,
  ⟨(some 18), .idx 1 (some 9) (.t 17) (.k (.int .i64 4)), none⟩,
  ⟨(some 19), .ld none (.t 18), none⟩,
  ⟨(some 20), .bin .andNot (.t 19) (.k (.int .i64 4)), none⟩,
  ⟨(some 21), .fad 0 (.t 5), none⟩,
  ⟨(some 22), .idx 1 (some 9) (.t 21) (.k (.int .i64 4)), none⟩,
  ⟨none, .st 1 (.t 22) (.t 20), none⟩] [1, 5, 6]) (c24x25)
def c24x27 : AC := .seq (.reg [
  ⟨(some 11), .mv (.t 0), none⟩,
  ⟨(some 12), .call 84 [(.k (.string ⟨#[110, 111, 112]⟩)), (.k (.int .i64 0))], none⟩,
  ⟨(some 13), .bsl [(.int .u8 0)] 1 [(0, (.t 12))], none⟩,
  ⟨(some 14), .call 83 [(.t 11), (.t 13)], none⟩,
  ⟨(some 10), .mv (.t 14), none⟩,
  ⟨(some 15), .ext (.t 10) 0, none⟩,
  ⟨(some 16), .ext (.t 10) 1, none⟩,
  ⟨(some 5), .zero [(.int .i64 0), (.int .i64 0), (.int .i64 0), (.int .i64 0), (.int .i64 0), (.int .i64 0), (.int .i64 0), (.int .i64 0), (.int .i64 0), (.int .i64 0), (.int .i64 0), (.bool false)], none⟩,
  ⟨none, .st 12 (.t 5) (.t 15), none⟩,
  ⟨(some 6), .mv (.t 16), none⟩] [1, 5, 6]) (c24x26)
def c24 : AC := .seq (.reg [
  ⟨(some 4), .mv (.k (.bool false)), none⟩] [0, 1]) (c24x27)
theorem k24 : Try.f24.body.bind (compC Try.prog Try.f24.ntmps v24) = some c24 := by kernel_rfl
theorem e24 : enters Try.prog 24 = true := by kernel_rfl
theorem q24 : Try.f24.results.toList.mapM (compRes Try.prog) = some r24 := by kernel_rfl
/-- bakelite/bakekeep1.WholeTimes -/
def v25 : List (Nat × List Nat) := [(0, [0, 1, 2]), (1, [0, 1, 2, 7]), (2, [0, 1, 2, 7, 22]), (3, [6]), (4, [0, 1, 7, 8]), (5, [7, 8, 9, 10]), (6, [8, 9, 11]), (7, [8, 9, 11, 12, 13]), (8, [6])]
def r25 : List AR := [.t 6]
def c25x0 : AC := .seq (.dreg [
  ⟨(some 57), .fad 9 (.t 9), none⟩,
  ⟨(some 58), .ld none (.t 57), none⟩,
  ⟨(some 59), .bin .eql (.t 58) (.k (.int .i64 (-1))), none⟩,
  ⟨(some 60), .mv (.t 59), none⟩,
  ⟨(some 61), .mv (.t 11), (some (60, true))⟩,
  ⟨(some 62), .len (.t 61), (some (60, true))⟩,
  ⟨(some 63), .mv (.t 12), (some (60, true))⟩,
  ⟨(some 64), .bin .geq (.t 62) (.t 63), (some (60, true))⟩,
  ⟨(some 65), .pick (.t 60) (.t 64) (.k (.bool false)), none⟩,
  ⟨(some 66), .mv (.t 65), none⟩,
  ⟨(some 67), .mv (.t 11), (some (66, true))⟩,
  ⟨(some 68), .len (.t 67), (some (66, true))⟩,
  ⟨(some 69), .mv (.t 13), (some (66, true))⟩,
  ⟨(some 70), .bin .leq (.t 68) (.t 69), (some (66, true))⟩,
  ⟨(some 71), .pick (.t 66) (.t 70) (.k (.bool false)), none⟩,
  ⟨(some 72), .mv (.t 71), none⟩,
  ⟨(some 73), .mv (.t 11), (some (72, true))⟩,
  ⟨(some 74), .idx 3 none (.t 73) (.k (.int .i64 0)), (some (72, true))⟩,
  ⟨(some 75), .ld (some 3) (.t 74), (some (72, true))⟩,
  ⟨(some 76), .fad 0 (.t 8), (some (72, true))⟩,
  ⟨(some 77), .ld none (.t 76), (some (72, true))⟩,
  ⟨(some 78), .build [(.int .i64 0), (.int .i64 0), (.int .i64 0)] [(0, 1, (.k (.int .i64 1))), (1, 1, (.k (.int .i64 1024))), (2, 1, (.t 77))], (some (72, true))⟩,
  ⟨(some 79), .eqs [.i .i64, .i .i64, .i .i64] false (.t 75) (.t 78), (some (72, true))⟩,
  ⟨(some 80), .pick (.t 72) (.t 79) (.k (.bool false)), none⟩,
  ⟨(some 6), .mv (.t 80), none⟩] [[], [0], [0, 1], [0, 1, 2], [0, 1, 2, 3], [0, 1, 2, 3, 4], [0, 1, 2, 3], [0, 1, 2, 3, 4, 5, 6], [0, 1, 2, 3, 4, 5, 6, 7], [0, 1, 2, 3, 4, 5, 6, 7, 8], [0, 1, 2, 3, 4, 5, 6, 7, 8, 9], [0, 1, 2, 3, 4, 5, 6, 7, 8, 9, 10], [0, 1, 2, 3, 4, 5, 6, 7, 8, 9], [0, 1, 2, 3, 4, 5, 6, 7, 8, 9, 10, 11, 12], [0, 1, 2, 3, 4, 5, 6, 7, 8, 9, 10, 11, 12, 13], [0, 1, 2, 3, 4, 5, 6, 7, 8, 9, 10, 11, 12, 13, 14], [0, 1, 2, 3, 4, 5, 6, 7, 8, 9, 10, 11, 12, 13, 14, 15], [0, 1, 2, 3, 4, 5, 6, 7, 8, 9, 10, 11, 12, 13, 14, 15, 16], [0, 1, 2, 3, 4, 5, 6, 7, 8, 9, 10, 11, 12, 13, 14, 15, 16, 17], [0, 1, 2, 3, 4, 5, 6, 7, 8, 9, 10, 11, 12, 13, 14, 15], [0, 1, 2, 3, 4, 5, 6, 7, 8, 9, 10, 11, 12, 13, 14, 15, 19], [0, 1, 2, 3, 4, 5, 6, 7, 8, 9, 10, 11, 12, 13, 14, 15, 19, 20], [0, 1, 2, 3, 4, 5, 6, 7, 8, 9, 10, 11, 12, 13, 14, 15, 16, 17, 18, 19, 20, 21], [0, 1, 2, 3, 4, 5, 6, 7, 8, 9, 10, 11, 12, 13, 14, 15, 16, 17, 18, 19, 20, 21, 22], [0, 1, 2, 3, 4, 5, 6, 7, 8, 9, 10, 11, 12, 13, 14, 15, 16, 17, 18, 19, 20, 21, 22, 23]] [6]) (.ret)
def c25x1 : AC := .seq (.reg [
  ⟨(some 53), .ld (some 4) (.t 8), none⟩,
  ⟨(some 54), .call 72 [(.t 53)], none⟩,
  ⟨(some 52), .mv (.t 54), none⟩,
  ⟨(some 55), .ext (.t 52) 0, none⟩,
  ⟨(some 56), .ext (.t 52) 1, none⟩,
  ⟨(some 12), .mv (.t 55), none⟩,
  ⟨(some 13), .mv (.t 56), none⟩] [8, 9, 11, 12, 13]) (c25x0)
def c25x2 : AC := .seq (.reg [
  ⟨(some 45), .ld (some 5) (.t 7), none⟩,
  ⟨(some 46), .ld (some 12) (.t 9), none⟩,
  ⟨(some 47), .mv (.t 10), none⟩,
  ⟨(some 48), .mki 98 (.t 47), none⟩,
  ⟨(some 49), .call 80 [(.t 45), (.t 46), (.t 48)], none⟩,
  ⟨(some 44), .mv (.t 49), none⟩,
  ⟨(some 50), .ext (.t 44) 0, none⟩,
  ⟨(some 51), .ext (.t 44) 1, none⟩,
  ⟨none, .st 12 (.t 9) (.t 50), none⟩,
  ⟨(some 11), .mv (.t 51), none⟩] [8, 9, 11]) (c25x1)
def c25x3 : AC := .seq (.dreg [
  ⟨(some 33), .mv (.t 0), none⟩,
  ⟨(some 34), .fad 0 (.t 8), none⟩,
  ⟨(some 35), .ld none (.t 34), none⟩,
  ⟨(some 36), .cvt .u8 (.t 35), none⟩,
  ⟨(some 37), .bsl [(.int .u8 0)] 1 [(0, (.t 36))], none⟩,
  ⟨(some 38), .mv (.t 1), none⟩,
  ⟨(some 39), .call 44 [(.t 38), (.k (.int .i64 2))], none⟩,
  ⟨(some 40), .app 1 1 (.t 37) (.t 39), none⟩,
  ⟨(some 41), .call 83 [(.t 33), (.t 40)], none⟩,
  ⟨(some 32), .mv (.t 41), none⟩,
  ⟨(some 42), .ext (.t 32) 0, none⟩,
  ⟨(some 43), .ext (.t 32) 1, none⟩,
  ⟨(some 9), .zero [(.int .i64 0), (.int .i64 0), (.int .i64 0), (.int .i64 0), (.int .i64 0), (.int .i64 0), (.int .i64 0), (.int .i64 0), (.int .i64 0), (.int .i64 0), (.int .i64 0), (.bool false)], none⟩,
  ⟨none, .st 12 (.t 9) (.t 42), none⟩,
  ⟨(some 10), .mv (.t 43), none⟩] [[], [], [1], [1, 2], [1, 2, 3], [], [5], [1, 2, 3, 4, 5, 6], [0, 1, 2, 3, 4, 5, 6, 7], [0, 1, 2, 3, 4, 5, 6, 7, 8], [0, 1, 2, 3, 4, 5, 6, 7, 8, 9], [0, 1, 2, 3, 4, 5, 6, 7, 8, 9], [], [0, 1, 2, 3, 4, 5, 6, 7, 8, 9, 10, 12], [0, 1, 2, 3, 4, 5, 6, 7, 8, 9, 10, 11, 12, 13]] [7, 8, 9, 10]) (c25x2)
def c25x4 : AC := .seq (.dreg [
  ⟨(some 23), .fad 1 (.t 7), none⟩,
  ⟨(some 24), .ld none (.t 23), none⟩,
  ⟨(some 25), .mv (.t 2), none⟩,
  ⟨(some 26), .fad 1 (.t 7), none⟩,
  ⟨(some 27), .ld none (.t 26), none⟩,
  ⟨(some 28), .len (.t 27), none⟩,
  ⟨(some 29), .call 29 [(.t 25), (.t 28)], none⟩,
  ⟨(some 30), .idx 4 none (.t 24) (.t 29), none⟩,
  ⟨(some 31), .ld (some 4) (.t 30), none⟩,
  ⟨(some 8), .zero [(.int .i64 0), (.string ⟨#[]⟩), (.int .i64 0), (.slice none 0 0)], none⟩,
  ⟨none, .st 4 (.t 8) (.t 31), none⟩] [[], [0], [], [], [3], [3, 4], [2, 3, 4, 5], [0, 1, 2, 3, 4, 5, 6], [0, 1, 2, 3, 4, 5, 6, 7], [], [0, 1, 2, 3, 4, 5, 6, 7, 8, 9]] [0, 1, 7, 8]) (c25x3)
def c25x5 : AC := .seq (.reg [
  ⟨(some 6), .mv (.k (.bool false)), none⟩] [6]) (.ret)
def c25x6 : AC := .cond (.t 22) (c25x5) (.skip)
def c25x7 : AC := .seq (.reg [
  ⟨(some 15), .fad 1 (.t 7), none⟩,
  ⟨(some 16), .ld none (.t 15), none⟩,
  ⟨(some 17), .len (.t 16), none⟩,
  ⟨(some 18), .bin .eql (.t 17) (.k (.int .i64 0)), none⟩,
  ⟨(some 19), .mv (.t 18), none⟩,
  ⟨(some 20), .call 82 [], (some (19, false))⟩,
  ⟨(some 21), .not (.t 20), (some (19, false))⟩,
  ⟨(some 22), .pick (.t 19) (.k (.bool true)) (.t 21), none⟩] [0, 1, 2, 7, 22]) (c25x6)
def c25x8 : AC := .seq (c25x7) (c25x4)
def c25x9 : AC := .seq (.reg [
  ⟨(some 14), .call 78 [], none⟩,
  ⟨(some 7), .zero [(.string ⟨#[]⟩), (.slice none 0 0), (.slice none 0 0), (.slice none 0 0), (.slice none 0 0)], none⟩,
  ⟨none, .st 5 (.t 7) (.t 14), none⟩] [0, 1, 2, 7]) (c25x8)
def c25 : AC := .seq (.reg [
  ⟨(some 6), .mv (.k (.bool false)), none⟩] [0, 1, 2]) (c25x9)
theorem k25 : Try.f25.body.bind (compC Try.prog Try.f25.ntmps v25) = some c25 := by kernel_rfl
theorem e25 : enters Try.prog 25 = true := by kernel_rfl
theorem q25 : Try.f25.results.toList.mapM (compRes Try.prog) = some r25 := by kernel_rfl
/-- bakelite/bakekeep1.WholeKeeps -/
def v26 : List (Nat × List Nat) := [(0, [0, 1, 2]), (1, [0, 1, 2, 7]), (2, [0, 1, 2, 7, 21]), (3, [6]), (4, [0, 1, 7, 8]), (5, [7, 8, 9, 10]), (6, [7, 8, 9, 10, 11]), (7, [8, 9, 11]), (8, [8, 9, 11, 52]), (9, [8, 9, 11, 52, 53]), (10, [8, 9, 11, 12, 52]), (11, [8, 9, 11, 52, 69]), (12, [6]), (13, [8, 9, 11, 52]), (14, [6])]
def r26 : List AR := [.t 6]
def c26x0 : AC := .seq (.reg [
  ⟨(some 6), .mv (.k (.bool true)), none⟩] [6]) (.ret)
def c26x1 : AC := .reg [
  ⟨(some 70), .bin .add (.t 52) (.k (.int .i64 1)), none⟩,
  ⟨(some 52), .mv (.t 70), none⟩] [8, 9, 11, 52]
def c26x2 : AC := .seq (.reg [
  ⟨(some 6), .mv (.k (.bool false)), none⟩] [6]) (.ret)
def c26x3 : AC := .cond (.t 69) (c26x2) (.skip)
def c26x4 : AC := .seq (.dreg [
  ⟨(some 55), .mv (.t 12), none⟩,
  ⟨(some 56), .fad 0 (.t 9), none⟩,
  ⟨(some 57), .idx 1 (some 9) (.t 56) (.t 55), none⟩,
  ⟨(some 58), .ld none (.t 57), none⟩,
  ⟨(some 59), .mv (.t 12), none⟩,
  ⟨(some 60), .fad 0 (.t 11), none⟩,
  ⟨(some 61), .idx 1 (some 9) (.t 60) (.t 59), none⟩,
  ⟨(some 62), .ld none (.t 61), none⟩,
  ⟨(some 63), .bin .neq (.t 58) (.t 62), none⟩,
  ⟨(some 64), .mv (.t 63), none⟩,
  ⟨(some 65), .ld (some 4) (.t 8), (some (64, true))⟩,
  ⟨(some 66), .mv (.t 12), (some (64, true))⟩,
  ⟨(some 67), .call 87 [(.t 65), (.t 66)], (some (64, true))⟩,
  ⟨(some 68), .not (.t 67), (some (64, true))⟩,
  ⟨(some 69), .pick (.t 64) (.t 68) (.k (.bool false)), none⟩] [[], [], [0, 1], [0, 1, 2], [], [], [4, 5], [4, 5, 6], [0, 1, 2, 3, 4, 5, 6, 7], [0, 1, 2, 3, 4, 5, 6, 7, 8], [0, 1, 2, 3, 4, 5, 6, 7, 8, 9], [0, 1, 2, 3, 4, 5, 6, 7, 8, 9], [0, 1, 2, 3, 4, 5, 6, 7, 8, 9, 10, 11], [0, 1, 2, 3, 4, 5, 6, 7, 8, 9, 10, 11, 12], [0, 1, 2, 3, 4, 5, 6, 7, 8, 9, 10, 11, 12, 13]] [8, 9, 11, 52, 69]) (c26x3)
def c26x5 : AC := .seq (.reg [
  ⟨(some 54), .mv (.t 52), none⟩,
  ⟨(some 12), .mv (.t 54), none⟩] [8, 9, 11, 12, 52]) (c26x4)
def c26x6 : AC := .block 1 (c26x5)
def c26x7 : AC := .seq (c26x6) (c26x1)
def c26x8 : AC := .cond (.t 53) (.skip) (.exit 0)
def c26x9 : AC := .seq (c26x8) (c26x7)
def c26x10 : AC := .seq (.reg [
  ⟨(some 53), .bin .lss (.t 52) (.k (.int .i64 5)), none⟩] [8, 9, 11, 52, 53]) (c26x9)
def c26x11 : AC := .loop (c26x10)
def c26x12 : AC := .block 0 (c26x11)
def c26x13 : AC := .seq (.reg [
  ⟨(some 52), .mv (.k (.int .i64 0)), none⟩] [8, 9, 11, 52]) (c26x12)
def c26x14 : AC := .seq (c26x13) (c26x0)
def c26x15 : AC := .seq (.reg [
  ⟨(some 45), .ld (some 5) (.t 7), none⟩,
  ⟨(some 46), .ld (some 12) (.t 9), none⟩,
  ⟨(some 47), .mv (.t 10), none⟩,
  ⟨(some 48), .mki 98 (.t 47), none⟩,
  ⟨(some 49), .call 80 [(.t 45), (.t 46), (.t 48)], none⟩,
  ⟨(some 44), .mv (.t 49), none⟩,
  ⟨(some 50), .ext (.t 44) 0, none⟩,
  ⟨(some 51), .ext (.t 44) 1, none⟩,
  ⟨none, .st 12 (.t 9) (.t 50), none⟩] [8, 9, 11]) (c26x14)
def c26x16 : AC := .seq (.reg [
  ⟨(some 43), .ld (some 12) (.t 9), none⟩,
  ⟨(some 11), .zero [(.int .i64 0), (.int .i64 0), (.int .i64 0), (.int .i64 0), (.int .i64 0), (.int .i64 0), (.int .i64 0), (.int .i64 0), (.int .i64 0), (.int .i64 0), (.int .i64 0), (.bool false)], none⟩,
  ⟨none, .st 12 (.t 11) (.t 43), none⟩] [7, 8, 9, 10, 11]) (c26x15)
def c26x17 : AC := .seq (.dreg [
  ⟨(some 32), .mv (.t 0), none⟩,
  ⟨(some 33), .fad 0 (.t 8), none⟩,
  ⟨(some 34), .ld none (.t 33), none⟩,
  ⟨(some 35), .cvt .u8 (.t 34), none⟩,
  ⟨(some 36), .bsl [(.int .u8 0)] 1 [(0, (.t 35))], none⟩,
  ⟨(some 37), .mv (.t 1), none⟩,
  ⟨(some 38), .call 44 [(.t 37), (.k (.int .i64 2))], none⟩,
  ⟨(some 39), .app 1 1 (.t 36) (.t 38), none⟩,
  ⟨(some 40), .call 83 [(.t 32), (.t 39)], none⟩,
  ⟨(some 31), .mv (.t 40), none⟩,
  ⟨(some 41), .ext (.t 31) 0, none⟩,
  ⟨(some 42), .ext (.t 31) 1, none⟩,
  ⟨(some 9), .zero [(.int .i64 0), (.int .i64 0), (.int .i64 0), (.int .i64 0), (.int .i64 0), (.int .i64 0), (.int .i64 0), (.int .i64 0), (.int .i64 0), (.int .i64 0), (.int .i64 0), (.bool false)], none⟩,
  ⟨none, .st 12 (.t 9) (.t 41), none⟩,
  ⟨(some 10), .mv (.t 42), none⟩] [[], [], [1], [1, 2], [1, 2, 3], [], [5], [1, 2, 3, 4, 5, 6], [0, 1, 2, 3, 4, 5, 6, 7], [0, 1, 2, 3, 4, 5, 6, 7, 8], [0, 1, 2, 3, 4, 5, 6, 7, 8, 9], [0, 1, 2, 3, 4, 5, 6, 7, 8, 9], [], [0, 1, 2, 3, 4, 5, 6, 7, 8, 9, 10, 12], [0, 1, 2, 3, 4, 5, 6, 7, 8, 9, 10, 11, 12, 13]] [7, 8, 9, 10]) (c26x16)
def c26x18 : AC := .seq (.dreg [
  ⟨(some 22), .fad 1 (.t 7), none⟩,
  ⟨(some 23), .ld none (.t 22), none⟩,
  ⟨(some 24), .mv (.t 2), none⟩,
  ⟨(some 25), .fad 1 (.t 7), none⟩,
  ⟨(some 26), .ld none (.t 25), none⟩,
  ⟨(some 27), .len (.t 26), none⟩,
  ⟨(some 28), .call 29 [(.t 24), (.t 27)], none⟩,
  ⟨(some 29), .idx 4 none (.t 23) (.t 28), none⟩,
  ⟨(some 30), .ld (some 4) (.t 29), none⟩,
  ⟨(some 8), .zero [(.int .i64 0), (.string ⟨#[]⟩), (.int .i64 0), (.slice none 0 0)], none⟩,
  ⟨none, .st 4 (.t 8) (.t 30), none⟩] [[], [0], [], [], [3], [3, 4], [2, 3, 4, 5], [0, 1, 2, 3, 4, 5, 6], [0, 1, 2, 3, 4, 5, 6, 7], [], [0, 1, 2, 3, 4, 5, 6, 7, 8, 9]] [0, 1, 7, 8]) (c26x17)
def c26x19 : AC := .seq (.reg [
  ⟨(some 6), .mv (.k (.bool false)), none⟩] [6]) (.ret)
def c26x20 : AC := .cond (.t 21) (c26x19) (.skip)
def c26x21 : AC := .seq (.reg [
  ⟨(some 14), .fad 1 (.t 7), none⟩,
  ⟨(some 15), .ld none (.t 14), none⟩,
  ⟨(some 16), .len (.t 15), none⟩,
  ⟨(some 17), .bin .eql (.t 16) (.k (.int .i64 0)), none⟩,
  ⟨(some 18), .mv (.t 17), none⟩,
  ⟨(some 19), .call 82 [], (some (18, false))⟩,
  ⟨(some 20), .not (.t 19), (some (18, false))⟩,
  ⟨(some 21), .pick (.t 18) (.k (.bool true)) (.t 20), none⟩] [0, 1, 2, 7, 21]) (c26x20)
def c26x22 : AC := .seq (c26x21) (c26x18)
def c26x23 : AC := .seq (.reg [
  ⟨(some 13), .call 78 [], none⟩,
  ⟨(some 7), .zero [(.string ⟨#[]⟩), (.slice none 0 0), (.slice none 0 0), (.slice none 0 0), (.slice none 0 0)], none⟩,
  ⟨none, .st 5 (.t 7) (.t 13), none⟩] [0, 1, 2, 7]) (c26x22)
def c26 : AC := .seq (.reg [
  ⟨(some 6), .mv (.k (.bool false)), none⟩] [0, 1, 2]) (c26x23)
theorem k26 : Try.f26.body.bind (compC Try.prog Try.f26.ntmps v26) = some c26 := by kernel_rfl
theorem e26 : enters Try.prog 26 = true := by kernel_rfl
theorem q26 : Try.f26.results.toList.mapM (compRes Try.prog) = some r26 := by kernel_rfl
/-- bakelite/bakekeep1.wholes -/
def v82 : List (Nat × List Nat) := [(0, []), (1, [1, 2]), (2, [1]), (3, [0])]
def r82 : List AR := [.t 0]
def c82x0 : AC := .seq (.reg [
  ⟨(some 12), .fad 0 (.t 1), none⟩,
  ⟨(some 13), .idx 1 (some 9) (.t 12) (.k (.int .i64 0)), none⟩,
  ⟨(some 14), .ld none (.t 13), none⟩,
  ⟨(some 15), .bin .eql (.t 14) (.k (.int .i64 77)), none⟩,
  ⟨(some 16), .mv (.t 15), none⟩,
  ⟨(some 17), .fad 0 (.t 1), (some (16, true))⟩,
  ⟨(some 18), .idx 1 (some 9) (.t 17) (.k (.int .i64 7)), (some (16, true))⟩,
  ⟨(some 19), .ld none (.t 18), (some (16, true))⟩,
  ⟨(some 20), .bin .eql (.t 19) (.k (.int .i64 1026)), (some (16, true))⟩,
  ⟨(some 21), .pick (.t 16) (.t 20) (.k (.bool false)), none⟩,
  ⟨(some 0), .mv (.t 21), none⟩] [0]) (.ret)
def c82x1 : AC := .seq (.reg [
  ⟨(some 8), .ld (some 12) (.t 1), none⟩,
  ⟨(some 9), .mv (.t 2), none⟩,
  ⟨(some 10), .mki 98 (.t 9), none⟩,
  ⟨(some 11), .call 85 [(.t 8), (.t 10), (.k (.int .i64 1))], none⟩,
  ⟨none, .st 12 (.t 1) (.t 11), none⟩] [1]) (c82x0)
def c82x2 : AC := .seq (.reg [
  ⟨(some 4), .bsl [(.int .u8 0)] 2 [(0, (.k (.int .u8 1))), (1, (.k (.int .u8 77)))], none⟩,
  ⟨(some 5), .call 83 [(.k (.slice none 0 0)), (.t 4)], none⟩,
  ⟨(some 3), .mv (.t 5), none⟩,
  ⟨(some 6), .ext (.t 3) 0, none⟩,
  ⟨(some 7), .ext (.t 3) 1, none⟩,
  ⟨(some 1), .zero [(.int .i64 0), (.int .i64 0), (.int .i64 0), (.int .i64 0), (.int .i64 0), (.int .i64 0), (.int .i64 0), (.int .i64 0), (.int .i64 0), (.int .i64 0), (.int .i64 0), (.bool false)], none⟩,
  ⟨none, .st 12 (.t 1) (.t 6), none⟩,
  ⟨(some 2), .mv (.t 7), none⟩] [1, 2]) (c82x1)
def c82 : AC := .seq (.reg [
  ⟨(some 0), .mv (.k (.bool false)), none⟩] []) (c82x2)
theorem k82 : Try.f82.body.bind (compC Try.prog Try.f82.ntmps v82) = some c82 := by kernel_rfl
theorem e82 : enters Try.prog 82 = true := by kernel_rfl
theorem q82 : Try.f82.results.toList.mapM (compRes Try.prog) = some r82 := by kernel_rfl
/-- bakelite/bakekeep1.ready -/
def v83 : List (Nat × List Nat) := [(0, [0, 1, 4]), (1, [0, 1, 4, 6]), (2, [0, 4, 6]), (3, [4, 6, 7]), (4, [4, 6, 7]), (5, [4, 5])]
def r83 : List AR := [.cell (some 12) 4, .t 5]
def c83x0 : AC := .seq (.reg [
  ⟨(some 23), .ld (some 12) (.t 7), none⟩,
  ⟨(some 24), .mv (.t 6), none⟩,
  ⟨none, .st 12 (.t 4) (.t 23), none⟩,
  ⟨(some 5), .mv (.t 24), none⟩] [4, 5]) (.ret)
def c83x1 : AC := .seq (.reg [
  ⟨(some 21), .fad 0 (.t 7), none⟩,
  ⟨(some 22), .idx 1 (some 9) (.t 21) (.k (.int .i64 7)), none⟩,
  ⟨none, .st 1 (.t 22) (.k (.int .i64 1024)), none⟩] [4, 6, 7]) (c83x0)
def c83x2 : AC := .seq (.reg [
  ⟨(some 18), .mv (.t 0), none⟩,
  ⟨(some 19), .call 53 [(.t 18)], none⟩,
  ⟨(some 20), .build [(.int .i64 0), (.int .i64 0), (.int .i64 0), (.int .i64 0), (.int .i64 0), (.int .i64 0), (.int .i64 0), (.int .i64 0), (.int .i64 0), (.int .i64 0), (.int .i64 0), (.bool false)] [(0, 9, (.t 19)), (9, 1, (.k (.int .i64 (-1))))], none⟩,
  ⟨(some 7), .zero [(.int .i64 0), (.int .i64 0), (.int .i64 0), (.int .i64 0), (.int .i64 0), (.int .i64 0), (.int .i64 0), (.int .i64 0), (.int .i64 0), (.int .i64 0), (.int .i64 0), (.bool false)], none⟩,
  ⟨none, .st 12 (.t 7) (.t 20), none⟩] [4, 6, 7]) (c83x1)
def c83x3 : AC := .seq (.reg [
  ⟨(some 11), .mv (.t 6), none⟩,
  ⟨(some 12), .nilc (.t 11), none⟩,
  ⟨(some 13), .fad 0 (.t 12), none⟩,
  ⟨(some 14), .ld none (.t 13), none⟩,
  ⟨(some 15), .slc 1 (.t 14) (some (.k (.int .i64 1024))) none, none⟩,
  ⟨(some 16), .mv (.t 1), none⟩,
  ⟨(some 17), .copy 1 (.t 15) (.t 16), none⟩] [0, 4, 6]) (c83x2)
def c83x4 : AC := .seq (.reg [
  ⟨(some 8), .mksl [(.int .u8 0)] 1 (.k (.int .i64 65536)) (.k (.int .i64 65536)), none⟩,
  ⟨(some 9), .build [(.slice none 0 0)] [(0, 1, (.t 8))], none⟩,
  ⟨(some 10), .new 1 (.t 9), none⟩,
  ⟨(some 6), .mv (.t 10), none⟩] [0, 1, 4, 6]) (c83x3)
def c83 : AC := .seq (.reg [
  ⟨(some 4), .zero [(.int .i64 0), (.int .i64 0), (.int .i64 0), (.int .i64 0), (.int .i64 0), (.int .i64 0), (.int .i64 0), (.int .i64 0), (.int .i64 0), (.int .i64 0), (.int .i64 0), (.bool false)], none⟩,
  ⟨(some 5), .mv (.k (.pointer none)), none⟩] [0, 1, 4]) (c83x4)
theorem k83 : Try.f83.body.bind (compC Try.prog Try.f83.ntmps v83) = some c83 := by kernel_rfl
theorem e83 : enters Try.prog 83 = true := by kernel_rfl
theorem q83 : Try.f83.results.toList.mapM (compRes Try.prog) = some r83 := by kernel_rfl
/-- bakelite/bakekeep1.opcode -/
def v84 : List (Nat × List Nat) := [(0, [0, 1]), (1, [5]), (2, [4])]
def r84 : List AR := [.t 4]
def c84x0 : AC := .seq (.reg [
  ⟨(some 14), .fad 0 (.t 5), none⟩,
  ⟨(some 15), .ld none (.t 14), none⟩,
  ⟨(some 16), .cvt .u8 (.t 15), none⟩,
  ⟨(some 4), .mv (.t 16), none⟩] [4]) (.ret)
def c84x1 : AC := .seq (.reg [
  ⟨(some 8), .call 78 [], none⟩,
  ⟨(some 9), .mv (.t 0), none⟩,
  ⟨(some 10), .mv (.t 1), none⟩,
  ⟨(some 11), .call 63 [(.t 8), (.t 9), (.t 10)], none⟩,
  ⟨(some 7), .mv (.t 11), none⟩,
  ⟨(some 12), .ext (.t 7) 0, none⟩,
  ⟨(some 13), .ext (.t 7) 1, none⟩,
  ⟨(some 5), .zero [(.int .i64 0), (.string ⟨#[]⟩), (.int .i64 0), (.slice none 0 0)], none⟩,
  ⟨none, .st 4 (.t 5) (.t 12), none⟩,
  ⟨(some 6), .mv (.t 13), none⟩] [5]) (c84x0)
def c84 : AC := .seq (.reg [
  ⟨(some 4), .mv (.k (.int .u8 0)), none⟩] [0, 1]) (c84x1)
theorem k84 : Try.f84.body.bind (compC Try.prog Try.f84.ntmps v84) = some c84 := by kernel_rfl
theorem e84 : enters Try.prog 84 = true := by kernel_rfl
theorem q84 : Try.f84.results.toList.mapM (compRes Try.prog) = some r84 := by kernel_rfl
/-- bakelite/bakekeep1.runs -/
def v85 : List (Nat × List Nat) := [(0, [1, 2, 3, 6]), (1, [1, 2, 3, 6, 7]), (2, [1, 3, 6, 7, 9, 10]), (3, [1, 3, 6, 7, 9, 10, 11]), (4, [1, 3, 6, 7, 9, 10]), (5, [1, 3, 6, 7, 9, 10]), (6, [6])]
def r85 : List AR := [.cell (some 12) 6]
def c85x0 : AC := .seq (.reg [
  ⟨(some 20), .ld (some 12) (.t 3), none⟩,
  ⟨none, .st 12 (.t 6) (.t 20), none⟩] [6]) (.ret)
def c85x1 : AC := .reg [
  ⟨(some 19), .bin .add (.t 10) (.k (.int .i64 1)), none⟩,
  ⟨(some 10), .mv (.t 19), none⟩] [1, 3, 6, 7, 9, 10]
def c85x2 : AC := .reg [
  ⟨(some 13), .ld (some 5) (.t 7), none⟩,
  ⟨(some 14), .ld (some 12) (.t 3), none⟩,
  ⟨(some 15), .mv (.t 1), none⟩,
  ⟨(some 16), .call 80 [(.t 13), (.t 14), (.t 15)], none⟩,
  ⟨(some 12), .mv (.t 16), none⟩,
  ⟨(some 17), .ext (.t 12) 0, none⟩,
  ⟨(some 18), .ext (.t 12) 1, none⟩,
  ⟨none, .st 12 (.t 3) (.t 17), none⟩] [1, 3, 6, 7, 9, 10]
def c85x3 : AC := .block 1 (c85x2)
def c85x4 : AC := .seq (c85x3) (c85x1)
def c85x5 : AC := .cond (.t 11) (.skip) (.exit 0)
def c85x6 : AC := .seq (c85x5) (c85x4)
def c85x7 : AC := .seq (.reg [
  ⟨(some 11), .bin .lss (.t 10) (.t 9), none⟩] [1, 3, 6, 7, 9, 10, 11]) (c85x6)
def c85x8 : AC := .loop (c85x7)
def c85x9 : AC := .block 0 (c85x8)
def c85x10 : AC := .seq (.reg [
  ⟨(some 9), .mv (.t 2), none⟩,
  ⟨(some 10), .mv (.k (.int .i64 0)), none⟩] [1, 3, 6, 7, 9, 10]) (c85x9)
def c85x11 : AC := .seq (c85x10) (c85x0)
def c85x12 : AC := .seq (.reg [
  ⟨(some 8), .call 78 [], none⟩,
  ⟨(some 7), .zero [(.string ⟨#[]⟩), (.slice none 0 0), (.slice none 0 0), (.slice none 0 0), (.slice none 0 0)], none⟩,
  ⟨none, .st 5 (.t 7) (.t 8), none⟩] [1, 2, 3, 6, 7]) (c85x11)
def c85 : AC := .seq (.reg [
  ⟨(some 3), .new 12 (.t 0), none⟩,
  ⟨(some 6), .zero [(.int .i64 0), (.int .i64 0), (.int .i64 0), (.int .i64 0), (.int .i64 0), (.int .i64 0), (.int .i64 0), (.int .i64 0), (.int .i64 0), (.int .i64 0), (.int .i64 0), (.bool false)], none⟩] [1, 2, 3, 6]) (c85x12)
theorem k85 : Try.f85.body.bind (compC Try.prog Try.f85.ntmps v85) = some c85 := by kernel_rfl
theorem e85 : enters Try.prog 85 = true := by kernel_rfl
theorem q85 : Try.f85.results.toList.mapM (compRes Try.prog) = some r85 := by kernel_rfl
/-- (*bakelite/bakekeep1.flat).Read -/
def v213 : List (Nat × List Nat) := [(0, [0, 1]), (1, [4])]
def r213 : List AR := [.t 4]
def c213x0 : AC := .seq (.reg [
  ⟨(some 5), .mv (.t 0), none⟩,
  ⟨(some 6), .nilc (.t 5), none⟩,
  ⟨(some 7), .fad 0 (.t 6), none⟩,
  ⟨(some 8), .ld none (.t 7), none⟩,
  ⟨(some 9), .mv (.t 1), none⟩,
  ⟨(some 10), .bin .and (.t 9) (.k (.int .i64 65535)), none⟩,
  ⟨(some 11), .idx 1 none (.t 8) (.t 10), none⟩,
  ⟨(some 12), .ld none (.t 11), none⟩,
  ⟨(some 13), .cvt .i64 (.t 12), none⟩,
  ⟨(some 4), .mv (.t 13), none⟩] [4]) (.ret)
def c213 : AC := .seq (.reg [
  ⟨(some 4), .mv (.k (.int .i64 0)), none⟩] [0, 1]) (c213x0)
theorem k213 : Try.f213.body.bind (compC Try.prog Try.f213.ntmps v213) = some c213 := by kernel_rfl
theorem e213 : enters Try.prog 213 = true := by kernel_rfl
theorem q213 : Try.f213.results.toList.mapM (compRes Try.prog) = some r213 := by kernel_rfl
/-- (*bakelite/bakekeep1.flat).Write -/
def v214 : List (Nat × List Nat) := [(0, [])]
def r214 : List AR := []

def c214 : AC := .reg [
  ⟨(some 6), .mv (.t 0), none⟩,
  ⟨(some 7), .nilc (.t 6), none⟩,
  ⟨(some 8), .fad 0 (.t 7), none⟩,
  ⟨(some 9), .ld none (.t 8), none⟩,
  ⟨(some 10), .mv (.t 1), none⟩,
  ⟨(some 11), .bin .and (.t 10) (.k (.int .i64 65535)), none⟩,
  ⟨(some 12), .mv (.t 2), none⟩,
  ⟨(some 13), .cvt .u8 (.t 12), none⟩,
  ⟨(some 14), .idx 1 none (.t 9) (.t 11), none⟩,
  ⟨none, .st 1 (.t 14) (.t 13), none⟩] []
theorem k214 : Try.f214.body.bind (compC Try.prog Try.f214.ntmps v214) = some c214 := by kernel_rfl
theorem e214 : enters Try.prog 214 = true := by kernel_rfl
theorem q214 : Try.f214.results.toList.mapM (compRes Try.prog) = some r214 := by kernel_rfl
end Go.Proofs.Ytjmmompbmjhkpaa.Code
