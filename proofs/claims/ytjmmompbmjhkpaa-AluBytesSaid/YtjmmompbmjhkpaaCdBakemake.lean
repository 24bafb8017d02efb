/- The code of functions (Bakemake) over abstract values, printed by a program, and that it is what the program's form in Lean turns into. No condition. -/
import Derived.Test.YtjmmompbmjhkpaaProg
import Derived.Test.YtjmmompbmjhkpaaCalcJ
import Derived.KernelRfl
namespace Go.Proofs.Ytjmmompbmjhkpaa.Code
open Go Go.Proofs.Ytjmmompbmjhkpaa.Calc
set_option maxRecDepth 100000
/-- bakelite/bakemake.Below -/
def v29 : List (Nat × List Nat) := [(0, [0, 1]), (1, [0, 1]), (2, [0, 1, 9]), (3, [0]), (4, [4])]
def r29 : List AR := [.t 4]
def c29x0 : AC := .seq (.reg [
  ⟨(some 13), .mv (.t 0), none⟩,
  ⟨(some 4), .mv (.t 13), none⟩] [4]) (.ret)
def c29x1 : AC := .reg [
  ⟨(some 10), .mv (.t 0), none⟩,
  ⟨(some 11), .mv (.t 1), none⟩,
  ⟨(some 12), .bin .add (.t 10) (.t 11), none⟩,
  ⟨(some 0), .mv (.t 12), none⟩] [0]
def c29x2 : AC := .cond (.t 9) (c29x1) (.skip)
def c29x3 : AC := .seq (.reg [
  ⟨(some 8), .mv (.t 0), none⟩,
  ⟨(some 9), .bin .lss (.t 8) (.k (.int .i64 0)), none⟩] [0, 1, 9]) (c29x2)
def c29x4 : AC := .seq (.reg [
  ⟨(some 5), .mv (.t 0), none⟩,
  ⟨(some 6), .mv (.t 1), none⟩,
  ⟨(some 7), .bin .rem (.t 5) (.t 6), none⟩,
  ⟨(some 0), .mv (.t 7), none⟩] [0, 1]) (c29x3)
def c29x5 : AC := .seq (c29x4) (c29x0)
def c29 : AC := .seq (.reg [
  ⟨(some 4), .mv (.k (.int .i64 0)), none⟩] [0, 1]) (c29x5)
theorem k29 : Try.f29.body.bind (compC Try.prog Try.f29.ntmps v29) = some c29 := by kernel_rfl
theorem e29 : enters Try.prog 29 = true := by kernel_rfl
theorem q29 : Try.f29.results.toList.mapM (compRes Try.prog) = some r29 := by kernel_rfl
/-- bakelite/bakemake.Bytes -/
def v44 : List (Nat × List Nat) := [(0, [0, 1]), (1, [1, 5]), (2, [5, 6]), (3, [5, 6, 15, 16]), (4, [5, 6, 15, 16, 17]), (5, [5, 6, 7, 15, 16]), (6, [5, 6, 15, 16]), (7, [5, 6, 15, 16]), (8, [4])]
def r44 : List AR := [.t 4]
def c44x0 : AC := .seq (.reg [
  ⟨(some 26), .mv (.t 6), none⟩,
  ⟨(some 4), .mv (.t 26), none⟩] [4]) (.ret)
def c44x1 : AC := .reg [
  ⟨(some 25), .bin .add (.t 16) (.k (.int .i64 1)), none⟩,
  ⟨(some 16), .mv (.t 25), none⟩] [5, 6, 15, 16]
def c44x2 : AC := .reg [
  ⟨(some 19), .mv (.t 6), none⟩,
  ⟨(some 20), .mv (.t 7), none⟩,
  ⟨(some 21), .mv (.t 5), none⟩,
  ⟨(some 22), .call 56 [(.t 21), (.k (.int .i64 256))], none⟩,
  ⟨(some 23), .cvt .u8 (.t 22), none⟩,
  ⟨(some 24), .idx 1 none (.t 19) (.t 20), none⟩,
  ⟨none, .st 1 (.t 24) (.t 23), none⟩] [5, 6, 15, 16]
def c44x3 : AC := .seq (.reg [
  ⟨(some 18), .mv (.t 16), none⟩,
  ⟨(some 7), .mv (.t 18), none⟩] [5, 6, 7, 15, 16]) (c44x2)
def c44x4 : AC := .block 1 (c44x3)
def c44x5 : AC := .seq (c44x4) (c44x1)
def c44x6 : AC := .cond (.t 17) (.skip) (.exit 0)
def c44x7 : AC := .seq (c44x6) (c44x5)
def c44x8 : AC := .seq (.reg [
  ⟨(some 17), .bin .lss (.t 16) (.t 15), none⟩] [5, 6, 15, 16, 17]) (c44x7)
def c44x9 : AC := .loop (c44x8)
def c44x10 : AC := .block 0 (c44x9)
def c44x11 : AC := .seq (.reg [
  ⟨(some 14), .mv (.t 6), none⟩,
  ⟨(some 15), .len (.t 14), none⟩,
  ⟨(some 16), .mv (.k (.int .i64 0)), none⟩] [5, 6, 15, 16]) (c44x10)
def c44x12 : AC := .seq (c44x11) (c44x0)
def c44x13 : AC := .seq (.reg [
  ⟨(some 11), .mv (.t 1), none⟩,
  ⟨(some 12), .mnx true [(.k (.int .i64 0)), (.t 11)], none⟩,
  ⟨(some 13), .mksl [(.int .u8 0)] 1 (.t 12) (.t 12), none⟩,
  ⟨(some 6), .mv (.t 13), none⟩] [5, 6]) (c44x12)
def c44x14 : AC := .seq (.reg [
  ⟨(some 8), .mv (.t 0), none⟩,
  ⟨(some 9), .build [(.slice none 0 0)] [(0, 1, (.t 8))], none⟩,
  ⟨(some 10), .new 1 (.t 9), none⟩,
  ⟨(some 5), .mv (.t 10), none⟩] [1, 5]) (c44x13)
def c44 : AC := .seq (.reg [
  ⟨(some 4), .mv (.k (.slice none 0 0)), none⟩] [0, 1]) (c44x14)
theorem k44 : Try.f44.body.bind (compC Try.prog Try.f44.ntmps v44) = some c44 := by kernel_rfl
theorem e44 : enters Try.prog 44 = true := by kernel_rfl
theorem q44 : Try.f44.results.toList.mapM (compRes Try.prog) = some r44 := by kernel_rfl
/-- (*bakelite/bakemake.Stream).Next -/
def v56 : List (Nat × List Nat) := [(0, [0, 1]), (1, [0, 1, 15]), (2, [4]), (3, [0, 1, 5]), (4, [1, 5]), (5, [4])]
def r56 : List AR := [.t 4]
def c56x0 : AC := .seq (.reg [
  ⟨(some 30), .mv (.t 5), none⟩,
  ⟨(some 31), .mv (.t 1), none⟩,
  ⟨(some 32), .call 29 [(.t 30), (.t 31)], none⟩,
  ⟨(some 4), .mv (.t 32), none⟩] [4]) (.ret)
def c56x1 : AC := .seq (.reg [
  ⟨(some 22), .mv (.t 0), none⟩,
  ⟨(some 23), .mv (.t 0), none⟩,
  ⟨(some 24), .nilc (.t 23), none⟩,
  ⟨(some 25), .fad 0 (.t 24), none⟩,
  ⟨(some 26), .ld none (.t 25), none⟩,
  ⟨(some 27), .slc 1 (.t 26) (some (.k (.int .i64 1))) none, none⟩,
  ⟨(some 28), .nilc (.t 22), none⟩,
  ⟨(some 29), .fad 0 (.t 28), none⟩,
  ⟨none, .st 1 (.t 29) (.t 27), none⟩] [1, 5]) (c56x0)
def c56x2 : AC := .seq (.reg [
  ⟨(some 16), .mv (.t 0), none⟩,
  ⟨(some 17), .nilc (.t 16), none⟩,
  ⟨(some 18), .fad 0 (.t 17), none⟩,
  ⟨(some 19), .ld none (.t 18), none⟩,
  ⟨(some 20), .idx 1 none (.t 19) (.k (.int .i64 0)), none⟩,
  ⟨(some 21), .ld none (.t 20), none⟩,
  ⟨(some 5), .mv (.t 21), none⟩] [0, 1, 5]) (c56x1)
def c56x3 : AC := .seq (.reg [
  ⟨(some 4), .mv (.k (.int .i64 0)), none⟩] [4]) (.ret)
def c56x4 : AC := .cond (.t 15) (c56x3) (.skip)
def c56x5 : AC := .seq (.reg [
  ⟨(some 6), .mv (.t 1), none⟩,
  ⟨(some 7), .bin .lss (.t 6) (.k (.int .i64 1)), none⟩,
  ⟨(some 8), .mv (.t 7), none⟩,
  ⟨(some 9), .mv (.t 0), (some (8, false))⟩,
  ⟨(some 10), .nilc (.t 9), (some (8, false))⟩,
  ⟨(some 11), .fad 0 (.t 10), (some (8, false))⟩,
  ⟨(some 12), .ld none (.t 11), (some (8, false))⟩,
  ⟨(some 13), .len (.t 12), (some (8, false))⟩,
  ⟨(some 14), .bin .eql (.t 13) (.k (.int .i64 0)), (some (8, false))⟩,
  ⟨(some 15), .pick (.t 8) (.k (.bool true)) (.t 14), none⟩] [0, 1, 15]) (c56x4)
def c56x6 : AC := .seq (c56x5) (c56x2)
def c56 : AC := .seq (.reg [
  ⟨(some 4), .mv (.k (.int .i64 0)), none⟩] [0, 1]) (c56x6)
theorem k56 : Try.f56.body.bind (compC Try.prog Try.f56.ntmps v56) = some c56 := by kernel_rfl
theorem e56 : enters Try.prog 56 = true := by kernel_rfl
theorem q56 : Try.f56.results.toList.mapM (compRes Try.prog) = some r56 := by kernel_rfl
/-- bakelite/bakemake.Cpu -/
def v58 : List (Nat × List Nat) := [(0, [0, 2]), (1, [2, 3]), (2, [2, 3, 4]), (3, [2, 3, 4, 5]), (4, [2, 3, 4, 5, 21, 22]), (5, [2, 3, 4, 5, 21, 22, 23]), (6, [2, 3, 4, 5, 6, 21, 22]), (7, [2, 3, 4, 5, 6, 21, 22]), (8, [2, 3, 4, 5, 6, 7, 21, 22]), (9, [2, 3, 4, 5, 6, 7, 8, 21, 22]), (10, [2, 3, 4, 5, 21, 22]), (11, [2, 3, 4, 5, 21, 22]), (12, [2, 4]), (13, [2])]
def r58 : List AR := [.cell (some 5) 2]
def c58x0 : AC := .seq (.reg [
  ⟨(some 63), .ld (some 5) (.t 4), none⟩,
  ⟨none, .st 5 (.t 2) (.t 63), none⟩] [2]) (.ret)
def c58x1 : AC := .seq (.reg [
  ⟨(some 54), .mv (.t 3), none⟩,
  ⟨(some 55), .call 112 [(.t 54), (.k (.int .i64 0))], none⟩,
  ⟨(some 56), .mv (.t 3), none⟩,
  ⟨(some 57), .call 112 [(.t 56), (.k (.int .i64 0))], none⟩,
  ⟨(some 58), .mv (.t 3), none⟩,
  ⟨(some 59), .call 112 [(.t 58), (.k (.int .i64 0))], none⟩,
  ⟨(some 60), .fad 2 (.t 4), none⟩,
  ⟨none, .st 1 (.t 60) (.t 55), none⟩,
  ⟨(some 61), .fad 3 (.t 4), none⟩,
  ⟨none, .st 1 (.t 61) (.t 57), none⟩,
  ⟨(some 62), .fad 4 (.t 4), none⟩,
  ⟨none, .st 1 (.t 62) (.t 59), none⟩] [2, 4]) (c58x0)
def c58x2 : AC := .reg [
  ⟨(some 53), .bin .add (.t 22) (.k (.int .i64 1)), none⟩,
  ⟨(some 22), .mv (.t 53), none⟩] [2, 3, 4, 5, 21, 22]
def c58x3 : AC := .dreg [
  ⟨(some 36), .fad 1 (.t 4), none⟩,
  ⟨(some 37), .ld none (.t 36), none⟩,
  ⟨(some 38), .mv (.t 5), none⟩,
  ⟨(some 39), .bin .sub (.t 38) (.k (.int .i64 1)), none⟩,
  ⟨(some 40), .mv (.t 6), none⟩,
  ⟨(some 41), .bin .add (.k (.int .i64 97)) (.t 40), none⟩,
  ⟨(some 42), .cvt .i32 (.t 41), none⟩,
  ⟨(some 43), .i2s (.t 42), none⟩,
  ⟨(some 44), .bin .add (.k (.string ⟨#[105, 110, 45]⟩)) (.t 43), none⟩,
  ⟨(some 45), .mv (.t 7), none⟩,
  ⟨(some 46), .mv (.t 3), none⟩,
  ⟨(some 47), .mv (.t 8), none⟩,
  ⟨(some 48), .call 112 [(.t 46), (.t 47)], none⟩,
  ⟨(some 49), .build [(.int .i64 0), (.string ⟨#[]⟩), (.int .i64 0), (.slice none 0 0)] [(0, 1, (.t 39)), (1, 1, (.t 44)), (2, 1, (.t 45)), (3, 1, (.t 48))], none⟩,
  ⟨(some 50), .bsl [(.int .i64 0), (.string ⟨#[]⟩), (.int .i64 0), (.slice none 0 0)] 1 [(0, (.t 49))], none⟩,
  ⟨(some 51), .app 4 56 (.t 37) (.t 50), none⟩,
  ⟨(some 52), .fad 1 (.t 4), none⟩,
  ⟨none, .st 1 (.t 52) (.t 51), none⟩] [[], [0], [], [2], [], [4], [4, 5], [4, 5, 6], [4, 5, 6, 7], [], [], [], [10, 11], [2, 3, 4, 5, 6, 7, 8, 9, 10, 11, 12], [2, 3, 4, 5, 6, 7, 8, 9, 10, 11, 12, 13], [0, 1, 2, 3, 4, 5, 6, 7, 8, 9, 10, 11, 12, 13, 14], [0, 1, 2, 3, 4, 5, 6, 7, 8, 9, 10, 11, 12, 13, 14, 15], [0, 1, 2, 3, 4, 5, 6, 7, 8, 9, 10, 11, 12, 13, 14, 15, 16]] [2, 3, 4, 5, 21, 22]
def c58x4 : AC := .seq (.reg [
  ⟨(some 32), .bsl [(.int .i64 0)] 9 [(0, (.k (.int .i64 0))), (1, (.k (.int .i64 1))), (2, (.k (.int .i64 1))), (3, (.k (.int .i64 1))), (4, (.k (.int .i64 2))), (5, (.k (.int .i64 2))), (6, (.k (.int .i64 2))), (7, (.k (.int .i64 1))), (8, (.k (.int .i64 1)))], none⟩,
  ⟨(some 33), .mv (.t 7), none⟩,
  ⟨(some 34), .idx 1 none (.t 32) (.t 33), none⟩,
  ⟨(some 35), .ld none (.t 34), none⟩,
  ⟨(some 8), .mv (.t 35), none⟩] [2, 3, 4, 5, 6, 7, 8, 21, 22]) (c58x3)
def c58x5 : AC := .seq (.reg [
  ⟨(some 30), .mv (.t 3), none⟩,
  ⟨(some 31), .call 56 [(.t 30), (.k (.int .i64 9))], none⟩,
  ⟨(some 7), .mv (.t 31), none⟩] [2, 3, 4, 5, 6, 7, 21, 22]) (c58x4)
def c58x6 : AC := .seq (.reg [
  ⟨(some 25), .mv (.t 5), none⟩,
  ⟨(some 26), .mv (.t 3), none⟩,
  ⟨(some 27), .call 56 [(.t 26), (.k (.int .i64 30))], none⟩,
  ⟨(some 28), .bin .add (.k (.int .i64 1)) (.t 27), none⟩,
  ⟨(some 29), .bin .add (.t 25) (.t 28), none⟩,
  ⟨(some 5), .mv (.t 29), none⟩] [2, 3, 4, 5, 6, 21, 22]) (c58x5)
def c58x7 : AC := .seq (.reg [
  ⟨(some 24), .mv (.t 22), none⟩,
  ⟨(some 6), .mv (.t 24), none⟩] [2, 3, 4, 5, 6, 21, 22]) (c58x6)
def c58x8 : AC := .block 1 (c58x7)
def c58x9 : AC := .seq (c58x8) (c58x2)
def c58x10 : AC := .cond (.t 23) (.skip) (.exit 0)
def c58x11 : AC := .seq (c58x10) (c58x9)
def c58x12 : AC := .seq (.reg [
  ⟨(some 23), .bin .lss (.t 22) (.t 21), none⟩] [2, 3, 4, 5, 21, 22, 23]) (c58x11)
def c58x13 : AC := .loop (c58x12)
def c58x14 : AC := .block 0 (c58x13)
def c58x15 : AC := .seq (.reg [
  ⟨(some 19), .mv (.t 3), none⟩,
  ⟨(some 20), .call 56 [(.t 19), (.k (.int .i64 8))], none⟩,
  ⟨(some 21), .bin .add (.k (.int .i64 1)) (.t 20), none⟩,
  ⟨(some 22), .mv (.k (.int .i64 0)), none⟩] [2, 3, 4, 5, 21, 22]) (c58x14)
def c58x16 : AC := .seq (c58x15) (c58x1)
def c58x17 : AC := .seq (.reg [
  ⟨(some 5), .mv (.k (.int .i64 0)), none⟩] [2, 3, 4, 5]) (c58x16)
def c58x18 : AC := .seq (.reg [
  ⟨(some 12), .mv (.t 3), none⟩,
  ⟨(some 13), .call 56 [(.t 12), (.k (.int .i64 26))], none⟩,
  ⟨(some 14), .bin .add (.k (.int .i64 97)) (.t 13), none⟩,
  ⟨(some 15), .cvt .i32 (.t 14), none⟩,
  ⟨(some 16), .i2s (.t 15), none⟩,
  ⟨(some 17), .bin .add (.k (.string ⟨#[99, 112, 117, 45]⟩)) (.t 16), none⟩,
  ⟨(some 18), .build [(.string ⟨#[]⟩), (.slice none 0 0), (.slice none 0 0), (.slice none 0 0), (.slice none 0 0)] [(0, 1, (.t 17))], none⟩,
  ⟨(some 4), .zero [(.string ⟨#[]⟩), (.slice none 0 0), (.slice none 0 0), (.slice none 0 0), (.slice none 0 0)], none⟩,
  ⟨none, .st 5 (.t 4) (.t 18), none⟩] [2, 3, 4]) (c58x17)
def c58x19 : AC := .seq (.reg [
  ⟨(some 9), .mv (.t 0), none⟩,
  ⟨(some 10), .build [(.slice none 0 0)] [(0, 1, (.t 9))], none⟩,
  ⟨(some 11), .new 1 (.t 10), none⟩,
  ⟨(some 3), .mv (.t 11), none⟩] [2, 3]) (c58x18)
def c58 : AC := .seq (.reg [
  ⟨(some 2), .zero [(.string ⟨#[]⟩), (.slice none 0 0), (.slice none 0 0), (.slice none 0 0), (.slice none 0 0)], none⟩] [0, 2]) (c58x19)
theorem k58 : Try.f58.body.bind (compC Try.prog Try.f58.ntmps v58) = some c58 := by kernel_rfl
theorem e58 : enters Try.prog 58 = true := by kernel_rfl
theorem q58 : Try.f58.results.toList.mapM (compRes Try.prog) = some r58 := by kernel_rfl
/-- bakelite/bakemake.cycles -/
def v112 : List (Nat × List Nat) := [(0, [0, 1]), (1, [0, 1, 5]), (2, [0, 5, 8, 9]), (3, [0, 5, 8, 9, 10]), (4, [0, 5, 8, 9]), (5, [0, 5, 8, 9]), (6, [0, 5, 19, 20]), (7, [0, 5, 19, 20, 21]), (8, [0, 5, 6, 19, 20]), (9, [0, 5, 6, 19, 20, 27]), (10, [0, 5, 6, 19, 20]), (11, [0, 5, 19, 20]), (12, [0, 5, 19, 20]), (13, [0, 5, 41, 42]), (14, [0, 5, 41, 42, 43]), (15, [0, 5, 7, 41, 42]), (16, [0, 5, 7, 41, 42, 46, 47]), (17, [0, 5, 7, 41, 42, 46, 47, 48]), (18, [0, 5, 7, 41, 42, 46, 47]), (19, [0, 5, 7, 41, 42, 46, 47]), (20, [0, 5, 41, 42]), (21, [4])]
def r112 : List AR := [.t 4]
def c112x0 : AC := .seq (.reg [
  ⟨(some 64), .mv (.t 5), none⟩,
  ⟨(some 4), .mv (.t 64), none⟩] [4]) (.ret)
def c112x1 : AC := .reg [
  ⟨(some 63), .bin .add (.t 42) (.k (.int .i64 1)), none⟩,
  ⟨(some 42), .mv (.t 63), none⟩] [0, 5, 41, 42]
def c112x2 : AC := .reg [
  ⟨(some 62), .bin .add (.t 47) (.k (.int .i64 1)), none⟩,
  ⟨(some 47), .mv (.t 62), none⟩] [0, 5, 7, 41, 42, 46, 47]
def c112x3 : AC := .dreg [
  ⟨(some 49), .mv (.t 5), none⟩,
  ⟨(some 50), .mv (.t 7), none⟩,
  ⟨(some 51), .mv (.t 5), none⟩,
  ⟨(some 52), .mv (.t 7), none⟩,
  ⟨(some 53), .idx 4 none (.t 51) (.t 52), none⟩,
  ⟨(some 54), .fad 3 (.t 53), none⟩,
  ⟨(some 55), .ld none (.t 54), none⟩,
  ⟨(some 56), .mv (.t 0), none⟩,
  ⟨(some 57), .call 163 [(.t 56)], none⟩,
  ⟨(some 58), .bsl [(.int .i64 0), (.int .i64 0), (.int .i64 0), (.int .i64 0)] 1 [(0, (.t 57))], none⟩,
  ⟨(some 59), .app 4 32 (.t 55) (.t 58), none⟩,
  ⟨(some 60), .idx 4 none (.t 49) (.t 50), none⟩,
  ⟨(some 61), .fad 3 (.t 60), none⟩,
  ⟨none, .st 1 (.t 61) (.t 59), none⟩] [[], [], [], [], [2, 3], [2, 3, 4], [2, 3, 4, 5], [], [7], [7, 8], [2, 3, 4, 5, 6, 7, 8, 9], [0, 1, 2, 3, 4, 5, 6, 7, 8, 9, 10], [0, 1, 2, 3, 4, 5, 6, 7, 8, 9, 10, 11], [0, 1, 2, 3, 4, 5, 6, 7, 8, 9, 10, 11, 12]] [0, 5, 7, 41, 42, 46, 47]
def c112x4 : AC := .block 7 (c112x3)
def c112x5 : AC := .seq (c112x4) (c112x2)
def c112x6 : AC := .cond (.t 48) (.skip) (.exit 6)
def c112x7 : AC := .seq (c112x6) (c112x5)
def c112x8 : AC := .seq (.reg [
  ⟨(some 48), .bin .lss (.t 47) (.t 46), none⟩] [0, 5, 7, 41, 42, 46, 47, 48]) (c112x7)
def c112x9 : AC := .loop (c112x8)
def c112x10 : AC := .block 6 (c112x9)
def c112x11 : AC := .seq (.reg [
  ⟨(some 45), .mv (.t 0), none⟩,
  ⟨(some 46), .call 56 [(.t 45), (.k (.int .i64 3))], none⟩,
  ⟨(some 47), .mv (.k (.int .i64 0)), none⟩] [0, 5, 7, 41, 42, 46, 47]) (c112x10)
def c112x12 : AC := .seq (.reg [
  ⟨(some 44), .mv (.t 42), none⟩,
  ⟨(some 7), .mv (.t 44), none⟩] [0, 5, 7, 41, 42]) (c112x11)
def c112x13 : AC := .block 5 (c112x12)
def c112x14 : AC := .seq (c112x13) (c112x1)
def c112x15 : AC := .cond (.t 43) (.skip) (.exit 4)
def c112x16 : AC := .seq (c112x15) (c112x14)
def c112x17 : AC := .seq (.reg [
  ⟨(some 43), .bin .lss (.t 42) (.t 41), none⟩] [0, 5, 41, 42, 43]) (c112x16)
def c112x18 : AC := .loop (c112x17)
def c112x19 : AC := .block 4 (c112x18)
def c112x20 : AC := .seq (.reg [
  ⟨(some 40), .mv (.t 5), none⟩,
  ⟨(some 41), .len (.t 40), none⟩,
  ⟨(some 42), .mv (.k (.int .i64 0)), none⟩] [0, 5, 41, 42]) (c112x19)
def c112x21 : AC := .seq (c112x20) (c112x0)
def c112x22 : AC := .reg [
  ⟨(some 39), .bin .add (.t 20) (.k (.int .i64 1)), none⟩,
  ⟨(some 20), .mv (.t 39), none⟩] [0, 5, 19, 20]
def c112x23 : AC := .reg [
  ⟨(some 35), .mv (.t 5), none⟩,
  ⟨(some 36), .ld (some 4) (.t 6), none⟩,
  ⟨(some 37), .bsl [(.int .i64 0), (.int .i64 0), (.int .i64 0), (.slice none 0 0)] 1 [(0, (.t 36))], none⟩,
  ⟨(some 38), .app 4 48 (.t 35) (.t 37), none⟩,
  ⟨(some 5), .mv (.t 38), none⟩] [0, 5, 19, 20]
def c112x24 : AC := .reg [
  ⟨(some 28), .mv (.t 0), none⟩,
  ⟨(some 29), .call 56 [(.t 28), (.k (.int .i64 11))], none⟩,
  ⟨(some 30), .bin .add (.k (.int .i64 1)) (.t 29), none⟩,
  ⟨(some 31), .mv (.t 0), none⟩,
  ⟨(some 32), .call 56 [(.t 31), (.k (.int .i64 7))], none⟩,
  ⟨(some 33), .fad 1 (.t 6), none⟩,
  ⟨none, .st 1 (.t 33) (.t 30), none⟩,
  ⟨(some 34), .fad 2 (.t 6), none⟩,
  ⟨none, .st 1 (.t 34) (.t 32), none⟩] [0, 5, 6, 19, 20]
def c112x25 : AC := .cond (.t 27) (c112x24) (.skip)
def c112x26 : AC := .seq (.reg [
  ⟨(some 25), .fad 0 (.t 6), none⟩,
  ⟨(some 26), .ld none (.t 25), none⟩,
  ⟨(some 27), .bin .neq (.t 26) (.k (.int .i64 0)), none⟩] [0, 5, 6, 19, 20, 27]) (c112x25)
def c112x27 : AC := .seq (c112x26) (c112x23)
def c112x28 : AC := .seq (.reg [
  ⟨(some 22), .mv (.t 0), none⟩,
  ⟨(some 23), .call 56 [(.t 22), (.k (.int .i64 3))], none⟩,
  ⟨(some 24), .build [(.int .i64 0), (.int .i64 0), (.int .i64 0), (.slice none 0 0)] [(0, 1, (.t 23))], none⟩,
  ⟨(some 6), .zero [(.int .i64 0), (.int .i64 0), (.int .i64 0), (.slice none 0 0)], none⟩,
  ⟨none, .st 4 (.t 6) (.t 24), none⟩] [0, 5, 6, 19, 20]) (c112x27)
def c112x29 : AC := .block 3 (c112x28)
def c112x30 : AC := .seq (c112x29) (c112x22)
def c112x31 : AC := .cond (.t 21) (.skip) (.exit 2)
def c112x32 : AC := .seq (c112x31) (c112x30)
def c112x33 : AC := .seq (.reg [
  ⟨(some 21), .bin .lss (.t 20) (.t 19), none⟩] [0, 5, 19, 20, 21]) (c112x32)
def c112x34 : AC := .loop (c112x33)
def c112x35 : AC := .block 2 (c112x34)
def c112x36 : AC := .seq (.reg [
  ⟨(some 18), .mv (.t 0), none⟩,
  ⟨(some 19), .call 56 [(.t 18), (.k (.int .i64 4))], none⟩,
  ⟨(some 20), .mv (.k (.int .i64 0)), none⟩] [0, 5, 19, 20]) (c112x35)
def c112x37 : AC := .seq (c112x36) (c112x21)
def c112x38 : AC := .reg [
  ⟨(some 17), .bin .add (.t 9) (.k (.int .i64 1)), none⟩,
  ⟨(some 9), .mv (.t 17), none⟩] [0, 5, 8, 9]
def c112x39 : AC := .reg [
  ⟨(some 11), .mv (.t 5), none⟩,
  ⟨(some 12), .mv (.t 0), none⟩,
  ⟨(some 13), .call 56 [(.t 12), (.k (.int .i64 7))], none⟩,
  ⟨(some 14), .build [(.int .i64 0), (.int .i64 0), (.int .i64 0), (.slice none 0 0)] [(0, 1, (.k (.int .i64 1))), (1, 1, (.k (.int .i64 0))), (2, 1, (.t 13))], none⟩,
  ⟨(some 15), .bsl [(.int .i64 0), (.int .i64 0), (.int .i64 0), (.slice none 0 0)] 1 [(0, (.t 14))], none⟩,
  ⟨(some 16), .app 4 48 (.t 11) (.t 15), none⟩,
  ⟨(some 5), .mv (.t 16), none⟩] [0, 5, 8, 9]
def c112x40 : AC := .block 1 (c112x39)
def c112x41 : AC := .seq (c112x40) (c112x38)
def c112x42 : AC := .cond (.t 10) (.skip) (.exit 0)
def c112x43 : AC := .seq (c112x42) (c112x41)
def c112x44 : AC := .seq (.reg [
  ⟨(some 10), .bin .lss (.t 9) (.t 8), none⟩] [0, 5, 8, 9, 10]) (c112x43)
def c112x45 : AC := .loop (c112x44)
def c112x46 : AC := .block 0 (c112x45)
def c112x47 : AC := .seq (.reg [
  ⟨(some 8), .mv (.t 1), none⟩,
  ⟨(some 9), .mv (.k (.int .i64 0)), none⟩] [0, 5, 8, 9]) (c112x46)
def c112x48 : AC := .seq (c112x47) (c112x37)
def c112x49 : AC := .seq (.reg [
  ⟨(some 5), .mv (.k (.slice none 0 0)), none⟩] [0, 1, 5]) (c112x48)
def c112 : AC := .seq (.reg [
  ⟨(some 4), .mv (.k (.slice none 0 0)), none⟩] [0, 1]) (c112x49)
theorem k112 : Try.f112.body.bind (compC Try.prog Try.f112.ntmps v112) = some c112 := by kernel_rfl
theorem e112 : enters Try.prog 112 = true := by kernel_rfl
theorem q112 : Try.f112.results.toList.mapM (compRes Try.prog) = some r112 := by kernel_rfl
/-- bakelite/bakemake.step -/
def v163 : List (Nat × List Nat) := [(0, [0, 2]), (1, [0, 2, 3, 4]), (2, [0, 2, 3, 4, 5]), (3, [0, 2, 3, 4, 5, 13]), (4, [0, 2, 3, 4, 5, 13, 14]), (5, [2]), (6, [0, 2, 3, 4, 5, 13, 17]), (7, [2]), (8, [0, 2, 3, 4, 5, 13, 24]), (9, [2]), (10, [0, 2, 3, 4, 5, 13, 31]), (11, [0, 2, 3, 4, 5, 13, 31]), (12, [2]), (13, [0, 2, 3, 4, 5, 13, 38]), (14, [0, 2, 3, 4, 5, 13, 38]), (15, [0, 2, 3, 4, 5, 13, 38]), (16, [0, 2, 3, 4, 5, 13, 38]), (17, [2]), (18, [0, 2, 3, 4, 5, 13, 47]), (19, [0, 2, 3, 4, 5, 13, 47]), (20, [2]), (21, [0, 2, 3, 5, 13, 54]), (22, [2]), (23, [0, 2, 3, 5, 13, 62]), (24, [0, 2, 3, 5, 13, 62]), (25, [0, 2, 3, 5, 13, 62]), (26, [0, 2, 3, 5, 13, 62]), (27, [0, 2, 3, 5, 13, 62]), (28, [0, 2, 3, 5, 62]), (29, [2]), (30, [2])]
def r163 : List AR := [.cell (some 4) 2]
def c163x0 : AC := .seq (.reg [
  ⟨(some 74), .mv (.t 5), none⟩,
  ⟨(some 75), .mv (.t 3), none⟩,
  ⟨(some 76), .build [(.int .i64 0), (.int .i64 0), (.int .i64 0), (.int .i64 0)] [(0, 1, (.t 74)), (1, 1, (.t 75))], none⟩,
  ⟨none, .st 4 (.t 2) (.t 76), none⟩] [2]) (.ret)
def c163x1 : AC := .seq (.reg [
  ⟨(some 16), .build [(.int .i64 0), (.int .i64 0), (.int .i64 0), (.int .i64 0)] [], none⟩,
  ⟨none, .st 4 (.t 2) (.t 16), none⟩] [2]) (.ret)
def c163x2 : AC := .seq (.reg [
  ⟨(some 19), .mv (.t 5), none⟩,
  ⟨(some 20), .mv (.t 3), none⟩,
  ⟨(some 21), .mv (.t 0), none⟩,
  ⟨(some 22), .call 56 [(.t 21), (.k (.int .i64 7))], none⟩,
  ⟨(some 23), .build [(.int .i64 0), (.int .i64 0), (.int .i64 0), (.int .i64 0)] [(0, 1, (.t 19)), (1, 1, (.t 20)), (2, 1, (.t 22))], none⟩,
  ⟨none, .st 4 (.t 2) (.t 23), none⟩] [2]) (.ret)
def c163x3 : AC := .seq (.reg [
  ⟨(some 26), .mv (.t 5), none⟩,
  ⟨(some 27), .mv (.t 3), none⟩,
  ⟨(some 28), .mv (.t 0), none⟩,
  ⟨(some 29), .call 56 [(.t 28), (.k (.int .i64 256))], none⟩,
  ⟨(some 30), .build [(.int .i64 0), (.int .i64 0), (.int .i64 0), (.int .i64 0)] [(0, 1, (.t 26)), (1, 1, (.t 27)), (3, 1, (.t 29))], none⟩,
  ⟨none, .st 4 (.t 2) (.t 30), none⟩] [2]) (.ret)
def c163x4 : AC := .seq (.reg [
  ⟨(some 34), .mv (.t 5), none⟩,
  ⟨(some 35), .mv (.t 0), none⟩,
  ⟨(some 36), .call 56 [(.t 35), (.k (.int .i64 256))], none⟩,
  ⟨(some 37), .build [(.int .i64 0), (.int .i64 0), (.int .i64 0), (.int .i64 0)] [(0, 1, (.t 34)), (3, 1, (.t 36))], none⟩,
  ⟨none, .st 4 (.t 2) (.t 37), none⟩] [2]) (.ret)
def c163x5 : AC := .seq (.reg [
  ⟨(some 43), .mv (.t 5), none⟩,
  ⟨(some 44), .mv (.t 4), none⟩,
  ⟨(some 45), .mv (.t 3), none⟩,
  ⟨(some 46), .build [(.int .i64 0), (.int .i64 0), (.int .i64 0), (.int .i64 0)] [(0, 1, (.t 43)), (1, 1, (.t 44)), (2, 1, (.t 45))], none⟩,
  ⟨none, .st 4 (.t 2) (.t 46), none⟩] [2]) (.ret)
def c163x6 : AC := .seq (.reg [
  ⟨(some 50), .mv (.t 5), none⟩,
  ⟨(some 51), .mv (.t 3), none⟩,
  ⟨(some 52), .mv (.t 4), none⟩,
  ⟨(some 53), .build [(.int .i64 0), (.int .i64 0), (.int .i64 0), (.int .i64 0)] [(0, 1, (.t 50)), (1, 1, (.t 51)), (2, 1, (.t 52))], none⟩,
  ⟨none, .st 4 (.t 2) (.t 53), none⟩] [2]) (.ret)
def c163x7 : AC := .seq (.reg [
  ⟨(some 56), .mv (.t 5), none⟩,
  ⟨(some 57), .mv (.t 0), none⟩,
  ⟨(some 58), .call 56 [(.t 57), (.k (.int .i64 2))], none⟩,
  ⟨(some 59), .mv (.t 0), none⟩,
  ⟨(some 60), .call 56 [(.t 59), (.k (.int .i64 256))], none⟩,
  ⟨(some 61), .build [(.int .i64 0), (.int .i64 0), (.int .i64 0), (.int .i64 0)] [(0, 1, (.t 56)), (2, 1, (.t 58)), (3, 1, (.t 60))], none⟩,
  ⟨none, .st 4 (.t 2) (.t 61), none⟩] [2]) (.ret)
def c163x8 : AC := .seq (.reg [
  ⟨(some 69), .mv (.t 5), none⟩,
  ⟨(some 70), .mv (.t 3), none⟩,
  ⟨(some 71), .mv (.t 0), none⟩,
  ⟨(some 72), .call 56 [(.t 71), (.k (.int .i64 7))], none⟩,
  ⟨(some 73), .build [(.int .i64 0), (.int .i64 0), (.int .i64 0), (.int .i64 0)] [(0, 1, (.t 69)), (1, 1, (.t 70)), (2, 1, (.t 72))], none⟩,
  ⟨none, .st 4 (.t 2) (.t 73), none⟩] [2]) (.ret)
def c163x9 : AC := .cond (.t 62) (c163x8) (.skip)
def c163x10 : AC := .reg [
  ⟨(some 68), .bin .eql (.t 13) (.k (.int .i64 9)), none⟩,
  ⟨(some 62), .mv (.t 68), none⟩] [0, 2, 3, 5, 62]
def c163x11 : AC := .cond (.t 62) (.skip) (c163x10)
def c163x12 : AC := .seq (.reg [
  ⟨(some 67), .bin .eql (.t 13) (.k (.int .i64 8)), none⟩,
  ⟨(some 62), .mv (.t 67), none⟩] [0, 2, 3, 5, 13, 62]) (c163x11)
def c163x13 : AC := .cond (.t 62) (.skip) (c163x12)
def c163x14 : AC := .seq (.reg [
  ⟨(some 66), .bin .eql (.t 13) (.k (.int .i64 7)), none⟩,
  ⟨(some 62), .mv (.t 66), none⟩] [0, 2, 3, 5, 13, 62]) (c163x13)
def c163x15 : AC := .cond (.t 62) (.skip) (c163x14)
def c163x16 : AC := .seq (.reg [
  ⟨(some 65), .bin .eql (.t 13) (.k (.int .i64 6)), none⟩,
  ⟨(some 62), .mv (.t 65), none⟩] [0, 2, 3, 5, 13, 62]) (c163x15)
def c163x17 : AC := .cond (.t 62) (.skip) (c163x16)
def c163x18 : AC := .seq (.reg [
  ⟨(some 64), .bin .eql (.t 13) (.k (.int .i64 5)), none⟩,
  ⟨(some 62), .mv (.t 64), none⟩] [0, 2, 3, 5, 13, 62]) (c163x17)
def c163x19 : AC := .cond (.t 62) (.skip) (c163x18)
def c163x20 : AC := .seq (.reg [
  ⟨(some 63), .bin .eql (.t 13) (.k (.int .i64 4)), none⟩,
  ⟨(some 62), .mv (.t 63), none⟩] [0, 2, 3, 5, 13, 62]) (c163x19)
def c163x21 : AC := .seq (c163x20) (c163x9)
def c163x22 : AC := .cond (.t 54) (c163x7) (c163x21)
def c163x23 : AC := .seq (.reg [
  ⟨(some 55), .bin .eql (.t 13) (.k (.int .i64 24)), none⟩,
  ⟨(some 54), .mv (.t 55), none⟩] [0, 2, 3, 5, 13, 54]) (c163x22)
def c163x24 : AC := .cond (.t 47) (c163x6) (c163x23)
def c163x25 : AC := .reg [
  ⟨(some 49), .bin .eql (.t 13) (.k (.int .i64 21)), none⟩,
  ⟨(some 47), .mv (.t 49), none⟩] [0, 2, 3, 4, 5, 13, 47]
def c163x26 : AC := .cond (.t 47) (.skip) (c163x25)
def c163x27 : AC := .seq (.reg [
  ⟨(some 48), .bin .eql (.t 13) (.k (.int .i64 20)), none⟩,
  ⟨(some 47), .mv (.t 48), none⟩] [0, 2, 3, 4, 5, 13, 47]) (c163x26)
def c163x28 : AC := .seq (c163x27) (c163x24)
def c163x29 : AC := .cond (.t 38) (c163x5) (c163x28)
def c163x30 : AC := .reg [
  ⟨(some 42), .bin .eql (.t 13) (.k (.int .i64 23)), none⟩,
  ⟨(some 38), .mv (.t 42), none⟩] [0, 2, 3, 4, 5, 13, 38]
def c163x31 : AC := .cond (.t 38) (.skip) (c163x30)
def c163x32 : AC := .seq (.reg [
  ⟨(some 41), .bin .eql (.t 13) (.k (.int .i64 22)), none⟩,
  ⟨(some 38), .mv (.t 41), none⟩] [0, 2, 3, 4, 5, 13, 38]) (c163x31)
def c163x33 : AC := .cond (.t 38) (.skip) (c163x32)
def c163x34 : AC := .seq (.reg [
  ⟨(some 40), .bin .eql (.t 13) (.k (.int .i64 19)), none⟩,
  ⟨(some 38), .mv (.t 40), none⟩] [0, 2, 3, 4, 5, 13, 38]) (c163x33)
def c163x35 : AC := .cond (.t 38) (.skip) (c163x34)
def c163x36 : AC := .seq (.reg [
  ⟨(some 39), .bin .eql (.t 13) (.k (.int .i64 18)), none⟩,
  ⟨(some 38), .mv (.t 39), none⟩] [0, 2, 3, 4, 5, 13, 38]) (c163x35)
def c163x37 : AC := .seq (c163x36) (c163x29)
def c163x38 : AC := .cond (.t 31) (c163x4) (c163x37)
def c163x39 : AC := .reg [
  ⟨(some 33), .bin .eql (.t 13) (.k (.int .i64 17)), none⟩,
  ⟨(some 31), .mv (.t 33), none⟩] [0, 2, 3, 4, 5, 13, 31]
def c163x40 : AC := .cond (.t 31) (.skip) (c163x39)
def c163x41 : AC := .seq (.reg [
  ⟨(some 32), .bin .eql (.t 13) (.k (.int .i64 16)), none⟩,
  ⟨(some 31), .mv (.t 32), none⟩] [0, 2, 3, 4, 5, 13, 31]) (c163x40)
def c163x42 : AC := .seq (c163x41) (c163x38)
def c163x43 : AC := .cond (.t 24) (c163x3) (c163x42)
def c163x44 : AC := .seq (.reg [
  ⟨(some 25), .bin .eql (.t 13) (.k (.int .i64 2)), none⟩,
  ⟨(some 24), .mv (.t 25), none⟩] [0, 2, 3, 4, 5, 13, 24]) (c163x43)
def c163x45 : AC := .cond (.t 17) (c163x2) (c163x44)
def c163x46 : AC := .seq (.reg [
  ⟨(some 18), .bin .eql (.t 13) (.k (.int .i64 1)), none⟩,
  ⟨(some 17), .mv (.t 18), none⟩] [0, 2, 3, 4, 5, 13, 17]) (c163x45)
def c163x47 : AC := .cond (.t 14) (c163x1) (c163x46)
def c163x48 : AC := .seq (.reg [
  ⟨(some 15), .bin .eql (.t 13) (.k (.int .i64 0)), none⟩,
  ⟨(some 14), .mv (.t 15), none⟩] [0, 2, 3, 4, 5, 13, 14]) (c163x47)
def c163x49 : AC := .block 0 (c163x48)
def c163x50 : AC := .seq (.reg [
  ⟨(some 13), .mv (.t 5), none⟩] [0, 2, 3, 4, 5, 13]) (c163x49)
def c163x51 : AC := .seq (c163x50) (c163x0)
def c163x52 : AC := .seq (.reg [
  ⟨(some 11), .mv (.t 0), none⟩,
  ⟨(some 12), .call 56 [(.t 11), (.k (.int .i64 25))], none⟩,
  ⟨(some 5), .mv (.t 12), none⟩] [0, 2, 3, 4, 5]) (c163x51)
def c163x53 : AC := .seq (.reg [
  ⟨(some 6), .mv (.t 0), none⟩,
  ⟨(some 7), .call 56 [(.t 6), (.k (.int .i64 7))], none⟩,
  ⟨(some 8), .mv (.t 0), none⟩,
  ⟨(some 9), .call 56 [(.t 8), (.k (.int .i64 2))], none⟩,
  ⟨(some 10), .bin .add (.k (.int .i64 7)) (.t 9), none⟩,
  ⟨(some 3), .mv (.t 7), none⟩,
  ⟨(some 4), .mv (.t 10), none⟩] [0, 2, 3, 4]) (c163x52)
def c163 : AC := .seq (.reg [
  ⟨(some 2), .zero [(.int .i64 0), (.int .i64 0), (.int .i64 0), (.int .i64 0)], none⟩] [0, 2]) (c163x53)
theorem k163 : Try.f163.body.bind (compC Try.prog Try.f163.ntmps v163) = some c163 := by kernel_rfl
theorem e163 : enters Try.prog 163 = true := by kernel_rfl
theorem q163 : Try.f163.results.toList.mapM (compRes Try.prog) = some r163 := by kernel_rfl
end Go.Proofs.Ytjmmompbmjhkpaa.Code
