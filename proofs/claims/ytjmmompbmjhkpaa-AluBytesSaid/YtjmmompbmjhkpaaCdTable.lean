/- The code of functions (Table) over abstract values, printed by a program, and that it is what the program's form in Lean turns into. No condition. -/
import Derived.Test.YtjmmompbmjhkpaaProg
import Derived.Test.YtjmmompbmjhkpaaCalcJ
import Derived.KernelRfl
namespace Go.Proofs.Ytjmmompbmjhkpaa.Code
open Go Go.Proofs.Ytjmmompbmjhkpaa.Calc
set_option maxRecDepth 100000
/-- bakelite/table.Check -/
def v60 : List (Nat × List Nat) := [(0, [1]), (1, [1, 9]), (2, [2]), (3, [1, 14]), (4, [2]), (5, [1, 20, 21, 22]), (6, [1, 20, 21, 22, 23]), (7, [1, 3, 4, 20, 21, 22]), (8, [1, 3, 4, 20, 21, 22, 27]), (9, [2]), (10, [1, 3, 4, 20, 21, 22, 36]), (11, [2]), (12, [1, 3, 4, 20, 21, 22, 51]), (13, [2]), (14, [1, 3, 4, 20, 21, 22, 56]), (15, [2]), (16, [1, 4, 20, 21, 22, 61]), (17, [2]), (18, [1, 4, 5, 20, 21, 22]), (19, [1, 4, 5, 20, 21, 22, 72]), (20, [2]), (21, [1, 20, 21, 22, 80]), (22, [2]), (23, [1, 20, 21, 22]), (24, [88, 89, 90]), (25, [88, 89, 90, 91]), (26, [7, 88, 89, 90]), (27, [8, 88, 89, 90]), (28, [8, 88, 89, 90, 97]), (29, [2]), (30, [88, 89, 90]), (31, [2])]
def r60 : List AR := [.t 2]
def c60x0 : AC := .seq (.reg [
  ⟨(some 2), .mv (.k (.int .i64 0)), none⟩] [2]) (.ret)
def c60x1 : AC := .reg [
  ⟨(some 99), .bin .add (.t 90) (.k (.int .i64 1)), none⟩,
  ⟨(some 90), .mv (.t 99), none⟩] [88, 89, 90]
def c60x2 : AC := .seq (.reg [
  ⟨(some 98), .mv (.t 8), none⟩,
  ⟨(some 2), .mv (.t 98), none⟩] [2]) (.ret)
def c60x3 : AC := .cond (.t 97) (c60x2) (.skip)
def c60x4 : AC := .seq (.reg [
  ⟨(some 96), .mv (.t 8), none⟩,
  ⟨(some 97), .bin .neq (.t 96) (.k (.int .i64 0)), none⟩] [8, 88, 89, 90, 97]) (c60x3)
def c60x5 : AC := .seq (.reg [
  ⟨(some 94), .mv (.t 7), none⟩,
  ⟨(some 95), .call 115 [(.t 94)], none⟩,
  ⟨(some 8), .mv (.t 95), none⟩] [8, 88, 89, 90]) (c60x4)
def c60x6 : AC := .seq (.reg [
  ⟨(some 92), .idx 1 none (.t 88) (.t 90), none⟩,
  ⟨(some 93), .ld none (.t 92), none⟩,
  ⟨(some 7), .mv (.t 93), none⟩] [7, 88, 89, 90]) (c60x5)
def c60x7 : AC := .block 5 (c60x6)
def c60x8 : AC := .seq (c60x7) (c60x1)
def c60x9 : AC := .cond (.t 91) (.skip) (.exit 4)
def c60x10 : AC := .seq (c60x9) (c60x8)
def c60x11 : AC := .seq (.reg [
  ⟨(some 91), .bin .lss (.t 90) (.t 89), none⟩] [88, 89, 90, 91]) (c60x10)
def c60x12 : AC := .loop (c60x11)
def c60x13 : AC := .block 4 (c60x12)
def c60x14 : AC := .seq (.reg [
  ⟨(some 82), .fad 2 (.t 1), none⟩,
  ⟨(some 83), .ld none (.t 82), none⟩,
  ⟨(some 84), .fad 3 (.t 1), none⟩,
  ⟨(some 85), .ld none (.t 84), none⟩,
  ⟨(some 86), .fad 4 (.t 1), none⟩,
  ⟨(some 87), .ld none (.t 86), none⟩,
  ⟨(some 88), .bsl [(.slice none 0 0)] 3 [(0, (.t 83)), (1, (.t 85)), (2, (.t 87))], none⟩,
  ⟨(some 89), .len (.t 88), none⟩,
  ⟨(some 90), .mv (.k (.int .i64 0)), none⟩] [88, 89, 90]) (c60x13)
def c60x15 : AC := .seq (c60x14) (c60x0)
def c60x16 : AC := .reg [
  ⟨(some 81), .bin .add (.t 22) (.k (.int .i64 1)), none⟩,
  ⟨(some 22), .mv (.t 81), none⟩] [1, 20, 21, 22]
def c60x17 : AC := .seq (.reg [
  ⟨(some 2), .mv (.k (.int .i64 3)), none⟩] [2]) (.ret)
def c60x18 : AC := .cond (.t 80) (c60x17) (.skip)
def c60x19 : AC := .seq (.dreg [
  ⟨(some 74), .fad 3 (.t 4), none⟩,
  ⟨(some 75), .ld none (.t 74), none⟩,
  ⟨(some 76), .call 116 [(.t 75)], none⟩,
  ⟨(some 77), .fad 2 (.t 4), none⟩,
  ⟨(some 78), .ld none (.t 77), none⟩,
  ⟨(some 79), .call 68 [(.t 78)], none⟩,
  ⟨(some 80), .bin .neq (.t 76) (.t 79), none⟩] [[], [0], [0, 1], [], [3], [0, 1, 2, 3, 4], [0, 1, 2, 3, 4, 5]] [1, 20, 21, 22, 80]) (c60x18)
def c60x20 : AC := .seq (.reg [
  ⟨(some 73), .mv (.t 5), none⟩,
  ⟨(some 2), .mv (.t 73), none⟩] [2]) (.ret)
def c60x21 : AC := .cond (.t 72) (c60x20) (.skip)
def c60x22 : AC := .seq (.reg [
  ⟨(some 71), .mv (.t 5), none⟩,
  ⟨(some 72), .bin .neq (.t 71) (.k (.int .i64 0)), none⟩] [1, 4, 5, 20, 21, 22, 72]) (c60x21)
def c60x23 : AC := .seq (.reg [
  ⟨(some 68), .fad 3 (.t 4), none⟩,
  ⟨(some 69), .ld none (.t 68), none⟩,
  ⟨(some 70), .call 115 [(.t 69)], none⟩,
  ⟨(some 5), .mv (.t 70), none⟩] [1, 4, 5, 20, 21, 22]) (c60x22)
def c60x24 : AC := .seq (c60x23) (c60x19)
def c60x25 : AC := .seq (.reg [
  ⟨(some 2), .mv (.k (.int .i64 1)), none⟩] [2]) (.ret)
def c60x26 : AC := .seq (.reg [
  ⟨(some 2), .mv (.k (.int .i64 9)), none⟩] [2]) (.ret)
def c60x27 : AC := .seq (.reg [
  ⟨(some 2), .mv (.k (.int .i64 15)), none⟩] [2]) (.ret)
def c60x28 : AC := .seq (.reg [
  ⟨(some 2), .mv (.k (.int .i64 8)), none⟩] [2]) (.ret)
def c60x29 : AC := .seq (.reg [
  ⟨(some 2), .mv (.k (.int .i64 5)), none⟩] [2]) (.ret)
def c60x30 : AC := .cond (.t 61) (c60x29) (.skip)
def c60x31 : AC := .seq (.reg [
  ⟨(some 62), .fad 1 (.t 1), none⟩,
  ⟨(some 63), .ld none (.t 62), none⟩,
  ⟨(some 64), .mv (.t 3), none⟩,
  ⟨(some 65), .slc 4 (.t 63) none (some (.t 64)), none⟩,
  ⟨(some 66), .mkf 114 [(.t 4)], none⟩,
  ⟨(some 67), .call 64 [(.t 65), (.t 66)], none⟩,
  ⟨(some 61), .mv (.t 67), none⟩] [1, 4, 20, 21, 22, 61]) (c60x30)
def c60x32 : AC := .cond (.t 56) (c60x28) (c60x31)
def c60x33 : AC := .seq (.reg [
  ⟨(some 57), .fad 2 (.t 4), none⟩,
  ⟨(some 58), .ld none (.t 57), none⟩,
  ⟨(some 59), .call 68 [(.t 58)], none⟩,
  ⟨(some 60), .bin .lss (.t 59) (.k (.int .i64 0)), none⟩,
  ⟨(some 56), .mv (.t 60), none⟩] [1, 3, 4, 20, 21, 22, 56]) (c60x32)
def c60x34 : AC := .cond (.t 51) (c60x27) (c60x33)
def c60x35 : AC := .seq (.reg [
  ⟨(some 52), .fad 1 (.t 4), none⟩,
  ⟨(some 53), .ld none (.t 52), none⟩,
  ⟨(some 54), .call 113 [(.t 53)], none⟩,
  ⟨(some 55), .not (.t 54), none⟩,
  ⟨(some 51), .mv (.t 55), none⟩] [1, 3, 4, 20, 21, 22, 51]) (c60x34)
def c60x36 : AC := .cond (.t 36) (c60x26) (c60x35)
def c60x37 : AC := .seq (.dreg [
  ⟨(some 37), .mv (.t 3), none⟩,
  ⟨(some 38), .bin .gtr (.t 37) (.k (.int .i64 0)), none⟩,
  ⟨(some 39), .mv (.t 38), none⟩,
  ⟨(some 40), .fad 0 (.t 4), (some (39, true))⟩,
  ⟨(some 41), .ld none (.t 40), (some (39, true))⟩,
  ⟨(some 42), .fad 1 (.t 1), (some (39, true))⟩,
  ⟨(some 43), .ld none (.t 42), (some (39, true))⟩,
  ⟨(some 44), .mv (.t 3), (some (39, true))⟩,
  ⟨(some 45), .bin .sub (.t 44) (.k (.int .i64 1)), (some (39, true))⟩,
  ⟨(some 46), .idx 4 none (.t 43) (.t 45), (some (39, true))⟩,
  ⟨(some 47), .fad 0 (.t 46), (some (39, true))⟩,
  ⟨(some 48), .ld none (.t 47), (some (39, true))⟩,
  ⟨(some 49), .bin .leq (.t 41) (.t 48), (some (39, true))⟩,
  ⟨(some 50), .pick (.t 39) (.t 49) (.k (.bool false)), none⟩,
  ⟨(some 36), .mv (.t 50), none⟩] [[], [0], [0, 1], [0, 1, 2], [0, 1, 2, 3], [0, 1, 2], [0, 1, 2, 5], [0, 1, 2], [0, 1, 2, 7], [0, 1, 2, 5, 6, 7, 8], [0, 1, 2, 5, 6, 7, 8, 9], [0, 1, 2, 5, 6, 7, 8, 9, 10], [0, 1, 2, 3, 4, 5, 6, 7, 8, 9, 10, 11], [0, 1, 2, 3, 4, 5, 6, 7, 8, 9, 10, 11, 12], [0, 1, 2, 3, 4, 5, 6, 7, 8, 9, 10, 11, 12, 13]] [1, 3, 4, 20, 21, 22, 36]) (c60x36)
def c60x38 : AC := .cond (.t 27) (c60x25) (c60x37)
def c60x39 : AC := .seq (.reg [
  ⟨(some 28), .fad 0 (.t 4), none⟩,
  ⟨(some 29), .ld none (.t 28), none⟩,
  ⟨(some 30), .bin .lss (.t 29) (.k (.int .i64 0)), none⟩,
  ⟨(some 31), .mv (.t 30), none⟩,
  ⟨(some 32), .fad 0 (.t 4), (some (31, false))⟩,
  ⟨(some 33), .ld none (.t 32), (some (31, false))⟩,
  ⟨(some 34), .bin .gtr (.t 33) (.k (.int .i64 255)), (some (31, false))⟩,
  ⟨(some 35), .pick (.t 31) (.k (.bool true)) (.t 34), none⟩,
  ⟨(some 27), .mv (.t 35), none⟩] [1, 3, 4, 20, 21, 22, 27]) (c60x38)
def c60x40 : AC := .block 3 (c60x39)
def c60x41 : AC := .seq (c60x40) (c60x24)
def c60x42 : AC := .seq (.reg [
  ⟨(some 24), .mv (.t 22), none⟩,
  ⟨(some 25), .idx 4 none (.t 20) (.t 22), none⟩,
  ⟨(some 26), .ld (some 4) (.t 25), none⟩,
  ⟨(some 4), .zero [(.int .i64 0), (.string ⟨#[]⟩), (.int .i64 0), (.slice none 0 0)], none⟩,
  ⟨(some 3), .mv (.t 24), none⟩,
  ⟨none, .st 4 (.t 4) (.t 26), none⟩] [1, 3, 4, 20, 21, 22]) (c60x41)
def c60x43 : AC := .block 2 (c60x42)
def c60x44 : AC := .seq (c60x43) (c60x16)
def c60x45 : AC := .cond (.t 23) (.skip) (.exit 1)
def c60x46 : AC := .seq (c60x45) (c60x44)
def c60x47 : AC := .seq (.reg [
  ⟨(some 23), .bin .lss (.t 22) (.t 21), none⟩] [1, 20, 21, 22, 23]) (c60x46)
def c60x48 : AC := .loop (c60x47)
def c60x49 : AC := .block 1 (c60x48)
def c60x50 : AC := .seq (.reg [
  ⟨(some 19), .fad 1 (.t 1), none⟩,
  ⟨(some 20), .ld none (.t 19), none⟩,
  ⟨(some 21), .len (.t 20), none⟩,
  ⟨(some 22), .mv (.k (.int .i64 0)), none⟩] [1, 20, 21, 22]) (c60x49)
def c60x51 : AC := .seq (c60x50) (c60x15)
def c60x52 : AC := .seq (.reg [
  ⟨(some 2), .mv (.k (.int .i64 15)), none⟩] [2]) (.ret)
def c60x53 : AC := .seq (.reg [
  ⟨(some 2), .mv (.k (.int .i64 2)), none⟩] [2]) (.ret)
def c60x54 : AC := .cond (.t 14) (c60x53) (.skip)
def c60x55 : AC := .seq (.reg [
  ⟨(some 15), .fad 1 (.t 1), none⟩,
  ⟨(some 16), .ld none (.t 15), none⟩,
  ⟨(some 17), .len (.t 16), none⟩,
  ⟨(some 18), .bin .gtr (.t 17) (.k (.int .i64 256)), none⟩,
  ⟨(some 14), .mv (.t 18), none⟩] [1, 14]) (c60x54)
def c60x56 : AC := .cond (.t 9) (c60x52) (c60x55)
def c60x57 : AC := .seq (.reg [
  ⟨(some 10), .fad 0 (.t 1), none⟩,
  ⟨(some 11), .ld none (.t 10), none⟩,
  ⟨(some 12), .call 113 [(.t 11)], none⟩,
  ⟨(some 13), .not (.t 12), none⟩,
  ⟨(some 9), .mv (.t 13), none⟩] [1, 9]) (c60x56)
def c60x58 : AC := .block 0 (c60x57)
def c60x59 : AC := .seq (c60x58) (c60x51)
def c60 : AC := .seq (.reg [
  ⟨(some 1), .new 5 (.t 0), none⟩,
  ⟨(some 2), .mv (.k (.int .i64 0)), none⟩] [1]) (c60x59)
theorem k60 : Try.f60.body.bind (compC Try.prog Try.f60.ntmps v60) = some c60 := by kernel_rfl
theorem e60 : enters Try.prog 60 = true := by kernel_rfl
theorem q60 : Try.f60.results.toList.mapM (compRes Try.prog) = some r60 := by kernel_rfl
/-- bakelite/table.Same -/
def v61 : List (Nat × List Nat) := [(0, [2, 3]), (1, [4])]
def r61 : List AR := [.t 4]
def c61x0 : AC := .seq (.reg [
  ⟨(some 5), .fad 0 (.t 2), none⟩,
  ⟨(some 6), .ld none (.t 5), none⟩,
  ⟨(some 7), .fad 0 (.t 3), none⟩,
  ⟨(some 8), .ld none (.t 7), none⟩,
  ⟨(some 9), .bin .eql (.t 6) (.t 8), none⟩,
  ⟨(some 10), .mv (.t 9), none⟩,
  ⟨(some 11), .fad 2 (.t 2), (some (10, true))⟩,
  ⟨(some 12), .ld none (.t 11), (some (10, true))⟩,
  ⟨(some 13), .fad 2 (.t 3), (some (10, true))⟩,
  ⟨(some 14), .ld none (.t 13), (some (10, true))⟩,
  ⟨(some 15), .call 117 [(.t 12), (.t 14)], (some (10, true))⟩,
  ⟨(some 16), .pick (.t 10) (.t 15) (.k (.bool false)), none⟩,
  ⟨(some 17), .mv (.t 16), none⟩,
  ⟨(some 18), .fad 3 (.t 2), (some (17, true))⟩,
  ⟨(some 19), .ld none (.t 18), (some (17, true))⟩,
  ⟨(some 20), .fad 3 (.t 3), (some (17, true))⟩,
  ⟨(some 21), .ld none (.t 20), (some (17, true))⟩,
  ⟨(some 22), .call 117 [(.t 19), (.t 21)], (some (17, true))⟩,
  ⟨(some 23), .pick (.t 17) (.t 22) (.k (.bool false)), none⟩,
  ⟨(some 24), .mv (.t 23), none⟩,
  ⟨(some 25), .fad 4 (.t 2), (some (24, true))⟩,
  ⟨(some 26), .ld none (.t 25), (some (24, true))⟩,
  ⟨(some 27), .fad 4 (.t 3), (some (24, true))⟩,
  ⟨(some 28), .ld none (.t 27), (some (24, true))⟩,
  ⟨(some 29), .call 117 [(.t 26), (.t 28)], (some (24, true))⟩,
  ⟨(some 30), .pick (.t 24) (.t 29) (.k (.bool false)), none⟩,
  ⟨(some 31), .mv (.t 30), none⟩,
  ⟨(some 32), .fad 1 (.t 2), (some (31, true))⟩,
  ⟨(some 33), .ld none (.t 32), (some (31, true))⟩,
  ⟨(some 34), .fad 1 (.t 3), (some (31, true))⟩,
  ⟨(some 35), .ld none (.t 34), (some (31, true))⟩,
  ⟨(some 36), .call 118 [(.t 33), (.t 35), (.f 119)], (some (31, true))⟩,
  ⟨(some 37), .pick (.t 31) (.t 36) (.k (.bool false)), none⟩,
  ⟨(some 4), .mv (.t 37), none⟩] [4]) (.ret)
def c61 : AC := .seq (.reg [
  ⟨(some 2), .new 5 (.t 0), none⟩,
  ⟨(some 3), .new 5 (.t 1), none⟩,
  ⟨(some 4), .mv (.k (.bool false)), none⟩] [2, 3]) (c61x0)
theorem k61 : Try.f61.body.bind (compC Try.prog Try.f61.ntmps v61) = some c61 := by kernel_rfl
theorem e61 : enters Try.prog 61 = true := by kernel_rfl
theorem q61 : Try.f61.results.toList.mapM (compRes Try.prog) = some r61 := by kernel_rfl
/-- bakelite/table.Find -/
def v62 : List (Nat × List Nat) := [(0, [2, 3, 4]), (1, [2, 4, 6]), (2, [2, 4, 6, 12]), (3, [4, 5]), (4, [4, 5])]
def r62 : List AR := [.cell (some 4) 4, .t 5]
def c62x0 : AC := .seq (.reg [
  ⟨(some 14), .fad 1 (.t 2), none⟩,
  ⟨(some 15), .ld none (.t 14), none⟩,
  ⟨(some 16), .mv (.t 6), none⟩,
  ⟨(some 17), .idx 4 none (.t 15) (.t 16), none⟩,
  ⟨(some 18), .ld (some 4) (.t 17), none⟩,
  ⟨(some 19), .call 122 [(.t 18)], none⟩,
  ⟨none, .st 4 (.t 4) (.t 19), none⟩,
  ⟨(some 5), .mv (.k (.bool true)), none⟩] [4, 5]) (.ret)
def c62x1 : AC := .seq (.reg [
  ⟨(some 13), .build [(.int .i64 0), (.string ⟨#[]⟩), (.int .i64 0), (.slice none 0 0)] [], none⟩,
  ⟨none, .st 4 (.t 4) (.t 13), none⟩,
  ⟨(some 5), .mv (.k (.bool false)), none⟩] [4, 5]) (.ret)
def c62x2 : AC := .cond (.t 12) (c62x1) (.skip)
def c62x3 : AC := .seq (.reg [
  ⟨(some 11), .mv (.t 6), none⟩,
  ⟨(some 12), .bin .lss (.t 11) (.k (.int .i64 0)), none⟩] [2, 4, 6, 12]) (c62x2)
def c62x4 : AC := .seq (c62x3) (c62x0)
def c62x5 : AC := .seq (.reg [
  ⟨(some 7), .fad 1 (.t 2), none⟩,
  ⟨(some 8), .ld none (.t 7), none⟩,
  ⟨(some 9), .mkf 121 [(.t 3)], none⟩,
  ⟨(some 10), .call 120 [(.t 8), (.t 9)], none⟩,
  ⟨(some 6), .mv (.t 10), none⟩] [2, 4, 6]) (c62x4)
def c62 : AC := .seq (.reg [
  ⟨(some 2), .new 5 (.t 0), none⟩,
  ⟨(some 3), .new 1 (.t 1), none⟩,
  ⟨(some 4), .zero [(.int .i64 0), (.string ⟨#[]⟩), (.int .i64 0), (.slice none 0 0)], none⟩,
  ⟨(some 5), .mv (.k (.bool false)), none⟩] [2, 3, 4]) (c62x5)
theorem k62 : Try.f62.body.bind (compC Try.prog Try.f62.ntmps v62) = some c62 := by kernel_rfl
theorem e62 : enters Try.prog 62 = true := by kernel_rfl
theorem q62 : Try.f62.results.toList.mapM (compRes Try.prog) = some r62 := by kernel_rfl
/-- bakelite/table.Named -/
def v63 : List (Nat × List Nat) := [(0, [3, 4, 5, 6]), (1, [3, 6, 8]), (2, [3, 6, 8, 14]), (3, [6, 7]), (4, [6, 7])]
def r63 : List AR := [.cell (some 4) 6, .t 7]
def c63x0 : AC := .seq (.reg [
  ⟨(some 16), .fad 1 (.t 3), none⟩,
  ⟨(some 17), .ld none (.t 16), none⟩,
  ⟨(some 18), .mv (.t 8), none⟩,
  ⟨(some 19), .idx 4 none (.t 17) (.t 18), none⟩,
  ⟨(some 20), .ld (some 4) (.t 19), none⟩,
  ⟨(some 21), .call 122 [(.t 20)], none⟩,
  ⟨none, .st 4 (.t 6) (.t 21), none⟩,
  ⟨(some 7), .mv (.k (.bool true)), none⟩] [6, 7]) (.ret)
def c63x1 : AC := .seq (.reg [
  ⟨(some 15), .build [(.int .i64 0), (.string ⟨#[]⟩), (.int .i64 0), (.slice none 0 0)] [], none⟩,
  ⟨none, .st 4 (.t 6) (.t 15), none⟩,
  ⟨(some 7), .mv (.k (.bool false)), none⟩] [6, 7]) (.ret)
def c63x2 : AC := .cond (.t 14) (c63x1) (.skip)
def c63x3 : AC := .seq (.reg [
  ⟨(some 13), .mv (.t 8), none⟩,
  ⟨(some 14), .bin .lss (.t 13) (.k (.int .i64 0)), none⟩] [3, 6, 8, 14]) (c63x2)
def c63x4 : AC := .seq (c63x3) (c63x0)
def c63x5 : AC := .seq (.reg [
  ⟨(some 9), .fad 1 (.t 3), none⟩,
  ⟨(some 10), .ld none (.t 9), none⟩,
  ⟨(some 11), .mkf 123 [(.t 4), (.t 5)], none⟩,
  ⟨(some 12), .call 120 [(.t 10), (.t 11)], none⟩,
  ⟨(some 8), .mv (.t 12), none⟩] [3, 6, 8]) (c63x4)
def c63 : AC := .seq (.reg [
  ⟨(some 3), .new 5 (.t 0), none⟩,
  ⟨(some 4), .new 1 (.t 1), none⟩,
  ⟨(some 5), .new 1 (.t 2), none⟩,
  ⟨(some 6), .zero [(.int .i64 0), (.string ⟨#[]⟩), (.int .i64 0), (.slice none 0 0)], none⟩,
  ⟨(some 7), .mv (.k (.bool false)), none⟩] [3, 4, 5, 6]) (c63x5)
theorem k63 : Try.f63.body.bind (compC Try.prog Try.f63.ntmps v63) = some c63 := by kernel_rfl
theorem e63 : enters Try.prog 63 = true := by kernel_rfl
theorem q63 : Try.f63.results.toList.mapM (compRes Try.prog) = some r63 := by kernel_rfl
/-- bakelite/table.Size -/
def v68 : List (Nat × List Nat) := [(0, [0]), (1, [3]), (2, [3, 4]), (3, [2]), (4, [3, 6]), (5, [3, 6]), (6, [3, 6]), (7, [2]), (8, [3, 10]), (9, [3, 10]), (10, [3, 10]), (11, [3, 10]), (12, [10]), (13, [2]), (14, [2])]
def r68 : List AR := [.t 2]
def c68x0 : AC := .seq (.reg [
  ⟨(some 2), .mv (.k (.int .i64 (-1))), none⟩] [2]) (.ret)
def c68x1 : AC := .seq (.reg [
  ⟨(some 2), .mv (.k (.int .i64 0)), none⟩] [2]) (.ret)
def c68x2 : AC := .seq (.reg [
  ⟨(some 2), .mv (.k (.int .i64 2)), none⟩] [2]) (.ret)
def c68x3 : AC := .seq (.reg [
  ⟨(some 2), .mv (.k (.int .i64 1)), none⟩] [2]) (.ret)
def c68x4 : AC := .cond (.t 10) (c68x3) (.skip)
def c68x5 : AC := .reg [
  ⟨(some 15), .bin .eql (.t 3) (.k (.int .i64 8)), none⟩,
  ⟨(some 10), .mv (.t 15), none⟩] [10]
def c68x6 : AC := .cond (.t 10) (.skip) (c68x5)
def c68x7 : AC := .seq (.reg [
  ⟨(some 14), .bin .eql (.t 3) (.k (.int .i64 7)), none⟩,
  ⟨(some 10), .mv (.t 14), none⟩] [3, 10]) (c68x6)
def c68x8 : AC := .cond (.t 10) (.skip) (c68x7)
def c68x9 : AC := .seq (.reg [
  ⟨(some 13), .bin .eql (.t 3) (.k (.int .i64 3)), none⟩,
  ⟨(some 10), .mv (.t 13), none⟩] [3, 10]) (c68x8)
def c68x10 : AC := .cond (.t 10) (.skip) (c68x9)
def c68x11 : AC := .seq (.reg [
  ⟨(some 12), .bin .eql (.t 3) (.k (.int .i64 2)), none⟩,
  ⟨(some 10), .mv (.t 12), none⟩] [3, 10]) (c68x10)
def c68x12 : AC := .cond (.t 10) (.skip) (c68x11)
def c68x13 : AC := .seq (.reg [
  ⟨(some 11), .bin .eql (.t 3) (.k (.int .i64 1)), none⟩,
  ⟨(some 10), .mv (.t 11), none⟩] [3, 10]) (c68x12)
def c68x14 : AC := .seq (c68x13) (c68x4)
def c68x15 : AC := .cond (.t 6) (c68x2) (c68x14)
def c68x16 : AC := .reg [
  ⟨(some 9), .bin .eql (.t 3) (.k (.int .i64 6)), none⟩,
  ⟨(some 6), .mv (.t 9), none⟩] [3, 6]
def c68x17 : AC := .cond (.t 6) (.skip) (c68x16)
def c68x18 : AC := .seq (.reg [
  ⟨(some 8), .bin .eql (.t 3) (.k (.int .i64 5)), none⟩,
  ⟨(some 6), .mv (.t 8), none⟩] [3, 6]) (c68x17)
def c68x19 : AC := .cond (.t 6) (.skip) (c68x18)
def c68x20 : AC := .seq (.reg [
  ⟨(some 7), .bin .eql (.t 3) (.k (.int .i64 4)), none⟩,
  ⟨(some 6), .mv (.t 7), none⟩] [3, 6]) (c68x19)
def c68x21 : AC := .seq (c68x20) (c68x15)
def c68x22 : AC := .cond (.t 4) (c68x1) (c68x21)
def c68x23 : AC := .seq (.reg [
  ⟨(some 5), .bin .eql (.t 3) (.k (.int .i64 0)), none⟩,
  ⟨(some 4), .mv (.t 5), none⟩] [3, 4]) (c68x22)
def c68x24 : AC := .block 0 (c68x23)
def c68x25 : AC := .seq (.reg [
  ⟨(some 3), .mv (.t 0), none⟩] [3]) (c68x24)
def c68x26 : AC := .seq (c68x25) (c68x0)
def c68 : AC := .seq (.reg [
  ⟨(some 2), .mv (.k (.int .i64 0)), none⟩] [0]) (c68x26)
theorem k68 : Try.f68.body.bind (compC Try.prog Try.f68.ntmps v68) = some c68 := by kernel_rfl
theorem e68 : enters Try.prog 68 = true := by kernel_rfl
theorem q68 : Try.f68.results.toList.mapM (compRes Try.prog) = some r68 := by kernel_rfl
/-- bakelite/table.Wide -/
def v104 : List (Nat × List Nat) := [(0, [0]), (1, [2])]
def r104 : List AR := [.t 2]
def c104x0 : AC := .seq (.reg [
  ⟨(some 3), .mv (.t 0), none⟩,
  ⟨(some 4), .bin .eql (.t 3) (.k (.int .i64 7)), none⟩,
  ⟨(some 5), .mv (.t 4), none⟩,
  ⟨(some 6), .mv (.t 0), (some (5, false))⟩,
  ⟨(some 7), .bin .eql (.t 6) (.k (.int .i64 8)), (some (5, false))⟩,
  ⟨(some 8), .pick (.t 5) (.k (.bool true)) (.t 7), none⟩,
  ⟨(some 2), .mv (.t 8), none⟩] [2]) (.ret)
def c104 : AC := .seq (.reg [
  ⟨(some 2), .mv (.k (.bool false)), none⟩] [0]) (c104x0)
theorem k104 : Try.f104.body.bind (compC Try.prog Try.f104.ntmps v104) = some c104 := by kernel_rfl
theorem e104 : enters Try.prog 104 = true := by kernel_rfl
theorem q104 : Try.f104.results.toList.mapM (compRes Try.prog) = some r104 := by kernel_rfl
/-- bakelite/table.Name -/
def v113 : List (Nat × List Nat) := [(0, [0]), (1, [0, 21]), (2, [2]), (3, [23, 24, 25]), (4, [23, 24, 25, 26]), (5, [4, 23, 24, 25]), (6, [23, 24, 25, 47]), (7, [2]), (8, [23, 24, 25]), (9, [2])]
def r113 : List AR := [.t 2]
def c113x0 : AC := .seq (.reg [
  ⟨(some 2), .mv (.k (.bool true)), none⟩] [2]) (.ret)
def c113x1 : AC := .reg [
  ⟨(some 48), .bin .add (.t 25) (.k (.int .i64 1)), none⟩,
  ⟨(some 25), .mv (.t 48), none⟩] [23, 24, 25]
def c113x2 : AC := .seq (.reg [
  ⟨(some 2), .mv (.k (.bool false)), none⟩] [2]) (.ret)
def c113x3 : AC := .cond (.t 47) (c113x2) (.skip)
def c113x4 : AC := .seq (.reg [
  ⟨(some 29), .mv (.t 4), none⟩,
  ⟨(some 30), .bin .geq (.t 29) (.k (.int .u8 97)), none⟩,
  ⟨(some 31), .mv (.t 30), none⟩,
  ⟨(some 32), .mv (.t 4), (some (31, true))⟩,
  ⟨(some 33), .bin .leq (.t 32) (.k (.int .u8 122)), (some (31, true))⟩,
  ⟨(some 34), .pick (.t 31) (.t 33) (.k (.bool false)), none⟩,
  ⟨(some 35), .mv (.t 34), none⟩,
  ⟨(some 36), .mv (.t 4), (some (35, false))⟩,
  ⟨(some 37), .bin .geq (.t 36) (.k (.int .u8 48)), (some (35, false))⟩,
  ⟨(some 38), .mv (.t 37), (some (35, false))⟩,
  ⟨(some 39), .mv (.t 4), (some (38, true))⟩,
  ⟨(some 40), .bin .leq (.t 39) (.k (.int .u8 57)), (some (38, true))⟩,
  ⟨(some 41), .pick (.t 38) (.t 40) (.k (.bool false)), (some (35, false))⟩,
  ⟨(some 42), .pick (.t 35) (.k (.bool true)) (.t 41), none⟩,
  ⟨(some 43), .mv (.t 42), none⟩,
  ⟨(some 44), .mv (.t 4), (some (43, false))⟩,
  ⟨(some 45), .bin .eql (.t 44) (.k (.int .u8 45)), (some (43, false))⟩,
  ⟨(some 46), .pick (.t 43) (.k (.bool true)) (.t 45), none⟩,
  ⟨(some 47), .not (.t 46), none⟩] [23, 24, 25, 47]) (c113x3)
def c113x5 : AC := .seq (.reg [
  ⟨(some 27), .idx 1 none (.t 23) (.t 25), none⟩,
  ⟨(some 28), .ld none (.t 27), none⟩,
  ⟨(some 4), .mv (.t 28), none⟩] [4, 23, 24, 25]) (c113x4)
def c113x6 : AC := .block 1 (c113x5)
def c113x7 : AC := .seq (c113x6) (c113x1)
def c113x8 : AC := .cond (.t 26) (.skip) (.exit 0)
def c113x9 : AC := .seq (c113x8) (c113x7)
def c113x10 : AC := .seq (.reg [
  ⟨(some 26), .bin .lss (.t 25) (.t 24), none⟩] [23, 24, 25, 26]) (c113x9)
def c113x11 : AC := .loop (c113x10)
def c113x12 : AC := .block 0 (c113x11)
def c113x13 : AC := .seq (.reg [
  ⟨(some 22), .mv (.t 0), none⟩,
  ⟨(some 23), .s2b (.t 22), none⟩,
  ⟨(some 24), .len (.t 23), none⟩,
  ⟨(some 25), .mv (.k (.int .i64 0)), none⟩] [23, 24, 25]) (c113x12)
def c113x14 : AC := .seq (c113x13) (c113x0)
def c113x15 : AC := .seq (.reg [
  ⟨(some 2), .mv (.k (.bool false)), none⟩] [2]) (.ret)
def c113x16 : AC := .cond (.t 21) (c113x15) (.skip)
def c113x17 : AC := .seq (.reg [
  ⟨(some 5), .mv (.t 0), none⟩,
  ⟨(some 6), .bin .eql (.t 5) (.k (.string ⟨#[]⟩)), none⟩,
  ⟨(some 7), .mv (.t 6), none⟩,
  ⟨(some 8), .mv (.t 0), (some (7, false))⟩,
  ⟨(some 9), .lens (.t 8), (some (7, false))⟩,
  ⟨(some 10), .bin .gtr (.t 9) (.k (.int .i64 20)), (some (7, false))⟩,
  ⟨(some 11), .pick (.t 7) (.k (.bool true)) (.t 10), none⟩,
  ⟨(some 12), .mv (.t 11), none⟩,
  ⟨(some 13), .mv (.t 0), (some (12, false))⟩,
  ⟨(some 14), .ixs (.t 13) (.k (.int .i64 0)), (some (12, false))⟩,
  ⟨(some 15), .bin .lss (.t 14) (.k (.int .u8 97)), (some (12, false))⟩,
  ⟨(some 16), .pick (.t 12) (.k (.bool true)) (.t 15), none⟩,
  ⟨(some 17), .mv (.t 16), none⟩,
  ⟨(some 18), .mv (.t 0), (some (17, false))⟩,
  ⟨(some 19), .ixs (.t 18) (.k (.int .i64 0)), (some (17, false))⟩,
  ⟨(some 20), .bin .gtr (.t 19) (.k (.int .u8 122)), (some (17, false))⟩,
  ⟨(some 21), .pick (.t 17) (.k (.bool true)) (.t 20), none⟩] [0, 21]) (c113x16)
def c113x18 : AC := .seq (c113x17) (c113x14)
def c113 : AC := .seq (.reg [
  ⟨(some 2), .mv (.k (.bool false)), none⟩] [0]) (c113x18)
theorem k113 : Try.f113.body.bind (compC Try.prog Try.f113.ntmps v113) = some c113 := by kernel_rfl
theorem e113 : enters Try.prog 113 = true := by kernel_rfl
theorem q113 : Try.f113.results.toList.mapM (compRes Try.prog) = some r113 := by kernel_rfl
/-- bakelite/table.Check$1 -/
def v114 : List (Nat × List Nat) := [(0, [1, 2]), (1, [3])]
def r114 : List AR := [.t 3]
def c114x0 : AC := .seq (.reg [
  ⟨(some 4), .fad 1 (.t 2), none⟩,
  ⟨(some 5), .ld none (.t 4), none⟩,
  ⟨(some 6), .fad 1 (.t 1), none⟩,
  ⟨(some 7), .ld none (.t 6), none⟩,
  ⟨(some 8), .bin .eql (.t 5) (.t 7), none⟩,
  ⟨(some 9), .mv (.t 8), none⟩,
  ⟨(some 10), .fad 2 (.t 2), (some (9, true))⟩,
  ⟨(some 11), .ld none (.t 10), (some (9, true))⟩,
  ⟨(some 12), .fad 2 (.t 1), (some (9, true))⟩,
  ⟨(some 13), .ld none (.t 12), (some (9, true))⟩,
  ⟨(some 14), .bin .eql (.t 11) (.t 13), (some (9, true))⟩,
  ⟨(some 15), .pick (.t 9) (.t 14) (.k (.bool false)), none⟩,
  ⟨(some 3), .mv (.t 15), none⟩] [3]) (.ret)
def c114 : AC := .seq (.reg [
  ⟨(some 2), .new 4 (.t 0), none⟩,
  ⟨(some 3), .mv (.k (.bool false)), none⟩] [1, 2]) (c114x0)
theorem k114 : Try.f114.body.bind (compC Try.prog Try.f114.ntmps v114) = some c114 := by kernel_rfl
theorem e114 : enters Try.prog 114 = true := by kernel_rfl
theorem q114 : Try.f114.results.toList.mapM (compRes Try.prog) = some r114 := by kernel_rfl
/-- bakelite/table.cycles -/
def v115 : List (Nat × List Nat) := [(0, [0]), (1, [0, 8]), (2, [2]), (3, [9, 10, 11]), (4, [9, 10, 11, 12]), (5, [4, 9, 10, 11]), (6, [5, 9, 10, 11]), (7, [5, 9, 10, 11, 18]), (8, [2]), (9, [9, 10, 11]), (10, [2])]
def r115 : List AR := [.t 2]
def c115x0 : AC := .seq (.reg [
  ⟨(some 2), .mv (.k (.int .i64 0)), none⟩] [2]) (.ret)
def c115x1 : AC := .reg [
  ⟨(some 20), .bin .add (.t 11) (.k (.int .i64 1)), none⟩,
  ⟨(some 11), .mv (.t 20), none⟩] [9, 10, 11]
def c115x2 : AC := .seq (.reg [
  ⟨(some 19), .mv (.t 5), none⟩,
  ⟨(some 2), .mv (.t 19), none⟩] [2]) (.ret)
def c115x3 : AC := .cond (.t 18) (c115x2) (.skip)
def c115x4 : AC := .seq (.reg [
  ⟨(some 17), .mv (.t 5), none⟩,
  ⟨(some 18), .bin .neq (.t 17) (.k (.int .i64 0)), none⟩] [5, 9, 10, 11, 18]) (c115x3)
def c115x5 : AC := .seq (.reg [
  ⟨(some 15), .ld (some 4) (.t 4), none⟩,
  ⟨(some 16), .call 164 [(.t 15)], none⟩,
  ⟨(some 5), .mv (.t 16), none⟩] [5, 9, 10, 11]) (c115x4)
def c115x6 : AC := .seq (.reg [
  ⟨(some 13), .idx 4 none (.t 9) (.t 11), none⟩,
  ⟨(some 14), .ld (some 4) (.t 13), none⟩,
  ⟨(some 4), .zero [(.int .i64 0), (.int .i64 0), (.int .i64 0), (.slice none 0 0)], none⟩,
  ⟨none, .st 4 (.t 4) (.t 14), none⟩] [4, 9, 10, 11]) (c115x5)
def c115x7 : AC := .block 1 (c115x6)
def c115x8 : AC := .seq (c115x7) (c115x1)
def c115x9 : AC := .cond (.t 12) (.skip) (.exit 0)
def c115x10 : AC := .seq (c115x9) (c115x8)
def c115x11 : AC := .seq (.reg [
  ⟨(some 12), .bin .lss (.t 11) (.t 10), none⟩] [9, 10, 11, 12]) (c115x10)
def c115x12 : AC := .loop (c115x11)
def c115x13 : AC := .block 0 (c115x12)
def c115x14 : AC := .seq (.reg [
  ⟨(some 9), .mv (.t 0), none⟩,
  ⟨(some 10), .len (.t 9), none⟩,
  ⟨(some 11), .mv (.k (.int .i64 0)), none⟩] [9, 10, 11]) (c115x13)
def c115x15 : AC := .seq (c115x14) (c115x0)
def c115x16 : AC := .seq (.reg [
  ⟨(some 2), .mv (.k (.int .i64 2)), none⟩] [2]) (.ret)
def c115x17 : AC := .cond (.t 8) (c115x16) (.skip)
def c115x18 : AC := .seq (.reg [
  ⟨(some 6), .mv (.t 0), none⟩,
  ⟨(some 7), .len (.t 6), none⟩,
  ⟨(some 8), .bin .gtr (.t 7) (.k (.int .i64 8)), none⟩] [0, 8]) (c115x17)
def c115x19 : AC := .seq (c115x18) (c115x15)
def c115 : AC := .seq (.reg [
  ⟨(some 2), .mv (.k (.int .i64 0)), none⟩] [0]) (c115x19)
theorem k115 : Try.f115.body.bind (compC Try.prog Try.f115.ntmps v115) = some c115 := by kernel_rfl
theorem e115 : enters Try.prog 115 = true := by kernel_rfl
theorem q115 : Try.f115.results.toList.mapM (compRes Try.prog) = some r115 := by kernel_rfl
/-- bakelite/table.operand -/
def v116 : List (Nat × List Nat) := [(0, [0]), (1, [0, 3]), (2, [3, 6, 7, 8]), (3, [3, 6, 7, 8, 9]), (4, [3, 5, 6, 7, 8]), (5, [3, 6, 7, 8, 19]), (6, [3, 6, 7, 8]), (7, [3, 6, 7, 8]), (8, [2])]
def r116 : List AR := [.t 2]
def c116x0 : AC := .seq (.reg [
  ⟨(some 23), .mv (.t 3), none⟩,
  ⟨(some 2), .mv (.t 23), none⟩] [2]) (.ret)
def c116x1 : AC := .reg [
  ⟨(some 22), .bin .add (.t 8) (.k (.int .i64 1)), none⟩,
  ⟨(some 8), .mv (.t 22), none⟩] [3, 6, 7, 8]
def c116x2 : AC := .reg [
  ⟨(some 20), .mv (.t 3), none⟩,
  ⟨(some 21), .bin .add (.t 20) (.k (.int .i64 1)), none⟩,
  ⟨(some 3), .mv (.t 21), none⟩] [3, 6, 7, 8]
def c116x3 : AC := .cond (.t 19) (c116x2) (.skip)
def c116x4 : AC := .seq (.reg [
  ⟨(some 12), .fad 0 (.t 5), none⟩,
  ⟨(some 13), .ld none (.t 12), none⟩,
  ⟨(some 14), .bin .eql (.t 13) (.k (.int .i64 1)), none⟩,
  ⟨(some 15), .mv (.t 14), none⟩,
  ⟨(some 16), .fad 1 (.t 5), (some (15, true))⟩,
  ⟨(some 17), .ld none (.t 16), (some (15, true))⟩,
  ⟨(some 18), .bin .eql (.t 17) (.k (.int .i64 0)), (some (15, true))⟩,
  ⟨(some 19), .pick (.t 15) (.t 18) (.k (.bool false)), none⟩] [3, 6, 7, 8, 19]) (c116x3)
def c116x5 : AC := .seq (.reg [
  ⟨(some 10), .idx 4 none (.t 6) (.t 8), none⟩,
  ⟨(some 11), .ld (some 4) (.t 10), none⟩,
  ⟨(some 5), .zero [(.int .i64 0), (.int .i64 0), (.int .i64 0), (.slice none 0 0)], none⟩,
  ⟨none, .st 4 (.t 5) (.t 11), none⟩] [3, 5, 6, 7, 8]) (c116x4)
def c116x6 : AC := .block 1 (c116x5)
def c116x7 : AC := .seq (c116x6) (c116x1)
def c116x8 : AC := .cond (.t 9) (.skip) (.exit 0)
def c116x9 : AC := .seq (c116x8) (c116x7)
def c116x10 : AC := .seq (.reg [
  ⟨(some 9), .bin .lss (.t 8) (.t 7), none⟩] [3, 6, 7, 8, 9]) (c116x9)
def c116x11 : AC := .loop (c116x10)
def c116x12 : AC := .block 0 (c116x11)
def c116x13 : AC := .seq (.reg [
  ⟨(some 6), .mv (.t 0), none⟩,
  ⟨(some 7), .len (.t 6), none⟩,
  ⟨(some 8), .mv (.k (.int .i64 0)), none⟩] [3, 6, 7, 8]) (c116x12)
def c116x14 : AC := .seq (c116x13) (c116x0)
def c116x15 : AC := .seq (.reg [
  ⟨(some 3), .mv (.k (.int .i64 0)), none⟩] [0, 3]) (c116x14)
def c116 : AC := .seq (.reg [
  ⟨(some 2), .mv (.k (.int .i64 0)), none⟩] [0]) (c116x15)
theorem k116 : Try.f116.body.bind (compC Try.prog Try.f116.ntmps v116) = some c116 := by kernel_rfl
theorem e116 : enters Try.prog 116 = true := by kernel_rfl
theorem q116 : Try.f116.results.toList.mapM (compRes Try.prog) = some r116 := by kernel_rfl
/-- bakelite/table.sameCycles -/
def v117 : List (Nat × List Nat) := [(0, [0, 1]), (1, [4])]
def r117 : List AR := [.t 4]
def c117x0 : AC := .seq (.reg [
  ⟨(some 5), .mv (.t 0), none⟩,
  ⟨(some 6), .mv (.t 1), none⟩,
  ⟨(some 7), .call 165 [(.t 5), (.t 6), (.f 166)], none⟩,
  ⟨(some 4), .mv (.t 7), none⟩] [4]) (.ret)
def c117 : AC := .seq (.reg [
  ⟨(some 4), .mv (.k (.bool false)), none⟩] [0, 1]) (c117x0)
theorem k117 : Try.f117.body.bind (compC Try.prog Try.f117.ntmps v117) = some c117 := by kernel_rfl
theorem e117 : enters Try.prog 117 = true := by kernel_rfl
theorem q117 : Try.f117.results.toList.mapM (compRes Try.prog) = some r117 := by kernel_rfl
/-- bakelite/table.Same$1 -/
def v119 : List (Nat × List Nat) := [(0, [2, 3]), (1, [4])]
def r119 : List AR := [.t 4]
def c119x0 : AC := .seq (.reg [
  ⟨(some 5), .fad 0 (.t 2), none⟩,
  ⟨(some 6), .ld none (.t 5), none⟩,
  ⟨(some 7), .fad 0 (.t 3), none⟩,
  ⟨(some 8), .ld none (.t 7), none⟩,
  ⟨(some 9), .bin .eql (.t 6) (.t 8), none⟩,
  ⟨(some 10), .mv (.t 9), none⟩,
  ⟨(some 11), .fad 1 (.t 2), (some (10, true))⟩,
  ⟨(some 12), .ld none (.t 11), (some (10, true))⟩,
  ⟨(some 13), .fad 1 (.t 3), (some (10, true))⟩,
  ⟨(some 14), .ld none (.t 13), (some (10, true))⟩,
  ⟨(some 15), .bin .eql (.t 12) (.t 14), (some (10, true))⟩,
  ⟨(some 16), .pick (.t 10) (.t 15) (.k (.bool false)), none⟩,
  ⟨(some 17), .mv (.t 16), none⟩,
  ⟨(some 18), .fad 2 (.t 2), (some (17, true))⟩,
  ⟨(some 19), .ld none (.t 18), (some (17, true))⟩,
  ⟨(some 20), .fad 2 (.t 3), (some (17, true))⟩,
  ⟨(some 21), .ld none (.t 20), (some (17, true))⟩,
  ⟨(some 22), .bin .eql (.t 19) (.t 21), (some (17, true))⟩,
  ⟨(some 23), .pick (.t 17) (.t 22) (.k (.bool false)), none⟩,
  ⟨(some 24), .mv (.t 23), none⟩,
  ⟨(some 25), .fad 3 (.t 2), (some (24, true))⟩,
  ⟨(some 26), .ld none (.t 25), (some (24, true))⟩,
  ⟨(some 27), .fad 3 (.t 3), (some (24, true))⟩,
  ⟨(some 28), .ld none (.t 27), (some (24, true))⟩,
  ⟨(some 29), .call 117 [(.t 26), (.t 28)], (some (24, true))⟩,
  ⟨(some 30), .pick (.t 24) (.t 29) (.k (.bool false)), none⟩,
  ⟨(some 4), .mv (.t 30), none⟩] [4]) (.ret)
def c119 : AC := .seq (.reg [
  ⟨(some 2), .new 4 (.t 0), none⟩,
  ⟨(some 3), .new 4 (.t 1), none⟩,
  ⟨(some 4), .mv (.k (.bool false)), none⟩] [2, 3]) (c119x0)
theorem k119 : Try.f119.body.bind (compC Try.prog Try.f119.ntmps v119) = some c119 := by kernel_rfl
theorem e119 : enters Try.prog 119 = true := by kernel_rfl
theorem q119 : Try.f119.results.toList.mapM (compRes Try.prog) = some r119 := by kernel_rfl
/-- bakelite/table.Find$1 -/
def v121 : List (Nat × List Nat) := [(0, [1, 2]), (1, [3])]
def r121 : List AR := [.t 3]
def c121x0 : AC := .seq (.reg [
  ⟨(some 4), .fad 0 (.t 2), none⟩,
  ⟨(some 5), .ld none (.t 4), none⟩,
  ⟨(some 6), .ld none (.t 1), none⟩,
  ⟨(some 7), .bin .eql (.t 5) (.t 6), none⟩,
  ⟨(some 3), .mv (.t 7), none⟩] [3]) (.ret)
def c121 : AC := .seq (.reg [
  ⟨(some 2), .new 4 (.t 0), none⟩,
  ⟨(some 3), .mv (.k (.bool false)), none⟩] [1, 2]) (c121x0)
theorem k121 : Try.f121.body.bind (compC Try.prog Try.f121.ntmps v121) = some c121 := by kernel_rfl
theorem e121 : enters Try.prog 121 = true := by kernel_rfl
theorem q121 : Try.f121.results.toList.mapM (compRes Try.prog) = some r121 := by kernel_rfl
/-- bakelite/table.Copy -/
def v122 : List (Nat × List Nat) := [(0, [1, 2]), (1, [1, 2]), (2, [2])]
def r122 : List AR := [.cell (some 4) 2]
def c122x0 : AC := .seq (.reg [
  ⟨(some 7), .ld (some 4) (.t 1), none⟩,
  ⟨none, .st 4 (.t 2) (.t 7), none⟩] [2]) (.ret)
def c122x1 : AC := .seq (.reg [
  ⟨(some 3), .fad 3 (.t 1), none⟩,
  ⟨(some 4), .ld none (.t 3), none⟩,
  ⟨(some 5), .call 168 [(.t 4)], none⟩,
  ⟨(some 6), .fad 3 (.t 1), none⟩,
  ⟨none, .st 1 (.t 6) (.t 5), none⟩] [1, 2]) (c122x0)
def c122 : AC := .seq (.reg [
  ⟨(some 1), .new 4 (.t 0), none⟩,
  ⟨(some 2), .zero [(.int .i64 0), (.string ⟨#[]⟩), (.int .i64 0), (.slice none 0 0)], none⟩] [1, 2]) (c122x1)
theorem k122 : Try.f122.body.bind (compC Try.prog Try.f122.ntmps v122) = some c122 := by kernel_rfl
theorem e122 : enters Try.prog 122 = true := by kernel_rfl
theorem q122 : Try.f122.results.toList.mapM (compRes Try.prog) = some r122 := by kernel_rfl
/-- bakelite/table.Named$1 -/
def v123 : List (Nat × List Nat) := [(0, [1, 2, 3]), (1, [4])]
def r123 : List AR := [.t 4]
def c123x0 : AC := .seq (.reg [
  ⟨(some 5), .fad 1 (.t 3), none⟩,
  ⟨(some 6), .ld none (.t 5), none⟩,
  ⟨(some 7), .ld none (.t 1), none⟩,
  ⟨(some 8), .bin .eql (.t 6) (.t 7), none⟩,
  ⟨(some 9), .mv (.t 8), none⟩,
  ⟨(some 10), .fad 2 (.t 3), (some (9, true))⟩,
  ⟨(some 11), .ld none (.t 10), (some (9, true))⟩,
  ⟨(some 12), .ld none (.t 2), (some (9, true))⟩,
  ⟨(some 13), .bin .eql (.t 11) (.t 12), (some (9, true))⟩,
  ⟨(some 14), .pick (.t 9) (.t 13) (.k (.bool false)), none⟩,
  ⟨(some 4), .mv (.t 14), none⟩] [4]) (.ret)
def c123 : AC := .seq (.reg [
  ⟨(some 3), .new 4 (.t 0), none⟩,
  ⟨(some 4), .mv (.k (.bool false)), none⟩] [1, 2, 3]) (c123x0)
theorem k123 : Try.f123.body.bind (compC Try.prog Try.f123.ntmps v123) = some c123 := by kernel_rfl
theorem e123 : enters Try.prog 123 = true := by kernel_rfl
theorem q123 : Try.f123.results.toList.mapM (compRes Try.prog) = some r123 := by kernel_rfl
/-- bakelite/table.cycle -/
def v164 : List (Nat × List Nat) := [(0, [1]), (1, [1, 6]), (2, [2]), (3, [1, 15]), (4, [2]), (5, [1, 29]), (6, [2]), (7, [1, 49]), (8, [2]), (9, [55, 56, 57]), (10, [55, 56, 57, 58]), (11, [4, 55, 56, 57]), (12, [5, 55, 56, 57]), (13, [5, 55, 56, 57, 64]), (14, [2]), (15, [55, 56, 57]), (16, [2])]
def r164 : List AR := [.t 2]
def c164x0 : AC := .seq (.reg [
  ⟨(some 2), .mv (.k (.int .i64 0)), none⟩] [2]) (.ret)
def c164x1 : AC := .reg [
  ⟨(some 66), .bin .add (.t 57) (.k (.int .i64 1)), none⟩,
  ⟨(some 57), .mv (.t 66), none⟩] [55, 56, 57]
def c164x2 : AC := .seq (.reg [
  ⟨(some 65), .mv (.t 5), none⟩,
  ⟨(some 2), .mv (.t 65), none⟩] [2]) (.ret)
def c164x3 : AC := .cond (.t 64) (c164x2) (.skip)
def c164x4 : AC := .seq (.reg [
  ⟨(some 63), .mv (.t 5), none⟩,
  ⟨(some 64), .bin .neq (.t 63) (.k (.int .i64 0)), none⟩] [5, 55, 56, 57, 64]) (c164x3)
def c164x5 : AC := .seq (.reg [
  ⟨(some 61), .ld (some 4) (.t 4), none⟩,
  ⟨(some 62), .call 189 [(.t 61)], none⟩,
  ⟨(some 5), .mv (.t 62), none⟩] [5, 55, 56, 57]) (c164x4)
def c164x6 : AC := .seq (.reg [
  ⟨(some 59), .idx 4 none (.t 55) (.t 57), none⟩,
  ⟨(some 60), .ld (some 4) (.t 59), none⟩,
  ⟨(some 4), .zero [(.int .i64 0), (.int .i64 0), (.int .i64 0), (.int .i64 0)], none⟩,
  ⟨none, .st 4 (.t 4) (.t 60), none⟩] [4, 55, 56, 57]) (c164x5)
def c164x7 : AC := .block 2 (c164x6)
def c164x8 : AC := .seq (c164x7) (c164x1)
def c164x9 : AC := .cond (.t 58) (.skip) (.exit 1)
def c164x10 : AC := .seq (c164x9) (c164x8)
def c164x11 : AC := .seq (.reg [
  ⟨(some 58), .bin .lss (.t 57) (.t 56), none⟩] [55, 56, 57, 58]) (c164x10)
def c164x12 : AC := .loop (c164x11)
def c164x13 : AC := .block 1 (c164x12)
def c164x14 : AC := .seq (.reg [
  ⟨(some 54), .fad 3 (.t 1), none⟩,
  ⟨(some 55), .ld none (.t 54), none⟩,
  ⟨(some 56), .len (.t 55), none⟩,
  ⟨(some 57), .mv (.k (.int .i64 0)), none⟩] [55, 56, 57]) (c164x13)
def c164x15 : AC := .seq (c164x14) (c164x0)
def c164x16 : AC := .seq (.reg [
  ⟨(some 2), .mv (.k (.int .i64 8)), none⟩] [2]) (.ret)
def c164x17 : AC := .seq (.reg [
  ⟨(some 2), .mv (.k (.int .i64 3)), none⟩] [2]) (.ret)
def c164x18 : AC := .seq (.reg [
  ⟨(some 2), .mv (.k (.int .i64 1)), none⟩] [2]) (.ret)
def c164x19 : AC := .seq (.reg [
  ⟨(some 2), .mv (.k (.int .i64 2)), none⟩] [2]) (.ret)
def c164x20 : AC := .cond (.t 49) (c164x19) (.skip)
def c164x21 : AC := .seq (.reg [
  ⟨(some 50), .fad 3 (.t 1), none⟩,
  ⟨(some 51), .ld none (.t 50), none⟩,
  ⟨(some 52), .len (.t 51), none⟩,
  ⟨(some 53), .bin .gtr (.t 52) (.k (.int .i64 6)), none⟩,
  ⟨(some 49), .mv (.t 53), none⟩] [1, 49]) (c164x20)
def c164x22 : AC := .cond (.t 29) (c164x18) (c164x21)
def c164x23 : AC := .seq (.reg [
  ⟨(some 30), .fad 1 (.t 1), none⟩,
  ⟨(some 31), .ld none (.t 30), none⟩,
  ⟨(some 32), .bin .lss (.t 31) (.k (.int .i64 0)), none⟩,
  ⟨(some 33), .mv (.t 32), none⟩,
  ⟨(some 34), .fad 1 (.t 1), (some (33, false))⟩,
  ⟨(some 35), .ld none (.t 34), (some (33, false))⟩,
  ⟨(some 36), .bin .geq (.t 35) (.k (.int .i64 12)), (some (33, false))⟩,
  ⟨(some 37), .pick (.t 33) (.k (.bool true)) (.t 36), none⟩,
  ⟨(some 38), .mv (.t 37), none⟩,
  ⟨(some 39), .fad 2 (.t 1), (some (38, false))⟩,
  ⟨(some 40), .ld none (.t 39), (some (38, false))⟩,
  ⟨(some 41), .call 188 [(.t 40)], (some (38, false))⟩,
  ⟨(some 42), .not (.t 41), (some (38, false))⟩,
  ⟨(some 43), .pick (.t 38) (.k (.bool true)) (.t 42), none⟩,
  ⟨(some 44), .mv (.t 43), none⟩,
  ⟨(some 45), .fad 2 (.t 1), (some (44, false))⟩,
  ⟨(some 46), .ld none (.t 45), (some (44, false))⟩,
  ⟨(some 47), .call 104 [(.t 46)], (some (44, false))⟩,
  ⟨(some 48), .pick (.t 44) (.k (.bool true)) (.t 47), none⟩,
  ⟨(some 29), .mv (.t 48), none⟩] [1, 29]) (c164x22)
def c164x24 : AC := .cond (.t 15) (c164x17) (c164x23)
def c164x25 : AC := .seq (.reg [
  ⟨(some 16), .fad 0 (.t 1), none⟩,
  ⟨(some 17), .ld none (.t 16), none⟩,
  ⟨(some 18), .bin .eql (.t 17) (.k (.int .i64 0)), none⟩,
  ⟨(some 19), .mv (.t 18), none⟩,
  ⟨(some 20), .fad 1 (.t 1), (some (19, true))⟩,
  ⟨(some 21), .ld none (.t 20), (some (19, true))⟩,
  ⟨(some 22), .bin .neq (.t 21) (.k (.int .i64 0)), (some (19, true))⟩,
  ⟨(some 23), .mv (.t 22), (some (19, true))⟩,
  ⟨(some 24), .fad 2 (.t 1), (some (23, false))⟩,
  ⟨(some 25), .ld none (.t 24), (some (23, false))⟩,
  ⟨(some 26), .bin .neq (.t 25) (.k (.int .i64 0)), (some (23, false))⟩,
  ⟨(some 27), .pick (.t 23) (.k (.bool true)) (.t 26), (some (19, true))⟩,
  ⟨(some 28), .pick (.t 19) (.t 27) (.k (.bool false)), none⟩,
  ⟨(some 15), .mv (.t 28), none⟩] [1, 15]) (c164x24)
def c164x26 : AC := .cond (.t 6) (c164x16) (c164x25)
def c164x27 : AC := .seq (.reg [
  ⟨(some 7), .fad 0 (.t 1), none⟩,
  ⟨(some 8), .ld none (.t 7), none⟩,
  ⟨(some 9), .bin .lss (.t 8) (.k (.int .i64 0)), none⟩,
  ⟨(some 10), .mv (.t 9), none⟩,
  ⟨(some 11), .fad 0 (.t 1), (some (10, false))⟩,
  ⟨(some 12), .ld none (.t 11), (some (10, false))⟩,
  ⟨(some 13), .bin .gtr (.t 12) (.k (.int .i64 2)), (some (10, false))⟩,
  ⟨(some 14), .pick (.t 10) (.k (.bool true)) (.t 13), none⟩,
  ⟨(some 6), .mv (.t 14), none⟩] [1, 6]) (c164x26)
def c164x28 : AC := .block 0 (c164x27)
def c164x29 : AC := .seq (c164x28) (c164x15)
def c164 : AC := .seq (.reg [
  ⟨(some 1), .new 4 (.t 0), none⟩,
  ⟨(some 2), .mv (.k (.int .i64 0)), none⟩] [1]) (c164x29)
theorem k164 : Try.f164.body.bind (compC Try.prog Try.f164.ntmps v164) = some c164 := by kernel_rfl
theorem e164 : enters Try.prog 164 = true := by kernel_rfl
theorem q164 : Try.f164.results.toList.mapM (compRes Try.prog) = some r164 := by kernel_rfl
/-- bakelite/table.sameCycles$1 -/
def v166 : List (Nat × List Nat) := [(0, [2, 3]), (1, [4])]
def r166 : List AR := [.t 4]
def c166x0 : AC := .seq (.reg [
  ⟨(some 5), .fad 0 (.t 2), none⟩,
  ⟨(some 6), .ld none (.t 5), none⟩,
  ⟨(some 7), .fad 0 (.t 3), none⟩,
  ⟨(some 8), .ld none (.t 7), none⟩,
  ⟨(some 9), .bin .eql (.t 6) (.t 8), none⟩,
  ⟨(some 10), .mv (.t 9), none⟩,
  ⟨(some 11), .fad 1 (.t 2), (some (10, true))⟩,
  ⟨(some 12), .ld none (.t 11), (some (10, true))⟩,
  ⟨(some 13), .fad 1 (.t 3), (some (10, true))⟩,
  ⟨(some 14), .ld none (.t 13), (some (10, true))⟩,
  ⟨(some 15), .bin .eql (.t 12) (.t 14), (some (10, true))⟩,
  ⟨(some 16), .pick (.t 10) (.t 15) (.k (.bool false)), none⟩,
  ⟨(some 17), .mv (.t 16), none⟩,
  ⟨(some 18), .fad 2 (.t 2), (some (17, true))⟩,
  ⟨(some 19), .ld none (.t 18), (some (17, true))⟩,
  ⟨(some 20), .fad 2 (.t 3), (some (17, true))⟩,
  ⟨(some 21), .ld none (.t 20), (some (17, true))⟩,
  ⟨(some 22), .bin .eql (.t 19) (.t 21), (some (17, true))⟩,
  ⟨(some 23), .pick (.t 17) (.t 22) (.k (.bool false)), none⟩,
  ⟨(some 24), .mv (.t 23), none⟩,
  ⟨(some 25), .fad 3 (.t 2), (some (24, true))⟩,
  ⟨(some 26), .ld none (.t 25), (some (24, true))⟩,
  ⟨(some 27), .fad 3 (.t 3), (some (24, true))⟩,
  ⟨(some 28), .ld none (.t 27), (some (24, true))⟩,
  ⟨(some 29), .call 167 [(.t 26), (.t 28)], (some (24, true))⟩,
  ⟨(some 30), .pick (.t 24) (.t 29) (.k (.bool false)), none⟩,
  ⟨(some 4), .mv (.t 30), none⟩] [4]) (.ret)
def c166 : AC := .seq (.reg [
  ⟨(some 2), .new 4 (.t 0), none⟩,
  ⟨(some 3), .new 4 (.t 1), none⟩,
  ⟨(some 4), .mv (.k (.bool false)), none⟩] [2, 3]) (c166x0)
theorem k166 : Try.f166.body.bind (compC Try.prog Try.f166.ntmps v166) = some c166 := by kernel_rfl
theorem e166 : enters Try.prog 166 = true := by kernel_rfl
theorem q166 : Try.f166.results.toList.mapM (compRes Try.prog) = some r166 := by kernel_rfl
/-- bakelite/table.copies -/
def v168 : List (Nat × List Nat) := [(0, [0]), (1, [3]), (2, [3, 8, 9]), (3, [3, 8, 9, 10]), (4, [3, 4, 8, 9]), (5, [3, 8, 9]), (6, [3, 8, 9]), (7, [2])]
def r168 : List AR := [.t 2]
def c168x0 : AC := .seq (.reg [
  ⟨(some 23), .mv (.t 3), none⟩,
  ⟨(some 2), .mv (.t 23), none⟩] [2]) (.ret)
def c168x1 : AC := .reg [
  ⟨(some 22), .bin .add (.t 9) (.k (.int .i64 1)), none⟩,
  ⟨(some 9), .mv (.t 22), none⟩] [3, 8, 9]
def c168x2 : AC := .reg [
  ⟨(some 12), .mv (.t 3), none⟩,
  ⟨(some 13), .mv (.t 4), none⟩,
  ⟨(some 14), .mv (.t 3), none⟩,
  ⟨(some 15), .mv (.t 4), none⟩,
  ⟨(some 16), .idx 4 none (.t 14) (.t 15), none⟩,
  ⟨(some 17), .fad 3 (.t 16), none⟩,
  ⟨(some 18), .ld none (.t 17), none⟩,
  ⟨(some 19), .call 191 [(.t 18)], none⟩,
  ⟨(some 20), .idx 4 none (.t 12) (.t 13), none⟩,
  ⟨(some 21), .fad 3 (.t 20), none⟩,
  ⟨none, .st 1 (.t 21) (.t 19), none⟩] [3, 8, 9]
def c168x3 : AC := .seq (.reg [
  ⟨(some 11), .mv (.t 9), none⟩,
  ⟨(some 4), .mv (.t 11), none⟩] [3, 4, 8, 9]) (c168x2)
def c168x4 : AC := .block 1 (c168x3)
def c168x5 : AC := .seq (c168x4) (c168x1)
def c168x6 : AC := .cond (.t 10) (.skip) (.exit 0)
def c168x7 : AC := .seq (c168x6) (c168x5)
def c168x8 : AC := .seq (.reg [
  ⟨(some 10), .bin .lss (.t 9) (.t 8), none⟩] [3, 8, 9, 10]) (c168x7)
def c168x9 : AC := .loop (c168x8)
def c168x10 : AC := .block 0 (c168x9)
def c168x11 : AC := .seq (.reg [
  ⟨(some 7), .mv (.t 3), none⟩,
  ⟨(some 8), .len (.t 7), none⟩,
  ⟨(some 9), .mv (.k (.int .i64 0)), none⟩] [3, 8, 9]) (c168x10)
def c168x12 : AC := .seq (c168x11) (c168x0)
def c168x13 : AC := .seq (.reg [
  ⟨(some 5), .mv (.t 0), none⟩,
  ⟨(some 6), .call 190 [(.t 5)], none⟩,
  ⟨(some 3), .mv (.t 6), none⟩] [3]) (c168x12)
def c168 : AC := .seq (.reg [
  ⟨(some 2), .mv (.k (.slice none 0 0)), none⟩] [0]) (c168x13)
theorem k168 : Try.f168.body.bind (compC Try.prog Try.f168.ntmps v168) = some c168 := by kernel_rfl
theorem e168 : enters Try.prog 168 = true := by kernel_rfl
theorem q168 : Try.f168.results.toList.mapM (compRes Try.prog) = some r168 := by kernel_rfl
/-- bakelite/table.register -/
def v188 : List (Nat × List Nat) := [(0, [0]), (1, [2])]
def r188 : List AR := [.t 2]
def c188x0 : AC := .seq (.reg [
  ⟨(some 3), .mv (.t 0), none⟩,
  ⟨(some 4), .bin .geq (.t 3) (.k (.int .i64 0)), none⟩,
  ⟨(some 5), .mv (.t 4), none⟩,
  ⟨(some 6), .mv (.t 0), (some (5, true))⟩,
  ⟨(some 7), .bin .lss (.t 6) (.k (.int .i64 9)), (some (5, true))⟩,
  ⟨(some 8), .pick (.t 5) (.t 7) (.k (.bool false)), none⟩,
  ⟨(some 2), .mv (.t 8), none⟩] [2]) (.ret)
def c188 : AC := .seq (.reg [
  ⟨(some 2), .mv (.k (.bool false)), none⟩] [0]) (c188x0)
theorem k188 : Try.f188.body.bind (compC Try.prog Try.f188.ntmps v188) = some c188 := by kernel_rfl
theorem e188 : enters Try.prog 188 = true := by kernel_rfl
theorem q188 : Try.f188.results.toList.mapM (compRes Try.prog) = some r188 := by kernel_rfl
/-- bakelite/table.step -/
def v189 : List (Nat × List Nat) := [(0, [1]), (1, [1, 14]), (2, [2]), (3, [1, 17]), (4, [40]), (5, [2]), (6, [2]), (7, [1, 3, 4, 5]), (8, [1, 3, 4, 5, 6]), (9, [1, 3, 4, 5, 6, 60]), (10, [1, 3, 4, 5, 6]), (11, [1, 3, 4, 6, 62]), (12, [1, 3, 4, 6]), (13, [98]), (14, [2]), (15, [2])]
def r189 : List AR := [.t 2]
def c189x0 : AC := .seq (.reg [
  ⟨(some 2), .mv (.k (.int .i64 0)), none⟩] [2]) (.ret)
def c189x1 : AC := .seq (.reg [
  ⟨(some 2), .mv (.k (.int .i64 1)), none⟩] [2]) (.ret)
def c189x2 : AC := .cond (.t 98) (c189x1) (.skip)
def c189x3 : AC := .seq (.dreg [
  ⟨(some 63), .fad 1 (.t 1), none⟩,
  ⟨(some 64), .ld none (.t 63), none⟩,
  ⟨(some 65), .mv (.t 3), none⟩,
  ⟨(some 66), .call 196 [(.t 64), (.t 65)], none⟩,
  ⟨(some 67), .not (.t 66), none⟩,
  ⟨(some 68), .mv (.t 67), none⟩,
  ⟨(some 69), .fad 2 (.t 1), (some (68, false))⟩,
  ⟨(some 70), .ld none (.t 69), (some (68, false))⟩,
  ⟨(some 71), .mv (.t 4), (some (68, false))⟩,
  ⟨(some 72), .call 196 [(.t 70), (.t 71)], (some (68, false))⟩,
  ⟨(some 73), .not (.t 72), (some (68, false))⟩,
  ⟨(some 74), .pick (.t 68) (.k (.bool true)) (.t 73), none⟩,
  ⟨(some 75), .mv (.t 74), none⟩,
  ⟨(some 76), .mv (.t 3), (some (75, false))⟩,
  ⟨(some 77), .bin .eql (.t 76) (.k (.int .u8 115)), (some (75, false))⟩,
  ⟨(some 78), .mv (.t 77), (some (75, false))⟩,
  ⟨(some 79), .fad 1 (.t 1), (some (78, true))⟩,
  ⟨(some 80), .ld none (.t 79), (some (78, true))⟩,
  ⟨(some 81), .call 104 [(.t 80)], (some (78, true))⟩,
  ⟨(some 82), .fad 2 (.t 1), (some (78, true))⟩,
  ⟨(some 83), .ld none (.t 82), (some (78, true))⟩,
  ⟨(some 84), .call 104 [(.t 83)], (some (78, true))⟩,
  ⟨(some 85), .eqb true (.t 81) (.t 84), (some (78, true))⟩,
  ⟨(some 86), .pick (.t 78) (.t 85) (.k (.bool false)), (some (75, false))⟩,
  ⟨(some 87), .pick (.t 75) (.k (.bool true)) (.t 86), none⟩,
  ⟨(some 88), .mv (.t 87), none⟩,
  ⟨(some 89), .fad 3 (.t 1), (some (88, false))⟩,
  ⟨(some 90), .ld none (.t 89), (some (88, false))⟩,
  ⟨(some 91), .bin .lss (.t 90) (.k (.int .i64 0)), (some (88, false))⟩,
  ⟨(some 92), .pick (.t 88) (.k (.bool true)) (.t 91), none⟩,
  ⟨(some 93), .mv (.t 92), none⟩,
  ⟨(some 94), .fad 3 (.t 1), (some (93, false))⟩,
  ⟨(some 95), .ld none (.t 94), (some (93, false))⟩,
  ⟨(some 96), .mv (.t 6), (some (93, false))⟩,
  ⟨(some 97), .bin .gtr (.t 95) (.t 96), (some (93, false))⟩,
  ⟨(some 98), .pick (.t 93) (.k (.bool true)) (.t 97), none⟩] [[], [0], [], [0, 1, 2], [0, 1, 2, 3], [0, 1, 2, 3, 4], [0, 1, 2, 3, 4, 5], [0, 1, 2, 3, 4, 5, 6], [0, 1, 2, 3, 4, 5], [0, 1, 2, 3, 4, 5, 6, 7, 8], [0, 1, 2, 3, 4, 5, 6, 7, 8, 9], [0, 1, 2, 3, 4, 5, 6, 7, 8, 9, 10], [0, 1, 2, 3, 4, 5, 6, 7, 8, 9, 10, 11], [0, 1, 2, 3, 4, 5, 6, 7, 8, 9, 10, 11, 12], [0, 1, 2, 3, 4, 5, 6, 7, 8, 9, 10, 11, 12, 13], [0, 1, 2, 3, 4, 5, 6, 7, 8, 9, 10, 11, 12, 13, 14], [0, 1, 2, 3, 4, 5, 6, 7, 8, 9, 10, 11, 12, 13, 14, 15], [0, 1, 2, 3, 4, 5, 6, 7, 8, 9, 10, 11, 12, 13, 14, 15, 16], [0, 1, 2, 3, 4, 5, 6, 7, 8, 9, 10, 11, 12, 13, 14, 15, 16, 17], [0, 1, 2, 3, 4, 5, 6, 7, 8, 9, 10, 11, 12, 13, 14, 15], [0, 1, 2, 3, 4, 5, 6, 7, 8, 9, 10, 11, 12, 13, 14, 15, 19], [0, 1, 2, 3, 4, 5, 6, 7, 8, 9, 10, 11, 12, 13, 14, 15, 16, 17, 18, 19, 20], [0, 1, 2, 3, 4, 5, 6, 7, 8, 9, 10, 11, 12, 13, 14, 15, 16, 17, 18, 19, 20, 21], [0, 1, 2, 3, 4, 5, 6, 7, 8, 9, 10, 11, 12, 13, 14, 15, 16, 17, 18, 19, 20, 21, 22], [0, 1, 2, 3, 4, 5, 6, 7, 8, 9, 10, 11, 12, 13, 14, 15, 16, 17, 18, 19, 20, 21, 22, 23], [0, 1, 2, 3, 4, 5, 6, 7, 8, 9, 10, 11, 12, 13, 14, 15, 16, 17, 18, 19, 20, 21, 22, 23, 24], [0, 1, 2, 3, 4, 5, 6, 7, 8, 9, 10, 11, 12, 13, 14, 15, 16, 17, 18, 19, 20, 21, 22, 23, 24, 25], [0, 1, 2, 3, 4, 5, 6, 7, 8, 9, 10, 11, 12, 13, 14, 15, 16, 17, 18, 19, 20, 21, 22, 23, 24, 25, 26], [0, 1, 2, 3, 4, 5, 6, 7, 8, 9, 10, 11, 12, 13, 14, 15, 16, 17, 18, 19, 20, 21, 22, 23, 24, 25, 26, 27], [0, 1, 2, 3, 4, 5, 6, 7, 8, 9, 10, 11, 12, 13, 14, 15, 16, 17, 18, 19, 20, 21, 22, 23, 24, 25, 26, 27, 28], [0, 1, 2, 3, 4, 5, 6, 7, 8, 9, 10, 11, 12, 13, 14, 15, 16, 17, 18, 19, 20, 21, 22, 23, 24, 25, 26, 27, 28, 29], [0, 1, 2, 3, 4, 5, 6, 7, 8, 9, 10, 11, 12, 13, 14, 15, 16, 17, 18, 19, 20, 21, 22, 23, 24, 25, 26, 27, 28, 29, 30], [0, 1, 2, 3, 4, 5, 6, 7, 8, 9, 10, 11, 12, 13, 14, 15, 16, 17, 18, 19, 20, 21, 22, 23, 24, 25, 26, 27, 28, 29, 30, 31], [0, 1, 2, 3, 4, 5, 6, 7, 8, 9, 10, 11, 12, 13, 14, 15, 16, 17, 18, 19, 20, 21, 22, 23, 24, 25, 26, 27, 28, 29, 30], [0, 1, 2, 3, 4, 5, 6, 7, 8, 9, 10, 11, 12, 13, 14, 15, 16, 17, 18, 19, 20, 21, 22, 23, 24, 25, 26, 27, 28, 29, 30, 31, 32, 33], [0, 1, 2, 3, 4, 5, 6, 7, 8, 9, 10, 11, 12, 13, 14, 15, 16, 17, 18, 19, 20, 21, 22, 23, 24, 25, 26, 27, 28, 29, 30, 31, 32, 33, 34]] [98]) (c189x2)
def c189x4 : AC := .seq (c189x3) (c189x0)
def c189x5 : AC := .reg [
  ⟨(some 6), .mv (.k (.int .i64 0)), none⟩] [1, 3, 4, 6]
def c189x6 : AC := .cond (.t 62) (c189x5) (.skip)
def c189x7 : AC := .seq (.reg [
  ⟨(some 61), .mv (.t 5), none⟩,
  ⟨(some 62), .not (.t 61), none⟩] [1, 3, 4, 6, 62]) (c189x6)
def c189x8 : AC := .seq (c189x7) (c189x4)
def c189x9 : AC := .reg [
  ⟨(some 6), .mv (.k (.int .i64 65535)), none⟩] [1, 3, 4, 5, 6]
def c189x10 : AC := .cond (.t 60) (c189x9) (.skip)
def c189x11 : AC := .seq (.reg [
  ⟨(some 48), .fad 0 (.t 1), none⟩,
  ⟨(some 49), .ld none (.t 48), none⟩,
  ⟨(some 50), .bin .eql (.t 49) (.k (.int .i64 2)), none⟩,
  ⟨(some 51), .mv (.t 50), none⟩,
  ⟨(some 52), .fad 1 (.t 1), (some (51, true))⟩,
  ⟨(some 53), .ld none (.t 52), (some (51, true))⟩,
  ⟨(some 54), .call 188 [(.t 53)], (some (51, true))⟩,
  ⟨(some 55), .pick (.t 51) (.t 54) (.k (.bool false)), none⟩,
  ⟨(some 56), .mv (.t 55), none⟩,
  ⟨(some 57), .fad 1 (.t 1), (some (56, true))⟩,
  ⟨(some 58), .ld none (.t 57), (some (56, true))⟩,
  ⟨(some 59), .call 104 [(.t 58)], (some (56, true))⟩,
  ⟨(some 60), .pick (.t 56) (.t 59) (.k (.bool false)), none⟩] [1, 3, 4, 5, 6, 60]) (c189x10)
def c189x12 : AC := .seq (c189x11) (c189x8)
def c189x13 : AC := .seq (.reg [
  ⟨(some 6), .mv (.k (.int .i64 255)), none⟩] [1, 3, 4, 5, 6]) (c189x12)
def c189x14 : AC := .seq (.reg [
  ⟨(some 42), .fad 0 (.t 1), none⟩,
  ⟨(some 43), .ld none (.t 42), none⟩,
  ⟨(some 44), .call 195 [(.t 43)], none⟩,
  ⟨(some 41), .mv (.t 44), none⟩,
  ⟨(some 45), .ext (.t 41) 0, none⟩,
  ⟨(some 46), .ext (.t 41) 1, none⟩,
  ⟨(some 47), .ext (.t 41) 2, none⟩,
  ⟨(some 3), .mv (.t 45), none⟩,
  ⟨(some 4), .mv (.t 46), none⟩,
  ⟨(some 5), .mv (.t 47), none⟩] [1, 3, 4, 5]) (c189x13)
def c189x15 : AC := .seq (.reg [
  ⟨(some 2), .mv (.k (.int .i64 0)), none⟩] [2]) (.ret)
def c189x16 : AC := .seq (.reg [
  ⟨(some 2), .mv (.k (.int .i64 1)), none⟩] [2]) (.ret)
def c189x17 : AC := .cond (.t 40) (c189x16) (.skip)
def c189x18 : AC := .seq (.reg [
  ⟨(some 18), .fad 1 (.t 1), none⟩,
  ⟨(some 19), .ld none (.t 18), none⟩,
  ⟨(some 20), .bin .neq (.t 19) (.k (.int .i64 0)), none⟩,
  ⟨(some 21), .mv (.t 20), none⟩,
  ⟨(some 22), .fad 2 (.t 1), (some (21, false))⟩,
  ⟨(some 23), .ld none (.t 22), (some (21, false))⟩,
  ⟨(some 24), .bin .lss (.t 23) (.k (.int .i64 0)), (some (21, false))⟩,
  ⟨(some 25), .pick (.t 21) (.k (.bool true)) (.t 24), none⟩,
  ⟨(some 26), .mv (.t 25), none⟩,
  ⟨(some 27), .fad 2 (.t 1), (some (26, false))⟩,
  ⟨(some 28), .ld none (.t 27), (some (26, false))⟩,
  ⟨(some 29), .bin .gtr (.t 28) (.k (.int .i64 1)), (some (26, false))⟩,
  ⟨(some 30), .pick (.t 26) (.k (.bool true)) (.t 29), none⟩,
  ⟨(some 31), .mv (.t 30), none⟩,
  ⟨(some 32), .fad 3 (.t 1), (some (31, false))⟩,
  ⟨(some 33), .ld none (.t 32), (some (31, false))⟩,
  ⟨(some 34), .bin .lss (.t 33) (.k (.int .i64 0)), (some (31, false))⟩,
  ⟨(some 35), .pick (.t 31) (.k (.bool true)) (.t 34), none⟩,
  ⟨(some 36), .mv (.t 35), none⟩,
  ⟨(some 37), .fad 3 (.t 1), (some (36, false))⟩,
  ⟨(some 38), .ld none (.t 37), (some (36, false))⟩,
  ⟨(some 39), .bin .gtr (.t 38) (.k (.int .i64 255)), (some (36, false))⟩,
  ⟨(some 40), .pick (.t 36) (.k (.bool true)) (.t 39), none⟩] [40]) (c189x17)
def c189x19 : AC := .seq (c189x18) (c189x15)
def c189x20 : AC := .cond (.t 17) (c189x19) (.skip)
def c189x21 : AC := .seq (.reg [
  ⟨(some 15), .fad 0 (.t 1), none⟩,
  ⟨(some 16), .ld none (.t 15), none⟩,
  ⟨(some 17), .bin .eql (.t 16) (.k (.int .i64 24)), none⟩] [1, 17]) (c189x20)
def c189x22 : AC := .seq (c189x21) (c189x14)
def c189x23 : AC := .seq (.reg [
  ⟨(some 2), .mv (.k (.int .i64 8)), none⟩] [2]) (.ret)
def c189x24 : AC := .cond (.t 14) (c189x23) (.skip)
def c189x25 : AC := .seq (.reg [
  ⟨(some 7), .fad 0 (.t 1), none⟩,
  ⟨(some 8), .ld none (.t 7), none⟩,
  ⟨(some 9), .bin .lss (.t 8) (.k (.int .i64 0)), none⟩,
  ⟨(some 10), .mv (.t 9), none⟩,
  ⟨(some 11), .fad 0 (.t 1), (some (10, false))⟩,
  ⟨(some 12), .ld none (.t 11), (some (10, false))⟩,
  ⟨(some 13), .bin .geq (.t 12) (.k (.int .i64 25)), (some (10, false))⟩,
  ⟨(some 14), .pick (.t 10) (.k (.bool true)) (.t 13), none⟩] [1, 14]) (c189x24)
def c189x26 : AC := .seq (c189x25) (c189x22)
def c189 : AC := .seq (.reg [
  ⟨(some 1), .new 4 (.t 0), none⟩,
  ⟨(some 2), .mv (.k (.int .i64 0)), none⟩] [1]) (c189x26)
theorem k189 : Try.f189.body.bind (compC Try.prog Try.f189.ntmps v189) = some c189 := by kernel_rfl
theorem e189 : enters Try.prog 189 = true := by kernel_rfl
theorem q189 : Try.f189.results.toList.mapM (compRes Try.prog) = some r189 := by kernel_rfl
/-- bakelite/table.uses -/
def v195 : List (Nat × List Nat) := [(0, [0]), (1, [5]), (2, [5, 6]), (3, [2, 3, 4]), (4, [5, 8]), (5, [2, 3, 4]), (6, [5, 10]), (7, [5, 10]), (8, [5, 10]), (9, [5, 10]), (10, [5, 10]), (11, [2, 3, 4]), (12, [5, 16]), (13, [5, 16]), (14, [5, 16]), (15, [5, 16]), (16, [5, 16]), (17, [5, 16]), (18, [2, 3, 4]), (19, [5, 23]), (20, [5, 23]), (21, [2, 3, 4]), (22, [5, 26]), (23, [5, 26]), (24, [2, 3, 4]), (25, [5, 29]), (26, [5, 29]), (27, [5, 29]), (28, [5, 29]), (29, [2, 3, 4]), (30, [5, 34]), (31, [34]), (32, [2, 3, 4]), (33, [2, 3, 4])]
def r195 : List AR := [.t 2, .t 3, .t 4]
def c195x0 : AC := .seq (.reg [
  ⟨(some 2), .mv (.k (.int .u8 0)), none⟩,
  ⟨(some 3), .mv (.k (.int .u8 0)), none⟩,
  ⟨(some 4), .mv (.k (.bool false)), none⟩] [2, 3, 4]) (.ret)
def c195x1 : AC := .seq (.reg [
  ⟨(some 2), .mv (.k (.int .u8 115)), none⟩,
  ⟨(some 3), .mv (.k (.int .u8 115)), none⟩,
  ⟨(some 4), .mv (.k (.bool false)), none⟩] [2, 3, 4]) (.ret)
def c195x2 : AC := .seq (.reg [
  ⟨(some 2), .mv (.k (.int .u8 97)), none⟩,
  ⟨(some 3), .mv (.k (.int .u8 0)), none⟩,
  ⟨(some 4), .mv (.k (.bool true)), none⟩] [2, 3, 4]) (.ret)
def c195x3 : AC := .seq (.reg [
  ⟨(some 2), .mv (.k (.int .u8 98)), none⟩,
  ⟨(some 3), .mv (.k (.int .u8 0)), none⟩,
  ⟨(some 4), .mv (.k (.bool false)), none⟩] [2, 3, 4]) (.ret)
def c195x4 : AC := .seq (.reg [
  ⟨(some 2), .mv (.k (.int .u8 98)), none⟩,
  ⟨(some 3), .mv (.k (.int .u8 98)), none⟩,
  ⟨(some 4), .mv (.k (.bool false)), none⟩] [2, 3, 4]) (.ret)
def c195x5 : AC := .seq (.reg [
  ⟨(some 2), .mv (.k (.int .u8 97)), none⟩,
  ⟨(some 3), .mv (.k (.int .u8 0)), none⟩,
  ⟨(some 4), .mv (.k (.bool false)), none⟩] [2, 3, 4]) (.ret)
def c195x6 : AC := .seq (.reg [
  ⟨(some 2), .mv (.k (.int .u8 0)), none⟩,
  ⟨(some 3), .mv (.k (.int .u8 0)), none⟩,
  ⟨(some 4), .mv (.k (.bool true)), none⟩] [2, 3, 4]) (.ret)
def c195x7 : AC := .seq (.reg [
  ⟨(some 2), .mv (.k (.int .u8 119)), none⟩,
  ⟨(some 3), .mv (.k (.int .u8 98)), none⟩,
  ⟨(some 4), .mv (.k (.bool false)), none⟩] [2, 3, 4]) (.ret)
def c195x8 : AC := .seq (.reg [
  ⟨(some 2), .mv (.k (.int .u8 98)), none⟩,
  ⟨(some 3), .mv (.k (.int .u8 119)), none⟩,
  ⟨(some 4), .mv (.k (.bool false)), none⟩] [2, 3, 4]) (.ret)
def c195x9 : AC := .cond (.t 34) (c195x8) (.skip)
def c195x10 : AC := .reg [
  ⟨(some 36), .bin .eql (.t 5) (.k (.int .i64 21)), none⟩,
  ⟨(some 34), .mv (.t 36), none⟩] [34]
def c195x11 : AC := .cond (.t 34) (.skip) (c195x10)
def c195x12 : AC := .seq (.reg [
  ⟨(some 35), .bin .eql (.t 5) (.k (.int .i64 20)), none⟩,
  ⟨(some 34), .mv (.t 35), none⟩] [5, 34]) (c195x11)
def c195x13 : AC := .seq (c195x12) (c195x9)
def c195x14 : AC := .cond (.t 29) (c195x7) (c195x13)
def c195x15 : AC := .reg [
  ⟨(some 33), .bin .eql (.t 5) (.k (.int .i64 23)), none⟩,
  ⟨(some 29), .mv (.t 33), none⟩] [5, 29]
def c195x16 : AC := .cond (.t 29) (.skip) (c195x15)
def c195x17 : AC := .seq (.reg [
  ⟨(some 32), .bin .eql (.t 5) (.k (.int .i64 22)), none⟩,
  ⟨(some 29), .mv (.t 32), none⟩] [5, 29]) (c195x16)
def c195x18 : AC := .cond (.t 29) (.skip) (c195x17)
def c195x19 : AC := .seq (.reg [
  ⟨(some 31), .bin .eql (.t 5) (.k (.int .i64 19)), none⟩,
  ⟨(some 29), .mv (.t 31), none⟩] [5, 29]) (c195x18)
def c195x20 : AC := .cond (.t 29) (.skip) (c195x19)
def c195x21 : AC := .seq (.reg [
  ⟨(some 30), .bin .eql (.t 5) (.k (.int .i64 18)), none⟩,
  ⟨(some 29), .mv (.t 30), none⟩] [5, 29]) (c195x20)
def c195x22 : AC := .seq (c195x21) (c195x14)
def c195x23 : AC := .cond (.t 26) (c195x6) (c195x22)
def c195x24 : AC := .reg [
  ⟨(some 28), .bin .eql (.t 5) (.k (.int .i64 17)), none⟩,
  ⟨(some 26), .mv (.t 28), none⟩] [5, 26]
def c195x25 : AC := .cond (.t 26) (.skip) (c195x24)
def c195x26 : AC := .seq (.reg [
  ⟨(some 27), .bin .eql (.t 5) (.k (.int .i64 16)), none⟩,
  ⟨(some 26), .mv (.t 27), none⟩] [5, 26]) (c195x25)
def c195x27 : AC := .seq (c195x26) (c195x23)
def c195x28 : AC := .cond (.t 23) (c195x5) (c195x27)
def c195x29 : AC := .reg [
  ⟨(some 25), .bin .eql (.t 5) (.k (.int .i64 11)), none⟩,
  ⟨(some 23), .mv (.t 25), none⟩] [5, 23]
def c195x30 : AC := .cond (.t 23) (.skip) (c195x29)
def c195x31 : AC := .seq (.reg [
  ⟨(some 24), .bin .eql (.t 5) (.k (.int .i64 10)), none⟩,
  ⟨(some 23), .mv (.t 24), none⟩] [5, 23]) (c195x30)
def c195x32 : AC := .seq (c195x31) (c195x28)
def c195x33 : AC := .cond (.t 16) (c195x4) (c195x32)
def c195x34 : AC := .reg [
  ⟨(some 22), .bin .eql (.t 5) (.k (.int .i64 9)), none⟩,
  ⟨(some 16), .mv (.t 22), none⟩] [5, 16]
def c195x35 : AC := .cond (.t 16) (.skip) (c195x34)
def c195x36 : AC := .seq (.reg [
  ⟨(some 21), .bin .eql (.t 5) (.k (.int .i64 8)), none⟩,
  ⟨(some 16), .mv (.t 21), none⟩] [5, 16]) (c195x35)
def c195x37 : AC := .cond (.t 16) (.skip) (c195x36)
def c195x38 : AC := .seq (.reg [
  ⟨(some 20), .bin .eql (.t 5) (.k (.int .i64 7)), none⟩,
  ⟨(some 16), .mv (.t 20), none⟩] [5, 16]) (c195x37)
def c195x39 : AC := .cond (.t 16) (.skip) (c195x38)
def c195x40 : AC := .seq (.reg [
  ⟨(some 19), .bin .eql (.t 5) (.k (.int .i64 6)), none⟩,
  ⟨(some 16), .mv (.t 19), none⟩] [5, 16]) (c195x39)
def c195x41 : AC := .cond (.t 16) (.skip) (c195x40)
def c195x42 : AC := .seq (.reg [
  ⟨(some 18), .bin .eql (.t 5) (.k (.int .i64 5)), none⟩,
  ⟨(some 16), .mv (.t 18), none⟩] [5, 16]) (c195x41)
def c195x43 : AC := .cond (.t 16) (.skip) (c195x42)
def c195x44 : AC := .seq (.reg [
  ⟨(some 17), .bin .eql (.t 5) (.k (.int .i64 4)), none⟩,
  ⟨(some 16), .mv (.t 17), none⟩] [5, 16]) (c195x43)
def c195x45 : AC := .seq (c195x44) (c195x33)
def c195x46 : AC := .cond (.t 10) (c195x3) (c195x45)
def c195x47 : AC := .reg [
  ⟨(some 15), .bin .eql (.t 5) (.k (.int .i64 15)), none⟩,
  ⟨(some 10), .mv (.t 15), none⟩] [5, 10]
def c195x48 : AC := .cond (.t 10) (.skip) (c195x47)
def c195x49 : AC := .seq (.reg [
  ⟨(some 14), .bin .eql (.t 5) (.k (.int .i64 14)), none⟩,
  ⟨(some 10), .mv (.t 14), none⟩] [5, 10]) (c195x48)
def c195x50 : AC := .cond (.t 10) (.skip) (c195x49)
def c195x51 : AC := .seq (.reg [
  ⟨(some 13), .bin .eql (.t 5) (.k (.int .i64 13)), none⟩,
  ⟨(some 10), .mv (.t 13), none⟩] [5, 10]) (c195x50)
def c195x52 : AC := .cond (.t 10) (.skip) (c195x51)
def c195x53 : AC := .seq (.reg [
  ⟨(some 12), .bin .eql (.t 5) (.k (.int .i64 12)), none⟩,
  ⟨(some 10), .mv (.t 12), none⟩] [5, 10]) (c195x52)
def c195x54 : AC := .cond (.t 10) (.skip) (c195x53)
def c195x55 : AC := .seq (.reg [
  ⟨(some 11), .bin .eql (.t 5) (.k (.int .i64 3)), none⟩,
  ⟨(some 10), .mv (.t 11), none⟩] [5, 10]) (c195x54)
def c195x56 : AC := .seq (c195x55) (c195x46)
def c195x57 : AC := .cond (.t 8) (c195x2) (c195x56)
def c195x58 : AC := .seq (.reg [
  ⟨(some 9), .bin .eql (.t 5) (.k (.int .i64 2)), none⟩,
  ⟨(some 8), .mv (.t 9), none⟩] [5, 8]) (c195x57)
def c195x59 : AC := .cond (.t 6) (c195x1) (c195x58)
def c195x60 : AC := .seq (.reg [
  ⟨(some 7), .bin .eql (.t 5) (.k (.int .i64 1)), none⟩,
  ⟨(some 6), .mv (.t 7), none⟩] [5, 6]) (c195x59)
def c195x61 : AC := .block 0 (c195x60)
def c195x62 : AC := .seq (.reg [
  ⟨(some 5), .mv (.t 0), none⟩] [5]) (c195x61)
def c195x63 : AC := .seq (c195x62) (c195x0)
def c195 : AC := .seq (.reg [
  ⟨(some 2), .mv (.k (.int .u8 0)), none⟩,
  ⟨(some 3), .mv (.k (.int .u8 0)), none⟩,
  ⟨(some 4), .mv (.k (.bool false)), none⟩] [0]) (c195x63)
theorem k195 : Try.f195.body.bind (compC Try.prog Try.f195.ntmps v195) = some c195 := by kernel_rfl
theorem e195 : enters Try.prog 195 = true := by kernel_rfl
theorem q195 : Try.f195.results.toList.mapM (compRes Try.prog) = some r195 := by kernel_rfl
/-- bakelite/table.fits -/
def v196 : List (Nat × List Nat) := [(0, [0, 1]), (1, [0, 5]), (2, [0, 5, 6]), (3, [4]), (4, [0, 5, 10]), (5, [4]), (6, [0, 18]), (7, [4]), (8, [4])]
def r196 : List AR := [.t 4]
def c196x0 : AC := .seq (.reg [
  ⟨(some 27), .mv (.t 0), none⟩,
  ⟨(some 28), .call 188 [(.t 27)], none⟩,
  ⟨(some 4), .mv (.t 28), none⟩] [4]) (.ret)
def c196x1 : AC := .seq (.reg [
  ⟨(some 8), .mv (.t 0), none⟩,
  ⟨(some 9), .bin .eql (.t 8) (.k (.int .i64 0)), none⟩,
  ⟨(some 4), .mv (.t 9), none⟩] [4]) (.ret)
def c196x2 : AC := .seq (.reg [
  ⟨(some 12), .mv (.t 0), none⟩,
  ⟨(some 13), .call 188 [(.t 12)], none⟩,
  ⟨(some 14), .mv (.t 13), none⟩,
  ⟨(some 15), .mv (.t 0), (some (14, true))⟩,
  ⟨(some 16), .call 104 [(.t 15)], (some (14, true))⟩,
  ⟨(some 17), .pick (.t 14) (.t 16) (.k (.bool false)), none⟩,
  ⟨(some 4), .mv (.t 17), none⟩] [4]) (.ret)
def c196x3 : AC := .seq (.reg [
  ⟨(some 20), .mv (.t 0), none⟩,
  ⟨(some 21), .call 188 [(.t 20)], none⟩,
  ⟨(some 22), .mv (.t 21), none⟩,
  ⟨(some 23), .mv (.t 0), (some (22, true))⟩,
  ⟨(some 24), .call 104 [(.t 23)], (some (22, true))⟩,
  ⟨(some 25), .not (.t 24), (some (22, true))⟩,
  ⟨(some 26), .pick (.t 22) (.t 25) (.k (.bool false)), none⟩,
  ⟨(some 4), .mv (.t 26), none⟩] [4]) (.ret)
def c196x4 : AC := .cond (.t 18) (c196x3) (.skip)
def c196x5 : AC := .seq (.reg [
  ⟨(some 19), .bin .eql (.t 5) (.k (.int .u8 98)), none⟩,
  ⟨(some 18), .mv (.t 19), none⟩] [0, 18]) (c196x4)
def c196x6 : AC := .cond (.t 10) (c196x2) (c196x5)
def c196x7 : AC := .seq (.reg [
  ⟨(some 11), .bin .eql (.t 5) (.k (.int .u8 119)), none⟩,
  ⟨(some 10), .mv (.t 11), none⟩] [0, 5, 10]) (c196x6)
def c196x8 : AC := .cond (.t 6) (c196x1) (c196x7)
def c196x9 : AC := .seq (.reg [
  ⟨(some 7), .bin .eql (.t 5) (.k (.int .u8 0)), none⟩,
  ⟨(some 6), .mv (.t 7), none⟩] [0, 5, 6]) (c196x8)
def c196x10 : AC := .block 0 (c196x9)
def c196x11 : AC := .seq (.reg [
  ⟨(some 5), .mv (.t 1), none⟩] [0, 5]) (c196x10)
def c196x12 : AC := .seq (c196x11) (c196x0)
def c196 : AC := .seq (.reg [
  ⟨(some 4), .mv (.k (.bool false)), none⟩] [0, 1]) (c196x12)
theorem k196 : Try.f196.body.bind (compC Try.prog Try.f196.ntmps v196) = some c196 := by kernel_rfl
theorem e196 : enters Try.prog 196 = true := by kernel_rfl
theorem q196 : Try.f196.results.toList.mapM (compRes Try.prog) = some r196 := by kernel_rfl
end Go.Proofs.Ytjmmompbmjhkpaa.Code
