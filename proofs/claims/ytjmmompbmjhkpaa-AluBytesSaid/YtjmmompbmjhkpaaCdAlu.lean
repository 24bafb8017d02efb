/- The code of functions (Alu) over abstract values, printed by a program, and that it is what the program's form in Lean turns into. No condition. -/
import Derived.Test.YtjmmompbmjhkpaaProg
import Derived.Test.YtjmmompbmjhkpaaCalcJ
import Derived.KernelRfl
namespace Go.Proofs.Ytjmmompbmjhkpaa.Code
open Go Go.Proofs.Ytjmmompbmjhkpaa.Calc
set_option maxRecDepth 100000
/-- bakelite/alu.Do -/
def v54 : List (Nat × List Nat) := [(0, [2, 3, 4]), (1, [2, 3, 4, 6, 7]), (2, [2, 3, 4, 6, 7]), (3, [2, 3, 4, 6, 7, 18]), (4, [2, 3, 4, 6, 7, 18, 19]), (5, [3, 4]), (6, [2, 3, 4, 6, 7, 18, 26]), (7, [3, 4]), (8, [2, 3, 4, 6, 7, 18, 32]), (9, [3, 4]), (10, [2, 3, 4, 6, 7, 18, 40]), (11, [2, 3, 4, 6, 7, 18, 40]), (12, [2, 3, 4, 6, 7, 18, 40]), (13, [2, 3, 4, 6, 7, 18, 40]), (14, [2, 3, 4, 6, 7, 18, 40]), (15, [2, 3, 4, 6, 7, 18, 40]), (16, [3, 4]), (17, [2, 3, 4, 6, 7, 18, 53]), (18, [2, 3, 4, 6, 7, 18, 53]), (19, [3, 4, 6, 8]), (20, [3, 4, 6, 8, 70]), (21, [3, 4, 6, 8]), (22, [3, 4]), (23, [2, 3, 4, 6, 7, 18, 77]), (24, [2, 3, 4, 6, 7, 18, 77]), (25, [2, 3, 4, 6, 7, 18, 77]), (26, [2, 3, 4, 6, 7, 18, 77]), (27, [3, 4]), (28, [2, 3, 4, 6, 7, 18, 87]), (29, [2, 3, 4, 6, 7, 18, 87]), (30, [3, 4]), (31, [2, 3, 4, 6, 7, 18, 98]), (32, [2, 3, 4, 6, 7, 18, 98]), (33, [3, 4]), (34, [2, 3, 4, 6, 7, 18, 114]), (35, [2, 3, 4, 6, 7, 18, 114]), (36, [3, 4]), (37, [2, 3, 4, 6, 7, 18, 127]), (38, [3, 4]), (39, [2, 3, 4, 6, 7, 18, 138]), (40, [3, 4]), (41, [2, 3, 4, 149]), (42, [4, 5]), (43, [4, 5])]
def r54 : List AR := [.cell (some 9) 4, .t 5]
def c54x0 : AC := .seq (.reg [
  ⟨(some 163), .ld (some 9) (.t 3), none⟩,
  ⟨(some 164), .call 57 [(.t 163)], none⟩,
  ⟨none, .st 9 (.t 4) (.t 164), none⟩,
  ⟨(some 5), .mv (.k (.bool false)), none⟩] [4, 5]) (.ret)
def c54x1 : AC := .reg [
  ⟨(some 21), .mv (.t 6), none⟩,
  ⟨(some 22), .mv (.t 7), none⟩,
  ⟨(some 23), .idx 1 (some 9) (.t 3) (.t 22), none⟩,
  ⟨(some 24), .ld none (.t 23), none⟩,
  ⟨(some 25), .idx 1 (some 9) (.t 3) (.t 21), none⟩,
  ⟨none, .st 1 (.t 25) (.t 24), none⟩] [3, 4]
def c54x2 : AC := .reg [
  ⟨(some 28), .mv (.t 6), none⟩,
  ⟨(some 29), .fad 3 (.t 2), none⟩,
  ⟨(some 30), .ld none (.t 29), none⟩,
  ⟨(some 31), .idx 1 (some 9) (.t 3) (.t 28), none⟩,
  ⟨none, .st 1 (.t 31) (.t 30), none⟩] [3, 4]
def c54x3 : AC := .dreg [
  ⟨(some 34), .ld (some 9) (.t 3), none⟩,
  ⟨(some 35), .mv (.t 6), none⟩,
  ⟨(some 36), .idx 1 (some 9) (.t 3) (.t 35), none⟩,
  ⟨(some 37), .ld none (.t 36), none⟩,
  ⟨(some 38), .call 35 [(.t 37), (.k (.int .i64 8))], none⟩,
  ⟨(some 39), .call 106 [(.t 34), (.t 38)], none⟩,
  ⟨none, .st 9 (.t 3) (.t 39), none⟩] [[], [], [1], [1, 2], [1, 2, 3], [0, 1, 2, 3, 4], [0, 1, 2, 3, 4, 5]] [3, 4]
def c54x4 : AC := .reg [
  ⟨(some 47), .fad 0 (.t 2), none⟩,
  ⟨(some 48), .ld none (.t 47), none⟩,
  ⟨(some 49), .mv (.t 6), none⟩,
  ⟨(some 50), .mv (.t 7), none⟩,
  ⟨(some 51), .ld (some 9) (.t 3), none⟩,
  ⟨(some 52), .call 107 [(.t 48), (.t 49), (.t 50), (.t 51)], none⟩,
  ⟨none, .st 9 (.t 3) (.t 52), none⟩] [3, 4]
def c54x5 : AC := .reg [
  ⟨(some 74), .mv (.t 6), none⟩,
  ⟨(some 75), .mv (.t 8), none⟩,
  ⟨(some 76), .idx 1 (some 9) (.t 3) (.t 74), none⟩,
  ⟨none, .st 1 (.t 76) (.t 75), none⟩] [3, 4]
def c54x6 : AC := .reg [
  ⟨(some 71), .ld (some 9) (.t 3), none⟩,
  ⟨(some 72), .mv (.t 8), none⟩,
  ⟨(some 73), .call 106 [(.t 71), (.t 72)], none⟩,
  ⟨none, .st 9 (.t 3) (.t 73), none⟩] [3, 4, 6, 8]
def c54x7 : AC := .cond (.t 70) (c54x6) (.skip)
def c54x8 : AC := .seq (.reg [
  ⟨(some 68), .mv (.t 6), none⟩,
  ⟨(some 69), .call 104 [(.t 68)], none⟩,
  ⟨(some 70), .not (.t 69), none⟩] [3, 4, 6, 8, 70]) (c54x7)
def c54x9 : AC := .seq (c54x8) (c54x5)
def c54x10 : AC := .seq (.dreg [
  ⟨(some 56), .mv (.t 6), none⟩,
  ⟨(some 57), .idx 1 (some 9) (.t 3) (.t 56), none⟩,
  ⟨(some 58), .ld none (.t 57), none⟩,
  ⟨(some 59), .bin .add (.t 58) (.k (.int .i64 1)), none⟩,
  ⟨(some 60), .fad 0 (.t 2), none⟩,
  ⟨(some 61), .ld none (.t 60), none⟩,
  ⟨(some 62), .bin .sub (.t 61) (.k (.int .i64 10)), none⟩,
  ⟨(some 63), .bin .mul (.k (.int .i64 2)) (.t 62), none⟩,
  ⟨(some 64), .bin .sub (.t 59) (.t 63), none⟩,
  ⟨(some 65), .mv (.t 6), none⟩,
  ⟨(some 66), .call 108 [(.t 65)], none⟩,
  ⟨(some 67), .call 35 [(.t 64), (.t 66)], none⟩,
  ⟨(some 8), .mv (.t 67), none⟩] [[], [0], [0, 1], [0, 1, 2], [], [4], [4, 5], [4, 5, 6], [0, 1, 2, 3, 4, 5, 6, 7], [], [9], [0, 1, 2, 3, 4, 5, 6, 7, 8, 9, 10], [0, 1, 2, 3, 4, 5, 6, 7, 8, 9, 10, 11]] [3, 4, 6, 8]) (c54x9)
def c54x11 : AC := .reg [
  ⟨(some 82), .fad 0 (.t 2), none⟩,
  ⟨(some 83), .ld none (.t 82), none⟩,
  ⟨(some 84), .mv (.t 6), none⟩,
  ⟨(some 85), .ld (some 9) (.t 3), none⟩,
  ⟨(some 86), .call 109 [(.t 83), (.t 84), (.t 85)], none⟩,
  ⟨none, .st 9 (.t 3) (.t 86), none⟩] [3, 4]
def c54x12 : AC := .dreg [
  ⟨(some 90), .ld (some 9) (.t 3), none⟩,
  ⟨(some 91), .fad 3 (.t 2), none⟩,
  ⟨(some 92), .ld none (.t 91), none⟩,
  ⟨(some 93), .call 35 [(.t 92), (.k (.int .i64 8))], none⟩,
  ⟨(some 94), .fad 0 (.t 2), none⟩,
  ⟨(some 95), .ld none (.t 94), none⟩,
  ⟨(some 96), .bin .eql (.t 95) (.k (.int .i64 16)), none⟩,
  ⟨(some 97), .call 110 [(.t 90), (.t 93), (.t 96)], none⟩,
  ⟨none, .st 9 (.t 3) (.t 97), none⟩] [[], [], [1], [1, 2], [], [4], [4, 5], [0, 1, 2, 3, 4, 5, 6], [0, 1, 2, 3, 4, 5, 6, 7]] [3, 4]
def c54x13 : AC := .dreg [
  ⟨(some 101), .mv (.t 6), none⟩,
  ⟨(some 102), .mv (.t 6), none⟩,
  ⟨(some 103), .idx 1 (some 9) (.t 3) (.t 102), none⟩,
  ⟨(some 104), .ld none (.t 103), none⟩,
  ⟨(some 105), .fad 0 (.t 2), none⟩,
  ⟨(some 106), .ld none (.t 105), none⟩,
  ⟨(some 107), .bin .sub (.t 106) (.k (.int .i64 18)), none⟩,
  ⟨(some 108), .bin .mul (.k (.int .i64 8)) (.t 107), none⟩,
  ⟨(some 109), .mv (.t 7), none⟩,
  ⟨(some 110), .idx 1 (some 9) (.t 3) (.t 109), none⟩,
  ⟨(some 111), .ld none (.t 110), none⟩,
  ⟨(some 112), .call 95 [(.t 104), (.t 108), (.k (.int .i64 8)), (.t 111)], none⟩,
  ⟨(some 113), .idx 1 (some 9) (.t 3) (.t 101), none⟩,
  ⟨none, .st 1 (.t 113) (.t 112), none⟩] [[], [], [1], [1, 2], [], [4], [4, 5], [4, 5, 6], [], [8], [8, 9], [1, 2, 3, 4, 5, 6, 7, 8, 9, 10], [0, 1, 2, 3, 4, 5, 6, 7, 8, 9, 10, 11], [0, 1, 2, 3, 4, 5, 6, 7, 8, 9, 10, 11, 12]] [3, 4]
def c54x14 : AC := .dreg [
  ⟨(some 117), .mv (.t 6), none⟩,
  ⟨(some 118), .mv (.t 7), none⟩,
  ⟨(some 119), .idx 1 (some 9) (.t 3) (.t 118), none⟩,
  ⟨(some 120), .ld none (.t 119), none⟩,
  ⟨(some 121), .fad 0 (.t 2), none⟩,
  ⟨(some 122), .ld none (.t 121), none⟩,
  ⟨(some 123), .bin .sub (.t 122) (.k (.int .i64 20)), none⟩,
  ⟨(some 124), .bin .mul (.k (.int .i64 8)) (.t 123), none⟩,
  ⟨(some 125), .call 99 [(.t 120), (.t 124), (.k (.int .i64 8))], none⟩,
  ⟨(some 126), .idx 1 (some 9) (.t 3) (.t 117), none⟩,
  ⟨none, .st 1 (.t 126) (.t 125), none⟩] [[], [], [1], [1, 2], [], [4], [4, 5], [4, 5, 6], [1, 2, 3, 4, 5, 6, 7], [0, 1, 2, 3, 4, 5, 6, 7, 8], [0, 1, 2, 3, 4, 5, 6, 7, 8, 9]] [3, 4]
def c54x15 : AC := .dreg [
  ⟨(some 129), .mv (.t 6), none⟩,
  ⟨(some 130), .idx 1 (some 9) (.t 3) (.t 129), none⟩,
  ⟨(some 131), .ld none (.t 130), none⟩,
  ⟨(some 132), .mv (.t 7), none⟩,
  ⟨(some 133), .idx 1 (some 9) (.t 3) (.t 132), none⟩,
  ⟨(some 134), .ld none (.t 133), none⟩,
  ⟨(some 135), .call 35 [(.t 134), (.k (.int .i64 8))], none⟩,
  ⟨(some 136), .bin .add (.t 131) (.t 135), none⟩,
  ⟨(some 137), .idx 1 (some 9) (.t 3) (.t 129), none⟩,
  ⟨none, .st 1 (.t 137) (.t 136), none⟩] [[], [0], [0, 1], [], [3], [3, 4], [3, 4, 5], [0, 1, 2, 3, 4, 5, 6], [0, 1, 2, 3, 4, 5, 6, 7], [0, 1, 2, 3, 4, 5, 6, 7, 8]] [3, 4]
def c54x16 : AC := .dreg [
  ⟨(some 140), .mv (.t 6), none⟩,
  ⟨(some 141), .idx 1 (some 9) (.t 3) (.t 140), none⟩,
  ⟨(some 142), .ld none (.t 141), none⟩,
  ⟨(some 143), .mv (.t 7), none⟩,
  ⟨(some 144), .idx 1 (some 9) (.t 3) (.t 143), none⟩,
  ⟨(some 145), .ld none (.t 144), none⟩,
  ⟨(some 146), .call 111 [(.t 145), (.k (.int .i64 8))], none⟩,
  ⟨(some 147), .bin .add (.t 142) (.t 146), none⟩,
  ⟨(some 148), .idx 1 (some 9) (.t 3) (.t 140), none⟩,
  ⟨none, .st 1 (.t 148) (.t 147), none⟩] [[], [0], [0, 1], [], [3], [3, 4], [3, 4, 5], [0, 1, 2, 3, 4, 5, 6], [0, 1, 2, 3, 4, 5, 6, 7], [0, 1, 2, 3, 4, 5, 6, 7, 8]] [3, 4]
def c54x17 : AC := .seq (.dreg [
  ⟨(some 151), .ld (some 9) (.t 3), none⟩,
  ⟨(some 152), .idx 1 (some 9) (.t 3) (.k (.int .i64 4)), none⟩,
  ⟨(some 153), .ld none (.t 152), none⟩,
  ⟨(some 154), .fad 3 (.t 2), none⟩,
  ⟨(some 155), .ld none (.t 154), none⟩,
  ⟨(some 156), .call 35 [(.t 155), (.k (.int .i64 8))], none⟩,
  ⟨(some 157), .bin .and (.t 153) (.t 156), none⟩,
  ⟨(some 158), .bin .neq (.t 157) (.k (.int .i64 0)), none⟩,
  ⟨(some 159), .fad 2 (.t 2), none⟩,
  ⟨(some 160), .ld none (.t 159), none⟩,
  ⟨(some 161), .bin .eql (.t 160) (.k (.int .i64 1)), none⟩,
  ⟨(some 162), .eqb true (.t 158) (.t 161), none⟩,
  ⟨none, .st 9 (.t 4) (.t 151), none⟩,
  ⟨(some 5), .mv (.t 162), none⟩] [[], [], [1], [], [3], [3, 4], [1, 2, 3, 4, 5], [1, 2, 3, 4, 5, 6], [], [8], [8, 9], [1, 2, 3, 4, 5, 6, 7, 8, 9, 10], [0, 3, 4, 5], [0, 1, 2, 3, 4, 5, 6, 7, 8, 9, 10, 11, 12]] [4, 5]) (.ret)
def c54x18 : AC := .cond (.t 149) (c54x17) (.skip)
def c54x19 : AC := .seq (.reg [
  ⟨(some 150), .bin .eql (.t 18) (.k (.int .i64 24)), none⟩,
  ⟨(some 149), .mv (.t 150), none⟩] [2, 3, 4, 149]) (c54x18)
def c54x20 : AC := .cond (.t 138) (c54x16) (c54x19)
def c54x21 : AC := .seq (.reg [
  ⟨(some 139), .bin .eql (.t 18) (.k (.int .i64 23)), none⟩,
  ⟨(some 138), .mv (.t 139), none⟩] [2, 3, 4, 6, 7, 18, 138]) (c54x20)
def c54x22 : AC := .cond (.t 127) (c54x15) (c54x21)
def c54x23 : AC := .seq (.reg [
  ⟨(some 128), .bin .eql (.t 18) (.k (.int .i64 22)), none⟩,
  ⟨(some 127), .mv (.t 128), none⟩] [2, 3, 4, 6, 7, 18, 127]) (c54x22)
def c54x24 : AC := .cond (.t 114) (c54x14) (c54x23)
def c54x25 : AC := .reg [
  ⟨(some 116), .bin .eql (.t 18) (.k (.int .i64 21)), none⟩,
  ⟨(some 114), .mv (.t 116), none⟩] [2, 3, 4, 6, 7, 18, 114]
def c54x26 : AC := .cond (.t 114) (.skip) (c54x25)
def c54x27 : AC := .seq (.reg [
  ⟨(some 115), .bin .eql (.t 18) (.k (.int .i64 20)), none⟩,
  ⟨(some 114), .mv (.t 115), none⟩] [2, 3, 4, 6, 7, 18, 114]) (c54x26)
def c54x28 : AC := .seq (c54x27) (c54x24)
def c54x29 : AC := .cond (.t 98) (c54x13) (c54x28)
def c54x30 : AC := .reg [
  ⟨(some 100), .bin .eql (.t 18) (.k (.int .i64 19)), none⟩,
  ⟨(some 98), .mv (.t 100), none⟩] [2, 3, 4, 6, 7, 18, 98]
def c54x31 : AC := .cond (.t 98) (.skip) (c54x30)
def c54x32 : AC := .seq (.reg [
  ⟨(some 99), .bin .eql (.t 18) (.k (.int .i64 18)), none⟩,
  ⟨(some 98), .mv (.t 99), none⟩] [2, 3, 4, 6, 7, 18, 98]) (c54x31)
def c54x33 : AC := .seq (c54x32) (c54x29)
def c54x34 : AC := .cond (.t 87) (c54x12) (c54x33)
def c54x35 : AC := .reg [
  ⟨(some 89), .bin .eql (.t 18) (.k (.int .i64 17)), none⟩,
  ⟨(some 87), .mv (.t 89), none⟩] [2, 3, 4, 6, 7, 18, 87]
def c54x36 : AC := .cond (.t 87) (.skip) (c54x35)
def c54x37 : AC := .seq (.reg [
  ⟨(some 88), .bin .eql (.t 18) (.k (.int .i64 16)), none⟩,
  ⟨(some 87), .mv (.t 88), none⟩] [2, 3, 4, 6, 7, 18, 87]) (c54x36)
def c54x38 : AC := .seq (c54x37) (c54x34)
def c54x39 : AC := .cond (.t 77) (c54x11) (c54x38)
def c54x40 : AC := .reg [
  ⟨(some 81), .bin .eql (.t 18) (.k (.int .i64 15)), none⟩,
  ⟨(some 77), .mv (.t 81), none⟩] [2, 3, 4, 6, 7, 18, 77]
def c54x41 : AC := .cond (.t 77) (.skip) (c54x40)
def c54x42 : AC := .seq (.reg [
  ⟨(some 80), .bin .eql (.t 18) (.k (.int .i64 14)), none⟩,
  ⟨(some 77), .mv (.t 80), none⟩] [2, 3, 4, 6, 7, 18, 77]) (c54x41)
def c54x43 : AC := .cond (.t 77) (.skip) (c54x42)
def c54x44 : AC := .seq (.reg [
  ⟨(some 79), .bin .eql (.t 18) (.k (.int .i64 13)), none⟩,
  ⟨(some 77), .mv (.t 79), none⟩] [2, 3, 4, 6, 7, 18, 77]) (c54x43)
def c54x45 : AC := .cond (.t 77) (.skip) (c54x44)
def c54x46 : AC := .seq (.reg [
  ⟨(some 78), .bin .eql (.t 18) (.k (.int .i64 12)), none⟩,
  ⟨(some 77), .mv (.t 78), none⟩] [2, 3, 4, 6, 7, 18, 77]) (c54x45)
def c54x47 : AC := .seq (c54x46) (c54x39)
def c54x48 : AC := .cond (.t 53) (c54x10) (c54x47)
def c54x49 : AC := .reg [
  ⟨(some 55), .bin .eql (.t 18) (.k (.int .i64 11)), none⟩,
  ⟨(some 53), .mv (.t 55), none⟩] [2, 3, 4, 6, 7, 18, 53]
def c54x50 : AC := .cond (.t 53) (.skip) (c54x49)
def c54x51 : AC := .seq (.reg [
  ⟨(some 54), .bin .eql (.t 18) (.k (.int .i64 10)), none⟩,
  ⟨(some 53), .mv (.t 54), none⟩] [2, 3, 4, 6, 7, 18, 53]) (c54x50)
def c54x52 : AC := .seq (c54x51) (c54x48)
def c54x53 : AC := .cond (.t 40) (c54x4) (c54x52)
def c54x54 : AC := .reg [
  ⟨(some 46), .bin .eql (.t 18) (.k (.int .i64 9)), none⟩,
  ⟨(some 40), .mv (.t 46), none⟩] [2, 3, 4, 6, 7, 18, 40]
def c54x55 : AC := .cond (.t 40) (.skip) (c54x54)
def c54x56 : AC := .seq (.reg [
  ⟨(some 45), .bin .eql (.t 18) (.k (.int .i64 8)), none⟩,
  ⟨(some 40), .mv (.t 45), none⟩] [2, 3, 4, 6, 7, 18, 40]) (c54x55)
def c54x57 : AC := .cond (.t 40) (.skip) (c54x56)
def c54x58 : AC := .seq (.reg [
  ⟨(some 44), .bin .eql (.t 18) (.k (.int .i64 7)), none⟩,
  ⟨(some 40), .mv (.t 44), none⟩] [2, 3, 4, 6, 7, 18, 40]) (c54x57)
def c54x59 : AC := .cond (.t 40) (.skip) (c54x58)
def c54x60 : AC := .seq (.reg [
  ⟨(some 43), .bin .eql (.t 18) (.k (.int .i64 6)), none⟩,
  ⟨(some 40), .mv (.t 43), none⟩] [2, 3, 4, 6, 7, 18, 40]) (c54x59)
def c54x61 : AC := .cond (.t 40) (.skip) (c54x60)
def c54x62 : AC := .seq (.reg [
  ⟨(some 42), .bin .eql (.t 18) (.k (.int .i64 5)), none⟩,
  ⟨(some 40), .mv (.t 42), none⟩] [2, 3, 4, 6, 7, 18, 40]) (c54x61)
def c54x63 : AC := .cond (.t 40) (.skip) (c54x62)
def c54x64 : AC := .seq (.reg [
  ⟨(some 41), .bin .eql (.t 18) (.k (.int .i64 4)), none⟩,
  ⟨(some 40), .mv (.t 41), none⟩] [2, 3, 4, 6, 7, 18, 40]) (c54x63)
def c54x65 : AC := .seq (c54x64) (c54x53)
def c54x66 : AC := .cond (.t 32) (c54x3) (c54x65)
def c54x67 : AC := .seq (.reg [
  ⟨(some 33), .bin .eql (.t 18) (.k (.int .i64 3)), none⟩,
  ⟨(some 32), .mv (.t 33), none⟩] [2, 3, 4, 6, 7, 18, 32]) (c54x66)
def c54x68 : AC := .cond (.t 26) (c54x2) (c54x67)
def c54x69 : AC := .seq (.reg [
  ⟨(some 27), .bin .eql (.t 18) (.k (.int .i64 2)), none⟩,
  ⟨(some 26), .mv (.t 27), none⟩] [2, 3, 4, 6, 7, 18, 26]) (c54x68)
def c54x70 : AC := .cond (.t 19) (c54x1) (c54x69)
def c54x71 : AC := .seq (.reg [
  ⟨(some 20), .bin .eql (.t 18) (.k (.int .i64 1)), none⟩,
  ⟨(some 19), .mv (.t 20), none⟩] [2, 3, 4, 6, 7, 18, 19]) (c54x70)
def c54x72 : AC := .block 0 (c54x71)
def c54x73 : AC := .seq (.reg [
  ⟨(some 17), .fad 0 (.t 2), none⟩,
  ⟨(some 18), .ld none (.t 17), none⟩] [2, 3, 4, 6, 7, 18]) (c54x72)
def c54x74 : AC := .seq (c54x73) (c54x0)
def c54x75 : AC := .seq (.reg [
  ⟨(some 15), .ld (some 9) (.t 3), none⟩,
  ⟨(some 16), .call 57 [(.t 15)], none⟩,
  ⟨none, .st 9 (.t 3) (.t 16), none⟩] [2, 3, 4, 6, 7]) (c54x74)
def c54x76 : AC := .seq (.dreg [
  ⟨(some 9), .fad 1 (.t 2), none⟩,
  ⟨(some 10), .ld none (.t 9), none⟩,
  ⟨(some 11), .call 105 [(.t 10)], none⟩,
  ⟨(some 12), .fad 2 (.t 2), none⟩,
  ⟨(some 13), .ld none (.t 12), none⟩,
  ⟨(some 14), .call 105 [(.t 13)], none⟩,
  ⟨(some 6), .mv (.t 11), none⟩,
  ⟨(some 7), .mv (.t 14), none⟩] [[], [0], [0, 1], [], [3], [0, 1, 2, 3, 4], [0, 1, 2, 3, 4, 5], [0, 1, 2, 3, 4, 5, 6]] [2, 3, 4, 6, 7]) (c54x75)
def c54 : AC := .seq (.reg [
  ⟨(some 2), .new 4 (.t 0), none⟩,
  ⟨(some 3), .new 9 (.t 1), none⟩,
  ⟨(some 4), .zero [(.int .i64 0), (.int .i64 0), (.int .i64 0), (.int .i64 0), (.int .i64 0), (.int .i64 0), (.int .i64 0), (.int .i64 0), (.int .i64 0)], none⟩,
  ⟨(some 5), .mv (.k (.bool false)), none⟩] [2, 3, 4]) (c54x76)
theorem k54 : Try.f54.body.bind (compC Try.prog Try.f54.ntmps v54) = some c54 := by kernel_rfl
theorem e54 : enters Try.prog 54 = true := by kernel_rfl
theorem q54 : Try.f54.results.toList.mapM (compRes Try.prog) = some r54 := by kernel_rfl
/-- bakelite/alu.Fit -/
def v57 : List (Nat × List Nat) := [(0, [1, 2]), (1, [1, 2, 4]), (2, [1, 2, 4, 5]), (3, [1, 2, 3, 4]), (4, [1, 2, 4]), (5, [1, 2, 4]), (6, [2])]
def r57 : List AR := [.cell (some 9) 2]
def c57x0 : AC := .seq (.reg [
  ⟨(some 16), .ld (some 9) (.t 1), none⟩,
  ⟨none, .st 9 (.t 2) (.t 16), none⟩] [2]) (.ret)
def c57x1 : AC := .reg [
  ⟨(some 15), .bin .add (.t 4) (.k (.int .i64 1)), none⟩,
  ⟨(some 4), .mv (.t 15), none⟩] [1, 2, 4]
def c57x2 : AC := .dreg [
  ⟨(some 7), .mv (.t 3), none⟩,
  ⟨(some 8), .mv (.t 3), none⟩,
  ⟨(some 9), .idx 1 (some 9) (.t 1) (.t 8), none⟩,
  ⟨(some 10), .ld none (.t 9), none⟩,
  ⟨(some 11), .mv (.t 3), none⟩,
  ⟨(some 12), .call 108 [(.t 11)], none⟩,
  ⟨(some 13), .call 35 [(.t 10), (.t 12)], none⟩,
  ⟨(some 14), .idx 1 (some 9) (.t 1) (.t 7), none⟩,
  ⟨none, .st 1 (.t 14) (.t 13), none⟩] [[], [], [1], [1, 2], [], [4], [1, 2, 3, 4, 5], [0, 1, 2, 3, 4, 5, 6], [0, 1, 2, 3, 4, 5, 6, 7]] [1, 2, 4]
def c57x3 : AC := .seq (.reg [
  ⟨(some 6), .mv (.t 4), none⟩,
  ⟨(some 3), .mv (.t 6), none⟩] [1, 2, 3, 4]) (c57x2)
def c57x4 : AC := .block 1 (c57x3)
def c57x5 : AC := .seq (c57x4) (c57x1)
def c57x6 : AC := .cond (.t 5) (.skip) (.exit 0)
def c57x7 : AC := .seq (c57x6) (c57x5)
def c57x8 : AC := .seq (.reg [
  ⟨(some 5), .bin .lss (.t 4) (.k (.int .i64 9)), none⟩] [1, 2, 4, 5]) (c57x7)
def c57x9 : AC := .loop (c57x8)
def c57x10 : AC := .block 0 (c57x9)
def c57x11 : AC := .seq (.reg [
  ⟨(some 4), .mv (.k (.int .i64 0)), none⟩] [1, 2, 4]) (c57x10)
def c57x12 : AC := .seq (c57x11) (c57x0)
def c57 : AC := .seq (.reg [
  ⟨(some 1), .new 9 (.t 0), none⟩,
  ⟨(some 2), .zero [(.int .i64 0), (.int .i64 0), (.int .i64 0), (.int .i64 0), (.int .i64 0), (.int .i64 0), (.int .i64 0), (.int .i64 0), (.int .i64 0)], none⟩] [1, 2]) (c57x12)
theorem k57 : Try.f57.body.bind (compC Try.prog Try.f57.ntmps v57) = some c57 := by kernel_rfl
theorem e57 : enters Try.prog 57 = true := by kernel_rfl
theorem q57 : Try.f57.results.toList.mapM (compRes Try.prog) = some r57 := by kernel_rfl
/-- bakelite/alu.index -/
def v105 : List (Nat × List Nat) := [(0, [0]), (1, [2])]
def r105 : List AR := [.t 2]
def c105x0 : AC := .seq (.reg [
  ⟨(some 3), .mv (.t 0), none⟩,
  ⟨(some 4), .mnx false [(.t 3), (.k (.int .i64 8))], none⟩,
  ⟨(some 5), .mnx true [(.k (.int .i64 0)), (.t 4)], none⟩,
  ⟨(some 2), .mv (.t 5), none⟩] [2]) (.ret)
def c105 : AC := .seq (.reg [
  ⟨(some 2), .mv (.k (.int .i64 0)), none⟩] [0]) (c105x0)
theorem k105 : Try.f105.body.bind (compC Try.prog Try.f105.ntmps v105) = some c105 := by kernel_rfl
theorem e105 : enters Try.prog 105 = true := by kernel_rfl
theorem q105 : Try.f105.results.toList.mapM (compRes Try.prog) = some r105 := by kernel_rfl
/-- bakelite/alu.nz -/
def v106 : List (Nat × List Nat) := [(0, [1, 2, 4]), (1, [4])]
def r106 : List AR := [.cell (some 9) 4]
def c106x0 : AC := .seq (.reg [
  ⟨(some 5), .ld (some 9) (.t 2), none⟩,
  ⟨(some 6), .mv (.t 1), none⟩,
  ⟨(some 7), .bin .eql (.t 6) (.k (.int .i64 0)), none⟩,
  ⟨(some 8), .call 110 [(.t 5), (.k (.int .i64 2)), (.t 7)], none⟩,
  ⟨(some 9), .mv (.t 1), none⟩,
  ⟨(some 10), .bin .geq (.t 9) (.k (.int .i64 128)), none⟩,
  ⟨(some 11), .call 110 [(.t 8), (.k (.int .i64 128)), (.t 10)], none⟩,
  ⟨none, .st 9 (.t 4) (.t 11), none⟩] [4]) (.ret)
def c106 : AC := .seq (.reg [
  ⟨(some 2), .new 9 (.t 0), none⟩,
  ⟨(some 4), .zero [(.int .i64 0), (.int .i64 0), (.int .i64 0), (.int .i64 0), (.int .i64 0), (.int .i64 0), (.int .i64 0), (.int .i64 0), (.int .i64 0)], none⟩] [1, 2, 4]) (c106x0)
theorem k106 : Try.f106.body.bind (compC Try.prog Try.f106.ntmps v106) = some c106 := by kernel_rfl
theorem e106 : enters Try.prog 106 = true := by kernel_rfl
theorem q106 : Try.f106.results.toList.mapM (compRes Try.prog) = some r106 := by kernel_rfl
/-- bakelite/alu.binary -/
def v107 : List (Nat × List Nat) := [(0, [0, 1, 2, 7, 8]), (1, [0, 1, 7, 8, 9, 10]), (2, [1, 7, 8, 9, 10, 25]), (3, [1, 7, 8, 9]), (4, [1, 7, 8, 9, 10, 25, 29]), (5, [1, 7, 8, 11, 12]), (6, [8]), (7, [1, 7, 8, 9, 10, 25, 44]), (8, [1, 7, 8, 13, 14]), (9, [8]), (10, [1, 7, 8, 9, 10, 25, 61]), (11, [7, 8, 15, 16]), (12, [8]), (13, [1, 7, 8, 9, 10, 25, 75]), (14, [1, 7, 8, 9]), (15, [1, 7, 8, 9, 10, 80]), (16, [1, 7, 8, 9]), (17, [1, 7, 8, 9]), (18, [7, 8]), (19, [8])]
def r107 : List AR := [.cell (some 9) 8]
def c107x0 : AC := .seq (.reg [
  ⟨(some 91), .ld (some 9) (.t 7), none⟩,
  ⟨none, .st 9 (.t 8) (.t 91), none⟩] [8]) (.ret)
def c107x1 : AC := .seq (.reg [
  ⟨(some 88), .mv (.t 1), none⟩,
  ⟨(some 89), .mv (.t 9), none⟩,
  ⟨(some 90), .idx 1 (some 9) (.t 7) (.t 88), none⟩,
  ⟨none, .st 1 (.t 90) (.t 89), none⟩] [7, 8]) (c107x0)
def c107x2 : AC := .seq (.reg [
  ⟨(some 85), .ld (some 9) (.t 7), none⟩,
  ⟨(some 86), .mv (.t 9), none⟩,
  ⟨(some 87), .call 106 [(.t 85), (.t 86)], none⟩,
  ⟨none, .st 9 (.t 7) (.t 87), none⟩] [1, 7, 8, 9]) (c107x1)
def c107x3 : AC := .seq (.reg [
  ⟨(some 39), .ld (some 9) (.t 7), none⟩,
  ⟨(some 40), .mv (.t 1), none⟩,
  ⟨(some 41), .mv (.t 11), none⟩,
  ⟨(some 42), .mv (.t 12), none⟩,
  ⟨(some 43), .call 159 [(.t 39), (.t 40), (.t 41), (.t 42)], none⟩,
  ⟨none, .st 9 (.t 8) (.t 43), none⟩] [8]) (.ret)
def c107x4 : AC := .seq (.reg [
  ⟨(some 32), .mv (.t 9), none⟩,
  ⟨(some 33), .mv (.t 10), none⟩,
  ⟨(some 34), .ld (some 9) (.t 7), none⟩,
  ⟨(some 35), .call 158 [(.t 34)], none⟩,
  ⟨(some 36), .call 157 [(.t 32), (.t 33), (.t 35), (.k (.int .i64 8))], none⟩,
  ⟨(some 31), .mv (.t 36), none⟩,
  ⟨(some 37), .ext (.t 31) 0, none⟩,
  ⟨(some 38), .ext (.t 31) 1, none⟩,
  ⟨(some 11), .mv (.t 37), none⟩,
  ⟨(some 12), .mv (.t 38), none⟩] [1, 7, 8, 11, 12]) (c107x3)
def c107x5 : AC := .seq (.reg [
  ⟨(some 55), .ld (some 9) (.t 7), none⟩,
  ⟨(some 56), .mv (.t 1), none⟩,
  ⟨(some 57), .mv (.t 13), none⟩,
  ⟨(some 58), .mv (.t 14), none⟩,
  ⟨(some 59), .bin .sub (.k (.int .i64 1)) (.t 58), none⟩,
  ⟨(some 60), .call 159 [(.t 55), (.t 56), (.t 57), (.t 59)], none⟩,
  ⟨none, .st 9 (.t 8) (.t 60), none⟩] [8]) (.ret)
def c107x6 : AC := .seq (.reg [
  ⟨(some 47), .mv (.t 9), none⟩,
  ⟨(some 48), .mv (.t 10), none⟩,
  ⟨(some 49), .ld (some 9) (.t 7), none⟩,
  ⟨(some 50), .call 158 [(.t 49)], none⟩,
  ⟨(some 51), .bin .sub (.k (.int .i64 1)) (.t 50), none⟩,
  ⟨(some 52), .call 160 [(.t 47), (.t 48), (.t 51), (.k (.int .i64 8))], none⟩,
  ⟨(some 46), .mv (.t 52), none⟩,
  ⟨(some 53), .ext (.t 46) 0, none⟩,
  ⟨(some 54), .ext (.t 46) 1, none⟩,
  ⟨(some 13), .mv (.t 53), none⟩,
  ⟨(some 14), .mv (.t 54), none⟩] [1, 7, 8, 13, 14]) (c107x5)
def c107x7 : AC := .seq (.reg [
  ⟨(some 69), .ld (some 9) (.t 7), none⟩,
  ⟨(some 70), .mv (.t 15), none⟩,
  ⟨(some 71), .call 106 [(.t 69), (.t 70)], none⟩,
  ⟨(some 72), .mv (.t 16), none⟩,
  ⟨(some 73), .bin .eql (.t 72) (.k (.int .i64 0)), none⟩,
  ⟨(some 74), .call 110 [(.t 71), (.k (.int .i64 1)), (.t 73)], none⟩,
  ⟨none, .st 9 (.t 8) (.t 74), none⟩] [8]) (.ret)
def c107x8 : AC := .seq (.reg [
  ⟨(some 64), .mv (.t 9), none⟩,
  ⟨(some 65), .mv (.t 10), none⟩,
  ⟨(some 66), .call 160 [(.t 64), (.t 65), (.k (.int .i64 0)), (.k (.int .i64 8))], none⟩,
  ⟨(some 63), .mv (.t 66), none⟩,
  ⟨(some 67), .ext (.t 63) 0, none⟩,
  ⟨(some 68), .ext (.t 63) 1, none⟩,
  ⟨(some 15), .mv (.t 67), none⟩,
  ⟨(some 16), .mv (.t 68), none⟩] [7, 8, 15, 16]) (c107x7)
def c107x9 : AC := .reg [
  ⟨(some 77), .mv (.t 9), none⟩,
  ⟨(some 78), .mv (.t 10), none⟩,
  ⟨(some 79), .bin .and (.t 77) (.t 78), none⟩,
  ⟨(some 9), .mv (.t 79), none⟩] [1, 7, 8, 9]
def c107x10 : AC := .reg [
  ⟨(some 82), .mv (.t 9), none⟩,
  ⟨(some 83), .mv (.t 10), none⟩,
  ⟨(some 84), .bin .or (.t 82) (.t 83), none⟩,
  ⟨(some 9), .mv (.t 84), none⟩] [1, 7, 8, 9]
def c107x11 : AC := .reg [
  ⟨(some 26), .mv (.t 9), none⟩,
  ⟨(some 27), .mv (.t 10), none⟩,
  ⟨(some 28), .bin .xor (.t 26) (.t 27), none⟩,
  ⟨(some 9), .mv (.t 28), none⟩] [1, 7, 8, 9]
def c107x12 : AC := .cond (.t 80) (c107x10) (c107x11)
def c107x13 : AC := .seq (.reg [
  ⟨(some 81), .bin .eql (.t 25) (.k (.int .i64 8)), none⟩,
  ⟨(some 80), .mv (.t 81), none⟩] [1, 7, 8, 9, 10, 80]) (c107x12)
def c107x14 : AC := .cond (.t 75) (c107x9) (c107x13)
def c107x15 : AC := .seq (.reg [
  ⟨(some 76), .bin .eql (.t 25) (.k (.int .i64 7)), none⟩,
  ⟨(some 75), .mv (.t 76), none⟩] [1, 7, 8, 9, 10, 25, 75]) (c107x14)
def c107x16 : AC := .cond (.t 61) (c107x8) (c107x15)
def c107x17 : AC := .seq (.reg [
  ⟨(some 62), .bin .eql (.t 25) (.k (.int .i64 6)), none⟩,
  ⟨(some 61), .mv (.t 62), none⟩] [1, 7, 8, 9, 10, 25, 61]) (c107x16)
def c107x18 : AC := .cond (.t 44) (c107x6) (c107x17)
def c107x19 : AC := .seq (.reg [
  ⟨(some 45), .bin .eql (.t 25) (.k (.int .i64 5)), none⟩,
  ⟨(some 44), .mv (.t 45), none⟩] [1, 7, 8, 9, 10, 25, 44]) (c107x18)
def c107x20 : AC := .cond (.t 29) (c107x4) (c107x19)
def c107x21 : AC := .seq (.reg [
  ⟨(some 30), .bin .eql (.t 25) (.k (.int .i64 4)), none⟩,
  ⟨(some 29), .mv (.t 30), none⟩] [1, 7, 8, 9, 10, 25, 29]) (c107x20)
def c107x22 : AC := .block 0 (c107x21)
def c107x23 : AC := .seq (.reg [
  ⟨(some 25), .mv (.t 0), none⟩] [1, 7, 8, 9, 10, 25]) (c107x22)
def c107x24 : AC := .seq (c107x23) (c107x2)
def c107x25 : AC := .seq (.dreg [
  ⟨(some 17), .mv (.t 1), none⟩,
  ⟨(some 18), .idx 1 (some 9) (.t 7) (.t 17), none⟩,
  ⟨(some 19), .ld none (.t 18), none⟩,
  ⟨(some 20), .call 35 [(.t 19), (.k (.int .i64 8))], none⟩,
  ⟨(some 21), .mv (.t 2), none⟩,
  ⟨(some 22), .idx 1 (some 9) (.t 7) (.t 21), none⟩,
  ⟨(some 23), .ld none (.t 22), none⟩,
  ⟨(some 24), .call 35 [(.t 23), (.k (.int .i64 8))], none⟩,
  ⟨(some 9), .mv (.t 20), none⟩,
  ⟨(some 10), .mv (.t 24), none⟩] [[], [0], [0, 1], [0, 1, 2], [], [4], [4, 5], [0, 1, 2, 3, 4, 5, 6], [0, 1, 2, 3, 4, 5, 6, 7], [0, 1, 2, 3, 4, 5, 6, 7, 8]] [0, 1, 7, 8, 9, 10]) (c107x24)
def c107 : AC := .seq (.reg [
  ⟨(some 7), .new 9 (.t 3), none⟩,
  ⟨(some 8), .zero [(.int .i64 0), (.int .i64 0), (.int .i64 0), (.int .i64 0), (.int .i64 0), (.int .i64 0), (.int .i64 0), (.int .i64 0), (.int .i64 0)], none⟩] [0, 1, 2, 7, 8]) (c107x25)
theorem k107 : Try.f107.body.bind (compC Try.prog Try.f107.ntmps v107) = some c107 := by kernel_rfl
theorem e107 : enters Try.prog 107 = true := by kernel_rfl
theorem q107 : Try.f107.results.toList.mapM (compRes Try.prog) = some r107 := by kernel_rfl
/-- bakelite/alu.bits -/
def v108 : List (Nat × List Nat) := [(0, [0]), (1, [4]), (2, [2]), (3, [2])]
def r108 : List AR := [.t 2]
def c108x0 : AC := .seq (.reg [
  ⟨(some 2), .mv (.k (.int .i64 8)), none⟩] [2]) (.ret)
def c108x1 : AC := .seq (.reg [
  ⟨(some 2), .mv (.k (.int .i64 16)), none⟩] [2]) (.ret)
def c108x2 : AC := .cond (.t 4) (c108x1) (.skip)
def c108x3 : AC := .seq (.reg [
  ⟨(some 3), .mv (.t 0), none⟩,
  ⟨(some 4), .call 104 [(.t 3)], none⟩] [4]) (c108x2)
def c108x4 : AC := .seq (c108x3) (c108x0)
def c108 : AC := .seq (.reg [
  ⟨(some 2), .mv (.k (.int .i64 0)), none⟩] [0]) (c108x4)
theorem k108 : Try.f108.body.bind (compC Try.prog Try.f108.ntmps v108) = some c108 := by kernel_rfl
theorem e108 : enters Try.prog 108 = true := by kernel_rfl
theorem q108 : Try.f108.results.toList.mapM (compRes Try.prog) = some r108 := by kernel_rfl
/-- bakelite/alu.shift -/
def v109 : List (Nat × List Nat) := [(0, [0, 1, 5, 6]), (1, [0, 1, 5, 6, 7]), (2, [0, 1, 5, 6, 7, 19]), (3, [0, 1, 5, 6, 7]), (4, [1, 5, 6, 7, 25]), (5, [1, 5, 6, 8, 9]), (6, [6]), (7, [1, 5, 6, 10, 11]), (8, [6])]
def r109 : List AR := [.cell (some 9) 6]
def c109x0 : AC := .seq (.reg [
  ⟨(some 47), .ld (some 9) (.t 5), none⟩,
  ⟨(some 48), .mv (.t 1), none⟩,
  ⟨(some 49), .mv (.t 10), none⟩,
  ⟨(some 50), .mv (.t 11), none⟩,
  ⟨(some 51), .call 159 [(.t 47), (.t 48), (.t 49), (.t 50)], none⟩,
  ⟨none, .st 9 (.t 6) (.t 51), none⟩] [6]) (.ret)
def c109x1 : AC := .seq (.reg [
  ⟨(some 40), .mv (.t 1), none⟩,
  ⟨(some 41), .idx 1 (some 9) (.t 5) (.t 40), none⟩,
  ⟨(some 42), .ld none (.t 41), none⟩,
  ⟨(some 43), .mv (.t 7), none⟩,
  ⟨(some 44), .call 162 [(.t 42), (.t 43), (.k (.int .i64 8))], none⟩,
  ⟨(some 39), .mv (.t 44), none⟩,
  ⟨(some 45), .ext (.t 39) 0, none⟩,
  ⟨(some 46), .ext (.t 39) 1, none⟩,
  ⟨(some 10), .mv (.t 45), none⟩,
  ⟨(some 11), .mv (.t 46), none⟩] [1, 5, 6, 10, 11]) (c109x0)
def c109x2 : AC := .seq (.reg [
  ⟨(some 34), .ld (some 9) (.t 5), none⟩,
  ⟨(some 35), .mv (.t 1), none⟩,
  ⟨(some 36), .mv (.t 8), none⟩,
  ⟨(some 37), .mv (.t 9), none⟩,
  ⟨(some 38), .call 159 [(.t 34), (.t 35), (.t 36), (.t 37)], none⟩,
  ⟨none, .st 9 (.t 6) (.t 38), none⟩] [6]) (.ret)
def c109x3 : AC := .seq (.reg [
  ⟨(some 27), .mv (.t 1), none⟩,
  ⟨(some 28), .idx 1 (some 9) (.t 5) (.t 27), none⟩,
  ⟨(some 29), .ld none (.t 28), none⟩,
  ⟨(some 30), .mv (.t 7), none⟩,
  ⟨(some 31), .call 161 [(.t 29), (.t 30), (.k (.int .i64 8))], none⟩,
  ⟨(some 26), .mv (.t 31), none⟩,
  ⟨(some 32), .ext (.t 26) 0, none⟩,
  ⟨(some 33), .ext (.t 26) 1, none⟩,
  ⟨(some 8), .mv (.t 32), none⟩,
  ⟨(some 9), .mv (.t 33), none⟩] [1, 5, 6, 8, 9]) (c109x2)
def c109x4 : AC := .cond (.t 25) (c109x3) (.skip)
def c109x5 : AC := .seq (.reg [
  ⟨(some 20), .mv (.t 0), none⟩,
  ⟨(some 21), .bin .eql (.t 20) (.k (.int .i64 12)), none⟩,
  ⟨(some 22), .mv (.t 21), none⟩,
  ⟨(some 23), .mv (.t 0), (some (22, false))⟩,
  ⟨(some 24), .bin .eql (.t 23) (.k (.int .i64 14)), (some (22, false))⟩,
  ⟨(some 25), .pick (.t 22) (.k (.bool true)) (.t 24), none⟩] [1, 5, 6, 7, 25]) (c109x4)
def c109x6 : AC := .seq (c109x5) (c109x1)
def c109x7 : AC := .reg [
  ⟨(some 7), .mv (.k (.int .i64 0)), none⟩] [0, 1, 5, 6, 7]
def c109x8 : AC := .cond (.t 19) (c109x7) (.skip)
def c109x9 : AC := .seq (.reg [
  ⟨(some 14), .mv (.t 0), none⟩,
  ⟨(some 15), .bin .eql (.t 14) (.k (.int .i64 12)), none⟩,
  ⟨(some 16), .mv (.t 15), none⟩,
  ⟨(some 17), .mv (.t 0), (some (16, false))⟩,
  ⟨(some 18), .bin .eql (.t 17) (.k (.int .i64 13)), (some (16, false))⟩,
  ⟨(some 19), .pick (.t 16) (.k (.bool true)) (.t 18), none⟩] [0, 1, 5, 6, 7, 19]) (c109x8)
def c109x10 : AC := .seq (c109x9) (c109x6)
def c109x11 : AC := .seq (.reg [
  ⟨(some 12), .ld (some 9) (.t 5), none⟩,
  ⟨(some 13), .call 158 [(.t 12)], none⟩,
  ⟨(some 7), .mv (.t 13), none⟩] [0, 1, 5, 6, 7]) (c109x10)
def c109 : AC := .seq (.reg [
  ⟨(some 5), .new 9 (.t 2), none⟩,
  ⟨(some 6), .zero [(.int .i64 0), (.int .i64 0), (.int .i64 0), (.int .i64 0), (.int .i64 0), (.int .i64 0), (.int .i64 0), (.int .i64 0), (.int .i64 0)], none⟩] [0, 1, 5, 6]) (c109x11)
theorem k109 : Try.f109.body.bind (compC Try.prog Try.f109.ntmps v109) = some c109 := by kernel_rfl
theorem e109 : enters Try.prog 109 = true := by kernel_rfl
theorem q109 : Try.f109.results.toList.mapM (compRes Try.prog) = some r109 := by kernel_rfl
/-- bakelite/alu.flag -/
def v110 : List (Nat × List Nat) := [(0, [1, 2, 3, 6]), (1, [1, 2, 3, 6]), (2, [1, 3, 6, 12]), (3, [3, 6]), (4, [6])]
def r110 : List AR := [.cell (some 9) 6]
def c110x0 : AC := .seq (.reg [
  ⟨(some 18), .ld (some 9) (.t 3), none⟩,
  ⟨none, .st 9 (.t 6) (.t 18), none⟩] [6]) (.ret)
def c110x1 : AC := .reg [
  ⟨(some 13), .idx 1 (some 9) (.t 3) (.k (.int .i64 4)), none⟩,
  ⟨(some 14), .ld none (.t 13), none⟩,
  ⟨(some 15), .mv (.t 1), none⟩,
  ⟨(some 16), .bin .or (.t 14) (.t 15), none⟩,
  ⟨(some 17), .idx 1 (some 9) (.t 3) (.k (.int .i64 4)), none⟩,
  ⟨none, .st 1 (.t 17) (.t 16), none⟩] [3, 6]
def c110x2 : AC := .cond (.t 12) (c110x1) (.skip)
def c110x3 : AC := .seq (.reg [
  ⟨(some 12), .mv (.t 2), none⟩] [1, 3, 6, 12]) (c110x2)
def c110x4 : AC := .seq (c110x3) (c110x0)
def c110x5 : AC := .seq (.reg [
  ⟨(some 7), .idx 1 (some 9) (.t 3) (.k (.int .i64 4)), none⟩,
  ⟨(some 8), .ld none (.t 7), none⟩,
  ⟨(some 9), .mv (.t 1), none⟩,
  ⟨(some 10), .bin .andNot (.t 8) (.t 9), none⟩,
  ⟨(some 11), .idx 1 (some 9) (.t 3) (.k (.int .i64 4)), none⟩,
  ⟨none, .st 1 (.t 11) (.t 10), none⟩] [1, 2, 3, 6]) (c110x4)
def c110 : AC := .seq (.reg [
  ⟨(some 3), .new 9 (.t 0), none⟩,
  ⟨(some 6), .zero [(.int .i64 0), (.int .i64 0), (.int .i64 0), (.int .i64 0), (.int .i64 0), (.int .i64 0), (.int .i64 0), (.int .i64 0), (.int .i64 0)], none⟩] [1, 2, 3, 6]) (c110x5)
theorem k110 : Try.f110.body.bind (compC Try.prog Try.f110.ntmps v110) = some c110 := by kernel_rfl
theorem e110 : enters Try.prog 110 = true := by kernel_rfl
theorem q110 : Try.f110.results.toList.mapM (compRes Try.prog) = some r110 := by kernel_rfl
/-- bakelite/alu.carry -/
def v158 : List (Nat × List Nat) := [(0, [1]), (1, [2])]
def r158 : List AR := [.t 2]
def c158x0 : AC := .seq (.reg [
  ⟨(some 3), .idx 1 (some 9) (.t 1) (.k (.int .i64 4)), none⟩,
  ⟨(some 4), .ld none (.t 3), none⟩,
  ⟨(some 5), .bin .and (.t 4) (.k (.int .i64 1)), none⟩,
  ⟨(some 2), .mv (.t 5), none⟩] [2]) (.ret)
def c158 : AC := .seq (.reg [
  ⟨(some 1), .new 9 (.t 0), none⟩,
  ⟨(some 2), .mv (.k (.int .i64 0)), none⟩] [1]) (c158x0)
theorem k158 : Try.f158.body.bind (compC Try.prog Try.f158.ntmps v158) = some c158 := by kernel_rfl
theorem e158 : enters Try.prog 158 = true := by kernel_rfl
theorem q158 : Try.f158.results.toList.mapM (compRes Try.prog) = some r158 := by kernel_rfl
/-- bakelite/alu.result -/
def v159 : List (Nat × List Nat) := [(0, [1, 2, 3, 4, 8]), (1, [1, 2, 4, 8]), (2, [4, 8]), (3, [8])]
def r159 : List AR := [.cell (some 9) 8]
def c159x0 : AC := .seq (.reg [
  ⟨(some 18), .ld (some 9) (.t 4), none⟩,
  ⟨none, .st 9 (.t 8) (.t 18), none⟩] [8]) (.ret)
def c159x1 : AC := .seq (.reg [
  ⟨(some 15), .mv (.t 1), none⟩,
  ⟨(some 16), .mv (.t 2), none⟩,
  ⟨(some 17), .idx 1 (some 9) (.t 4) (.t 15), none⟩,
  ⟨none, .st 1 (.t 17) (.t 16), none⟩] [4, 8]) (c159x0)
def c159x2 : AC := .seq (.reg [
  ⟨(some 9), .ld (some 9) (.t 4), none⟩,
  ⟨(some 10), .mv (.t 2), none⟩,
  ⟨(some 11), .call 106 [(.t 9), (.t 10)], none⟩,
  ⟨(some 12), .mv (.t 3), none⟩,
  ⟨(some 13), .bin .eql (.t 12) (.k (.int .i64 1)), none⟩,
  ⟨(some 14), .call 110 [(.t 11), (.k (.int .i64 1)), (.t 13)], none⟩,
  ⟨none, .st 9 (.t 4) (.t 14), none⟩] [1, 2, 4, 8]) (c159x1)
def c159 : AC := .seq (.reg [
  ⟨(some 4), .new 9 (.t 0), none⟩,
  ⟨(some 8), .zero [(.int .i64 0), (.int .i64 0), (.int .i64 0), (.int .i64 0), (.int .i64 0), (.int .i64 0), (.int .i64 0), (.int .i64 0), (.int .i64 0)], none⟩] [1, 2, 3, 4, 8]) (c159x2)
theorem k159 : Try.f159.body.bind (compC Try.prog Try.f159.ntmps v159) = some c159 := by kernel_rfl
theorem e159 : enters Try.prog 159 = true := by kernel_rfl
theorem q159 : Try.f159.results.toList.mapM (compRes Try.prog) = some r159 := by kernel_rfl
end Go.Proofs.Ytjmmompbmjhkpaa.Code
