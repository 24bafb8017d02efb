/- The code of functions (KAlu) over abstract values, printed by a program, and that it is what the program's form in Lean turns into. No condition. -/
import Derived.Test.YtjmmompbmjhkpaaProg
import Derived.Test.YtjmmompbmjhkpaaCalcJ
import Derived.KernelRfl
namespace Go.Proofs.Ytjmmompbmjhkpaa.Code
open Go Go.Proofs.Ytjmmompbmjhkpaa.Calc
set_option maxRecDepth 100000
/-- bakelite/bakekeep1.AluSums -/
def v11 : List (Nat × List Nat) := [(0, [0]), (1, [3]), (2, [3, 4]), (3, [3, 4, 5]), (4, [3, 4, 5, 7]), (5, [3, 5, 7]), (6, [3, 5, 7]), (7, [2])]
def r11 : List AR := [.t 2]
def c11x0 : AC := .seq (.reg [
  ⟨(some 33), .call 55 [], none⟩,
  ⟨(some 34), .mv (.t 33), none⟩,
  ⟨(some 35), .idx 1 (some 9) (.t 7) (.k (.int .i64 0)), (some (34, true))⟩,
  ⟨(some 36), .ld none (.t 35), (some (34, true))⟩,
  ⟨(some 37), .idx 1 (some 9) (.t 3) (.k (.int .i64 0)), (some (34, true))⟩,
  ⟨(some 38), .ld none (.t 37), (some (34, true))⟩,
  ⟨(some 39), .bin .eql (.t 36) (.t 38), (some (34, true))⟩,
  ⟨(some 40), .pick (.t 34) (.t 39) (.k (.bool false)), none⟩,
  ⟨(some 41), .mv (.t 40), none⟩,
  ⟨(some 42), .idx 1 (some 9) (.t 5) (.k (.int .i64 4)), (some (41, true))⟩,
  ⟨(some 43), .ld none (.t 42), (some (41, true))⟩,
  ⟨(some 44), .bin .and (.t 43) (.k (.int .i64 2)), (some (41, true))⟩,
  ⟨(some 45), .bin .neq (.t 44) (.k (.int .i64 0)), (some (41, true))⟩,
  ⟨(some 46), .idx 1 (some 9) (.t 5) (.k (.int .i64 0)), (some (41, true))⟩,
  ⟨(some 47), .ld none (.t 46), (some (41, true))⟩,
  ⟨(some 48), .bin .eql (.t 47) (.k (.int .i64 0)), (some (41, true))⟩,
  ⟨(some 49), .eqb false (.t 45) (.t 48), (some (41, true))⟩,
  ⟨(some 50), .pick (.t 41) (.t 49) (.k (.bool false)), none⟩,
  ⟨(some 51), .mv (.t 50), none⟩,
  ⟨(some 52), .idx 1 (some 9) (.t 5) (.k (.int .i64 4)), (some (51, true))⟩,
  ⟨(some 53), .ld none (.t 52), (some (51, true))⟩,
  ⟨(some 54), .bin .and (.t 53) (.k (.int .i64 128)), (some (51, true))⟩,
  ⟨(some 55), .bin .neq (.t 54) (.k (.int .i64 0)), (some (51, true))⟩,
  ⟨(some 56), .idx 1 (some 9) (.t 5) (.k (.int .i64 0)), (some (51, true))⟩,
  ⟨(some 57), .ld none (.t 56), (some (51, true))⟩,
  ⟨(some 58), .bin .geq (.t 57) (.k (.int .i64 128)), (some (51, true))⟩,
  ⟨(some 59), .eqb false (.t 55) (.t 58), (some (51, true))⟩,
  ⟨(some 60), .pick (.t 51) (.t 59) (.k (.bool false)), none⟩,
  ⟨(some 2), .mv (.t 60), none⟩] [2]) (.ret)
def c11x1 : AC := .seq (.reg [
  ⟨(some 28), .build [(.int .i64 0), (.int .i64 0), (.int .i64 0), (.int .i64 0)] [(0, 1, (.k (.int .i64 5))), (1, 1, (.k (.int .i64 0))), (2, 1, (.k (.int .i64 1)))], none⟩,
  ⟨(some 29), .ld (some 9) (.t 7), none⟩,
  ⟨(some 30), .call 54 [(.t 28), (.t 29)], none⟩,
  ⟨(some 27), .mv (.t 30), none⟩,
  ⟨(some 31), .ext (.t 27) 0, none⟩,
  ⟨(some 32), .ext (.t 27) 1, none⟩,
  ⟨none, .st 9 (.t 7) (.t 31), none⟩] [3, 5, 7]) (c11x0)
def c11x2 : AC := .seq (.reg [
  ⟨(some 20), .idx 1 (some 9) (.t 7) (.k (.int .i64 4)), none⟩,
  ⟨(some 21), .ld none (.t 20), none⟩,
  ⟨(some 22), .bin .andNot (.t 21) (.k (.int .i64 1)), none⟩,
  ⟨(some 23), .bin .or (.t 22) (.k (.int .i64 1)), none⟩,
  ⟨(some 24), .mv (.t 4), none⟩,
  ⟨(some 25), .bin .sub (.t 23) (.t 24), none⟩,
  ⟨(some 26), .idx 1 (some 9) (.t 7) (.k (.int .i64 4)), none⟩,
  ⟨none, .st 1 (.t 26) (.t 25), none⟩] [3, 5, 7]) (c11x1)
def c11x3 : AC := .seq (.reg [
  ⟨(some 19), .ld (some 9) (.t 5), none⟩,
  ⟨(some 7), .zero [(.int .i64 0), (.int .i64 0), (.int .i64 0), (.int .i64 0), (.int .i64 0), (.int .i64 0), (.int .i64 0), (.int .i64 0), (.int .i64 0)], none⟩,
  ⟨none, .st 9 (.t 7) (.t 19), none⟩] [3, 4, 5, 7]) (c11x2)
def c11x4 : AC := .seq (.reg [
  ⟨(some 14), .build [(.int .i64 0), (.int .i64 0), (.int .i64 0), (.int .i64 0)] [(0, 1, (.k (.int .i64 4))), (1, 1, (.k (.int .i64 0))), (2, 1, (.k (.int .i64 1)))], none⟩,
  ⟨(some 15), .ld (some 9) (.t 3), none⟩,
  ⟨(some 16), .call 54 [(.t 14), (.t 15)], none⟩,
  ⟨(some 13), .mv (.t 16), none⟩,
  ⟨(some 17), .ext (.t 13) 0, none⟩,
  ⟨(some 18), .ext (.t 13) 1, none⟩,
  ⟨(some 5), .zero [(.int .i64 0), (.int .i64 0), (.int .i64 0), (.int .i64 0), (.int .i64 0), (.int .i64 0), (.int .i64 0), (.int .i64 0), (.int .i64 0)], none⟩,
  ⟨none, .st 9 (.t 5) (.t 17), none⟩,
  ⟨(some 6), .mv (.t 18), none⟩] [3, 4, 5]) (c11x3)
def c11x5 : AC := .seq (.reg [
  ⟨(some 10), .idx 1 (some 9) (.t 3) (.k (.int .i64 4)), none⟩,
  ⟨(some 11), .ld none (.t 10), none⟩,
  ⟨(some 12), .bin .and (.t 11) (.k (.int .i64 1)), none⟩,
  ⟨(some 4), .mv (.t 12), none⟩] [3, 4]) (c11x4)
def c11x6 : AC := .seq (.reg [
  ⟨(some 8), .mv (.t 0), none⟩,
  ⟨(some 9), .call 53 [(.t 8)], none⟩,
  ⟨(some 3), .zero [(.int .i64 0), (.int .i64 0), (.int .i64 0), (.int .i64 0), (.int .i64 0), (.int .i64 0), (.int .i64 0), (.int .i64 0), (.int .i64 0)], none⟩,
  ⟨none, .st 9 (.t 3) (.t 9), none⟩] [3]) (c11x5)
def c11 : AC := .seq (.reg [
  ⟨(some 2), .mv (.k (.bool false)), none⟩] [0]) (c11x6)
theorem k11 : Try.f11.body.bind (compC Try.prog Try.f11.ntmps v11) = some c11 := by kernel_rfl
theorem e11 : enters Try.prog 11 = true := by kernel_rfl
theorem q11 : Try.f11.results.toList.mapM (compRes Try.prog) = some r11 := by kernel_rfl
/-- bakelite/bakekeep1.AluCompares -/
def v12 : List (Nat × List Nat) := [(0, [0]), (1, [3]), (2, [3, 4, 5]), (3, [3, 4, 5, 6]), (4, [3, 4, 5, 6]), (5, [2])]
def r12 : List AR := [.t 2]
def c12x0 : AC := .seq (.reg [
  ⟨(some 20), .call 55 [], none⟩,
  ⟨(some 21), .mv (.t 20), none⟩,
  ⟨(some 22), .mv (.t 5), (some (21, true))⟩,
  ⟨(some 23), .not (.t 22), (some (21, true))⟩,
  ⟨(some 24), .pick (.t 21) (.t 23) (.k (.bool false)), none⟩,
  ⟨(some 25), .mv (.t 24), none⟩,
  ⟨(some 26), .ld (some 9) (.t 4), (some (25, true))⟩,
  ⟨(some 27), .ld (some 9) (.t 3), (some (25, true))⟩,
  ⟨(some 28), .eqs [.i .i64, .i .i64, .i .i64, .i .i64, .i .i64, .i .i64, .i .i64, .i .i64, .i .i64] false (.t 26) (.t 27), (some (25, true))⟩,
  ⟨(some 29), .pick (.t 25) (.t 28) (.k (.bool false)), none⟩,
  ⟨(some 30), .mv (.t 29), none⟩,
  ⟨(some 31), .mv (.t 6), (some (30, true))⟩,
  ⟨(some 32), .bin .and (.t 31) (.k (.int .i64 1)), (some (30, true))⟩,
  ⟨(some 33), .bin .neq (.t 32) (.k (.int .i64 0)), (some (30, true))⟩,
  ⟨(some 34), .idx 1 (some 9) (.t 3) (.k (.int .i64 1)), (some (30, true))⟩,
  ⟨(some 35), .ld none (.t 34), (some (30, true))⟩,
  ⟨(some 36), .idx 1 (some 9) (.t 3) (.k (.int .i64 2)), (some (30, true))⟩,
  ⟨(some 37), .ld none (.t 36), (some (30, true))⟩,
  ⟨(some 38), .bin .geq (.t 35) (.t 37), (some (30, true))⟩,
  ⟨(some 39), .eqb false (.t 33) (.t 38), (some (30, true))⟩,
  ⟨(some 40), .pick (.t 30) (.t 39) (.k (.bool false)), none⟩,
  ⟨(some 41), .mv (.t 40), none⟩,
  ⟨(some 42), .mv (.t 6), (some (41, true))⟩,
  ⟨(some 43), .bin .and (.t 42) (.k (.int .i64 2)), (some (41, true))⟩,
  ⟨(some 44), .bin .neq (.t 43) (.k (.int .i64 0)), (some (41, true))⟩,
  ⟨(some 45), .idx 1 (some 9) (.t 3) (.k (.int .i64 1)), (some (41, true))⟩,
  ⟨(some 46), .ld none (.t 45), (some (41, true))⟩,
  ⟨(some 47), .idx 1 (some 9) (.t 3) (.k (.int .i64 2)), (some (41, true))⟩,
  ⟨(some 48), .ld none (.t 47), (some (41, true))⟩,
  ⟨(some 49), .bin .eql (.t 46) (.t 48), (some (41, true))⟩,
  ⟨(some 50), .eqb false (.t 44) (.t 49), (some (41, true))⟩,
  ⟨(some 51), .pick (.t 41) (.t 50) (.k (.bool false)), none⟩,
  ⟨(some 2), .mv (.t 51), none⟩] [2]) (.ret)
def c12x1 : AC := .seq (.reg [
  ⟨(some 17), .idx 1 (some 9) (.t 3) (.k (.int .i64 4)), none⟩,
  ⟨(some 18), .ld none (.t 17), none⟩,
  ⟨(some 19), .idx 1 (some 9) (.t 4) (.k (.int .i64 4)), none⟩,
  ⟨none, .st 1 (.t 19) (.t 18), none⟩] [3, 4, 5, 6]) (c12x0)
def c12x2 : AC := .seq (.reg [
  ⟨(some 15), .idx 1 (some 9) (.t 4) (.k (.int .i64 4)), none⟩,
  ⟨(some 16), .ld none (.t 15), none⟩,
  ⟨(some 6), .mv (.t 16), none⟩] [3, 4, 5, 6]) (c12x1)
def c12x3 : AC := .seq (.reg [
  ⟨(some 10), .build [(.int .i64 0), (.int .i64 0), (.int .i64 0), (.int .i64 0)] [(0, 1, (.k (.int .i64 6))), (1, 1, (.k (.int .i64 1))), (2, 1, (.k (.int .i64 2)))], none⟩,
  ⟨(some 11), .ld (some 9) (.t 3), none⟩,
  ⟨(some 12), .call 54 [(.t 10), (.t 11)], none⟩,
  ⟨(some 9), .mv (.t 12), none⟩,
  ⟨(some 13), .ext (.t 9) 0, none⟩,
  ⟨(some 14), .ext (.t 9) 1, none⟩,
  ⟨(some 4), .zero [(.int .i64 0), (.int .i64 0), (.int .i64 0), (.int .i64 0), (.int .i64 0), (.int .i64 0), (.int .i64 0), (.int .i64 0), (.int .i64 0)], none⟩,
  ⟨none, .st 9 (.t 4) (.t 13), none⟩,
  ⟨(some 5), .mv (.t 14), none⟩] [3, 4, 5]) (c12x2)
def c12x4 : AC := .seq (.reg [
  ⟨(some 7), .mv (.t 0), none⟩,
  ⟨(some 8), .call 53 [(.t 7)], none⟩,
  ⟨(some 3), .zero [(.int .i64 0), (.int .i64 0), (.int .i64 0), (.int .i64 0), (.int .i64 0), (.int .i64 0), (.int .i64 0), (.int .i64 0), (.int .i64 0)], none⟩,
  ⟨none, .st 9 (.t 3) (.t 8), none⟩] [3]) (c12x3)
def c12 : AC := .seq (.reg [
  ⟨(some 2), .mv (.k (.bool false)), none⟩] [0]) (c12x4)
theorem k12 : Try.f12.body.bind (compC Try.prog Try.f12.ntmps v12) = some c12 := by kernel_rfl
theorem e12 : enters Try.prog 12 = true := by kernel_rfl
theorem q12 : Try.f12.results.toList.mapM (compRes Try.prog) = some r12 := by kernel_rfl
/-- bakelite/bakekeep1.AluShifts -/
def v13 : List (Nat × List Nat) := [(0, [0]), (1, [3]), (2, [3, 4]), (3, [3, 4, 8]), (4, [3, 4, 8, 9]), (5, [3, 4, 8]), (6, [3, 4, 8]), (7, [2])]
def r13 : List AR := [.t 2]
def c13x0 : AC := .seq (.reg [
  ⟨(some 17), .call 55 [], none⟩,
  ⟨(some 18), .mv (.t 17), none⟩,
  ⟨(some 19), .idx 1 (some 9) (.t 4) (.k (.int .i64 0)), (some (18, true))⟩,
  ⟨(some 20), .ld none (.t 19), (some (18, true))⟩,
  ⟨(some 21), .idx 1 (some 9) (.t 3) (.k (.int .i64 0)), (some (18, true))⟩,
  ⟨(some 22), .ld none (.t 21), (some (18, true))⟩,
  ⟨(some 23), .bin .eql (.t 20) (.t 22), (some (18, true))⟩,
  ⟨(some 24), .pick (.t 18) (.t 23) (.k (.bool false)), none⟩,
  ⟨(some 25), .mv (.t 24), none⟩,
  ⟨(some 26), .idx 1 (some 9) (.t 4) (.k (.int .i64 4)), (some (25, true))⟩,
  ⟨(some 27), .ld none (.t 26), (some (25, true))⟩,
  ⟨(some 28), .bin .and (.t 27) (.k (.int .i64 1)), (some (25, true))⟩,
  ⟨(some 29), .idx 1 (some 9) (.t 3) (.k (.int .i64 4)), (some (25, true))⟩,
  ⟨(some 30), .ld none (.t 29), (some (25, true))⟩,
  ⟨(some 31), .bin .and (.t 30) (.k (.int .i64 1)), (some (25, true))⟩,
  ⟨(some 32), .bin .eql (.t 28) (.t 31), (some (25, true))⟩,
  ⟨(some 33), .pick (.t 25) (.t 32) (.k (.bool false)), none⟩,
  ⟨(some 2), .mv (.t 33), none⟩] [2]) (.ret)
def c13x1 : AC := .reg [
  ⟨(some 16), .bin .add (.t 8) (.k (.int .i64 1)), none⟩,
  ⟨(some 8), .mv (.t 16), none⟩] [3, 4, 8]
def c13x2 : AC := .reg [
  ⟨(some 11), .build [(.int .i64 0), (.int .i64 0), (.int .i64 0), (.int .i64 0)] [(0, 1, (.k (.int .i64 14))), (1, 1, (.k (.int .i64 0)))], none⟩,
  ⟨(some 12), .ld (some 9) (.t 4), none⟩,
  ⟨(some 13), .call 54 [(.t 11), (.t 12)], none⟩,
  ⟨(some 10), .mv (.t 13), none⟩,
  ⟨(some 14), .ext (.t 10) 0, none⟩,
  ⟨(some 15), .ext (.t 10) 1, none⟩,
  ⟨none, .st 9 (.t 4) (.t 14), none⟩] [3, 4, 8]
def c13x3 : AC := .block 1 (c13x2)
def c13x4 : AC := .seq (c13x3) (c13x1)
def c13x5 : AC := .cond (.t 9) (.skip) (.exit 0)
def c13x6 : AC := .seq (c13x5) (c13x4)
def c13x7 : AC := .seq (.reg [
  ⟨(some 9), .bin .lss (.t 8) (.k (.int .i64 9)), none⟩] [3, 4, 8, 9]) (c13x6)
def c13x8 : AC := .loop (c13x7)
def c13x9 : AC := .block 0 (c13x8)
def c13x10 : AC := .seq (.reg [
  ⟨(some 8), .mv (.k (.int .i64 0)), none⟩] [3, 4, 8]) (c13x9)
def c13x11 : AC := .seq (c13x10) (c13x0)
def c13x12 : AC := .seq (.reg [
  ⟨(some 7), .ld (some 9) (.t 3), none⟩,
  ⟨(some 4), .zero [(.int .i64 0), (.int .i64 0), (.int .i64 0), (.int .i64 0), (.int .i64 0), (.int .i64 0), (.int .i64 0), (.int .i64 0), (.int .i64 0)], none⟩,
  ⟨none, .st 9 (.t 4) (.t 7), none⟩] [3, 4]) (c13x11)
def c13x13 : AC := .seq (.reg [
  ⟨(some 5), .mv (.t 0), none⟩,
  ⟨(some 6), .call 53 [(.t 5)], none⟩,
  ⟨(some 3), .zero [(.int .i64 0), (.int .i64 0), (.int .i64 0), (.int .i64 0), (.int .i64 0), (.int .i64 0), (.int .i64 0), (.int .i64 0), (.int .i64 0)], none⟩,
  ⟨none, .st 9 (.t 3) (.t 6), none⟩] [3]) (c13x12)
def c13 : AC := .seq (.reg [
  ⟨(some 2), .mv (.k (.bool false)), none⟩] [0]) (c13x13)
theorem k13 : Try.f13.body.bind (compC Try.prog Try.f13.ntmps v13) = some c13 := by kernel_rfl
theorem e13 : enters Try.prog 13 = true := by kernel_rfl
theorem q13 : Try.f13.results.toList.mapM (compRes Try.prog) = some r13 := by kernel_rfl
/-- bakelite/bakekeep1.AluBytes -/
def v14 : List (Nat × List Nat) := [(0, [0, 1]), (1, [1, 5]), (2, [1, 5, 6]), (3, [1, 5, 6, 20, 21, 22]), (4, [1, 5, 6, 20, 21, 22, 23]), (5, [1, 5, 6, 8, 20, 21, 22]), (6, [1, 5, 6, 20, 21, 22]), (7, [1, 5, 6, 20, 21, 22]), (8, [5, 6, 9]), (9, [5, 6, 10]), (10, [4])]
def r14 : List AR := [.t 4]
def c14x0 : AC := .seq (.dreg [
  ⟨(some 50), .call 55 [], none⟩,
  ⟨(some 51), .mv (.t 50), none⟩,
  ⟨(some 52), .idx 1 (some 9) (.t 6) (.k (.int .i64 8)), (some (51, true))⟩,
  ⟨(some 53), .ld none (.t 52), (some (51, true))⟩,
  ⟨(some 54), .idx 1 (some 9) (.t 5) (.k (.int .i64 8)), (some (51, true))⟩,
  ⟨(some 55), .ld none (.t 54), (some (51, true))⟩,
  ⟨(some 56), .bin .eql (.t 53) (.t 55), (some (51, true))⟩,
  ⟨(some 57), .pick (.t 51) (.t 56) (.k (.bool false)), none⟩,
  ⟨(some 58), .mv (.t 57), none⟩,
  ⟨(some 59), .ld (some 9) (.t 10), (some (58, true))⟩,
  ⟨(some 60), .call 57 [(.t 59)], (some (58, true))⟩,
  ⟨(some 61), .ld (some 9) (.t 10), (some (58, true))⟩,
  ⟨(some 62), .eqs [.i .i64, .i .i64, .i .i64, .i .i64, .i .i64, .i .i64, .i .i64, .i .i64, .i .i64] false (.t 60) (.t 61), (some (58, true))⟩,
  ⟨(some 63), .pick (.t 58) (.t 62) (.k (.bool false)), none⟩,
  ⟨(some 4), .mv (.t 63), none⟩] [[], [0], [0, 1], [0, 1, 2], [0, 1], [0, 1, 4], [0, 1, 2, 3, 4, 5], [0, 1, 2, 3, 4, 5, 6], [0, 1, 2, 3, 4, 5, 6, 7], [0, 1, 2, 3, 4, 5, 6, 7, 8], [0, 1, 2, 3, 4, 5, 6, 7, 8, 9], [0, 1, 2, 3, 4, 5, 6, 7, 8], [0, 1, 2, 3, 4, 5, 6, 7, 8, 9, 10, 11], [0, 1, 2, 3, 4, 5, 6, 7, 8, 9, 10, 11, 12], [0, 1, 2, 3, 4, 5, 6, 7, 8, 9, 10, 11, 12, 13]] [4]) (.ret)
def c14x1 : AC := .seq (.dreg [
  ⟨(some 37), .mv (.t 9), none⟩,
  ⟨(some 38), .call 56 [(.t 37), (.k (.int .i64 25))], none⟩,
  ⟨(some 39), .mv (.t 9), none⟩,
  ⟨(some 40), .call 56 [(.t 39), (.k (.int .i64 9))], none⟩,
  ⟨(some 41), .mv (.t 9), none⟩,
  ⟨(some 42), .call 56 [(.t 41), (.k (.int .i64 9))], none⟩,
  ⟨(some 43), .mv (.t 9), none⟩,
  ⟨(some 44), .call 56 [(.t 43), (.k (.int .i64 256))], none⟩,
  ⟨(some 45), .build [(.int .i64 0), (.int .i64 0), (.int .i64 0), (.int .i64 0)] [(0, 1, (.t 38)), (1, 1, (.t 40)), (2, 1, (.t 42)), (3, 1, (.t 44))], none⟩,
  ⟨(some 46), .ld (some 9) (.t 5), none⟩,
  ⟨(some 47), .call 54 [(.t 45), (.t 46)], none⟩,
  ⟨(some 36), .mv (.t 47), none⟩,
  ⟨(some 48), .ext (.t 36) 0, none⟩,
  ⟨(some 49), .ext (.t 36) 1, none⟩,
  ⟨(some 10), .zero [(.int .i64 0), (.int .i64 0), (.int .i64 0), (.int .i64 0), (.int .i64 0), (.int .i64 0), (.int .i64 0), (.int .i64 0), (.int .i64 0)], none⟩,
  ⟨none, .st 9 (.t 10) (.t 48), none⟩,
  ⟨(some 11), .mv (.t 49), none⟩] [[], [0], [], [0, 1, 2], [], [0, 1, 2, 3, 4], [], [0, 1, 2, 3, 4, 5, 6], [0, 1, 2, 3, 4, 5, 6, 7], [], [0, 1, 2, 3, 4, 5, 6, 7, 8, 9], [0, 1, 2, 3, 4, 5, 6, 7, 8, 9, 10], [0, 1, 2, 3, 4, 5, 6, 7, 8, 9, 10, 11], [0, 1, 2, 3, 4, 5, 6, 7, 8, 9, 10, 11], [], [0, 1, 2, 3, 4, 5, 6, 7, 8, 9, 10, 11, 12, 14], [0, 1, 2, 3, 4, 5, 6, 7, 8, 9, 10, 11, 12, 13, 14, 15]] [5, 6, 10]) (c14x0)
def c14x2 : AC := .seq (.reg [
  ⟨(some 33), .mv (.t 1), none⟩,
  ⟨(some 34), .build [(.slice none 0 0)] [(0, 1, (.t 33))], none⟩,
  ⟨(some 35), .new 1 (.t 34), none⟩,
  ⟨(some 9), .mv (.t 35), none⟩] [5, 6, 9]) (c14x1)
def c14x3 : AC := .reg [
  ⟨(some 32), .bin .add (.t 22) (.k (.int .i64 1)), none⟩,
  ⟨(some 22), .mv (.t 32), none⟩] [1, 5, 6, 20, 21, 22]
def c14x4 : AC := .reg [
  ⟨(some 27), .ld (some 4) (.t 8), none⟩,
  ⟨(some 28), .ld (some 9) (.t 6), none⟩,
  ⟨(some 29), .call 54 [(.t 27), (.t 28)], none⟩,
  ⟨(some 26), .mv (.t 29), none⟩,
  ⟨(some 30), .ext (.t 26) 0, none⟩,
  ⟨(some 31), .ext (.t 26) 1, none⟩,
  ⟨none, .st 9 (.t 6) (.t 30), none⟩] [1, 5, 6, 20, 21, 22]
def c14x5 : AC := .seq (.reg [
  ⟨(some 24), .idx 4 none (.t 20) (.t 22), none⟩,
  ⟨(some 25), .ld (some 4) (.t 24), none⟩,
  ⟨(some 8), .zero [(.int .i64 0), (.int .i64 0), (.int .i64 0), (.int .i64 0)], none⟩,
  ⟨none, .st 4 (.t 8) (.t 25), none⟩] [1, 5, 6, 8, 20, 21, 22]) (c14x4)
def c14x6 : AC := .block 1 (c14x5)
def c14x7 : AC := .seq (c14x6) (c14x3)
def c14x8 : AC := .cond (.t 23) (.skip) (.exit 0)
def c14x9 : AC := .seq (c14x8) (c14x7)
def c14x10 : AC := .seq (.reg [
  ⟨(some 23), .bin .lss (.t 22) (.t 21), none⟩] [1, 5, 6, 20, 21, 22, 23]) (c14x9)
def c14x11 : AC := .loop (c14x10)
def c14x12 : AC := .block 0 (c14x11)
def c14x13 : AC := .seq (.reg [
  ⟨(some 15), .build [(.int .i64 0), (.int .i64 0), (.int .i64 0), (.int .i64 0)] [(0, 1, (.k (.int .i64 20))), (1, 1, (.k (.int .i64 5))), (2, 1, (.k (.int .i64 8)))], none⟩,
  ⟨(some 16), .build [(.int .i64 0), (.int .i64 0), (.int .i64 0), (.int .i64 0)] [(0, 1, (.k (.int .i64 21))), (1, 1, (.k (.int .i64 6))), (2, 1, (.k (.int .i64 8)))], none⟩,
  ⟨(some 17), .build [(.int .i64 0), (.int .i64 0), (.int .i64 0), (.int .i64 0)] [(0, 1, (.k (.int .i64 2))), (1, 1, (.k (.int .i64 8))), (3, 1, (.k (.int .i64 1234)))], none⟩,
  ⟨(some 18), .build [(.int .i64 0), (.int .i64 0), (.int .i64 0), (.int .i64 0)] [(0, 1, (.k (.int .i64 18))), (1, 1, (.k (.int .i64 8))), (2, 1, (.k (.int .i64 5)))], none⟩,
  ⟨(some 19), .build [(.int .i64 0), (.int .i64 0), (.int .i64 0), (.int .i64 0)] [(0, 1, (.k (.int .i64 19))), (1, 1, (.k (.int .i64 8))), (2, 1, (.k (.int .i64 6)))], none⟩,
  ⟨(some 20), .bsl [(.int .i64 0), (.int .i64 0), (.int .i64 0), (.int .i64 0)] 5 [(0, (.t 15)), (1, (.t 16)), (2, (.t 17)), (3, (.t 18)), (4, (.t 19))], none⟩,
  ⟨(some 21), .len (.t 20), none⟩,
  ⟨(some 22), .mv (.k (.int .i64 0)), none⟩] [1, 5, 6, 20, 21, 22]) (c14x12)
def c14x14 : AC := .seq (c14x13) (c14x2)
def c14x15 : AC := .seq (.reg [
  ⟨(some 14), .ld (some 9) (.t 5), none⟩,
  ⟨(some 6), .zero [(.int .i64 0), (.int .i64 0), (.int .i64 0), (.int .i64 0), (.int .i64 0), (.int .i64 0), (.int .i64 0), (.int .i64 0), (.int .i64 0)], none⟩,
  ⟨none, .st 9 (.t 6) (.t 14), none⟩] [1, 5, 6]) (c14x14)
def c14x16 : AC := .seq (.reg [
  ⟨(some 12), .mv (.t 0), none⟩,
  ⟨(some 13), .call 53 [(.t 12)], none⟩,
  ⟨(some 5), .zero [(.int .i64 0), (.int .i64 0), (.int .i64 0), (.int .i64 0), (.int .i64 0), (.int .i64 0), (.int .i64 0), (.int .i64 0), (.int .i64 0)], none⟩,
  ⟨none, .st 9 (.t 5) (.t 13), none⟩] [1, 5]) (c14x15)
def c14 : AC := .seq (.reg [
  ⟨(some 4), .mv (.k (.bool false)), none⟩] [0, 1]) (c14x16)
theorem k14 : Try.f14.body.bind (compC Try.prog Try.f14.ntmps v14) = some c14 := by kernel_rfl
theorem e14 : enters Try.prog 14 = true := by kernel_rfl
theorem q14 : Try.f14.results.toList.mapM (compRes Try.prog) = some r14 := by kernel_rfl
/-- bakelite/bakekeep1.registers -/
def v53 : List (Nat × List Nat) := [(0, [0, 2]), (1, [2, 3]), (2, [2, 3, 4]), (3, [2, 3, 4, 9]), (4, [2, 3, 4, 9, 10]), (5, [2, 3, 4, 5, 9]), (6, [2, 3, 4, 5, 9]), (7, [2, 3, 4, 5, 9, 17]), (8, [2, 3, 4, 9]), (9, [2, 3, 4, 9]), (10, [2])]
def r53 : List AR := [.cell (some 9) 2]
def c53x0 : AC := .seq (.reg [
  ⟨(some 23), .ld (some 9) (.t 4), none⟩,
  ⟨none, .st 9 (.t 2) (.t 23), none⟩] [2]) (.ret)
def c53x1 : AC := .reg [
  ⟨(some 22), .bin .add (.t 9) (.k (.int .i64 1)), none⟩,
  ⟨(some 9), .mv (.t 22), none⟩] [2, 3, 4, 9]
def c53x2 : AC := .reg [
  ⟨(some 18), .mv (.t 5), none⟩,
  ⟨(some 19), .mv (.t 3), none⟩,
  ⟨(some 20), .call 56 [(.t 19), (.k (.int .i64 65536))], none⟩,
  ⟨(some 21), .idx 1 (some 9) (.t 4) (.t 18), none⟩,
  ⟨none, .st 1 (.t 21) (.t 20), none⟩] [2, 3, 4, 9]
def c53x3 : AC := .cond (.t 17) (c53x2) (.skip)
def c53x4 : AC := .seq (.reg [
  ⟨(some 16), .mv (.t 5), none⟩,
  ⟨(some 17), .call 104 [(.t 16)], none⟩] [2, 3, 4, 5, 9, 17]) (c53x3)
def c53x5 : AC := .seq (.reg [
  ⟨(some 12), .mv (.t 5), none⟩,
  ⟨(some 13), .mv (.t 3), none⟩,
  ⟨(some 14), .call 56 [(.t 13), (.k (.int .i64 256))], none⟩,
  ⟨(some 15), .idx 1 (some 9) (.t 4) (.t 12), none⟩,
  ⟨none, .st 1 (.t 15) (.t 14), none⟩] [2, 3, 4, 5, 9]) (c53x4)
def c53x6 : AC := .seq (.reg [
  ⟨(some 11), .mv (.t 9), none⟩,
  ⟨(some 5), .mv (.t 11), none⟩] [2, 3, 4, 5, 9]) (c53x5)
def c53x7 : AC := .block 1 (c53x6)
def c53x8 : AC := .seq (c53x7) (c53x1)
def c53x9 : AC := .cond (.t 10) (.skip) (.exit 0)
def c53x10 : AC := .seq (c53x9) (c53x8)
def c53x11 : AC := .seq (.reg [
  ⟨(some 10), .bin .lss (.t 9) (.k (.int .i64 9)), none⟩] [2, 3, 4, 9, 10]) (c53x10)
def c53x12 : AC := .loop (c53x11)
def c53x13 : AC := .block 0 (c53x12)
def c53x14 : AC := .seq (.reg [
  ⟨(some 9), .mv (.k (.int .i64 0)), none⟩] [2, 3, 4, 9]) (c53x13)
def c53x15 : AC := .seq (c53x14) (c53x0)
def c53x16 : AC := .seq (.reg [
  ⟨(some 4), .zero [(.int .i64 0), (.int .i64 0), (.int .i64 0), (.int .i64 0), (.int .i64 0), (.int .i64 0), (.int .i64 0), (.int .i64 0), (.int .i64 0)], none⟩] [2, 3, 4]) (c53x15)
def c53x17 : AC := .seq (.reg [
  ⟨(some 6), .mv (.t 0), none⟩,
  ⟨(some 7), .build [(.slice none 0 0)] [(0, 1, (.t 6))], none⟩,
  ⟨(some 8), .new 1 (.t 7), none⟩,
  ⟨(some 3), .mv (.t 8), none⟩] [2, 3]) (c53x16)
def c53 : AC := .seq (.reg [
  ⟨(some 2), .zero [(.int .i64 0), (.int .i64 0), (.int .i64 0), (.int .i64 0), (.int .i64 0), (.int .i64 0), (.int .i64 0), (.int .i64 0), (.int .i64 0)], none⟩] [0, 2]) (c53x17)
theorem k53 : Try.f53.body.bind (compC Try.prog Try.f53.ntmps v53) = some c53 := by kernel_rfl
theorem e53 : enters Try.prog 53 = true := by kernel_rfl
theorem q53 : Try.f53.results.toList.mapM (compRes Try.prog) = some r53 := by kernel_rfl
/-- bakelite/bakekeep1.does -/
def v55 : List (Nat × List Nat) := [(0, []), (1, [1, 2]), (2, [0])]
def r55 : List AR := [.t 0]
def c55x0 : AC := .seq (.reg [
  ⟨(some 9), .mv (.t 2), none⟩,
  ⟨(some 10), .not (.t 9), none⟩,
  ⟨(some 11), .mv (.t 10), none⟩,
  ⟨(some 12), .idx 1 (some 9) (.t 1) (.k (.int .i64 0)), (some (11, true))⟩,
  ⟨(some 13), .ld none (.t 12), (some (11, true))⟩,
  ⟨(some 14), .bin .eql (.t 13) (.k (.int .i64 44)), (some (11, true))⟩,
  ⟨(some 15), .pick (.t 11) (.t 14) (.k (.bool false)), none⟩,
  ⟨(some 16), .mv (.t 15), none⟩,
  ⟨(some 17), .idx 1 (some 9) (.t 1) (.k (.int .i64 4)), (some (16, true))⟩,
  ⟨(some 18), .ld none (.t 17), (some (16, true))⟩,
  ⟨(some 19), .bin .eql (.t 18) (.k (.int .i64 1)), (some (16, true))⟩,
  ⟨(some 20), .pick (.t 16) (.t 19) (.k (.bool false)), none⟩,
  ⟨(some 0), .mv (.t 20), none⟩] [0]) (.ret)
def c55x1 : AC := .seq (.reg [
  ⟨(some 4), .build [(.int .i64 0), (.int .i64 0), (.int .i64 0), (.int .i64 0)] [(0, 1, (.k (.int .i64 4))), (1, 1, (.k (.int .i64 0))), (2, 1, (.k (.int .i64 1)))], none⟩,
  ⟨(some 5), .build [(.int .i64 0), (.int .i64 0), (.int .i64 0), (.int .i64 0), (.int .i64 0), (.int .i64 0), (.int .i64 0), (.int .i64 0), (.int .i64 0)] [(0, 1, (.k (.int .i64 200))), (1, 1, (.k (.int .i64 100)))], none⟩,
  ⟨(some 6), .call 54 [(.t 4), (.t 5)], none⟩,
  ⟨(some 3), .mv (.t 6), none⟩,
  ⟨(some 7), .ext (.t 3) 0, none⟩,
  ⟨(some 8), .ext (.t 3) 1, none⟩,
  ⟨(some 1), .zero [(.int .i64 0), (.int .i64 0), (.int .i64 0), (.int .i64 0), (.int .i64 0), (.int .i64 0), (.int .i64 0), (.int .i64 0), (.int .i64 0)], none⟩,
  ⟨none, .st 9 (.t 1) (.t 7), none⟩,
  ⟨(some 2), .mv (.t 8), none⟩] [1, 2]) (c55x0)
def c55 : AC := .seq (.reg [
  ⟨(some 0), .mv (.k (.bool false)), none⟩] []) (c55x1)
theorem k55 : Try.f55.body.bind (compC Try.prog Try.f55.ntmps v55) = some c55 := by kernel_rfl
theorem e55 : enters Try.prog 55 = true := by kernel_rfl
theorem q55 : Try.f55.results.toList.mapM (compRes Try.prog) = some r55 := by kernel_rfl
end Go.Proofs.Ytjmmompbmjhkpaa.Code
