/- Several texts in one (CdKTable), for the proof of LawTableMade. No condition beyond those in each lemma. -/
import Derived.Test.YtjmmompbmjhkpaaProg
import Derived.Test.YtjmmompbmjhkpaaPLawTableMadeC
import Derived.KernelRfl
namespace Go.Proofs.Ytjmmompbmjhkpaa.Code
open Go Go.Proofs.Ytjmmompbmjhkpaa.Calc
set_option maxRecDepth 100000
def v15 : List (Nat × List Nat) := [(0, [0, 3]), (1, [3, 5]), (2, [3, 5, 28]), (3, [4]), (4, [3, 5, 30, 31, 32]), (5, [3, 5, 30, 31, 32, 33]), (6, [3, 5, 7, 30, 31, 32]), (7, [3, 5, 7, 8, 9, 30, 31, 32]), (8, [3, 5, 7, 8, 9, 10, 11, 30, 31, 32]), (9, [3, 5, 30, 31, 32, 78]), (10, [4]), (11, [3, 5, 30, 31, 32]), (12, [3, 5]), (13, [3, 5, 13]), (14, [4])]
def r15 : List AR := [.t 4]
def c15x0 : AC := .seq (.reg [
  ⟨(some 88), .mv (.t 13), none⟩,
  ⟨(some 89), .fad 1 (.t 5), none⟩,
  ⟨(some 90), .ld none (.t 89), none⟩,
  ⟨(some 91), .mkf 65 [(.t 3)], none⟩,
  ⟨(some 92), .call 64 [(.t 90), (.t 91)], none⟩,
  ⟨(some 93), .eqb false (.t 88) (.t 92), none⟩,
  ⟨(some 4), .mv (.t 93), none⟩] [4]) (.ret)
def c15x1 : AC := .seq (.reg [
  ⟨(some 83), .ld (some 5) (.t 5), none⟩,
  ⟨(some 84), .ld none (.t 3), none⟩,
  ⟨(some 85), .call 62 [(.t 83), (.t 84)], none⟩,
  ⟨(some 82), .mv (.t 85), none⟩,
  ⟨(some 86), .ext (.t 82) 0, none⟩,
  ⟨(some 87), .ext (.t 82) 1, none⟩,
  ⟨(some 12), .zero [(.int .i64 0), (.string ⟨#[]⟩), (.int .i64 0), (.slice none 0 0)], none⟩,
  ⟨none, .st 4 (.t 12) (.t 86), none⟩,
  ⟨(some 13), .mv (.t 87), none⟩] [3, 5, 13]) (c15x0)
def c15x2 : AC := .seq (.reg [
  ⟨(some 80), .ld none (.t 3), none⟩,
  ⟨(some 81), .call 29 [(.t 80), (.k (.int .i64 256))], none⟩,
  ⟨none, .st 1 (.t 3) (.t 81), none⟩] [3, 5]) (c15x1)
def c15x3 : AC := .reg [
  ⟨(some 79), .bin .add (.t 32) (.k (.int .i64 1)), none⟩,
  ⟨(some 32), .mv (.t 79), none⟩] [3, 5, 30, 31, 32]
def c15x4 : AC := .seq (.reg [
  ⟨(some 4), .mv (.k (.bool false)), none⟩] [4]) (.ret)
def c15x5 : AC := .cond (.t 78) (c15x4) (.skip)
def c15x6 : AC := .seq (.reg [
  ⟨(some 52), .mv (.t 9), none⟩,
  ⟨(some 53), .not (.t 52), none⟩,
  ⟨(some 54), .mv (.t 53), none⟩,
  ⟨(some 55), .mv (.t 11), (some (54, false))⟩,
  ⟨(some 56), .not (.t 55), (some (54, false))⟩,
  ⟨(some 57), .pick (.t 54) (.k (.bool true)) (.t 56), none⟩,
  ⟨(some 58), .mv (.t 57), none⟩,
  ⟨(some 59), .fad 1 (.t 8), (some (58, false))⟩,
  ⟨(some 60), .ld none (.t 59), (some (58, false))⟩,
  ⟨(some 61), .fad 1 (.t 7), (some (58, false))⟩,
  ⟨(some 62), .ld none (.t 61), (some (58, false))⟩,
  ⟨(some 63), .bin .neq (.t 60) (.t 62), (some (58, false))⟩,
  ⟨(some 64), .pick (.t 58) (.k (.bool true)) (.t 63), none⟩,
  ⟨(some 65), .mv (.t 64), none⟩,
  ⟨(some 66), .fad 2 (.t 8), (some (65, false))⟩,
  ⟨(some 67), .ld none (.t 66), (some (65, false))⟩,
  ⟨(some 68), .fad 2 (.t 7), (some (65, false))⟩,
  ⟨(some 69), .ld none (.t 68), (some (65, false))⟩,
  ⟨(some 70), .bin .neq (.t 67) (.t 69), (some (65, false))⟩,
  ⟨(some 71), .pick (.t 65) (.k (.bool true)) (.t 70), none⟩,
  ⟨(some 72), .mv (.t 71), none⟩,
  ⟨(some 73), .fad 0 (.t 10), (some (72, false))⟩,
  ⟨(some 74), .ld none (.t 73), (some (72, false))⟩,
  ⟨(some 75), .fad 0 (.t 7), (some (72, false))⟩,
  ⟨(some 76), .ld none (.t 75), (some (72, false))⟩,
  ⟨(some 77), .bin .neq (.t 74) (.t 76), (some (72, false))⟩,
  ⟨(some 78), .pick (.t 72) (.k (.bool true)) (.t 77), none⟩] [3, 5, 30, 31, 32, 78]) (c15x5)
def c15x7 : AC := .seq (.reg [
  ⟨(some 44), .ld (some 5) (.t 5), none⟩,
  ⟨(some 45), .fad 1 (.t 7), none⟩,
  ⟨(some 46), .ld none (.t 45), none⟩,
  ⟨(some 47), .fad 2 (.t 7), none⟩,
  ⟨(some 48), .ld none (.t 47), none⟩,
  ⟨(some 49), .call 63 [(.t 44), (.t 46), (.t 48)], none⟩,
  ⟨(some 43), .mv (.t 49), none⟩,
  ⟨(some 50), .ext (.t 43) 0, none⟩,
  ⟨(some 51), .ext (.t 43) 1, none⟩,
  ⟨(some 10), .zero [(.int .i64 0), (.string ⟨#[]⟩), (.int .i64 0), (.slice none 0 0)], none⟩,
  ⟨none, .st 4 (.t 10) (.t 50), none⟩,
  ⟨(some 11), .mv (.t 51), none⟩] [3, 5, 7, 8, 9, 10, 11, 30, 31, 32]) (c15x6)
def c15x8 : AC := .seq (.reg [
  ⟨(some 37), .ld (some 5) (.t 5), none⟩,
  ⟨(some 38), .fad 0 (.t 7), none⟩,
  ⟨(some 39), .ld none (.t 38), none⟩,
  ⟨(some 40), .call 62 [(.t 37), (.t 39)], none⟩,
  ⟨(some 36), .mv (.t 40), none⟩,
  ⟨(some 41), .ext (.t 36) 0, none⟩,
  ⟨(some 42), .ext (.t 36) 1, none⟩,
  ⟨(some 8), .zero [(.int .i64 0), (.string ⟨#[]⟩), (.int .i64 0), (.slice none 0 0)], none⟩,
  ⟨none, .st 4 (.t 8) (.t 41), none⟩,
  ⟨(some 9), .mv (.t 42), none⟩] [3, 5, 7, 8, 9, 30, 31, 32]) (c15x7)
def c15x9 : AC := .seq (.reg [
  ⟨(some 34), .idx 4 none (.t 30) (.t 32), none⟩,
  ⟨(some 35), .ld (some 4) (.t 34), none⟩,
  ⟨(some 7), .zero [(.int .i64 0), (.string ⟨#[]⟩), (.int .i64 0), (.slice none 0 0)], none⟩,
  ⟨none, .st 4 (.t 7) (.t 35), none⟩] [3, 5, 7, 30, 31, 32]) (c15x8)
def c15x10 : AC := .block 1 (c15x9)
def c15x11 : AC := .seq (c15x10) (c15x3)
def c15x12 : AC := .cond (.t 33) (.skip) (.exit 0)
def c15x13 : AC := .seq (c15x12) (c15x11)
def c15x14 : AC := .seq (.reg [
  ⟨(some 33), .bin .lss (.t 32) (.t 31), none⟩] [3, 5, 30, 31, 32, 33]) (c15x13)
def c15x15 : AC := .loop (c15x14)
def c15x16 : AC := .block 0 (c15x15)
def c15x17 : AC := .seq (.reg [
  ⟨(some 29), .fad 1 (.t 5), none⟩,
  ⟨(some 30), .ld none (.t 29), none⟩,
  ⟨(some 31), .len (.t 30), none⟩,
  ⟨(some 32), .mv (.k (.int .i64 0)), none⟩] [3, 5, 30, 31, 32]) (c15x16)
def c15x18 : AC := .seq (c15x17) (c15x2)
def c15x19 : AC := .seq (.reg [
  ⟨(some 4), .mv (.k (.bool false)), none⟩] [4]) (.ret)
def c15x20 : AC := .cond (.t 28) (c15x19) (.skip)
def c15x21 : AC := .seq (.reg [
  ⟨(some 16), .call 59 [], none⟩,
  ⟨(some 17), .not (.t 16), none⟩,
  ⟨(some 18), .mv (.t 17), none⟩,
  ⟨(some 19), .ld (some 5) (.t 5), (some (18, false))⟩,
  ⟨(some 20), .call 60 [(.t 19)], (some (18, false))⟩,
  ⟨(some 21), .bin .neq (.t 20) (.k (.int .i64 0)), (some (18, false))⟩,
  ⟨(some 22), .pick (.t 18) (.k (.bool true)) (.t 21), none⟩,
  ⟨(some 23), .mv (.t 22), none⟩,
  ⟨(some 24), .ld (some 5) (.t 5), (some (23, false))⟩,
  ⟨(some 25), .ld (some 5) (.t 5), (some (23, false))⟩,
  ⟨(some 26), .call 61 [(.t 24), (.t 25)], (some (23, false))⟩,
  ⟨(some 27), .not (.t 26), (some (23, false))⟩,
  ⟨(some 28), .pick (.t 23) (.k (.bool true)) (.t 27), none⟩] [3, 5, 28]) (c15x20)
def c15x22 : AC := .seq (c15x21) (c15x18)
def c15x23 : AC := .seq (.reg [
  ⟨(some 14), .mv (.t 0), none⟩,
  ⟨(some 15), .call 58 [(.t 14)], none⟩,
  ⟨(some 5), .zero [(.string ⟨#[]⟩), (.slice none 0 0), (.slice none 0 0), (.slice none 0 0), (.slice none 0 0)], none⟩,
  ⟨none, .st 5 (.t 5) (.t 15), none⟩] [3, 5]) (c15x22)
def c15 : AC := .seq (.reg [
  ⟨(some 3), .new 1 (.t 1), none⟩,
  ⟨(some 4), .mv (.k (.bool false)), none⟩] [0, 3]) (c15x23)
theorem k15 : Try.f15.body.bind (compC Try.prog Try.f15.ntmps v15) = some c15 := by kernel_rfl
theorem q15 : Try.f15.results.toList.mapM (compRes Try.prog) = some r15 := by kernel_rfl
def v59 : List (Nat × List Nat) := [(0, []), (1, [0])]
def r59 : List AR := [.t 0]
def c59x0 : AC := .seq (.reg [
  ⟨(some 1), .call 68 [(.k (.int .i64 4))], none⟩,
  ⟨(some 2), .bin .eql (.t 1) (.k (.int .i64 2)), none⟩,
  ⟨(some 3), .mv (.t 2), none⟩,
  ⟨(some 4), .build [(.string ⟨#[]⟩), (.slice none 0 0), (.slice none 0 0), (.slice none 0 0), (.slice none 0 0)] [], (some (3, true))⟩,
  ⟨(some 5), .call 60 [(.t 4)], (some (3, true))⟩,
  ⟨(some 6), .bin .eql (.t 5) (.k (.int .i64 15)), (some (3, true))⟩,
  ⟨(some 7), .pick (.t 3) (.t 6) (.k (.bool false)), none⟩,
  ⟨(some 8), .mv (.t 7), none⟩,
  ⟨(some 9), .build [(.string ⟨#[]⟩), (.slice none 0 0), (.slice none 0 0), (.slice none 0 0), (.slice none 0 0)] [(0, 1, (.k (.string ⟨#[97]⟩)))], (some (8, true))⟩,
  ⟨(some 10), .call 60 [(.t 9)], (some (8, true))⟩,
  ⟨(some 11), .bin .eql (.t 10) (.k (.int .i64 0)), (some (8, true))⟩,
  ⟨(some 12), .pick (.t 8) (.t 11) (.k (.bool false)), none⟩,
  ⟨(some 0), .mv (.t 12), none⟩] [0]) (.ret)
def c59 : AC := .seq (.reg [
  ⟨(some 0), .mv (.k (.bool false)), none⟩] []) (c59x0)
theorem k59 : Try.f59.body.bind (compC Try.prog Try.f59.ntmps v59) = some c59 := by kernel_rfl
theorem e59 : enters Try.prog 59 = true := by kernel_rfl
theorem q59 : Try.f59.results.toList.mapM (compRes Try.prog) = some r59 := by kernel_rfl
def v65 : List (Nat × List Nat) := [(0, [1, 2]), (1, [3])]
def r65 : List AR := [.t 3]
def c65x0 : AC := .seq (.reg [
  ⟨(some 4), .fad 0 (.t 2), none⟩,
  ⟨(some 5), .ld none (.t 4), none⟩,
  ⟨(some 6), .ld none (.t 1), none⟩,
  ⟨(some 7), .bin .eql (.t 5) (.t 6), none⟩,
  ⟨(some 3), .mv (.t 7), none⟩] [3]) (.ret)
def c65 : AC := .seq (.reg [
  ⟨(some 2), .new 4 (.t 0), none⟩,
  ⟨(some 3), .mv (.k (.bool false)), none⟩] [1, 2]) (c65x0)
theorem k65 : Try.f65.body.bind (compC Try.prog Try.f65.ntmps v65) = some c65 := by kernel_rfl
theorem e65 : enters Try.prog 65 = true := by kernel_rfl
theorem q65 : Try.f65.results.toList.mapM (compRes Try.prog) = some r65 := by kernel_rfl
end Go.Proofs.Ytjmmompbmjhkpaa.Code

