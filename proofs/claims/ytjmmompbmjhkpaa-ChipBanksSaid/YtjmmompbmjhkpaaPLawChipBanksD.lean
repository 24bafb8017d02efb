/- Several texts in one (CdBit, CdBakemake, CdTable, CdChip, CdKChip), for the proof of LawChipBanks. No condition beyond those in each lemma. -/
import Derived.Test.YtjmmompbmjhkpaaProg
import Derived.Test.YtjmmompbmjhkpaaPLawChipBanksC
import Derived.KernelRfl
namespace Go.Proofs.Ytjmmompbmjhkpaa.Code
open Go Go.Proofs.Ytjmmompbmjhkpaa.Calc
set_option maxRecDepth 100000
def v35 : List (Nat × List Nat) := [(0, [0, 1]), (1, [4])]
def r35 : List AR := [.t 4]
def c35x0 : AC := .seq (.reg [
  ⟨(some 5), .mv (.t 0), none⟩,
  ⟨(some 6), .mv (.t 1), none⟩,
  ⟨(some 7), .call 92 [(.t 6)], none⟩,
  ⟨(some 8), .bin .shl (.k (.int .i64 1)) (.t 7), none⟩,
  ⟨(some 9), .bin .sub (.t 8) (.k (.int .i64 1)), none⟩,
  ⟨(some 10), .bin .and (.t 5) (.t 9), none⟩,
  ⟨(some 4), .mv (.t 10), none⟩] [4]) (.ret)
def c35 : AC := .seq (.reg [
  ⟨(some 4), .mv (.k (.int .i64 0)), none⟩] [0, 1]) (c35x0)
theorem k35 : Try.f35.body.bind (compC Try.prog Try.f35.ntmps v35) = some c35 := by kernel_rfl
theorem e35 : enters Try.prog 35 = true := by kernel_rfl
theorem q35 : Try.f35.results.toList.mapM (compRes Try.prog) = some r35 := by kernel_rfl
def v92 : List (Nat × List Nat) := [(0, [0]), (1, [2])]
def r92 : List AR := [.t 2]
def c92x0 : AC := .seq (.reg [
  ⟨(some 3), .mv (.t 0), none⟩,
  ⟨(some 4), .mnx false [(.t 3), (.k (.int .i64 62))], none⟩,
  ⟨(some 5), .mnx true [(.k (.int .i64 0)), (.t 4)], none⟩,
  ⟨(some 2), .mv (.t 5), none⟩] [2]) (.ret)
def c92 : AC := .seq (.reg [
  ⟨(some 2), .mv (.k (.int .i64 0)), none⟩] [0]) (c92x0)
theorem k92 : Try.f92.body.bind (compC Try.prog Try.f92.ntmps v92) = some c92 := by kernel_rfl
theorem e92 : enters Try.prog 92 = true := by kernel_rfl
theorem q92 : Try.f92.results.toList.mapM (compRes Try.prog) = some r92 := by kernel_rfl
def v95 : List (Nat × List Nat) := [(0, [0, 1, 2, 3]), (1, [0, 1, 2, 3]), (2, [0, 1, 2, 3, 9]), (3, [8])]
def r95 : List AR := [.t 8]
def c95x0 : AC := .seq (.reg [
  ⟨(some 21), .mv (.t 0), none⟩,
  ⟨(some 22), .call 35 [(.t 21), (.k (.int .i64 62))], none⟩,
  ⟨(some 23), .mv (.t 9), none⟩,
  ⟨(some 24), .bin .andNot (.t 22) (.t 23), none⟩,
  ⟨(some 25), .mv (.t 3), none⟩,
  ⟨(some 26), .mv (.t 2), none⟩,
  ⟨(some 27), .call 35 [(.t 25), (.t 26)], none⟩,
  ⟨(some 28), .mv (.t 1), none⟩,
  ⟨(some 29), .bin .shl (.t 27) (.t 28), none⟩,
  ⟨(some 30), .bin .or (.t 24) (.t 29), none⟩,
  ⟨(some 8), .mv (.t 30), none⟩] [8]) (.ret)
def c95x1 : AC := .seq (.reg [
  ⟨(some 16), .mv (.t 2), none⟩,
  ⟨(some 17), .bin .shl (.k (.int .i64 1)) (.t 16), none⟩,
  ⟨(some 18), .bin .sub (.t 17) (.k (.int .i64 1)), none⟩,
  ⟨(some 19), .mv (.t 1), none⟩,
  ⟨(some 20), .bin .shl (.t 18) (.t 19), none⟩,
  ⟨(some 9), .mv (.t 20), none⟩] [0, 1, 2, 3, 9]) (c95x0)
def c95x2 : AC := .seq (.reg [
  ⟨(some 11), .mv (.t 1), none⟩,
  ⟨(some 12), .mv (.t 2), none⟩,
  ⟨(some 13), .call 155 [(.t 11), (.t 12)], none⟩,
  ⟨(some 10), .mv (.t 13), none⟩,
  ⟨(some 14), .ext (.t 10) 0, none⟩,
  ⟨(some 15), .ext (.t 10) 1, none⟩,
  ⟨(some 1), .mv (.t 14), none⟩,
  ⟨(some 2), .mv (.t 15), none⟩] [0, 1, 2, 3]) (c95x1)
def c95 : AC := .seq (.reg [
  ⟨(some 8), .mv (.k (.int .i64 0)), none⟩] [0, 1, 2, 3]) (c95x2)
def v99 : List (Nat × List Nat) := [(0, [0, 1, 2]), (1, [0, 1, 2]), (2, [6])]
def r99 : List AR := [.t 6]
def c99x0 : AC := .seq (.reg [
  ⟨(some 13), .mv (.t 0), none⟩,
  ⟨(some 14), .call 35 [(.t 13), (.k (.int .i64 62))], none⟩,
  ⟨(some 15), .mv (.t 1), none⟩,
  ⟨(some 16), .bin .shr (.t 14) (.t 15), none⟩,
  ⟨(some 17), .mv (.t 2), none⟩,
  ⟨(some 18), .call 35 [(.t 16), (.t 17)], none⟩,
  ⟨(some 6), .mv (.t 18), none⟩] [6]) (.ret)
def c99x1 : AC := .seq (.reg [
  ⟨(some 8), .mv (.t 1), none⟩,
  ⟨(some 9), .mv (.t 2), none⟩,
  ⟨(some 10), .call 155 [(.t 8), (.t 9)], none⟩,
  ⟨(some 7), .mv (.t 10), none⟩,
  ⟨(some 11), .ext (.t 7) 0, none⟩,
  ⟨(some 12), .ext (.t 7) 1, none⟩,
  ⟨(some 1), .mv (.t 11), none⟩,
  ⟨(some 2), .mv (.t 12), none⟩] [0, 1, 2]) (c99x0)
def c99 : AC := .seq (.reg [
  ⟨(some 6), .mv (.k (.int .i64 0)), none⟩] [0, 1, 2]) (c99x1)
def v155 : List (Nat × List Nat) := [(0, [0, 1]), (1, [0, 1]), (2, [4, 5])]
def r155 : List AR := [.t 4, .t 5]
def c155x0 : AC := .seq (.reg [
  ⟨(some 8), .mv (.t 0), none⟩,
  ⟨(some 9), .mv (.t 1), none⟩,
  ⟨(some 10), .mv (.t 0), none⟩,
  ⟨(some 11), .bin .sub (.k (.int .i64 62)) (.t 10), none⟩,
  ⟨(some 12), .mnx false [(.t 9), (.t 11)], none⟩,
  ⟨(some 13), .mnx true [(.k (.int .i64 0)), (.t 12)], none⟩,
  ⟨(some 4), .mv (.t 8), none⟩,
  ⟨(some 5), .mv (.t 13), none⟩] [4, 5]) (.ret)
def c155x1 : AC := .seq (.reg [
  ⟨(some 6), .mv (.t 0), none⟩,
  ⟨(some 7), .call 92 [(.t 6)], none⟩,
  ⟨(some 0), .mv (.t 7), none⟩] [0, 1]) (c155x0)
def c155 : AC := .seq (.reg [
  ⟨(some 4), .mv (.k (.int .i64 0)), none⟩,
  ⟨(some 5), .mv (.k (.int .i64 0)), none⟩] [0, 1]) (c155x1)
end Go.Proofs.Ytjmmompbmjhkpaa.Code

namespace Go.Proofs.Ytjmmompbmjhkpaa.Code
open Go Go.Proofs.Ytjmmompbmjhkpaa.Calc
set_option maxRecDepth 100000
def v29 : List (Nat × List Nat) := [(0, [0, 1]), (1, [0, 1]), (2, [0, 1, 9]), (3, [0]), (4, [4])]
def r29 : List AR := [.t 4]
def c29x0 : AC := .seq (.reg [
  ⟨(some 13), .mv (.t 0), none⟩,
  ⟨(some 4), .mv (.t 13), none⟩] [4]) (.ret)
def c29x1 : AC := .reg [
  ⟨(some 10), .mv (.t 0), none⟩,
  ⟨(some 11), .mv (.t 1), none⟩,
  ⟨(some 12), .bin .add (.t 10) (.t 11), none⟩,
  ⟨(some 0), .mv (.t 12), none⟩] [0]
def c29x2 : AC := .cond (.t 9) (c29x1) (.skip)
def c29x3 : AC := .seq (.reg [
  ⟨(some 8), .mv (.t 0), none⟩,
  ⟨(some 9), .bin .lss (.t 8) (.k (.int .i64 0)), none⟩] [0, 1, 9]) (c29x2)
def c29x4 : AC := .seq (.reg [
  ⟨(some 5), .mv (.t 0), none⟩,
  ⟨(some 6), .mv (.t 1), none⟩,
  ⟨(some 7), .bin .rem (.t 5) (.t 6), none⟩,
  ⟨(some 0), .mv (.t 7), none⟩] [0, 1]) (c29x3)
def c29x5 : AC := .seq (c29x4) (c29x0)
def c29 : AC := .seq (.reg [
  ⟨(some 4), .mv (.k (.int .i64 0)), none⟩] [0, 1]) (c29x5)
theorem k29 : Try.f29.body.bind (compC Try.prog Try.f29.ntmps v29) = some c29 := by kernel_rfl
theorem e29 : enters Try.prog 29 = true := by kernel_rfl
theorem q29 : Try.f29.results.toList.mapM (compRes Try.prog) = some r29 := by kernel_rfl
def v44 : List (Nat × List Nat) := [(0, [0, 1]), (1, [1, 5]), (2, [5, 6]), (3, [5, 6, 15, 16]), (4, [5, 6, 15, 16, 17]), (5, [5, 6, 7, 15, 16]), (6, [5, 6, 15, 16]), (7, [5, 6, 15, 16]), (8, [4])]
def r44 : List AR := [.t 4]
def c44x0 : AC := .seq (.reg [
  ⟨(some 26), .mv (.t 6), none⟩,
  ⟨(some 4), .mv (.t 26), none⟩] [4]) (.ret)
def c44x1 : AC := .reg [
  ⟨(some 25), .bin .add (.t 16) (.k (.int .i64 1)), none⟩,
  ⟨(some 16), .mv (.t 25), none⟩] [5, 6, 15, 16]
def c44x2 : AC := .reg [
  ⟨(some 19), .mv (.t 6), none⟩,
  ⟨(some 20), .mv (.t 7), none⟩,
  ⟨(some 21), .mv (.t 5), none⟩,
  ⟨(some 22), .call 56 [(.t 21), (.k (.int .i64 256))], none⟩,
  ⟨(some 23), .cvt .u8 (.t 22), none⟩,
  ⟨(some 24), .idx 1 none (.t 19) (.t 20), none⟩,
  ⟨none, .st 1 (.t 24) (.t 23), none⟩] [5, 6, 15, 16]
def c44x3 : AC := .seq (.reg [
  ⟨(some 18), .mv (.t 16), none⟩,
  ⟨(some 7), .mv (.t 18), none⟩] [5, 6, 7, 15, 16]) (c44x2)
def c44x4 : AC := .block 1 (c44x3)
def c44x5 : AC := .seq (c44x4) (c44x1)
def c44x6 : AC := .cond (.t 17) (.skip) (.exit 0)
def c44x7 : AC := .seq (c44x6) (c44x5)
def c44x8 : AC := .seq (.reg [
  ⟨(some 17), .bin .lss (.t 16) (.t 15), none⟩] [5, 6, 15, 16, 17]) (c44x7)
def c44x9 : AC := .loop (c44x8)
def c44x10 : AC := .block 0 (c44x9)
def c44x11 : AC := .seq (.reg [
  ⟨(some 14), .mv (.t 6), none⟩,
  ⟨(some 15), .len (.t 14), none⟩,
  ⟨(some 16), .mv (.k (.int .i64 0)), none⟩] [5, 6, 15, 16]) (c44x10)
def c44x12 : AC := .seq (c44x11) (c44x0)
def c44x13 : AC := .seq (.reg [
  ⟨(some 11), .mv (.t 1), none⟩,
  ⟨(some 12), .mnx true [(.k (.int .i64 0)), (.t 11)], none⟩,
  ⟨(some 13), .mksl [(.int .u8 0)] 1 (.t 12) (.t 12), none⟩,
  ⟨(some 6), .mv (.t 13), none⟩] [5, 6]) (c44x12)
def c44x14 : AC := .seq (.reg [
  ⟨(some 8), .mv (.t 0), none⟩,
  ⟨(some 9), .build [(.slice none 0 0)] [(0, 1, (.t 8))], none⟩,
  ⟨(some 10), .new 1 (.t 9), none⟩,
  ⟨(some 5), .mv (.t 10), none⟩] [1, 5]) (c44x13)
def c44 : AC := .seq (.reg [
  ⟨(some 4), .mv (.k (.slice none 0 0)), none⟩] [0, 1]) (c44x14)
def v56 : List (Nat × List Nat) := [(0, [0, 1]), (1, [0, 1, 15]), (2, [4]), (3, [0, 1, 5]), (4, [1, 5]), (5, [4])]
def r56 : List AR := [.t 4]
def c56x0 : AC := .seq (.reg [
  ⟨(some 30), .mv (.t 5), none⟩,
  ⟨(some 31), .mv (.t 1), none⟩,
  ⟨(some 32), .call 29 [(.t 30), (.t 31)], none⟩,
  ⟨(some 4), .mv (.t 32), none⟩] [4]) (.ret)
def c56x1 : AC := .seq (.reg [
  ⟨(some 22), .mv (.t 0), none⟩,
  ⟨(some 23), .mv (.t 0), none⟩,
  ⟨(some 24), .nilc (.t 23), none⟩,
  ⟨(some 25), .fad 0 (.t 24), none⟩,
  ⟨(some 26), .ld none (.t 25), none⟩,
  ⟨(some 27), .slc 1 (.t 26) (some (.k (.int .i64 1))) none, none⟩,
  ⟨(some 28), .nilc (.t 22), none⟩,
  ⟨(some 29), .fad 0 (.t 28), none⟩,
  ⟨none, .st 1 (.t 29) (.t 27), none⟩] [1, 5]) (c56x0)
def c56x2 : AC := .seq (.reg [
  ⟨(some 16), .mv (.t 0), none⟩,
  ⟨(some 17), .nilc (.t 16), none⟩,
  ⟨(some 18), .fad 0 (.t 17), none⟩,
  ⟨(some 19), .ld none (.t 18), none⟩,
  ⟨(some 20), .idx 1 none (.t 19) (.k (.int .i64 0)), none⟩,
  ⟨(some 21), .ld none (.t 20), none⟩,
  ⟨(some 5), .mv (.t 21), none⟩] [0, 1, 5]) (c56x1)
def c56x3 : AC := .seq (.reg [
  ⟨(some 4), .mv (.k (.int .i64 0)), none⟩] [4]) (.ret)
def c56x4 : AC := .cond (.t 15) (c56x3) (.skip)
def c56x5 : AC := .seq (.reg [
  ⟨(some 6), .mv (.t 1), none⟩,
  ⟨(some 7), .bin .lss (.t 6) (.k (.int .i64 1)), none⟩,
  ⟨(some 8), .mv (.t 7), none⟩,
  ⟨(some 9), .mv (.t 0), (some (8, false))⟩,
  ⟨(some 10), .nilc (.t 9), (some (8, false))⟩,
  ⟨(some 11), .fad 0 (.t 10), (some (8, false))⟩,
  ⟨(some 12), .ld none (.t 11), (some (8, false))⟩,
  ⟨(some 13), .len (.t 12), (some (8, false))⟩,
  ⟨(some 14), .bin .eql (.t 13) (.k (.int .i64 0)), (some (8, false))⟩,
  ⟨(some 15), .pick (.t 8) (.k (.bool true)) (.t 14), none⟩] [0, 1, 15]) (c56x4)
def c56x6 : AC := .seq (c56x5) (c56x2)
def c56 : AC := .seq (.reg [
  ⟨(some 4), .mv (.k (.int .i64 0)), none⟩] [0, 1]) (c56x6)
end Go.Proofs.Ytjmmompbmjhkpaa.Code

namespace Go.Proofs.Ytjmmompbmjhkpaa.Code
open Go Go.Proofs.Ytjmmompbmjhkpaa.Calc
set_option maxRecDepth 100000
def v68 : List (Nat × List Nat) := [(0, [0]), (1, [3]), (2, [3, 4]), (3, [2]), (4, [3, 6]), (5, [3, 6]), (6, [3, 6]), (7, [2]), (8, [3, 10]), (9, [3, 10]), (10, [3, 10]), (11, [3, 10]), (12, [10]), (13, [2]), (14, [2])]
def r68 : List AR := [.t 2]
def c68x0 : AC := .seq (.reg [
  ⟨(some 2), .mv (.k (.int .i64 (-1))), none⟩] [2]) (.ret)
def c68x1 : AC := .seq (.reg [
  ⟨(some 2), .mv (.k (.int .i64 0)), none⟩] [2]) (.ret)
def c68x2 : AC := .seq (.reg [
  ⟨(some 2), .mv (.k (.int .i64 2)), none⟩] [2]) (.ret)
def c68x3 : AC := .seq (.reg [
  ⟨(some 2), .mv (.k (.int .i64 1)), none⟩] [2]) (.ret)
def c68x4 : AC := .cond (.t 10) (c68x3) (.skip)
def c68x5 : AC := .reg [
  ⟨(some 15), .bin .eql (.t 3) (.k (.int .i64 8)), none⟩,
  ⟨(some 10), .mv (.t 15), none⟩] [10]
def c68x6 : AC := .cond (.t 10) (.skip) (c68x5)
def c68x7 : AC := .seq (.reg [
  ⟨(some 14), .bin .eql (.t 3) (.k (.int .i64 7)), none⟩,
  ⟨(some 10), .mv (.t 14), none⟩] [3, 10]) (c68x6)
def c68x8 : AC := .cond (.t 10) (.skip) (c68x7)
def c68x9 : AC := .seq (.reg [
  ⟨(some 13), .bin .eql (.t 3) (.k (.int .i64 3)), none⟩,
  ⟨(some 10), .mv (.t 13), none⟩] [3, 10]) (c68x8)
def c68x10 : AC := .cond (.t 10) (.skip) (c68x9)
def c68x11 : AC := .seq (.reg [
  ⟨(some 12), .bin .eql (.t 3) (.k (.int .i64 2)), none⟩,
  ⟨(some 10), .mv (.t 12), none⟩] [3, 10]) (c68x10)
def c68x12 : AC := .cond (.t 10) (.skip) (c68x11)
def c68x13 : AC := .seq (.reg [
  ⟨(some 11), .bin .eql (.t 3) (.k (.int .i64 1)), none⟩,
  ⟨(some 10), .mv (.t 11), none⟩] [3, 10]) (c68x12)
def c68x14 : AC := .seq (c68x13) (c68x4)
def c68x15 : AC := .cond (.t 6) (c68x2) (c68x14)
def c68x16 : AC := .reg [
  ⟨(some 9), .bin .eql (.t 3) (.k (.int .i64 6)), none⟩,
  ⟨(some 6), .mv (.t 9), none⟩] [3, 6]
def c68x17 : AC := .cond (.t 6) (.skip) (c68x16)
def c68x18 : AC := .seq (.reg [
  ⟨(some 8), .bin .eql (.t 3) (.k (.int .i64 5)), none⟩,
  ⟨(some 6), .mv (.t 8), none⟩] [3, 6]) (c68x17)
def c68x19 : AC := .cond (.t 6) (.skip) (c68x18)
def c68x20 : AC := .seq (.reg [
  ⟨(some 7), .bin .eql (.t 3) (.k (.int .i64 4)), none⟩,
  ⟨(some 6), .mv (.t 7), none⟩] [3, 6]) (c68x19)
def c68x21 : AC := .seq (c68x20) (c68x15)
def c68x22 : AC := .cond (.t 4) (c68x1) (c68x21)
def c68x23 : AC := .seq (.reg [
  ⟨(some 5), .bin .eql (.t 3) (.k (.int .i64 0)), none⟩,
  ⟨(some 4), .mv (.t 5), none⟩] [3, 4]) (c68x22)
def c68x24 : AC := .block 0 (c68x23)
def c68x25 : AC := .seq (.reg [
  ⟨(some 3), .mv (.t 0), none⟩] [3]) (c68x24)
def c68x26 : AC := .seq (c68x25) (c68x0)
def c68 : AC := .seq (.reg [
  ⟨(some 2), .mv (.k (.int .i64 0)), none⟩] [0]) (c68x26)
def v104 : List (Nat × List Nat) := [(0, [0]), (1, [2])]
def r104 : List AR := [.t 2]
def c104x0 : AC := .seq (.reg [
  ⟨(some 3), .mv (.t 0), none⟩,
  ⟨(some 4), .bin .eql (.t 3) (.k (.int .i64 7)), none⟩,
  ⟨(some 5), .mv (.t 4), none⟩,
  ⟨(some 6), .mv (.t 0), (some (5, false))⟩,
  ⟨(some 7), .bin .eql (.t 6) (.k (.int .i64 8)), (some (5, false))⟩,
  ⟨(some 8), .pick (.t 5) (.k (.bool true)) (.t 7), none⟩,
  ⟨(some 2), .mv (.t 8), none⟩] [2]) (.ret)
def c104 : AC := .seq (.reg [
  ⟨(some 2), .mv (.k (.bool false)), none⟩] [0]) (c104x0)
def v113 : List (Nat × List Nat) := [(0, [0]), (1, [0, 21]), (2, [2]), (3, [23, 24, 25]), (4, [23, 24, 25, 26]), (5, [4, 23, 24, 25]), (6, [23, 24, 25, 47]), (7, [2]), (8, [23, 24, 25]), (9, [2])]
def r113 : List AR := [.t 2]
def c113x0 : AC := .seq (.reg [
  ⟨(some 2), .mv (.k (.bool true)), none⟩] [2]) (.ret)
def c113x1 : AC := .reg [
  ⟨(some 48), .bin .add (.t 25) (.k (.int .i64 1)), none⟩,
  ⟨(some 25), .mv (.t 48), none⟩] [23, 24, 25]
def c113x2 : AC := .seq (.reg [
  ⟨(some 2), .mv (.k (.bool false)), none⟩] [2]) (.ret)
def c113x3 : AC := .cond (.t 47) (c113x2) (.skip)
def c113x4 : AC := .seq (.reg [
  ⟨(some 29), .mv (.t 4), none⟩,
  ⟨(some 30), .bin .geq (.t 29) (.k (.int .u8 97)), none⟩,
  ⟨(some 31), .mv (.t 30), none⟩,
  ⟨(some 32), .mv (.t 4), (some (31, true))⟩,
  ⟨(some 33), .bin .leq (.t 32) (.k (.int .u8 122)), (some (31, true))⟩,
  ⟨(some 34), .pick (.t 31) (.t 33) (.k (.bool false)), none⟩,
  ⟨(some 35), .mv (.t 34), none⟩,
  ⟨(some 36), .mv (.t 4), (some (35, false))⟩,
  ⟨(some 37), .bin .geq (.t 36) (.k (.int .u8 48)), (some (35, false))⟩,
  ⟨(some 38), .mv (.t 37), (some (35, false))⟩,
  ⟨(some 39), .mv (.t 4), (some (38, true))⟩,
  ⟨(some 40), .bin .leq (.t 39) (.k (.int .u8 57)), (some (38, true))⟩,
  ⟨(some 41), .pick (.t 38) (.t 40) (.k (.bool false)), (some (35, false))⟩,
  ⟨(some 42), .pick (.t 35) (.k (.bool true)) (.t 41), none⟩,
  ⟨(some 43), .mv (.t 42), none⟩,
  ⟨(some 44), .mv (.t 4), (some (43, false))⟩,
  ⟨(some 45), .bin .eql (.t 44) (.k (.int .u8 45)), (some (43, false))⟩,
  ⟨(some 46), .pick (.t 43) (.k (.bool true)) (.t 45), none⟩,
  ⟨(some 47), .not (.t 46), none⟩] [23, 24, 25, 47]) (c113x3)
def c113x5 : AC := .seq (.reg [
  ⟨(some 27), .idx 1 none (.t 23) (.t 25), none⟩,
  ⟨(some 28), .ld none (.t 27), none⟩,
  ⟨(some 4), .mv (.t 28), none⟩] [4, 23, 24, 25]) (c113x4)
def c113x6 : AC := .block 1 (c113x5)
def c113x7 : AC := .seq (c113x6) (c113x1)
def c113x8 : AC := .cond (.t 26) (.skip) (.exit 0)
def c113x9 : AC := .seq (c113x8) (c113x7)
def c113x10 : AC := .seq (.reg [
  ⟨(some 26), .bin .lss (.t 25) (.t 24), none⟩] [23, 24, 25, 26]) (c113x9)
def c113x11 : AC := .loop (c113x10)
def c113x12 : AC := .block 0 (c113x11)
def c113x13 : AC := .seq (.reg [
  ⟨(some 22), .mv (.t 0), none⟩,
  ⟨(some 23), .s2b (.t 22), none⟩,
  ⟨(some 24), .len (.t 23), none⟩,
  ⟨(some 25), .mv (.k (.int .i64 0)), none⟩] [23, 24, 25]) (c113x12)
def c113x14 : AC := .seq (c113x13) (c113x0)
def c113x15 : AC := .seq (.reg [
  ⟨(some 2), .mv (.k (.bool false)), none⟩] [2]) (.ret)
def c113x16 : AC := .cond (.t 21) (c113x15) (.skip)
def c113x17 : AC := .seq (.reg [
  ⟨(some 5), .mv (.t 0), none⟩,
  ⟨(some 6), .bin .eql (.t 5) (.k (.string ⟨#[]⟩)), none⟩,
  ⟨(some 7), .mv (.t 6), none⟩,
  ⟨(some 8), .mv (.t 0), (some (7, false))⟩,
  ⟨(some 9), .lens (.t 8), (some (7, false))⟩,
  ⟨(some 10), .bin .gtr (.t 9) (.k (.int .i64 20)), (some (7, false))⟩,
  ⟨(some 11), .pick (.t 7) (.k (.bool true)) (.t 10), none⟩,
  ⟨(some 12), .mv (.t 11), none⟩,
  ⟨(some 13), .mv (.t 0), (some (12, false))⟩,
  ⟨(some 14), .ixs (.t 13) (.k (.int .i64 0)), (some (12, false))⟩,
  ⟨(some 15), .bin .lss (.t 14) (.k (.int .u8 97)), (some (12, false))⟩,
  ⟨(some 16), .pick (.t 12) (.k (.bool true)) (.t 15), none⟩,
  ⟨(some 17), .mv (.t 16), none⟩,
  ⟨(some 18), .mv (.t 0), (some (17, false))⟩,
  ⟨(some 19), .ixs (.t 18) (.k (.int .i64 0)), (some (17, false))⟩,
  ⟨(some 20), .bin .gtr (.t 19) (.k (.int .u8 122)), (some (17, false))⟩,
  ⟨(some 21), .pick (.t 17) (.k (.bool true)) (.t 20), none⟩] [0, 21]) (c113x16)
def c113x18 : AC := .seq (c113x17) (c113x14)
def c113 : AC := .seq (.reg [
  ⟨(some 2), .mv (.k (.bool false)), none⟩] [0]) (c113x18)
theorem k113 : Try.f113.body.bind (compC Try.prog Try.f113.ntmps v113) = some c113 := by kernel_rfl
theorem e113 : enters Try.prog 113 = true := by kernel_rfl
theorem q113 : Try.f113.results.toList.mapM (compRes Try.prog) = some r113 := by kernel_rfl
def v115 : List (Nat × List Nat) := [(0, [0]), (1, [0, 8]), (2, [2]), (3, [9, 10, 11]), (4, [9, 10, 11, 12]), (5, [4, 9, 10, 11]), (6, [5, 9, 10, 11]), (7, [5, 9, 10, 11, 18]), (8, [2]), (9, [9, 10, 11]), (10, [2])]
def r115 : List AR := [.t 2]
def c115x0 : AC := .seq (.reg [
  ⟨(some 2), .mv (.k (.int .i64 0)), none⟩] [2]) (.ret)
def c115x1 : AC := .reg [
  ⟨(some 20), .bin .add (.t 11) (.k (.int .i64 1)), none⟩,
  ⟨(some 11), .mv (.t 20), none⟩] [9, 10, 11]
def c115x2 : AC := .seq (.reg [
  ⟨(some 19), .mv (.t 5), none⟩,
  ⟨(some 2), .mv (.t 19), none⟩] [2]) (.ret)
def c115x3 : AC := .cond (.t 18) (c115x2) (.skip)
def c115x4 : AC := .seq (.reg [
  ⟨(some 17), .mv (.t 5), none⟩,
  ⟨(some 18), .bin .neq (.t 17) (.k (.int .i64 0)), none⟩] [5, 9, 10, 11, 18]) (c115x3)
def c115x5 : AC := .seq (.reg [
  ⟨(some 15), .ld (some 4) (.t 4), none⟩,
  ⟨(some 16), .call 164 [(.t 15)], none⟩,
  ⟨(some 5), .mv (.t 16), none⟩] [5, 9, 10, 11]) (c115x4)
def c115x6 : AC := .seq (.reg [
  ⟨(some 13), .idx 4 none (.t 9) (.t 11), none⟩,
  ⟨(some 14), .ld (some 4) (.t 13), none⟩,
  ⟨(some 4), .zero [(.int .i64 0), (.int .i64 0), (.int .i64 0), (.slice none 0 0)], none⟩,
  ⟨none, .st 4 (.t 4) (.t 14), none⟩] [4, 9, 10, 11]) (c115x5)
def c115x7 : AC := .block 1 (c115x6)
def c115x8 : AC := .seq (c115x7) (c115x1)
def c115x9 : AC := .cond (.t 12) (.skip) (.exit 0)
def c115x10 : AC := .seq (c115x9) (c115x8)
def c115x11 : AC := .seq (.reg [
  ⟨(some 12), .bin .lss (.t 11) (.t 10), none⟩] [9, 10, 11, 12]) (c115x10)
def c115x12 : AC := .loop (c115x11)
def c115x13 : AC := .block 0 (c115x12)
def c115x14 : AC := .seq (.reg [
  ⟨(some 9), .mv (.t 0), none⟩,
  ⟨(some 10), .len (.t 9), none⟩,
  ⟨(some 11), .mv (.k (.int .i64 0)), none⟩] [9, 10, 11]) (c115x13)
def c115x15 : AC := .seq (c115x14) (c115x0)
def c115x16 : AC := .seq (.reg [
  ⟨(some 2), .mv (.k (.int .i64 2)), none⟩] [2]) (.ret)
def c115x17 : AC := .cond (.t 8) (c115x16) (.skip)
def c115x18 : AC := .seq (.reg [
  ⟨(some 6), .mv (.t 0), none⟩,
  ⟨(some 7), .len (.t 6), none⟩,
  ⟨(some 8), .bin .gtr (.t 7) (.k (.int .i64 8)), none⟩] [0, 8]) (c115x17)
def c115x19 : AC := .seq (c115x18) (c115x15)
def c115 : AC := .seq (.reg [
  ⟨(some 2), .mv (.k (.int .i64 0)), none⟩] [0]) (c115x19)
def v116 : List (Nat × List Nat) := [(0, [0]), (1, [0, 3]), (2, [3, 6, 7, 8]), (3, [3, 6, 7, 8, 9]), (4, [3, 5, 6, 7, 8]), (5, [3, 6, 7, 8, 19]), (6, [3, 6, 7, 8]), (7, [3, 6, 7, 8]), (8, [2])]
def r116 : List AR := [.t 2]
def c116x0 : AC := .seq (.reg [
  ⟨(some 23), .mv (.t 3), none⟩,
  ⟨(some 2), .mv (.t 23), none⟩] [2]) (.ret)
def c116x1 : AC := .reg [
  ⟨(some 22), .bin .add (.t 8) (.k (.int .i64 1)), none⟩,
  ⟨(some 8), .mv (.t 22), none⟩] [3, 6, 7, 8]
def c116x2 : AC := .reg [
  ⟨(some 20), .mv (.t 3), none⟩,
  ⟨(some 21), .bin .add (.t 20) (.k (.int .i64 1)), none⟩,
  ⟨(some 3), .mv (.t 21), none⟩] [3, 6, 7, 8]
def c116x3 : AC := .cond (.t 19) (c116x2) (.skip)
def c116x4 : AC := .seq (.reg [
  ⟨(some 12), .fad 0 (.t 5), none⟩,
  ⟨(some 13), .ld none (.t 12), none⟩,
  ⟨(some 14), .bin .eql (.t 13) (.k (.int .i64 1)), none⟩,
  ⟨(some 15), .mv (.t 14), none⟩,
  ⟨(some 16), .fad 1 (.t 5), (some (15, true))⟩,
  ⟨(some 17), .ld none (.t 16), (some (15, true))⟩,
  ⟨(some 18), .bin .eql (.t 17) (.k (.int .i64 0)), (some (15, true))⟩,
  ⟨(some 19), .pick (.t 15) (.t 18) (.k (.bool false)), none⟩] [3, 6, 7, 8, 19]) (c116x3)
def c116x5 : AC := .seq (.reg [
  ⟨(some 10), .idx 4 none (.t 6) (.t 8), none⟩,
  ⟨(some 11), .ld (some 4) (.t 10), none⟩,
  ⟨(some 5), .zero [(.int .i64 0), (.int .i64 0), (.int .i64 0), (.slice none 0 0)], none⟩,
  ⟨none, .st 4 (.t 5) (.t 11), none⟩] [3, 5, 6, 7, 8]) (c116x4)
def c116x6 : AC := .block 1 (c116x5)
def c116x7 : AC := .seq (c116x6) (c116x1)
def c116x8 : AC := .cond (.t 9) (.skip) (.exit 0)
def c116x9 : AC := .seq (c116x8) (c116x7)
def c116x10 : AC := .seq (.reg [
  ⟨(some 9), .bin .lss (.t 8) (.t 7), none⟩] [3, 6, 7, 8, 9]) (c116x9)
def c116x11 : AC := .loop (c116x10)
def c116x12 : AC := .block 0 (c116x11)
def c116x13 : AC := .seq (.reg [
  ⟨(some 6), .mv (.t 0), none⟩,
  ⟨(some 7), .len (.t 6), none⟩,
  ⟨(some 8), .mv (.k (.int .i64 0)), none⟩] [3, 6, 7, 8]) (c116x12)
def c116x14 : AC := .seq (c116x13) (c116x0)
def c116x15 : AC := .seq (.reg [
  ⟨(some 3), .mv (.k (.int .i64 0)), none⟩] [0, 3]) (c116x14)
def c116 : AC := .seq (.reg [
  ⟨(some 2), .mv (.k (.int .i64 0)), none⟩] [0]) (c116x15)
def v164 : List (Nat × List Nat) := [(0, [1]), (1, [1, 6]), (2, [2]), (3, [1, 15]), (4, [2]), (5, [1, 29]), (6, [2]), (7, [1, 49]), (8, [2]), (9, [55, 56, 57]), (10, [55, 56, 57, 58]), (11, [4, 55, 56, 57]), (12, [5, 55, 56, 57]), (13, [5, 55, 56, 57, 64]), (14, [2]), (15, [55, 56, 57]), (16, [2])]
def r164 : List AR := [.t 2]
def c164x0 : AC := .seq (.reg [
  ⟨(some 2), .mv (.k (.int .i64 0)), none⟩] [2]) (.ret)
def c164x1 : AC := .reg [
  ⟨(some 66), .bin .add (.t 57) (.k (.int .i64 1)), none⟩,
  ⟨(some 57), .mv (.t 66), none⟩] [55, 56, 57]
def c164x2 : AC := .seq (.reg [
  ⟨(some 65), .mv (.t 5), none⟩,
  ⟨(some 2), .mv (.t 65), none⟩] [2]) (.ret)
def c164x3 : AC := .cond (.t 64) (c164x2) (.skip)
def c164x4 : AC := .seq (.reg [
  ⟨(some 63), .mv (.t 5), none⟩,
  ⟨(some 64), .bin .neq (.t 63) (.k (.int .i64 0)), none⟩] [5, 55, 56, 57, 64]) (c164x3)
def c164x5 : AC := .seq (.reg [
  ⟨(some 61), .ld (some 4) (.t 4), none⟩,
  ⟨(some 62), .call 189 [(.t 61)], none⟩,
  ⟨(some 5), .mv (.t 62), none⟩] [5, 55, 56, 57]) (c164x4)
def c164x6 : AC := .seq (.reg [
  ⟨(some 59), .idx 4 none (.t 55) (.t 57), none⟩,
  ⟨(some 60), .ld (some 4) (.t 59), none⟩,
  ⟨(some 4), .zero [(.int .i64 0), (.int .i64 0), (.int .i64 0), (.int .i64 0)], none⟩,
  ⟨none, .st 4 (.t 4) (.t 60), none⟩] [4, 55, 56, 57]) (c164x5)
def c164x7 : AC := .block 2 (c164x6)
def c164x8 : AC := .seq (c164x7) (c164x1)
def c164x9 : AC := .cond (.t 58) (.skip) (.exit 1)
def c164x10 : AC := .seq (c164x9) (c164x8)
def c164x11 : AC := .seq (.reg [
  ⟨(some 58), .bin .lss (.t 57) (.t 56), none⟩] [55, 56, 57, 58]) (c164x10)
def c164x12 : AC := .loop (c164x11)
def c164x13 : AC := .block 1 (c164x12)
def c164x14 : AC := .seq (.reg [
  ⟨(some 54), .fad 3 (.t 1), none⟩,
  ⟨(some 55), .ld none (.t 54), none⟩,
  ⟨(some 56), .len (.t 55), none⟩,
  ⟨(some 57), .mv (.k (.int .i64 0)), none⟩] [55, 56, 57]) (c164x13)
def c164x15 : AC := .seq (c164x14) (c164x0)
def c164x16 : AC := .seq (.reg [
  ⟨(some 2), .mv (.k (.int .i64 8)), none⟩] [2]) (.ret)
def c164x17 : AC := .seq (.reg [
  ⟨(some 2), .mv (.k (.int .i64 3)), none⟩] [2]) (.ret)
def c164x18 : AC := .seq (.reg [
  ⟨(some 2), .mv (.k (.int .i64 1)), none⟩] [2]) (.ret)
def c164x19 : AC := .seq (.reg [
  ⟨(some 2), .mv (.k (.int .i64 2)), none⟩] [2]) (.ret)
def c164x20 : AC := .cond (.t 49) (c164x19) (.skip)
def c164x21 : AC := .seq (.reg [
  ⟨(some 50), .fad 3 (.t 1), none⟩,
  ⟨(some 51), .ld none (.t 50), none⟩,
  ⟨(some 52), .len (.t 51), none⟩,
  ⟨(some 53), .bin .gtr (.t 52) (.k (.int .i64 6)), none⟩,
  ⟨(some 49), .mv (.t 53), none⟩] [1, 49]) (c164x20)
def c164x22 : AC := .cond (.t 29) (c164x18) (c164x21)
def c164x23 : AC := .seq (.reg [
  ⟨(some 30), .fad 1 (.t 1), none⟩,
  ⟨(some 31), .ld none (.t 30), none⟩,
  ⟨(some 32), .bin .lss (.t 31) (.k (.int .i64 0)), none⟩,
  ⟨(some 33), .mv (.t 32), none⟩,
  ⟨(some 34), .fad 1 (.t 1), (some (33, false))⟩,
  ⟨(some 35), .ld none (.t 34), (some (33, false))⟩,
  ⟨(some 36), .bin .geq (.t 35) (.k (.int .i64 12)), (some (33, false))⟩,
  ⟨(some 37), .pick (.t 33) (.k (.bool true)) (.t 36), none⟩,
  ⟨(some 38), .mv (.t 37), none⟩,
  ⟨(some 39), .fad 2 (.t 1), (some (38, false))⟩,
  ⟨(some 40), .ld none (.t 39), (some (38, false))⟩,
  ⟨(some 41), .call 188 [(.t 40)], (some (38, false))⟩,
  ⟨(some 42), .not (.t 41), (some (38, false))⟩,
  ⟨(some 43), .pick (.t 38) (.k (.bool true)) (.t 42), none⟩,
  ⟨(some 44), .mv (.t 43), none⟩,
  ⟨(some 45), .fad 2 (.t 1), (some (44, false))⟩,
  ⟨(some 46), .ld none (.t 45), (some (44, false))⟩,
  ⟨(some 47), .call 104 [(.t 46)], (some (44, false))⟩,
  ⟨(some 48), .pick (.t 44) (.k (.bool true)) (.t 47), none⟩,
  ⟨(some 29), .mv (.t 48), none⟩] [1, 29]) (c164x22)
def c164x24 : AC := .cond (.t 15) (c164x17) (c164x23)
def c164x25 : AC := .seq (.reg [
  ⟨(some 16), .fad 0 (.t 1), none⟩,
  ⟨(some 17), .ld none (.t 16), none⟩,
  ⟨(some 18), .bin .eql (.t 17) (.k (.int .i64 0)), none⟩,
  ⟨(some 19), .mv (.t 18), none⟩,
  ⟨(some 20), .fad 1 (.t 1), (some (19, true))⟩,
  ⟨(some 21), .ld none (.t 20), (some (19, true))⟩,
  ⟨(some 22), .bin .neq (.t 21) (.k (.int .i64 0)), (some (19, true))⟩,
  ⟨(some 23), .mv (.t 22), (some (19, true))⟩,
  ⟨(some 24), .fad 2 (.t 1), (some (23, false))⟩,
  ⟨(some 25), .ld none (.t 24), (some (23, false))⟩,
  ⟨(some 26), .bin .neq (.t 25) (.k (.int .i64 0)), (some (23, false))⟩,
  ⟨(some 27), .pick (.t 23) (.k (.bool true)) (.t 26), (some (19, true))⟩,
  ⟨(some 28), .pick (.t 19) (.t 27) (.k (.bool false)), none⟩,
  ⟨(some 15), .mv (.t 28), none⟩] [1, 15]) (c164x24)
def c164x26 : AC := .cond (.t 6) (c164x16) (c164x25)
def c164x27 : AC := .seq (.reg [
  ⟨(some 7), .fad 0 (.t 1), none⟩,
  ⟨(some 8), .ld none (.t 7), none⟩,
  ⟨(some 9), .bin .lss (.t 8) (.k (.int .i64 0)), none⟩,
  ⟨(some 10), .mv (.t 9), none⟩,
  ⟨(some 11), .fad 0 (.t 1), (some (10, false))⟩,
  ⟨(some 12), .ld none (.t 11), (some (10, false))⟩,
  ⟨(some 13), .bin .gtr (.t 12) (.k (.int .i64 2)), (some (10, false))⟩,
  ⟨(some 14), .pick (.t 10) (.k (.bool true)) (.t 13), none⟩,
  ⟨(some 6), .mv (.t 14), none⟩] [1, 6]) (c164x26)
def c164x28 : AC := .block 0 (c164x27)
def c164x29 : AC := .seq (c164x28) (c164x15)
def c164 : AC := .seq (.reg [
  ⟨(some 1), .new 4 (.t 0), none⟩,
  ⟨(some 2), .mv (.k (.int .i64 0)), none⟩] [1]) (c164x29)
def v188 : List (Nat × List Nat) := [(0, [0]), (1, [2])]
def r188 : List AR := [.t 2]
def c188x0 : AC := .seq (.reg [
  ⟨(some 3), .mv (.t 0), none⟩,
  ⟨(some 4), .bin .geq (.t 3) (.k (.int .i64 0)), none⟩,
  ⟨(some 5), .mv (.t 4), none⟩,
  ⟨(some 6), .mv (.t 0), (some (5, true))⟩,
  ⟨(some 7), .bin .lss (.t 6) (.k (.int .i64 9)), (some (5, true))⟩,
  ⟨(some 8), .pick (.t 5) (.t 7) (.k (.bool false)), none⟩,
  ⟨(some 2), .mv (.t 8), none⟩] [2]) (.ret)
def c188 : AC := .seq (.reg [
  ⟨(some 2), .mv (.k (.bool false)), none⟩] [0]) (c188x0)
def v189 : List (Nat × List Nat) := [(0, [1]), (1, [1, 14]), (2, [2]), (3, [1, 17]), (4, [40]), (5, [2]), (6, [2]), (7, [1, 3, 4, 5]), (8, [1, 3, 4, 5, 6]), (9, [1, 3, 4, 5, 6, 60]), (10, [1, 3, 4, 5, 6]), (11, [1, 3, 4, 6, 62]), (12, [1, 3, 4, 6]), (13, [98]), (14, [2]), (15, [2])]
def r189 : List AR := [.t 2]
def c189x0 : AC := .seq (.reg [
  ⟨(some 2), .mv (.k (.int .i64 0)), none⟩] [2]) (.ret)
def c189x1 : AC := .seq (.reg [
  ⟨(some 2), .mv (.k (.int .i64 1)), none⟩] [2]) (.ret)
def c189x2 : AC := .cond (.t 98) (c189x1) (.skip)
def c189x3 : AC := .seq (.dreg [
  ⟨(some 63), .fad 1 (.t 1), none⟩,
  ⟨(some 64), .ld none (.t 63), none⟩,
  ⟨(some 65), .mv (.t 3), none⟩,
  ⟨(some 66), .call 196 [(.t 64), (.t 65)], none⟩,
  ⟨(some 67), .not (.t 66), none⟩,
  ⟨(some 68), .mv (.t 67), none⟩,
  ⟨(some 69), .fad 2 (.t 1), (some (68, false))⟩,
  ⟨(some 70), .ld none (.t 69), (some (68, false))⟩,
  ⟨(some 71), .mv (.t 4), (some (68, false))⟩,
  ⟨(some 72), .call 196 [(.t 70), (.t 71)], (some (68, false))⟩,
  ⟨(some 73), .not (.t 72), (some (68, false))⟩,
  ⟨(some 74), .pick (.t 68) (.k (.bool true)) (.t 73), none⟩,
  ⟨(some 75), .mv (.t 74), none⟩,
  ⟨(some 76), .mv (.t 3), (some (75, false))⟩,
  ⟨(some 77), .bin .eql (.t 76) (.k (.int .u8 115)), (some (75, false))⟩,
  ⟨(some 78), .mv (.t 77), (some (75, false))⟩,
  ⟨(some 79), .fad 1 (.t 1), (some (78, true))⟩,
  ⟨(some 80), .ld none (.t 79), (some (78, true))⟩,
  ⟨(some 81), .call 104 [(.t 80)], (some (78, true))⟩,
  ⟨(some 82), .fad 2 (.t 1), (some (78, true))⟩,
  ⟨(some 83), .ld none (.t 82), (some (78, true))⟩,
  ⟨(some 84), .call 104 [(.t 83)], (some (78, true))⟩,
  ⟨(some 85), .eqb true (.t 81) (.t 84), (some (78, true))⟩,
  ⟨(some 86), .pick (.t 78) (.t 85) (.k (.bool false)), (some (75, false))⟩,
  ⟨(some 87), .pick (.t 75) (.k (.bool true)) (.t 86), none⟩,
  ⟨(some 88), .mv (.t 87), none⟩,
  ⟨(some 89), .fad 3 (.t 1), (some (88, false))⟩,
  ⟨(some 90), .ld none (.t 89), (some (88, false))⟩,
  ⟨(some 91), .bin .lss (.t 90) (.k (.int .i64 0)), (some (88, false))⟩,
  ⟨(some 92), .pick (.t 88) (.k (.bool true)) (.t 91), none⟩,
  ⟨(some 93), .mv (.t 92), none⟩,
  ⟨(some 94), .fad 3 (.t 1), (some (93, false))⟩,
  ⟨(some 95), .ld none (.t 94), (some (93, false))⟩,
  ⟨(some 96), .mv (.t 6), (some (93, false))⟩,
  ⟨(some 97), .bin .gtr (.t 95) (.t 96), (some (93, false))⟩,
  ⟨(some 98), .pick (.t 93) (.k (.bool true)) (.t 97), none⟩] [[], [0], [], [0, 1, 2], [0, 1, 2, 3], [0, 1, 2, 3, 4], [0, 1, 2, 3, 4, 5], [0, 1, 2, 3, 4, 5, 6], [0, 1, 2, 3, 4, 5], [0, 1, 2, 3, 4, 5, 6, 7, 8], [0, 1, 2, 3, 4, 5, 6, 7, 8, 9], [0, 1, 2, 3, 4, 5, 6, 7, 8, 9, 10], [0, 1, 2, 3, 4, 5, 6, 7, 8, 9, 10, 11], [0, 1, 2, 3, 4, 5, 6, 7, 8, 9, 10, 11, 12], [0, 1, 2, 3, 4, 5, 6, 7, 8, 9, 10, 11, 12, 13], [0, 1, 2, 3, 4, 5, 6, 7, 8, 9, 10, 11, 12, 13, 14], [0, 1, 2, 3, 4, 5, 6, 7, 8, 9, 10, 11, 12, 13, 14, 15], [0, 1, 2, 3, 4, 5, 6, 7, 8, 9, 10, 11, 12, 13, 14, 15, 16], [0, 1, 2, 3, 4, 5, 6, 7, 8, 9, 10, 11, 12, 13, 14, 15, 16, 17], [0, 1, 2, 3, 4, 5, 6, 7, 8, 9, 10, 11, 12, 13, 14, 15], [0, 1, 2, 3, 4, 5, 6, 7, 8, 9, 10, 11, 12, 13, 14, 15, 19], [0, 1, 2, 3, 4, 5, 6, 7, 8, 9, 10, 11, 12, 13, 14, 15, 16, 17, 18, 19, 20], [0, 1, 2, 3, 4, 5, 6, 7, 8, 9, 10, 11, 12, 13, 14, 15, 16, 17, 18, 19, 20, 21], [0, 1, 2, 3, 4, 5, 6, 7, 8, 9, 10, 11, 12, 13, 14, 15, 16, 17, 18, 19, 20, 21, 22], [0, 1, 2, 3, 4, 5, 6, 7, 8, 9, 10, 11, 12, 13, 14, 15, 16, 17, 18, 19, 20, 21, 22, 23], [0, 1, 2, 3, 4, 5, 6, 7, 8, 9, 10, 11, 12, 13, 14, 15, 16, 17, 18, 19, 20, 21, 22, 23, 24], [0, 1, 2, 3, 4, 5, 6, 7, 8, 9, 10, 11, 12, 13, 14, 15, 16, 17, 18, 19, 20, 21, 22, 23, 24, 25], [0, 1, 2, 3, 4, 5, 6, 7, 8, 9, 10, 11, 12, 13, 14, 15, 16, 17, 18, 19, 20, 21, 22, 23, 24, 25, 26], [0, 1, 2, 3, 4, 5, 6, 7, 8, 9, 10, 11, 12, 13, 14, 15, 16, 17, 18, 19, 20, 21, 22, 23, 24, 25, 26, 27], [0, 1, 2, 3, 4, 5, 6, 7, 8, 9, 10, 11, 12, 13, 14, 15, 16, 17, 18, 19, 20, 21, 22, 23, 24, 25, 26, 27, 28], [0, 1, 2, 3, 4, 5, 6, 7, 8, 9, 10, 11, 12, 13, 14, 15, 16, 17, 18, 19, 20, 21, 22, 23, 24, 25, 26, 27, 28, 29], [0, 1, 2, 3, 4, 5, 6, 7, 8, 9, 10, 11, 12, 13, 14, 15, 16, 17, 18, 19, 20, 21, 22, 23, 24, 25, 26, 27, 28, 29, 30], [0, 1, 2, 3, 4, 5, 6, 7, 8, 9, 10, 11, 12, 13, 14, 15, 16, 17, 18, 19, 20, 21, 22, 23, 24, 25, 26, 27, 28, 29, 30, 31], [0, 1, 2, 3, 4, 5, 6, 7, 8, 9, 10, 11, 12, 13, 14, 15, 16, 17, 18, 19, 20, 21, 22, 23, 24, 25, 26, 27, 28, 29, 30], [0, 1, 2, 3, 4, 5, 6, 7, 8, 9, 10, 11, 12, 13, 14, 15, 16, 17, 18, 19, 20, 21, 22, 23, 24, 25, 26, 27, 28, 29, 30, 31, 32, 33], [0, 1, 2, 3, 4, 5, 6, 7, 8, 9, 10, 11, 12, 13, 14, 15, 16, 17, 18, 19, 20, 21, 22, 23, 24, 25, 26, 27, 28, 29, 30, 31, 32, 33, 34]] [98]) (c189x2)
def c189x4 : AC := .seq (c189x3) (c189x0)
def c189x5 : AC := .reg [
  ⟨(some 6), .mv (.k (.int .i64 0)), none⟩] [1, 3, 4, 6]
def c189x6 : AC := .cond (.t 62) (c189x5) (.skip)
def c189x7 : AC := .seq (.reg [
  ⟨(some 61), .mv (.t 5), none⟩,
  ⟨(some 62), .not (.t 61), none⟩] [1, 3, 4, 6, 62]) (c189x6)
def c189x8 : AC := .seq (c189x7) (c189x4)
def c189x9 : AC := .reg [
  ⟨(some 6), .mv (.k (.int .i64 65535)), none⟩] [1, 3, 4, 5, 6]
def c189x10 : AC := .cond (.t 60) (c189x9) (.skip)
def c189x11 : AC := .seq (.reg [
  ⟨(some 48), .fad 0 (.t 1), none⟩,
  ⟨(some 49), .ld none (.t 48), none⟩,
  ⟨(some 50), .bin .eql (.t 49) (.k (.int .i64 2)), none⟩,
  ⟨(some 51), .mv (.t 50), none⟩,
  ⟨(some 52), .fad 1 (.t 1), (some (51, true))⟩,
  ⟨(some 53), .ld none (.t 52), (some (51, true))⟩,
  ⟨(some 54), .call 188 [(.t 53)], (some (51, true))⟩,
  ⟨(some 55), .pick (.t 51) (.t 54) (.k (.bool false)), none⟩,
  ⟨(some 56), .mv (.t 55), none⟩,
  ⟨(some 57), .fad 1 (.t 1), (some (56, true))⟩,
  ⟨(some 58), .ld none (.t 57), (some (56, true))⟩,
  ⟨(some 59), .call 104 [(.t 58)], (some (56, true))⟩,
  ⟨(some 60), .pick (.t 56) (.t 59) (.k (.bool false)), none⟩] [1, 3, 4, 5, 6, 60]) (c189x10)
def c189x12 : AC := .seq (c189x11) (c189x8)
def c189x13 : AC := .seq (.reg [
  ⟨(some 6), .mv (.k (.int .i64 255)), none⟩] [1, 3, 4, 5, 6]) (c189x12)
def c189x14 : AC := .seq (.reg [
  ⟨(some 42), .fad 0 (.t 1), none⟩,
  ⟨(some 43), .ld none (.t 42), none⟩,
  ⟨(some 44), .call 195 [(.t 43)], none⟩,
  ⟨(some 41), .mv (.t 44), none⟩,
  ⟨(some 45), .ext (.t 41) 0, none⟩,
  ⟨(some 46), .ext (.t 41) 1, none⟩,
  ⟨(some 47), .ext (.t 41) 2, none⟩,
  ⟨(some 3), .mv (.t 45), none⟩,
  ⟨(some 4), .mv (.t 46), none⟩,
  ⟨(some 5), .mv (.t 47), none⟩] [1, 3, 4, 5]) (c189x13)
def c189x15 : AC := .seq (.reg [
  ⟨(some 2), .mv (.k (.int .i64 0)), none⟩] [2]) (.ret)
def c189x16 : AC := .seq (.reg [
  ⟨(some 2), .mv (.k (.int .i64 1)), none⟩] [2]) (.ret)
def c189x17 : AC := .cond (.t 40) (c189x16) (.skip)
def c189x18 : AC := .seq (.reg [
  ⟨(some 18), .fad 1 (.t 1), none⟩,
  ⟨(some 19), .ld none (.t 18), none⟩,
  ⟨(some 20), .bin .neq (.t 19) (.k (.int .i64 0)), none⟩,
  ⟨(some 21), .mv (.t 20), none⟩,
  ⟨(some 22), .fad 2 (.t 1), (some (21, false))⟩,
  ⟨(some 23), .ld none (.t 22), (some (21, false))⟩,
  ⟨(some 24), .bin .lss (.t 23) (.k (.int .i64 0)), (some (21, false))⟩,
  ⟨(some 25), .pick (.t 21) (.k (.bool true)) (.t 24), none⟩,
  ⟨(some 26), .mv (.t 25), none⟩,
  ⟨(some 27), .fad 2 (.t 1), (some (26, false))⟩,
  ⟨(some 28), .ld none (.t 27), (some (26, false))⟩,
  ⟨(some 29), .bin .gtr (.t 28) (.k (.int .i64 1)), (some (26, false))⟩,
  ⟨(some 30), .pick (.t 26) (.k (.bool true)) (.t 29), none⟩,
  ⟨(some 31), .mv (.t 30), none⟩,
  ⟨(some 32), .fad 3 (.t 1), (some (31, false))⟩,
  ⟨(some 33), .ld none (.t 32), (some (31, false))⟩,
  ⟨(some 34), .bin .lss (.t 33) (.k (.int .i64 0)), (some (31, false))⟩,
  ⟨(some 35), .pick (.t 31) (.k (.bool true)) (.t 34), none⟩,
  ⟨(some 36), .mv (.t 35), none⟩,
  ⟨(some 37), .fad 3 (.t 1), (some (36, false))⟩,
  ⟨(some 38), .ld none (.t 37), (some (36, false))⟩,
  ⟨(some 39), .bin .gtr (.t 38) (.k (.int .i64 255)), (some (36, false))⟩,
  ⟨(some 40), .pick (.t 36) (.k (.bool true)) (.t 39), none⟩] [40]) (c189x17)
def c189x19 : AC := .seq (c189x18) (c189x15)
def c189x20 : AC := .cond (.t 17) (c189x19) (.skip)
def c189x21 : AC := .seq (.reg [
  ⟨(some 15), .fad 0 (.t 1), none⟩,
  ⟨(some 16), .ld none (.t 15), none⟩,
  ⟨(some 17), .bin .eql (.t 16) (.k (.int .i64 24)), none⟩] [1, 17]) (c189x20)
def c189x22 : AC := .seq (c189x21) (c189x14)
def c189x23 : AC := .seq (.reg [
  ⟨(some 2), .mv (.k (.int .i64 8)), none⟩] [2]) (.ret)
def c189x24 : AC := .cond (.t 14) (c189x23) (.skip)
def c189x25 : AC := .seq (.reg [
  ⟨(some 7), .fad 0 (.t 1), none⟩,
  ⟨(some 8), .ld none (.t 7), none⟩,
  ⟨(some 9), .bin .lss (.t 8) (.k (.int .i64 0)), none⟩,
  ⟨(some 10), .mv (.t 9), none⟩,
  ⟨(some 11), .fad 0 (.t 1), (some (10, false))⟩,
  ⟨(some 12), .ld none (.t 11), (some (10, false))⟩,
  ⟨(some 13), .bin .geq (.t 12) (.k (.int .i64 25)), (some (10, false))⟩,
  ⟨(some 14), .pick (.t 10) (.k (.bool true)) (.t 13), none⟩] [1, 14]) (c189x24)
def c189x26 : AC := .seq (c189x25) (c189x22)
def c189 : AC := .seq (.reg [
  ⟨(some 1), .new 4 (.t 0), none⟩,
  ⟨(some 2), .mv (.k (.int .i64 0)), none⟩] [1]) (c189x26)
def v195 : List (Nat × List Nat) := [(0, [0]), (1, [5]), (2, [5, 6]), (3, [2, 3, 4]), (4, [5, 8]), (5, [2, 3, 4]), (6, [5, 10]), (7, [5, 10]), (8, [5, 10]), (9, [5, 10]), (10, [5, 10]), (11, [2, 3, 4]), (12, [5, 16]), (13, [5, 16]), (14, [5, 16]), (15, [5, 16]), (16, [5, 16]), (17, [5, 16]), (18, [2, 3, 4]), (19, [5, 23]), (20, [5, 23]), (21, [2, 3, 4]), (22, [5, 26]), (23, [5, 26]), (24, [2, 3, 4]), (25, [5, 29]), (26, [5, 29]), (27, [5, 29]), (28, [5, 29]), (29, [2, 3, 4]), (30, [5, 34]), (31, [34]), (32, [2, 3, 4]), (33, [2, 3, 4])]
def r195 : List AR := [.t 2, .t 3, .t 4]
def c195x0 : AC := .seq (.reg [
  ⟨(some 2), .mv (.k (.int .u8 0)), none⟩,
  ⟨(some 3), .mv (.k (.int .u8 0)), none⟩,
  ⟨(some 4), .mv (.k (.bool false)), none⟩] [2, 3, 4]) (.ret)
def c195x1 : AC := .seq (.reg [
  ⟨(some 2), .mv (.k (.int .u8 115)), none⟩,
  ⟨(some 3), .mv (.k (.int .u8 115)), none⟩,
  ⟨(some 4), .mv (.k (.bool false)), none⟩] [2, 3, 4]) (.ret)
def c195x2 : AC := .seq (.reg [
  ⟨(some 2), .mv (.k (.int .u8 97)), none⟩,
  ⟨(some 3), .mv (.k (.int .u8 0)), none⟩,
  ⟨(some 4), .mv (.k (.bool true)), none⟩] [2, 3, 4]) (.ret)
def c195x3 : AC := .seq (.reg [
  ⟨(some 2), .mv (.k (.int .u8 98)), none⟩,
  ⟨(some 3), .mv (.k (.int .u8 0)), none⟩,
  ⟨(some 4), .mv (.k (.bool false)), none⟩] [2, 3, 4]) (.ret)
def c195x4 : AC := .seq (.reg [
  ⟨(some 2), .mv (.k (.int .u8 98)), none⟩,
  ⟨(some 3), .mv (.k (.int .u8 98)), none⟩,
  ⟨(some 4), .mv (.k (.bool false)), none⟩] [2, 3, 4]) (.ret)
def c195x5 : AC := .seq (.reg [
  ⟨(some 2), .mv (.k (.int .u8 97)), none⟩,
  ⟨(some 3), .mv (.k (.int .u8 0)), none⟩,
  ⟨(some 4), .mv (.k (.bool false)), none⟩] [2, 3, 4]) (.ret)
def c195x6 : AC := .seq (.reg [
  ⟨(some 2), .mv (.k (.int .u8 0)), none⟩,
  ⟨(some 3), .mv (.k (.int .u8 0)), none⟩,
  ⟨(some 4), .mv (.k (.bool true)), none⟩] [2, 3, 4]) (.ret)
def c195x7 : AC := .seq (.reg [
  ⟨(some 2), .mv (.k (.int .u8 119)), none⟩,
  ⟨(some 3), .mv (.k (.int .u8 98)), none⟩,
  ⟨(some 4), .mv (.k (.bool false)), none⟩] [2, 3, 4]) (.ret)
def c195x8 : AC := .seq (.reg [
  ⟨(some 2), .mv (.k (.int .u8 98)), none⟩,
  ⟨(some 3), .mv (.k (.int .u8 119)), none⟩,
  ⟨(some 4), .mv (.k (.bool false)), none⟩] [2, 3, 4]) (.ret)
def c195x9 : AC := .cond (.t 34) (c195x8) (.skip)
def c195x10 : AC := .reg [
  ⟨(some 36), .bin .eql (.t 5) (.k (.int .i64 21)), none⟩,
  ⟨(some 34), .mv (.t 36), none⟩] [34]
def c195x11 : AC := .cond (.t 34) (.skip) (c195x10)
def c195x12 : AC := .seq (.reg [
  ⟨(some 35), .bin .eql (.t 5) (.k (.int .i64 20)), none⟩,
  ⟨(some 34), .mv (.t 35), none⟩] [5, 34]) (c195x11)
def c195x13 : AC := .seq (c195x12) (c195x9)
def c195x14 : AC := .cond (.t 29) (c195x7) (c195x13)
def c195x15 : AC := .reg [
  ⟨(some 33), .bin .eql (.t 5) (.k (.int .i64 23)), none⟩,
  ⟨(some 29), .mv (.t 33), none⟩] [5, 29]
def c195x16 : AC := .cond (.t 29) (.skip) (c195x15)
def c195x17 : AC := .seq (.reg [
  ⟨(some 32), .bin .eql (.t 5) (.k (.int .i64 22)), none⟩,
  ⟨(some 29), .mv (.t 32), none⟩] [5, 29]) (c195x16)
def c195x18 : AC := .cond (.t 29) (.skip) (c195x17)
def c195x19 : AC := .seq (.reg [
  ⟨(some 31), .bin .eql (.t 5) (.k (.int .i64 19)), none⟩,
  ⟨(some 29), .mv (.t 31), none⟩] [5, 29]) (c195x18)
def c195x20 : AC := .cond (.t 29) (.skip) (c195x19)
def c195x21 : AC := .seq (.reg [
  ⟨(some 30), .bin .eql (.t 5) (.k (.int .i64 18)), none⟩,
  ⟨(some 29), .mv (.t 30), none⟩] [5, 29]) (c195x20)
def c195x22 : AC := .seq (c195x21) (c195x14)
def c195x23 : AC := .cond (.t 26) (c195x6) (c195x22)
def c195x24 : AC := .reg [
  ⟨(some 28), .bin .eql (.t 5) (.k (.int .i64 17)), none⟩,
  ⟨(some 26), .mv (.t 28), none⟩] [5, 26]
def c195x25 : AC := .cond (.t 26) (.skip) (c195x24)
def c195x26 : AC := .seq (.reg [
  ⟨(some 27), .bin .eql (.t 5) (.k (.int .i64 16)), none⟩,
  ⟨(some 26), .mv (.t 27), none⟩] [5, 26]) (c195x25)
def c195x27 : AC := .seq (c195x26) (c195x23)
def c195x28 : AC := .cond (.t 23) (c195x5) (c195x27)
def c195x29 : AC := .reg [
  ⟨(some 25), .bin .eql (.t 5) (.k (.int .i64 11)), none⟩,
  ⟨(some 23), .mv (.t 25), none⟩] [5, 23]
def c195x30 : AC := .cond (.t 23) (.skip) (c195x29)
def c195x31 : AC := .seq (.reg [
  ⟨(some 24), .bin .eql (.t 5) (.k (.int .i64 10)), none⟩,
  ⟨(some 23), .mv (.t 24), none⟩] [5, 23]) (c195x30)
def c195x32 : AC := .seq (c195x31) (c195x28)
def c195x33 : AC := .cond (.t 16) (c195x4) (c195x32)
def c195x34 : AC := .reg [
  ⟨(some 22), .bin .eql (.t 5) (.k (.int .i64 9)), none⟩,
  ⟨(some 16), .mv (.t 22), none⟩] [5, 16]
def c195x35 : AC := .cond (.t 16) (.skip) (c195x34)
def c195x36 : AC := .seq (.reg [
  ⟨(some 21), .bin .eql (.t 5) (.k (.int .i64 8)), none⟩,
  ⟨(some 16), .mv (.t 21), none⟩] [5, 16]) (c195x35)
def c195x37 : AC := .cond (.t 16) (.skip) (c195x36)
def c195x38 : AC := .seq (.reg [
  ⟨(some 20), .bin .eql (.t 5) (.k (.int .i64 7)), none⟩,
  ⟨(some 16), .mv (.t 20), none⟩] [5, 16]) (c195x37)
def c195x39 : AC := .cond (.t 16) (.skip) (c195x38)
def c195x40 : AC := .seq (.reg [
  ⟨(some 19), .bin .eql (.t 5) (.k (.int .i64 6)), none⟩,
  ⟨(some 16), .mv (.t 19), none⟩] [5, 16]) (c195x39)
def c195x41 : AC := .cond (.t 16) (.skip) (c195x40)
def c195x42 : AC := .seq (.reg [
  ⟨(some 18), .bin .eql (.t 5) (.k (.int .i64 5)), none⟩,
  ⟨(some 16), .mv (.t 18), none⟩] [5, 16]) (c195x41)
def c195x43 : AC := .cond (.t 16) (.skip) (c195x42)
def c195x44 : AC := .seq (.reg [
  ⟨(some 17), .bin .eql (.t 5) (.k (.int .i64 4)), none⟩,
  ⟨(some 16), .mv (.t 17), none⟩] [5, 16]) (c195x43)
def c195x45 : AC := .seq (c195x44) (c195x33)
def c195x46 : AC := .cond (.t 10) (c195x3) (c195x45)
def c195x47 : AC := .reg [
  ⟨(some 15), .bin .eql (.t 5) (.k (.int .i64 15)), none⟩,
  ⟨(some 10), .mv (.t 15), none⟩] [5, 10]
def c195x48 : AC := .cond (.t 10) (.skip) (c195x47)
def c195x49 : AC := .seq (.reg [
  ⟨(some 14), .bin .eql (.t 5) (.k (.int .i64 14)), none⟩,
  ⟨(some 10), .mv (.t 14), none⟩] [5, 10]) (c195x48)
def c195x50 : AC := .cond (.t 10) (.skip) (c195x49)
def c195x51 : AC := .seq (.reg [
  ⟨(some 13), .bin .eql (.t 5) (.k (.int .i64 13)), none⟩,
  ⟨(some 10), .mv (.t 13), none⟩] [5, 10]) (c195x50)
def c195x52 : AC := .cond (.t 10) (.skip) (c195x51)
def c195x53 : AC := .seq (.reg [
  ⟨(some 12), .bin .eql (.t 5) (.k (.int .i64 12)), none⟩,
  ⟨(some 10), .mv (.t 12), none⟩] [5, 10]) (c195x52)
def c195x54 : AC := .cond (.t 10) (.skip) (c195x53)
def c195x55 : AC := .seq (.reg [
  ⟨(some 11), .bin .eql (.t 5) (.k (.int .i64 3)), none⟩,
  ⟨(some 10), .mv (.t 11), none⟩] [5, 10]) (c195x54)
def c195x56 : AC := .seq (c195x55) (c195x46)
def c195x57 : AC := .cond (.t 8) (c195x2) (c195x56)
def c195x58 : AC := .seq (.reg [
  ⟨(some 9), .bin .eql (.t 5) (.k (.int .i64 2)), none⟩,
  ⟨(some 8), .mv (.t 9), none⟩] [5, 8]) (c195x57)
def c195x59 : AC := .cond (.t 6) (c195x1) (c195x58)
def c195x60 : AC := .seq (.reg [
  ⟨(some 7), .bin .eql (.t 5) (.k (.int .i64 1)), none⟩,
  ⟨(some 6), .mv (.t 7), none⟩] [5, 6]) (c195x59)
def c195x61 : AC := .block 0 (c195x60)
def c195x62 : AC := .seq (.reg [
  ⟨(some 5), .mv (.t 0), none⟩] [5]) (c195x61)
def c195x63 : AC := .seq (c195x62) (c195x0)
def c195 : AC := .seq (.reg [
  ⟨(some 2), .mv (.k (.int .u8 0)), none⟩,
  ⟨(some 3), .mv (.k (.int .u8 0)), none⟩,
  ⟨(some 4), .mv (.k (.bool false)), none⟩] [0]) (c195x63)
def v196 : List (Nat × List Nat) := [(0, [0, 1]), (1, [0, 5]), (2, [0, 5, 6]), (3, [4]), (4, [0, 5, 10]), (5, [4]), (6, [0, 18]), (7, [4]), (8, [4])]
def r196 : List AR := [.t 4]
def c196x0 : AC := .seq (.reg [
  ⟨(some 27), .mv (.t 0), none⟩,
  ⟨(some 28), .call 188 [(.t 27)], none⟩,
  ⟨(some 4), .mv (.t 28), none⟩] [4]) (.ret)
def c196x1 : AC := .seq (.reg [
  ⟨(some 8), .mv (.t 0), none⟩,
  ⟨(some 9), .bin .eql (.t 8) (.k (.int .i64 0)), none⟩,
  ⟨(some 4), .mv (.t 9), none⟩] [4]) (.ret)
def c196x2 : AC := .seq (.reg [
  ⟨(some 12), .mv (.t 0), none⟩,
  ⟨(some 13), .call 188 [(.t 12)], none⟩,
  ⟨(some 14), .mv (.t 13), none⟩,
  ⟨(some 15), .mv (.t 0), (some (14, true))⟩,
  ⟨(some 16), .call 104 [(.t 15)], (some (14, true))⟩,
  ⟨(some 17), .pick (.t 14) (.t 16) (.k (.bool false)), none⟩,
  ⟨(some 4), .mv (.t 17), none⟩] [4]) (.ret)
def c196x3 : AC := .seq (.reg [
  ⟨(some 20), .mv (.t 0), none⟩,
  ⟨(some 21), .call 188 [(.t 20)], none⟩,
  ⟨(some 22), .mv (.t 21), none⟩,
  ⟨(some 23), .mv (.t 0), (some (22, true))⟩,
  ⟨(some 24), .call 104 [(.t 23)], (some (22, true))⟩,
  ⟨(some 25), .not (.t 24), (some (22, true))⟩,
  ⟨(some 26), .pick (.t 22) (.t 25) (.k (.bool false)), none⟩,
  ⟨(some 4), .mv (.t 26), none⟩] [4]) (.ret)
def c196x4 : AC := .cond (.t 18) (c196x3) (.skip)
def c196x5 : AC := .seq (.reg [
  ⟨(some 19), .bin .eql (.t 5) (.k (.int .u8 98)), none⟩,
  ⟨(some 18), .mv (.t 19), none⟩] [0, 18]) (c196x4)
def c196x6 : AC := .cond (.t 10) (c196x2) (c196x5)
def c196x7 : AC := .seq (.reg [
  ⟨(some 11), .bin .eql (.t 5) (.k (.int .u8 119)), none⟩,
  ⟨(some 10), .mv (.t 11), none⟩] [0, 5, 10]) (c196x6)
def c196x8 : AC := .cond (.t 6) (c196x1) (c196x7)
def c196x9 : AC := .seq (.reg [
  ⟨(some 7), .bin .eql (.t 5) (.k (.int .u8 0)), none⟩,
  ⟨(some 6), .mv (.t 7), none⟩] [0, 5, 6]) (c196x8)
def c196x10 : AC := .block 0 (c196x9)
def c196x11 : AC := .seq (.reg [
  ⟨(some 5), .mv (.t 1), none⟩] [0, 5]) (c196x10)
def c196x12 : AC := .seq (c196x11) (c196x0)
def c196 : AC := .seq (.reg [
  ⟨(some 4), .mv (.k (.bool false)), none⟩] [0, 1]) (c196x12)
end Go.Proofs.Ytjmmompbmjhkpaa.Code

namespace Go.Proofs.Ytjmmompbmjhkpaa.Code
open Go Go.Proofs.Ytjmmompbmjhkpaa.Calc
set_option maxRecDepth 100000
def v73 : List (Nat × List Nat) := [(0, [2, 3, 4, 5, 8]), (1, [2, 3, 4, 5, 8, 10]), (2, [2, 3, 4, 5, 8, 10, 11]), (3, [2, 3, 4, 5, 8, 10, 11]), (4, [2, 3, 4, 5, 8, 10, 11]), (5, [8]), (6, [2, 3, 5, 8, 10, 20]), (7, [8]), (8, [2, 3, 5, 8, 10, 26]), (9, [8]), (10, [2, 3, 5, 8, 10, 32]), (11, [8]), (12, [2, 3, 5, 8, 10, 38]), (13, [8]), (14, [2, 3, 5, 8, 10, 44]), (15, [8]), (16, [2, 3, 5, 8, 50]), (17, [8]), (18, [8])]
def r73 : List AR := [.cell (some 2) 8]
def c73x0 : AC := .seq (.reg [
  ⟨(some 56), .build [(.slice none 0 0), (.slice none 0 0)] [], none⟩,
  ⟨none, .st 2 (.t 8) (.t 56), none⟩] [8]) (.ret)
def c73x1 : AC := .seq (.reg [
  ⟨(some 15), .ld (some 5) (.t 4), none⟩,
  ⟨(some 16), .ld (some 2) (.t 5), none⟩,
  ⟨(some 17), .mv (.t 2), none⟩,
  ⟨(some 18), .mv (.t 3), none⟩,
  ⟨(some 19), .call 131 [(.t 15), (.t 16), (.t 17), (.t 18)], none⟩,
  ⟨none, .st 2 (.t 8) (.t 19), none⟩] [8]) (.ret)
def c73x2 : AC := .seq (.reg [
  ⟨(some 22), .ld (some 2) (.t 5), none⟩,
  ⟨(some 23), .mv (.t 2), none⟩,
  ⟨(some 24), .mv (.t 3), none⟩,
  ⟨(some 25), .call 132 [(.t 22), (.t 23), (.t 24)], none⟩,
  ⟨none, .st 2 (.t 8) (.t 25), none⟩] [8]) (.ret)
def c73x3 : AC := .seq (.reg [
  ⟨(some 28), .ld (some 2) (.t 5), none⟩,
  ⟨(some 29), .mv (.t 2), none⟩,
  ⟨(some 30), .mv (.t 3), none⟩,
  ⟨(some 31), .call 133 [(.t 28), (.t 29), (.t 30)], none⟩,
  ⟨none, .st 2 (.t 8) (.t 31), none⟩] [8]) (.ret)
def c73x4 : AC := .seq (.reg [
  ⟨(some 34), .ld (some 2) (.t 5), none⟩,
  ⟨(some 35), .mv (.t 2), none⟩,
  ⟨(some 36), .mv (.t 3), none⟩,
  ⟨(some 37), .call 134 [(.t 34), (.t 35), (.t 36)], none⟩,
  ⟨none, .st 2 (.t 8) (.t 37), none⟩] [8]) (.ret)
def c73x5 : AC := .seq (.reg [
  ⟨(some 40), .ld (some 2) (.t 5), none⟩,
  ⟨(some 41), .mv (.t 2), none⟩,
  ⟨(some 42), .mv (.t 3), none⟩,
  ⟨(some 43), .call 33 [(.t 40), (.t 41), (.t 42)], none⟩,
  ⟨none, .st 2 (.t 8) (.t 43), none⟩] [8]) (.ret)
def c73x6 : AC := .seq (.reg [
  ⟨(some 46), .ld (some 2) (.t 5), none⟩,
  ⟨(some 47), .mv (.t 2), none⟩,
  ⟨(some 48), .mv (.t 3), none⟩,
  ⟨(some 49), .call 39 [(.t 46), (.t 47), (.t 48)], none⟩,
  ⟨none, .st 2 (.t 8) (.t 49), none⟩] [8]) (.ret)
def c73x7 : AC := .seq (.reg [
  ⟨(some 52), .ld (some 2) (.t 5), none⟩,
  ⟨(some 53), .mv (.t 2), none⟩,
  ⟨(some 54), .mv (.t 3), none⟩,
  ⟨(some 55), .call 45 [(.t 52), (.t 53), (.t 54)], none⟩,
  ⟨none, .st 2 (.t 8) (.t 55), none⟩] [8]) (.ret)
def c73x8 : AC := .cond (.t 50) (c73x7) (.skip)
def c73x9 : AC := .seq (.reg [
  ⟨(some 51), .bin .eql (.t 10) (.k (.int .i64 8)), none⟩,
  ⟨(some 50), .mv (.t 51), none⟩] [2, 3, 5, 8, 50]) (c73x8)
def c73x10 : AC := .cond (.t 44) (c73x6) (c73x9)
def c73x11 : AC := .seq (.reg [
  ⟨(some 45), .bin .eql (.t 10) (.k (.int .i64 7)), none⟩,
  ⟨(some 44), .mv (.t 45), none⟩] [2, 3, 5, 8, 10, 44]) (c73x10)
def c73x12 : AC := .cond (.t 38) (c73x5) (c73x11)
def c73x13 : AC := .seq (.reg [
  ⟨(some 39), .bin .eql (.t 10) (.k (.int .i64 6)), none⟩,
  ⟨(some 38), .mv (.t 39), none⟩] [2, 3, 5, 8, 10, 38]) (c73x12)
def c73x14 : AC := .cond (.t 32) (c73x4) (c73x13)
def c73x15 : AC := .seq (.reg [
  ⟨(some 33), .bin .eql (.t 10) (.k (.int .i64 5)), none⟩,
  ⟨(some 32), .mv (.t 33), none⟩] [2, 3, 5, 8, 10, 32]) (c73x14)
def c73x16 : AC := .cond (.t 26) (c73x3) (c73x15)
def c73x17 : AC := .seq (.reg [
  ⟨(some 27), .bin .eql (.t 10) (.k (.int .i64 4)), none⟩,
  ⟨(some 26), .mv (.t 27), none⟩] [2, 3, 5, 8, 10, 26]) (c73x16)
def c73x18 : AC := .cond (.t 20) (c73x2) (c73x17)
def c73x19 : AC := .seq (.reg [
  ⟨(some 21), .bin .eql (.t 10) (.k (.int .i64 3)), none⟩,
  ⟨(some 20), .mv (.t 21), none⟩] [2, 3, 5, 8, 10, 20]) (c73x18)
def c73x20 : AC := .cond (.t 11) (c73x1) (c73x19)
def c73x21 : AC := .reg [
  ⟨(some 14), .bin .eql (.t 10) (.k (.int .i64 2)), none⟩,
  ⟨(some 11), .mv (.t 14), none⟩] [2, 3, 4, 5, 8, 10, 11]
def c73x22 : AC := .cond (.t 11) (.skip) (c73x21)
def c73x23 : AC := .seq (.reg [
  ⟨(some 13), .bin .eql (.t 10) (.k (.int .i64 1)), none⟩,
  ⟨(some 11), .mv (.t 13), none⟩] [2, 3, 4, 5, 8, 10, 11]) (c73x22)
def c73x24 : AC := .cond (.t 11) (.skip) (c73x23)
def c73x25 : AC := .seq (.reg [
  ⟨(some 12), .bin .eql (.t 10) (.k (.int .i64 0)), none⟩,
  ⟨(some 11), .mv (.t 12), none⟩] [2, 3, 4, 5, 8, 10, 11]) (c73x24)
def c73x26 : AC := .seq (c73x25) (c73x20)
def c73x27 : AC := .block 0 (c73x26)
def c73x28 : AC := .seq (.reg [
  ⟨(some 9), .fad 1 (.t 4), none⟩,
  ⟨(some 10), .ld none (.t 9), none⟩] [2, 3, 4, 5, 8, 10]) (c73x27)
def c73x29 : AC := .seq (c73x28) (c73x0)
def c73 : AC := .seq (.reg [
  ⟨(some 4), .new 5 (.t 0), none⟩,
  ⟨(some 5), .new 2 (.t 1), none⟩,
  ⟨(some 8), .zero [(.slice none 0 0), (.slice none 0 0)], none⟩] [2, 3, 4, 5, 8]) (c73x29)
theorem k73 : Try.f73.body.bind (compC Try.prog Try.f73.ntmps v73) = some c73 := by kernel_rfl
theorem e73 : enters Try.prog 73 = true := by kernel_rfl
theorem q73 : Try.f73.results.toList.mapM (compRes Try.prog) = some r73 := by kernel_rfl
def v74 : List (Nat × List Nat) := [(0, [1, 2]), (1, [1, 2, 5]), (2, [1, 2, 5, 6]), (3, [1, 2, 5, 6]), (4, [1, 2, 5, 6]), (5, [1, 2, 3]), (6, [1, 2, 3]), (7, [2, 3, 21]), (8, [2, 3]), (9, [2]), (10, [1, 2, 5, 25]), (11, [2]), (12, [1, 2, 5, 28]), (13, [2]), (14, [1, 2, 5, 31]), (15, [2]), (16, [1, 2, 5, 34]), (17, [2]), (18, [1, 2, 5, 37]), (19, [2]), (20, [1, 2, 40]), (21, [2]), (22, [2])]
def r74 : List AR := [.cell (some 2) 2]
def c74x0 : AC := .seq (.reg [
  ⟨(some 45), .build [(.slice none 0 0), (.slice none 0 0)] [], none⟩,
  ⟨none, .st 2 (.t 2) (.t 45), none⟩] [2]) (.ret)
def c74x1 : AC := .seq (.reg [
  ⟨(some 24), .ld (some 2) (.t 3), none⟩,
  ⟨none, .st 2 (.t 2) (.t 24), none⟩] [2]) (.ret)
def c74x2 : AC := .reg [
  ⟨(some 22), .bsl [(.int .i64 0)] 1 [(0, (.k (.int .i64 0)))], none⟩,
  ⟨(some 23), .fad 0 (.t 3), none⟩,
  ⟨none, .st 1 (.t 23) (.t 22), none⟩] [2, 3]
def c74x3 : AC := .cond (.t 21) (c74x2) (.skip)
def c74x4 : AC := .seq (.reg [
  ⟨(some 19), .fad 1 (.t 1), none⟩,
  ⟨(some 20), .ld none (.t 19), none⟩,
  ⟨(some 21), .bin .eql (.t 20) (.k (.int .i64 2)), none⟩] [2, 3, 21]) (c74x3)
def c74x5 : AC := .seq (c74x4) (c74x1)
def c74x6 : AC := .seq (.reg [
  ⟨(some 14), .fad 1 (.t 3), none⟩,
  ⟨(some 15), .ld none (.t 14), none⟩,
  ⟨(some 16), .fad 4 (.t 1), none⟩,
  ⟨(some 17), .ld none (.t 16), none⟩,
  ⟨(some 18), .copy 1 (.t 15) (.t 17), none⟩] [1, 2, 3]) (c74x5)
def c74x7 : AC := .seq (.reg [
  ⟨(some 10), .ld (some 5) (.t 1), none⟩,
  ⟨(some 11), .call 135 [(.t 10)], none⟩,
  ⟨(some 12), .mksl [(.int .u8 0)] 1 (.t 11) (.t 11), none⟩,
  ⟨(some 13), .build [(.slice none 0 0), (.slice none 0 0)] [(1, 1, (.t 12))], none⟩,
  ⟨(some 3), .zero [(.slice none 0 0), (.slice none 0 0)], none⟩,
  ⟨none, .st 2 (.t 3) (.t 13), none⟩] [1, 2, 3]) (c74x6)
def c74x8 : AC := .seq (.reg [
  ⟨(some 27), .call 136 [], none⟩,
  ⟨none, .st 2 (.t 2) (.t 27), none⟩] [2]) (.ret)
def c74x9 : AC := .seq (.reg [
  ⟨(some 30), .call 137 [], none⟩,
  ⟨none, .st 2 (.t 2) (.t 30), none⟩] [2]) (.ret)
def c74x10 : AC := .seq (.reg [
  ⟨(some 33), .call 138 [], none⟩,
  ⟨none, .st 2 (.t 2) (.t 33), none⟩] [2]) (.ret)
def c74x11 : AC := .seq (.reg [
  ⟨(some 36), .call 36 [], none⟩,
  ⟨none, .st 2 (.t 2) (.t 36), none⟩] [2]) (.ret)
def c74x12 : AC := .seq (.reg [
  ⟨(some 39), .call 38 [], none⟩,
  ⟨none, .st 2 (.t 2) (.t 39), none⟩] [2]) (.ret)
def c74x13 : AC := .seq (.reg [
  ⟨(some 42), .fad 4 (.t 1), none⟩,
  ⟨(some 43), .ld none (.t 42), none⟩,
  ⟨(some 44), .call 47 [(.t 43)], none⟩,
  ⟨none, .st 2 (.t 2) (.t 44), none⟩] [2]) (.ret)
def c74x14 : AC := .cond (.t 40) (c74x13) (.skip)
def c74x15 : AC := .seq (.reg [
  ⟨(some 41), .bin .eql (.t 5) (.k (.int .i64 8)), none⟩,
  ⟨(some 40), .mv (.t 41), none⟩] [1, 2, 40]) (c74x14)
def c74x16 : AC := .cond (.t 37) (c74x12) (c74x15)
def c74x17 : AC := .seq (.reg [
  ⟨(some 38), .bin .eql (.t 5) (.k (.int .i64 7)), none⟩,
  ⟨(some 37), .mv (.t 38), none⟩] [1, 2, 5, 37]) (c74x16)
def c74x18 : AC := .cond (.t 34) (c74x11) (c74x17)
def c74x19 : AC := .seq (.reg [
  ⟨(some 35), .bin .eql (.t 5) (.k (.int .i64 6)), none⟩,
  ⟨(some 34), .mv (.t 35), none⟩] [1, 2, 5, 34]) (c74x18)
def c74x20 : AC := .cond (.t 31) (c74x10) (c74x19)
def c74x21 : AC := .seq (.reg [
  ⟨(some 32), .bin .eql (.t 5) (.k (.int .i64 5)), none⟩,
  ⟨(some 31), .mv (.t 32), none⟩] [1, 2, 5, 31]) (c74x20)
def c74x22 : AC := .cond (.t 28) (c74x9) (c74x21)
def c74x23 : AC := .seq (.reg [
  ⟨(some 29), .bin .eql (.t 5) (.k (.int .i64 4)), none⟩,
  ⟨(some 28), .mv (.t 29), none⟩] [1, 2, 5, 28]) (c74x22)
def c74x24 : AC := .cond (.t 25) (c74x8) (c74x23)
def c74x25 : AC := .seq (.reg [
  ⟨(some 26), .bin .eql (.t 5) (.k (.int .i64 3)), none⟩,
  ⟨(some 25), .mv (.t 26), none⟩] [1, 2, 5, 25]) (c74x24)
def c74x26 : AC := .cond (.t 6) (c74x7) (c74x25)
def c74x27 : AC := .reg [
  ⟨(some 9), .bin .eql (.t 5) (.k (.int .i64 2)), none⟩,
  ⟨(some 6), .mv (.t 9), none⟩] [1, 2, 5, 6]
def c74x28 : AC := .cond (.t 6) (.skip) (c74x27)
def c74x29 : AC := .seq (.reg [
  ⟨(some 8), .bin .eql (.t 5) (.k (.int .i64 1)), none⟩,
  ⟨(some 6), .mv (.t 8), none⟩] [1, 2, 5, 6]) (c74x28)
def c74x30 : AC := .cond (.t 6) (.skip) (c74x29)
def c74x31 : AC := .seq (.reg [
  ⟨(some 7), .bin .eql (.t 5) (.k (.int .i64 0)), none⟩,
  ⟨(some 6), .mv (.t 7), none⟩] [1, 2, 5, 6]) (c74x30)
def c74x32 : AC := .seq (c74x31) (c74x26)
def c74x33 : AC := .block 0 (c74x32)
def c74x34 : AC := .seq (.reg [
  ⟨(some 4), .fad 1 (.t 1), none⟩,
  ⟨(some 5), .ld none (.t 4), none⟩] [1, 2, 5]) (c74x33)
def c74x35 : AC := .seq (c74x34) (c74x0)
def c74 : AC := .seq (.reg [
  ⟨(some 1), .new 5 (.t 0), none⟩,
  ⟨(some 2), .zero [(.slice none 0 0), (.slice none 0 0)], none⟩] [1, 2]) (c74x35)
theorem k74 : Try.f74.body.bind (compC Try.prog Try.f74.ntmps v74) = some c74 := by kernel_rfl
theorem e74 : enters Try.prog 74 = true := by kernel_rfl
theorem q74 : Try.f74.results.toList.mapM (compRes Try.prog) = some r74 := by kernel_rfl
def v75 : List (Nat × List Nat) := [(0, [2, 3, 4, 6]), (1, [2, 3, 4, 6, 9]), (2, [2, 3, 4, 6, 9, 10]), (3, [2, 3, 4, 6, 9, 10]), (4, [2, 3, 4, 6, 9, 10]), (5, [6, 7]), (6, [2, 4, 6, 9, 20]), (7, [6, 7]), (8, [2, 4, 6, 9, 27]), (9, [6, 7]), (10, [2, 4, 6, 9, 34]), (11, [6, 7]), (12, [2, 4, 6, 9, 41]), (13, [6, 7]), (14, [2, 4, 6, 9, 48]), (15, [6, 7]), (16, [2, 4, 6, 55]), (17, [6, 7]), (18, [6, 7])]
def r75 : List AR := [.cell (some 2) 6, .t 7]
def c75x0 : AC := .seq (.reg [
  ⟨(some 62), .build [(.slice none 0 0), (.slice none 0 0)] [], none⟩,
  ⟨none, .st 2 (.t 6) (.t 62), none⟩,
  ⟨(some 7), .mv (.k (.int .i64 0)), none⟩] [6, 7]) (.ret)
def c75x1 : AC := .seq (.reg [
  ⟨(some 14), .ld (some 5) (.t 3), none⟩,
  ⟨(some 15), .ld (some 2) (.t 4), none⟩,
  ⟨(some 16), .mv (.t 2), none⟩,
  ⟨(some 17), .call 139 [(.t 14), (.t 15), (.t 16)], none⟩,
  ⟨(some 18), .ext (.t 17) 0, none⟩,
  ⟨(some 19), .ext (.t 17) 1, none⟩,
  ⟨none, .st 2 (.t 6) (.t 18), none⟩,
  ⟨(some 7), .mv (.t 19), none⟩] [6, 7]) (.ret)
def c75x2 : AC := .seq (.reg [
  ⟨(some 22), .ld (some 2) (.t 4), none⟩,
  ⟨(some 23), .mv (.t 2), none⟩,
  ⟨(some 24), .call 140 [(.t 22), (.t 23)], none⟩,
  ⟨(some 25), .ext (.t 24) 0, none⟩,
  ⟨(some 26), .ext (.t 24) 1, none⟩,
  ⟨none, .st 2 (.t 6) (.t 25), none⟩,
  ⟨(some 7), .mv (.t 26), none⟩] [6, 7]) (.ret)
def c75x3 : AC := .seq (.reg [
  ⟨(some 29), .ld (some 2) (.t 4), none⟩,
  ⟨(some 30), .mv (.t 2), none⟩,
  ⟨(some 31), .call 141 [(.t 29), (.t 30)], none⟩,
  ⟨(some 32), .ext (.t 31) 0, none⟩,
  ⟨(some 33), .ext (.t 31) 1, none⟩,
  ⟨none, .st 2 (.t 6) (.t 32), none⟩,
  ⟨(some 7), .mv (.t 33), none⟩] [6, 7]) (.ret)
def c75x4 : AC := .seq (.reg [
  ⟨(some 36), .ld (some 2) (.t 4), none⟩,
  ⟨(some 37), .mv (.t 2), none⟩,
  ⟨(some 38), .call 142 [(.t 36), (.t 37)], none⟩,
  ⟨(some 39), .ext (.t 38) 0, none⟩,
  ⟨(some 40), .ext (.t 38) 1, none⟩,
  ⟨none, .st 2 (.t 6) (.t 39), none⟩,
  ⟨(some 7), .mv (.t 40), none⟩] [6, 7]) (.ret)
def c75x5 : AC := .seq (.reg [
  ⟨(some 43), .ld (some 2) (.t 4), none⟩,
  ⟨(some 44), .mv (.t 2), none⟩,
  ⟨(some 45), .call 34 [(.t 43), (.t 44)], none⟩,
  ⟨(some 46), .ext (.t 45) 0, none⟩,
  ⟨(some 47), .ext (.t 45) 1, none⟩,
  ⟨none, .st 2 (.t 6) (.t 46), none⟩,
  ⟨(some 7), .mv (.t 47), none⟩] [6, 7]) (.ret)
def c75x6 : AC := .seq (.reg [
  ⟨(some 50), .ld (some 2) (.t 4), none⟩,
  ⟨(some 51), .mv (.t 2), none⟩,
  ⟨(some 52), .call 43 [(.t 50), (.t 51)], none⟩,
  ⟨(some 53), .ext (.t 52) 0, none⟩,
  ⟨(some 54), .ext (.t 52) 1, none⟩,
  ⟨none, .st 2 (.t 6) (.t 53), none⟩,
  ⟨(some 7), .mv (.t 54), none⟩] [6, 7]) (.ret)
def c75x7 : AC := .seq (.reg [
  ⟨(some 57), .ld (some 2) (.t 4), none⟩,
  ⟨(some 58), .mv (.t 2), none⟩,
  ⟨(some 59), .call 49 [(.t 57), (.t 58)], none⟩,
  ⟨(some 60), .ext (.t 59) 0, none⟩,
  ⟨(some 61), .ext (.t 59) 1, none⟩,
  ⟨none, .st 2 (.t 6) (.t 60), none⟩,
  ⟨(some 7), .mv (.t 61), none⟩] [6, 7]) (.ret)
def c75x8 : AC := .cond (.t 55) (c75x7) (.skip)
def c75x9 : AC := .seq (.reg [
  ⟨(some 56), .bin .eql (.t 9) (.k (.int .i64 8)), none⟩,
  ⟨(some 55), .mv (.t 56), none⟩] [2, 4, 6, 55]) (c75x8)
def c75x10 : AC := .cond (.t 48) (c75x6) (c75x9)
def c75x11 : AC := .seq (.reg [
  ⟨(some 49), .bin .eql (.t 9) (.k (.int .i64 7)), none⟩,
  ⟨(some 48), .mv (.t 49), none⟩] [2, 4, 6, 9, 48]) (c75x10)
def c75x12 : AC := .cond (.t 41) (c75x5) (c75x11)
def c75x13 : AC := .seq (.reg [
  ⟨(some 42), .bin .eql (.t 9) (.k (.int .i64 6)), none⟩,
  ⟨(some 41), .mv (.t 42), none⟩] [2, 4, 6, 9, 41]) (c75x12)
def c75x14 : AC := .cond (.t 34) (c75x4) (c75x13)
def c75x15 : AC := .seq (.reg [
  ⟨(some 35), .bin .eql (.t 9) (.k (.int .i64 5)), none⟩,
  ⟨(some 34), .mv (.t 35), none⟩] [2, 4, 6, 9, 34]) (c75x14)
def c75x16 : AC := .cond (.t 27) (c75x3) (c75x15)
def c75x17 : AC := .seq (.reg [
  ⟨(some 28), .bin .eql (.t 9) (.k (.int .i64 4)), none⟩,
  ⟨(some 27), .mv (.t 28), none⟩] [2, 4, 6, 9, 27]) (c75x16)
def c75x18 : AC := .cond (.t 20) (c75x2) (c75x17)
def c75x19 : AC := .seq (.reg [
  ⟨(some 21), .bin .eql (.t 9) (.k (.int .i64 3)), none⟩,
  ⟨(some 20), .mv (.t 21), none⟩] [2, 4, 6, 9, 20]) (c75x18)
def c75x20 : AC := .cond (.t 10) (c75x1) (c75x19)
def c75x21 : AC := .reg [
  ⟨(some 13), .bin .eql (.t 9) (.k (.int .i64 2)), none⟩,
  ⟨(some 10), .mv (.t 13), none⟩] [2, 3, 4, 6, 9, 10]
def c75x22 : AC := .cond (.t 10) (.skip) (c75x21)
def c75x23 : AC := .seq (.reg [
  ⟨(some 12), .bin .eql (.t 9) (.k (.int .i64 1)), none⟩,
  ⟨(some 10), .mv (.t 12), none⟩] [2, 3, 4, 6, 9, 10]) (c75x22)
def c75x24 : AC := .cond (.t 10) (.skip) (c75x23)
def c75x25 : AC := .seq (.reg [
  ⟨(some 11), .bin .eql (.t 9) (.k (.int .i64 0)), none⟩,
  ⟨(some 10), .mv (.t 11), none⟩] [2, 3, 4, 6, 9, 10]) (c75x24)
def c75x26 : AC := .seq (c75x25) (c75x20)
def c75x27 : AC := .block 0 (c75x26)
def c75x28 : AC := .seq (.reg [
  ⟨(some 8), .fad 1 (.t 3), none⟩,
  ⟨(some 9), .ld none (.t 8), none⟩] [2, 3, 4, 6, 9]) (c75x27)
def c75x29 : AC := .seq (c75x28) (c75x0)
def c75 : AC := .seq (.reg [
  ⟨(some 3), .new 5 (.t 0), none⟩,
  ⟨(some 4), .new 2 (.t 1), none⟩,
  ⟨(some 6), .zero [(.slice none 0 0), (.slice none 0 0)], none⟩,
  ⟨(some 7), .mv (.k (.int .i64 0)), none⟩] [2, 3, 4, 6]) (c75x29)
theorem k75 : Try.f75.body.bind (compC Try.prog Try.f75.ntmps v75) = some c75 := by kernel_rfl
theorem e75 : enters Try.prog 75 = true := by kernel_rfl
theorem q75 : Try.f75.results.toList.mapM (compRes Try.prog) = some r75 := by kernel_rfl
def v77 : List (Nat × List Nat) := [(0, [1]), (1, [1, 3]), (2, [2])]
def r77 : List AR := [.t 2]
def c77x0 : AC := .seq (.reg [
  ⟨(some 6), .fad 4 (.t 1), none⟩,
  ⟨(some 7), .ld none (.t 6), none⟩,
  ⟨(some 8), .len (.t 7), none⟩,
  ⟨(some 9), .mv (.t 3), none⟩,
  ⟨(some 10), .bin .add (.t 8) (.t 9), none⟩,
  ⟨(some 11), .bin .sub (.t 10) (.k (.int .i64 1)), none⟩,
  ⟨(some 12), .mv (.t 3), none⟩,
  ⟨(some 13), .bin .quo (.t 11) (.t 12), none⟩,
  ⟨(some 14), .mnx true [(.k (.int .i64 1)), (.t 13)], none⟩,
  ⟨(some 2), .mv (.t 14), none⟩] [2]) (.ret)
def c77x1 : AC := .seq (.reg [
  ⟨(some 4), .ld (some 5) (.t 1), none⟩,
  ⟨(some 5), .call 144 [(.t 4)], none⟩,
  ⟨(some 3), .mv (.t 5), none⟩] [1, 3]) (c77x0)
def c77 : AC := .seq (.reg [
  ⟨(some 1), .new 5 (.t 0), none⟩,
  ⟨(some 2), .mv (.k (.int .i64 0)), none⟩] [1]) (c77x1)
theorem k77 : Try.f77.body.bind (compC Try.prog Try.f77.ntmps v77) = some c77 := by kernel_rfl
theorem e77 : enters Try.prog 77 = true := by kernel_rfl
theorem q77 : Try.f77.results.toList.mapM (compRes Try.prog) = some r77 := by kernel_rfl
def v131 : List (Nat × List Nat) := [(0, [2, 3, 4, 5, 8]), (1, [2, 3, 4, 5, 8]), (2, [2, 3, 4, 5, 8, 9]), (3, [2, 3, 4, 5, 8, 9, 17]), (4, [2, 3, 4, 5, 8, 9, 21]), (5, [5, 8]), (6, [3, 4, 5, 8, 31]), (7, [5, 8]), (8, [8])]
def r131 : List AR := [.cell (some 2) 8]
def c131x0 : AC := .seq (.reg [
  ⟨(some 47), .ld (some 2) (.t 5), none⟩,
  ⟨none, .st 2 (.t 8) (.t 47), none⟩] [8]) (.ret)
def c131x1 : AC := .dreg [
  ⟨(some 24), .fad 1 (.t 5), none⟩,
  ⟨(some 25), .ld none (.t 24), none⟩,
  ⟨(some 26), .mv (.t 9), none⟩,
  ⟨(some 27), .mv (.t 3), none⟩,
  ⟨(some 28), .call 35 [(.t 27), (.k (.int .i64 8))], none⟩,
  ⟨(some 29), .cvt .u8 (.t 28), none⟩,
  ⟨(some 30), .idx 1 none (.t 25) (.t 26), none⟩,
  ⟨none, .st 1 (.t 30) (.t 29), none⟩] [[], [0], [], [], [3], [3, 4], [0, 1, 2, 3, 4, 5], [0, 1, 2, 3, 4, 5, 6]] [5, 8]
def c131x2 : AC := .dreg [
  ⟨(some 39), .fad 0 (.t 5), none⟩,
  ⟨(some 40), .ld none (.t 39), none⟩,
  ⟨(some 41), .mv (.t 3), none⟩,
  ⟨(some 42), .call 35 [(.t 41), (.k (.int .i64 8))], none⟩,
  ⟨(some 43), .ld (some 5) (.t 4), none⟩,
  ⟨(some 44), .call 77 [(.t 43)], none⟩,
  ⟨(some 45), .bin .rem (.t 42) (.t 44), none⟩,
  ⟨(some 46), .idx 1 none (.t 40) (.k (.int .i64 0)), none⟩,
  ⟨none, .st 1 (.t 46) (.t 45), none⟩] [[], [0], [], [2], [], [2, 3, 4], [2, 3, 4, 5], [0, 1, 2, 3, 4, 5, 6], [0, 1, 2, 3, 4, 5, 6, 7]] [5, 8]
def c131x3 : AC := .cond (.t 31) (c131x2) (.skip)
def c131x4 : AC := .seq (.reg [
  ⟨(some 32), .fad 1 (.t 4), none⟩,
  ⟨(some 33), .ld none (.t 32), none⟩,
  ⟨(some 34), .bin .eql (.t 33) (.k (.int .i64 2)), none⟩,
  ⟨(some 35), .mv (.t 34), none⟩,
  ⟨(some 36), .mv (.t 2), (some (35, true))⟩,
  ⟨(some 37), .bin .eql (.t 36) (.k (.int .i64 0)), (some (35, true))⟩,
  ⟨(some 38), .pick (.t 35) (.t 37) (.k (.bool false)), none⟩,
  ⟨(some 31), .mv (.t 38), none⟩] [3, 4, 5, 8, 31]) (c131x3)
def c131x5 : AC := .cond (.t 21) (c131x1) (c131x4)
def c131x6 : AC := .seq (.reg [
  ⟨(some 22), .mv (.t 9), none⟩,
  ⟨(some 23), .bin .geq (.t 22) (.k (.int .i64 0)), none⟩,
  ⟨(some 21), .mv (.t 23), none⟩] [2, 3, 4, 5, 8, 9, 21]) (c131x5)
def c131x7 : AC := .cond (.t 17) (.skip) (c131x6)
def c131x8 : AC := .seq (.reg [
  ⟨(some 18), .fad 1 (.t 4), none⟩,
  ⟨(some 19), .ld none (.t 18), none⟩,
  ⟨(some 20), .bin .eql (.t 19) (.k (.int .i64 1)), none⟩,
  ⟨(some 17), .mv (.t 20), none⟩] [2, 3, 4, 5, 8, 9, 17]) (c131x7)
def c131x9 : AC := .block 0 (c131x8)
def c131x10 : AC := .seq (.reg [
  ⟨(some 13), .ld (some 5) (.t 4), none⟩,
  ⟨(some 14), .ld (some 2) (.t 5), none⟩,
  ⟨(some 15), .mv (.t 2), none⟩,
  ⟨(some 16), .call 172 [(.t 13), (.t 14), (.t 15)], none⟩,
  ⟨(some 9), .mv (.t 16), none⟩] [2, 3, 4, 5, 8, 9]) (c131x9)
def c131x11 : AC := .seq (c131x10) (c131x0)
def c131x12 : AC := .seq (.reg [
  ⟨(some 10), .ld (some 5) (.t 4), none⟩,
  ⟨(some 11), .ld (some 2) (.t 5), none⟩,
  ⟨(some 12), .call 171 [(.t 10), (.t 11)], none⟩,
  ⟨none, .st 2 (.t 5) (.t 12), none⟩] [2, 3, 4, 5, 8]) (c131x11)
def c131 : AC := .seq (.reg [
  ⟨(some 4), .new 5 (.t 0), none⟩,
  ⟨(some 5), .new 2 (.t 1), none⟩,
  ⟨(some 8), .zero [(.slice none 0 0), (.slice none 0 0)], none⟩] [2, 3, 4, 5, 8]) (c131x12)
theorem k131 : Try.f131.body.bind (compC Try.prog Try.f131.ntmps v131) = some c131 := by kernel_rfl
theorem e131 : enters Try.prog 131 = true := by kernel_rfl
theorem q131 : Try.f131.results.toList.mapM (compRes Try.prog) = some r131 := by kernel_rfl
def v135 : List (Nat × List Nat) := [(0, [1]), (1, [1, 5]), (2, [2]), (3, [2])]
def r135 : List AR := [.t 2]
def c135x0 : AC := .seq (.reg [
  ⟨(some 11), .fad 3 (.t 1), none⟩,
  ⟨(some 12), .ld none (.t 11), none⟩,
  ⟨(some 13), .mnx false [(.t 12), (.k (.int .i64 65536))], none⟩,
  ⟨(some 14), .mnx true [(.k (.int .i64 0)), (.t 13)], none⟩,
  ⟨(some 2), .mv (.t 14), none⟩] [2]) (.ret)
def c135x1 : AC := .seq (.dreg [
  ⟨(some 6), .ld (some 5) (.t 1), none⟩,
  ⟨(some 7), .call 77 [(.t 6)], none⟩,
  ⟨(some 8), .ld (some 5) (.t 1), none⟩,
  ⟨(some 9), .call 144 [(.t 8)], none⟩,
  ⟨(some 10), .bin .mul (.t 7) (.t 9), none⟩,
  ⟨(some 2), .mv (.t 10), none⟩] [[], [0], [], [0, 1, 2], [0, 1, 2, 3], [0, 1, 2, 3, 4]] [2]) (.ret)
def c135x2 : AC := .cond (.t 5) (c135x1) (.skip)
def c135x3 : AC := .seq (.reg [
  ⟨(some 3), .fad 1 (.t 1), none⟩,
  ⟨(some 4), .ld none (.t 3), none⟩,
  ⟨(some 5), .bin .eql (.t 4) (.k (.int .i64 2)), none⟩] [1, 5]) (c135x2)
def c135x4 : AC := .seq (c135x3) (c135x0)
def c135 : AC := .seq (.reg [
  ⟨(some 1), .new 5 (.t 0), none⟩,
  ⟨(some 2), .mv (.k (.int .i64 0)), none⟩] [1]) (c135x4)
theorem k135 : Try.f135.body.bind (compC Try.prog Try.f135.ntmps v135) = some c135 := by kernel_rfl
theorem e135 : enters Try.prog 135 = true := by kernel_rfl
theorem q135 : Try.f135.results.toList.mapM (compRes Try.prog) = some r135 := by kernel_rfl
def v139 : List (Nat × List Nat) := [(0, [2, 3, 4, 6]), (1, [2, 3, 4, 6]), (2, [2, 3, 4, 6, 8]), (3, [2, 3, 4, 6, 8, 16]), (4, [6, 7]), (5, [4, 6, 26]), (6, [6, 7]), (7, [6, 7])]
def r139 : List AR := [.cell (some 2) 6, .t 7]
def c139x0 : AC := .seq (.reg [
  ⟨(some 39), .ld (some 2) (.t 4), none⟩,
  ⟨none, .st 2 (.t 6) (.t 39), none⟩,
  ⟨(some 7), .mv (.k (.int .i64 0)), none⟩] [6, 7]) (.ret)
def c139x1 : AC := .seq (.dreg [
  ⟨(some 19), .ld (some 2) (.t 4), none⟩,
  ⟨(some 20), .fad 1 (.t 4), none⟩,
  ⟨(some 21), .ld none (.t 20), none⟩,
  ⟨(some 22), .mv (.t 8), none⟩,
  ⟨(some 23), .idx 1 none (.t 21) (.t 22), none⟩,
  ⟨(some 24), .ld none (.t 23), none⟩,
  ⟨(some 25), .cvt .i64 (.t 24), none⟩,
  ⟨none, .st 2 (.t 6) (.t 19), none⟩,
  ⟨(some 7), .mv (.t 25), none⟩] [[], [], [1], [], [1, 2, 3], [1, 2, 3, 4], [1, 2, 3, 4, 5], [0], [0, 1, 2, 3, 4, 5, 6, 7]] [6, 7]) (.ret)
def c139x2 : AC := .seq (.dreg [
  ⟨(some 34), .ld (some 2) (.t 4), none⟩,
  ⟨(some 35), .fad 0 (.t 4), none⟩,
  ⟨(some 36), .ld none (.t 35), none⟩,
  ⟨(some 37), .idx 1 none (.t 36) (.k (.int .i64 0)), none⟩,
  ⟨(some 38), .ld none (.t 37), none⟩,
  ⟨none, .st 2 (.t 6) (.t 34), none⟩,
  ⟨(some 7), .mv (.t 38), none⟩] [[], [], [1], [1, 2], [1, 2, 3], [0], [0, 1, 2, 3, 4, 5]] [6, 7]) (.ret)
def c139x3 : AC := .cond (.t 26) (c139x2) (.skip)
def c139x4 : AC := .seq (.reg [
  ⟨(some 27), .fad 1 (.t 3), none⟩,
  ⟨(some 28), .ld none (.t 27), none⟩,
  ⟨(some 29), .bin .eql (.t 28) (.k (.int .i64 2)), none⟩,
  ⟨(some 30), .mv (.t 29), none⟩,
  ⟨(some 31), .mv (.t 2), (some (30, true))⟩,
  ⟨(some 32), .bin .eql (.t 31) (.k (.int .i64 0)), (some (30, true))⟩,
  ⟨(some 33), .pick (.t 30) (.t 32) (.k (.bool false)), none⟩,
  ⟨(some 26), .mv (.t 33), none⟩] [4, 6, 26]) (c139x3)
def c139x5 : AC := .cond (.t 16) (c139x1) (c139x4)
def c139x6 : AC := .seq (.reg [
  ⟨(some 17), .mv (.t 8), none⟩,
  ⟨(some 18), .bin .geq (.t 17) (.k (.int .i64 0)), none⟩,
  ⟨(some 16), .mv (.t 18), none⟩] [2, 3, 4, 6, 8, 16]) (c139x5)
def c139x7 : AC := .block 0 (c139x6)
def c139x8 : AC := .seq (.reg [
  ⟨(some 12), .ld (some 5) (.t 3), none⟩,
  ⟨(some 13), .ld (some 2) (.t 4), none⟩,
  ⟨(some 14), .mv (.t 2), none⟩,
  ⟨(some 15), .call 172 [(.t 12), (.t 13), (.t 14)], none⟩,
  ⟨(some 8), .mv (.t 15), none⟩] [2, 3, 4, 6, 8]) (c139x7)
def c139x9 : AC := .seq (c139x8) (c139x0)
def c139x10 : AC := .seq (.reg [
  ⟨(some 9), .ld (some 5) (.t 3), none⟩,
  ⟨(some 10), .ld (some 2) (.t 4), none⟩,
  ⟨(some 11), .call 171 [(.t 9), (.t 10)], none⟩,
  ⟨none, .st 2 (.t 4) (.t 11), none⟩] [2, 3, 4, 6]) (c139x9)
def c139 : AC := .seq (.reg [
  ⟨(some 3), .new 5 (.t 0), none⟩,
  ⟨(some 4), .new 2 (.t 1), none⟩,
  ⟨(some 6), .zero [(.slice none 0 0), (.slice none 0 0)], none⟩,
  ⟨(some 7), .mv (.k (.int .i64 0)), none⟩] [2, 3, 4, 6]) (c139x10)
theorem k139 : Try.f139.body.bind (compC Try.prog Try.f139.ntmps v139) = some c139 := by kernel_rfl
theorem e139 : enters Try.prog 139 = true := by kernel_rfl
theorem q139 : Try.f139.results.toList.mapM (compRes Try.prog) = some r139 := by kernel_rfl
def v143 : List (Nat × List Nat) := [(0, [1]), (1, [1, 3]), (2, [1, 3, 6]), (3, [1, 3]), (4, [1, 3, 7]), (5, [2]), (6, [1, 3, 12]), (7, [2]), (8, [1, 3, 16]), (9, [2]), (10, [1, 25]), (11, [2]), (12, [1, 49]), (13, [2]), (14, [1, 59]), (15, [2]), (16, [71]), (17, [2]), (18, [2])]
def r143 : List AR := [.t 2]
def c143x0 : AC := .seq (.reg [
  ⟨(some 2), .mv (.k (.int .i64 0)), none⟩] [2]) (.ret)
def c143x1 : AC := .seq (.reg [
  ⟨(some 2), .mv (.k (.int .i64 15)), none⟩] [2]) (.ret)
def c143x2 : AC := .seq (.reg [
  ⟨(some 2), .mv (.k (.int .i64 20)), none⟩] [2]) (.ret)
def c143x3 : AC := .seq (.reg [
  ⟨(some 2), .mv (.k (.int .i64 8)), none⟩] [2]) (.ret)
def c143x4 : AC := .seq (.reg [
  ⟨(some 2), .mv (.k (.int .i64 1)), none⟩] [2]) (.ret)
def c143x5 : AC := .seq (.reg [
  ⟨(some 2), .mv (.k (.int .i64 2)), none⟩] [2]) (.ret)
def c143x6 : AC := .seq (.reg [
  ⟨(some 2), .mv (.k (.int .i64 19)), none⟩] [2]) (.ret)
def c143x7 : AC := .seq (.reg [
  ⟨(some 2), .mv (.k (.int .i64 3)), none⟩] [2]) (.ret)
def c143x8 : AC := .cond (.t 71) (c143x7) (.skip)
def c143x9 : AC := .seq (.reg [
  ⟨(some 72), .fad 1 (.t 1), none⟩,
  ⟨(some 73), .ld none (.t 72), none⟩,
  ⟨(some 74), .bin .eql (.t 73) (.k (.int .i64 0)), none⟩,
  ⟨(some 75), .mv (.t 74), none⟩,
  ⟨(some 76), .fad 1 (.t 1), (some (75, false))⟩,
  ⟨(some 77), .ld none (.t 76), (some (75, false))⟩,
  ⟨(some 78), .bin .eql (.t 77) (.k (.int .i64 1)), (some (75, false))⟩,
  ⟨(some 79), .pick (.t 75) (.k (.bool true)) (.t 78), none⟩,
  ⟨(some 80), .mv (.t 79), none⟩,
  ⟨(some 81), .fad 4 (.t 1), (some (80, true))⟩,
  ⟨(some 82), .ld none (.t 81), (some (80, true))⟩,
  ⟨(some 83), .len (.t 82), (some (80, true))⟩,
  ⟨(some 84), .fad 3 (.t 1), (some (80, true))⟩,
  ⟨(some 85), .ld none (.t 84), (some (80, true))⟩,
  ⟨(some 86), .bin .gtr (.t 83) (.t 85), (some (80, true))⟩,
  ⟨(some 87), .pick (.t 80) (.t 86) (.k (.bool false)), none⟩,
  ⟨(some 88), .mv (.t 87), none⟩,
  ⟨(some 89), .fad 1 (.t 1), (some (88, false))⟩,
  ⟨(some 90), .ld none (.t 89), (some (88, false))⟩,
  ⟨(some 91), .call 177 [(.t 90)], (some (88, false))⟩,
  ⟨(some 92), .not (.t 91), (some (88, false))⟩,
  ⟨(some 93), .mv (.t 92), (some (88, false))⟩,
  ⟨(some 94), .fad 1 (.t 1), (some (93, true))⟩,
  ⟨(some 95), .ld none (.t 94), (some (93, true))⟩,
  ⟨(some 96), .bin .neq (.t 95) (.k (.int .i64 8)), (some (93, true))⟩,
  ⟨(some 97), .pick (.t 93) (.t 96) (.k (.bool false)), (some (88, false))⟩,
  ⟨(some 98), .mv (.t 97), (some (88, false))⟩,
  ⟨(some 99), .fad 4 (.t 1), (some (98, true))⟩,
  ⟨(some 100), .ld none (.t 99), (some (98, true))⟩,
  ⟨(some 101), .len (.t 100), (some (98, true))⟩,
  ⟨(some 102), .bin .gtr (.t 101) (.k (.int .i64 0)), (some (98, true))⟩,
  ⟨(some 103), .pick (.t 98) (.t 102) (.k (.bool false)), (some (88, false))⟩,
  ⟨(some 104), .pick (.t 88) (.k (.bool true)) (.t 103), none⟩,
  ⟨(some 105), .mv (.t 104), none⟩,
  ⟨(some 106), .fad 1 (.t 1), (some (105, false))⟩,
  ⟨(some 107), .ld none (.t 106), (some (105, false))⟩,
  ⟨(some 108), .bin .eql (.t 107) (.k (.int .i64 8)), (some (105, false))⟩,
  ⟨(some 109), .mv (.t 108), (some (105, false))⟩,
  ⟨(some 110), .fad 4 (.t 1), (some (109, true))⟩,
  ⟨(some 111), .ld none (.t 110), (some (109, true))⟩,
  ⟨(some 112), .len (.t 111), (some (109, true))⟩,
  ⟨(some 113), .bin .rem (.t 112) (.k (.int .i64 256)), (some (109, true))⟩,
  ⟨(some 114), .bin .neq (.t 113) (.k (.int .i64 0)), (some (109, true))⟩,
  ⟨(some 115), .pick (.t 109) (.t 114) (.k (.bool false)), (some (105, false))⟩,
  ⟨(some 116), .pick (.t 105) (.k (.bool true)) (.t 115), none⟩,
  ⟨(some 71), .mv (.t 116), none⟩] [71]) (c143x8)
def c143x10 : AC := .cond (.t 59) (c143x6) (c143x9)
def c143x11 : AC := .seq (.reg [
  ⟨(some 60), .fad 2 (.t 1), none⟩,
  ⟨(some 61), .ld none (.t 60), none⟩,
  ⟨(some 62), .bin .lss (.t 61) (.k (.int .i64 0)), none⟩,
  ⟨(some 63), .mv (.t 62), none⟩,
  ⟨(some 64), .fad 2 (.t 1), (some (63, false))⟩,
  ⟨(some 65), .ld none (.t 64), (some (63, false))⟩,
  ⟨(some 66), .fad 3 (.t 1), (some (63, false))⟩,
  ⟨(some 67), .ld none (.t 66), (some (63, false))⟩,
  ⟨(some 68), .bin .sub (.k (.int .i64 65536)) (.t 67), (some (63, false))⟩,
  ⟨(some 69), .bin .gtr (.t 65) (.t 68), (some (63, false))⟩,
  ⟨(some 70), .pick (.t 63) (.k (.bool true)) (.t 69), none⟩,
  ⟨(some 59), .mv (.t 70), none⟩] [1, 59]) (c143x10)
def c143x12 : AC := .cond (.t 49) (c143x5) (c143x11)
def c143x13 : AC := .seq (.reg [
  ⟨(some 50), .fad 3 (.t 1), none⟩,
  ⟨(some 51), .ld none (.t 50), none⟩,
  ⟨(some 52), .bin .gtr (.t 51) (.k (.int .i64 4096)), none⟩,
  ⟨(some 53), .mv (.t 52), none⟩,
  ⟨(some 54), .fad 4 (.t 1), (some (53, false))⟩,
  ⟨(some 55), .ld none (.t 54), (some (53, false))⟩,
  ⟨(some 56), .len (.t 55), (some (53, false))⟩,
  ⟨(some 57), .bin .gtr (.t 56) (.k (.int .i64 4096)), (some (53, false))⟩,
  ⟨(some 58), .pick (.t 53) (.k (.bool true)) (.t 57), none⟩,
  ⟨(some 49), .mv (.t 58), none⟩] [1, 49]) (c143x12)
def c143x14 : AC := .cond (.t 25) (c143x4) (c143x13)
def c143x15 : AC := .seq (.dreg [
  ⟨(some 26), .fad 1 (.t 1), none⟩,
  ⟨(some 27), .ld none (.t 26), none⟩,
  ⟨(some 28), .call 177 [(.t 27)], none⟩,
  ⟨(some 29), .mv (.t 28), none⟩,
  ⟨(some 30), .fad 3 (.t 1), (some (29, true))⟩,
  ⟨(some 31), .ld none (.t 30), (some (29, true))⟩,
  ⟨(some 32), .mv (.t 3), (some (29, true))⟩,
  ⟨(some 33), .bin .lss (.t 31) (.t 32), (some (29, true))⟩,
  ⟨(some 34), .pick (.t 29) (.t 33) (.k (.bool false)), none⟩,
  ⟨(some 35), .mv (.t 34), none⟩,
  ⟨(some 36), .fad 1 (.t 1), (some (35, false))⟩,
  ⟨(some 37), .ld none (.t 36), (some (35, false))⟩,
  ⟨(some 38), .call 177 [(.t 37)], (some (35, false))⟩,
  ⟨(some 39), .not (.t 38), (some (35, false))⟩,
  ⟨(some 40), .mv (.t 39), (some (35, false))⟩,
  ⟨(some 41), .fad 3 (.t 1), (some (40, true))⟩,
  ⟨(some 42), .ld none (.t 41), (some (40, true))⟩,
  ⟨(some 43), .fad 1 (.t 1), (some (40, true))⟩,
  ⟨(some 44), .ld none (.t 43), (some (40, true))⟩,
  ⟨(some 45), .call 178 [(.t 44)], (some (40, true))⟩,
  ⟨(some 46), .bin .neq (.t 42) (.t 45), (some (40, true))⟩,
  ⟨(some 47), .pick (.t 40) (.t 46) (.k (.bool false)), (some (35, false))⟩,
  ⟨(some 48), .pick (.t 35) (.k (.bool true)) (.t 47), none⟩,
  ⟨(some 25), .mv (.t 48), none⟩] [[], [0], [0, 1], [0, 1, 2], [0, 1, 2, 3], [0, 1, 2, 3, 4], [0, 1, 2, 3], [0, 1, 2, 3, 4, 5, 6], [0, 1, 2, 3, 4, 5, 6, 7], [0, 1, 2, 3, 4, 5, 6, 7, 8], [0, 1, 2, 3, 4, 5, 6, 7, 8, 9], [0, 1, 2, 3, 4, 5, 6, 7, 8, 9, 10], [0, 1, 2, 3, 4, 5, 6, 7, 8, 9, 10, 11], [0, 1, 2, 3, 4, 5, 6, 7, 8, 9, 10, 11, 12], [0, 1, 2, 3, 4, 5, 6, 7, 8, 9, 10, 11, 12, 13], [0, 1, 2, 3, 4, 5, 6, 7, 8, 9, 10, 11, 12, 13, 14], [0, 1, 2, 3, 4, 5, 6, 7, 8, 9, 10, 11, 12, 13, 14, 15], [0, 1, 2, 3, 4, 5, 6, 7, 8, 9, 10, 11, 12, 13, 14], [0, 1, 2, 3, 4, 5, 6, 7, 8, 9, 10, 11, 12, 13, 14, 17], [0, 1, 2, 3, 4, 5, 6, 7, 8, 9, 10, 11, 12, 13, 14, 17, 18], [0, 1, 2, 3, 4, 5, 6, 7, 8, 9, 10, 11, 12, 13, 14, 15, 16, 17, 18, 19], [0, 1, 2, 3, 4, 5, 6, 7, 8, 9, 10, 11, 12, 13, 14, 15, 16, 17, 18, 19, 20], [0, 1, 2, 3, 4, 5, 6, 7, 8, 9, 10, 11, 12, 13, 14, 15, 16, 17, 18, 19, 20, 21], [0, 1, 2, 3, 4, 5, 6, 7, 8, 9, 10, 11, 12, 13, 14, 15, 16, 17, 18, 19, 20, 21, 22]] [1, 25]) (c143x14)
def c143x16 : AC := .cond (.t 16) (c143x3) (c143x15)
def c143x17 : AC := .seq (.reg [
  ⟨(some 17), .fad 1 (.t 1), none⟩,
  ⟨(some 18), .ld none (.t 17), none⟩,
  ⟨(some 19), .bin .lss (.t 18) (.k (.int .i64 0)), none⟩,
  ⟨(some 20), .mv (.t 19), none⟩,
  ⟨(some 21), .fad 1 (.t 1), (some (20, false))⟩,
  ⟨(some 22), .ld none (.t 21), (some (20, false))⟩,
  ⟨(some 23), .bin .geq (.t 22) (.k (.int .i64 9)), (some (20, false))⟩,
  ⟨(some 24), .pick (.t 20) (.k (.bool true)) (.t 23), none⟩,
  ⟨(some 16), .mv (.t 24), none⟩] [1, 3, 16]) (c143x16)
def c143x18 : AC := .cond (.t 12) (c143x2) (c143x17)
def c143x19 : AC := .seq (.reg [
  ⟨(some 13), .fad 0 (.t 1), none⟩,
  ⟨(some 14), .ld none (.t 13), none⟩,
  ⟨(some 15), .bin .eql (.t 14) (.k (.string ⟨#[99, 112, 117]⟩)), none⟩,
  ⟨(some 12), .mv (.t 15), none⟩] [1, 3, 12]) (c143x18)
def c143x20 : AC := .cond (.t 7) (c143x1) (c143x19)
def c143x21 : AC := .seq (.reg [
  ⟨(some 8), .fad 0 (.t 1), none⟩,
  ⟨(some 9), .ld none (.t 8), none⟩,
  ⟨(some 10), .call 113 [(.t 9)], none⟩,
  ⟨(some 11), .not (.t 10), none⟩,
  ⟨(some 7), .mv (.t 11), none⟩] [1, 3, 7]) (c143x20)
def c143x22 : AC := .block 0 (c143x21)
def c143x23 : AC := .seq (c143x22) (c143x0)
def c143x24 : AC := .reg [
  ⟨(some 3), .mv (.k (.int .i64 2)), none⟩] [1, 3]
def c143x25 : AC := .cond (.t 6) (c143x24) (.skip)
def c143x26 : AC := .seq (.reg [
  ⟨(some 4), .fad 1 (.t 1), none⟩,
  ⟨(some 5), .ld none (.t 4), none⟩,
  ⟨(some 6), .bin .eql (.t 5) (.k (.int .i64 2)), none⟩] [1, 3, 6]) (c143x25)
def c143x27 : AC := .seq (c143x26) (c143x23)
def c143x28 : AC := .seq (.reg [
  ⟨(some 3), .mv (.k (.int .i64 1)), none⟩] [1, 3]) (c143x27)
def c143 : AC := .seq (.reg [
  ⟨(some 1), .new 5 (.t 0), none⟩,
  ⟨(some 2), .mv (.k (.int .i64 0)), none⟩] [1]) (c143x28)
theorem k143 : Try.f143.body.bind (compC Try.prog Try.f143.ntmps v143) = some c143 := by kernel_rfl
theorem e143 : enters Try.prog 143 = true := by kernel_rfl
theorem q143 : Try.f143.results.toList.mapM (compRes Try.prog) = some r143 := by kernel_rfl
def v144 : List (Nat × List Nat) := [(0, [1]), (1, [2])]
def r144 : List AR := [.t 2]
def c144x0 : AC := .seq (.reg [
  ⟨(some 3), .fad 3 (.t 1), none⟩,
  ⟨(some 4), .ld none (.t 3), none⟩,
  ⟨(some 5), .mnx true [(.t 4), (.k (.int .i64 1))], none⟩,
  ⟨(some 6), .mnx false [(.t 5), (.k (.int .i64 4097))], none⟩,
  ⟨(some 7), .bin .sub (.t 6) (.k (.int .i64 1)), none⟩,
  ⟨(some 8), .mnx true [(.k (.int .i64 1)), (.t 7)], none⟩,
  ⟨(some 2), .mv (.t 8), none⟩] [2]) (.ret)
def c144 : AC := .seq (.reg [
  ⟨(some 1), .new 5 (.t 0), none⟩,
  ⟨(some 2), .mv (.k (.int .i64 0)), none⟩] [1]) (c144x0)
theorem k144 : Try.f144.body.bind (compC Try.prog Try.f144.ntmps v144) = some c144 := by kernel_rfl
theorem e144 : enters Try.prog 144 = true := by kernel_rfl
theorem q144 : Try.f144.results.toList.mapM (compRes Try.prog) = some r144 := by kernel_rfl
def v171 : List (Nat × List Nat) := [(0, [2, 3, 4]), (1, [2, 3, 4, 5]), (2, [2, 3, 4, 5]), (3, [2, 3, 4, 5, 17]), (4, [2, 3, 4, 5]), (5, [2, 3, 4, 5, 23]), (6, [4, 5]), (7, [4])]
def r171 : List AR := [.cell (some 2) 4]
def c171x0 : AC := .seq (.reg [
  ⟨(some 40), .ld (some 2) (.t 5), none⟩,
  ⟨none, .st 2 (.t 4) (.t 40), none⟩] [4]) (.ret)
def c171x1 : AC := .dreg [
  ⟨(some 24), .fad 0 (.t 5), none⟩,
  ⟨(some 25), .ld none (.t 24), none⟩,
  ⟨(some 26), .fad 0 (.t 3), none⟩,
  ⟨(some 27), .ld none (.t 26), none⟩,
  ⟨(some 28), .idx 1 none (.t 27) (.k (.int .i64 0)), none⟩,
  ⟨(some 29), .ld none (.t 28), none⟩,
  ⟨(some 30), .ld (some 5) (.t 2), none⟩,
  ⟨(some 31), .call 77 [(.t 30)], none⟩,
  ⟨(some 32), .bin .rem (.t 29) (.t 31), none⟩,
  ⟨(some 33), .ld (some 5) (.t 2), none⟩,
  ⟨(some 34), .call 77 [(.t 33)], none⟩,
  ⟨(some 35), .bin .add (.t 32) (.t 34), none⟩,
  ⟨(some 36), .ld (some 5) (.t 2), none⟩,
  ⟨(some 37), .call 77 [(.t 36)], none⟩,
  ⟨(some 38), .bin .rem (.t 35) (.t 37), none⟩,
  ⟨(some 39), .idx 1 none (.t 25) (.k (.int .i64 0)), none⟩,
  ⟨none, .st 1 (.t 39) (.t 38), none⟩] [[], [0], [], [2], [2, 3], [2, 3, 4], [], [6], [2, 3, 4, 5, 6, 7], [], [6, 7, 9], [2, 3, 4, 5, 6, 7, 8, 9, 10], [], [6, 7, 9, 10, 12], [2, 3, 4, 5, 6, 7, 8, 9, 10, 11, 12, 13], [0, 1, 2, 3, 4, 5, 6, 7, 8, 9, 10, 11, 12, 13, 14], [0, 1, 2, 3, 4, 5, 6, 7, 8, 9, 10, 11, 12, 13, 14, 15]] [4, 5]
def c171x2 : AC := .cond (.t 23) (c171x1) (.skip)
def c171x3 : AC := .seq (.reg [
  ⟨(some 20), .fad 0 (.t 3), none⟩,
  ⟨(some 21), .ld none (.t 20), none⟩,
  ⟨(some 22), .len (.t 21), none⟩,
  ⟨(some 23), .bin .gtr (.t 22) (.k (.int .i64 0)), none⟩] [2, 3, 4, 5, 23]) (c171x2)
def c171x4 : AC := .seq (.reg [
  ⟨(some 18), .bsl [(.int .i64 0)] 1 [(0, (.k (.int .i64 0)))], none⟩,
  ⟨(some 19), .fad 0 (.t 5), none⟩,
  ⟨none, .st 1 (.t 19) (.t 18), none⟩] [2, 3, 4, 5]) (c171x3)
def c171x5 : AC := .cond (.t 17) (c171x4) (.skip)
def c171x6 : AC := .seq (.reg [
  ⟨(some 15), .fad 1 (.t 2), none⟩,
  ⟨(some 16), .ld none (.t 15), none⟩,
  ⟨(some 17), .bin .eql (.t 16) (.k (.int .i64 2)), none⟩] [2, 3, 4, 5, 17]) (c171x5)
def c171x7 : AC := .seq (c171x6) (c171x0)
def c171x8 : AC := .seq (.reg [
  ⟨(some 10), .fad 1 (.t 5), none⟩,
  ⟨(some 11), .ld none (.t 10), none⟩,
  ⟨(some 12), .fad 1 (.t 3), none⟩,
  ⟨(some 13), .ld none (.t 12), none⟩,
  ⟨(some 14), .copy 1 (.t 11) (.t 13), none⟩] [2, 3, 4, 5]) (c171x7)
def c171x9 : AC := .seq (.reg [
  ⟨(some 6), .ld (some 5) (.t 2), none⟩,
  ⟨(some 7), .call 135 [(.t 6)], none⟩,
  ⟨(some 8), .mksl [(.int .u8 0)] 1 (.t 7) (.t 7), none⟩,
  ⟨(some 9), .build [(.slice none 0 0), (.slice none 0 0)] [(1, 1, (.t 8))], none⟩,
  ⟨(some 5), .zero [(.slice none 0 0), (.slice none 0 0)], none⟩,
  ⟨none, .st 2 (.t 5) (.t 9), none⟩] [2, 3, 4, 5]) (c171x8)
def c171 : AC := .seq (.reg [
  ⟨(some 2), .new 5 (.t 0), none⟩,
  ⟨(some 3), .new 2 (.t 1), none⟩,
  ⟨(some 4), .zero [(.slice none 0 0), (.slice none 0 0)], none⟩] [2, 3, 4]) (c171x9)
theorem k171 : Try.f171.body.bind (compC Try.prog Try.f171.ntmps v171) = some c171 := by kernel_rfl
theorem e171 : enters Try.prog 171 = true := by kernel_rfl
theorem q171 : Try.f171.results.toList.mapM (compRes Try.prog) = some r171 := by kernel_rfl
def v172 : List (Nat × List Nat) := [(0, [2, 3, 4]), (1, [2, 3, 4, 9]), (2, [2, 3, 4, 17]), (3, [6]), (4, [6]), (5, [2, 36]), (6, [6]), (7, [6])]
def r172 : List AR := [.t 6]
def c172x0 : AC := .seq (.reg [
  ⟨(some 37), .mv (.t 2), none⟩,
  ⟨(some 6), .mv (.t 37), none⟩] [6]) (.ret)
def c172x1 : AC := .seq (.reg [
  ⟨(some 6), .mv (.k (.int .i64 (-1))), none⟩] [6]) (.ret)
def c172x2 : AC := .cond (.t 36) (c172x1) (.skip)
def c172x3 : AC := .seq (.reg [
  ⟨(some 28), .mv (.t 2), none⟩,
  ⟨(some 29), .bin .lss (.t 28) (.k (.int .i64 0)), none⟩,
  ⟨(some 30), .mv (.t 29), none⟩,
  ⟨(some 31), .mv (.t 2), (some (30, false))⟩,
  ⟨(some 32), .fad 1 (.t 4), (some (30, false))⟩,
  ⟨(some 33), .ld none (.t 32), (some (30, false))⟩,
  ⟨(some 34), .len (.t 33), (some (30, false))⟩,
  ⟨(some 35), .bin .geq (.t 31) (.t 34), (some (30, false))⟩,
  ⟨(some 36), .pick (.t 30) (.k (.bool true)) (.t 35), none⟩] [2, 36]) (c172x2)
def c172x4 : AC := .seq (c172x3) (c172x0)
def c172x5 : AC := .seq (.dreg [
  ⟨(some 18), .fad 0 (.t 4), none⟩,
  ⟨(some 19), .ld none (.t 18), none⟩,
  ⟨(some 20), .idx 1 none (.t 19) (.k (.int .i64 0)), none⟩,
  ⟨(some 21), .ld none (.t 20), none⟩,
  ⟨(some 22), .ld (some 5) (.t 3), none⟩,
  ⟨(some 23), .call 144 [(.t 22)], none⟩,
  ⟨(some 24), .bin .mul (.t 21) (.t 23), none⟩,
  ⟨(some 25), .mv (.t 2), none⟩,
  ⟨(some 26), .bin .add (.t 24) (.t 25), none⟩,
  ⟨(some 27), .bin .sub (.t 26) (.k (.int .i64 1)), none⟩,
  ⟨(some 6), .mv (.t 27), none⟩] [[], [0], [0, 1], [0, 1, 2], [], [4], [0, 1, 2, 3, 4, 5], [], [0, 1, 2, 3, 4, 5, 6, 7], [0, 1, 2, 3, 4, 5, 6, 7, 8], [0, 1, 2, 3, 4, 5, 6, 7, 8, 9]] [6]) (.ret)
def c172x6 : AC := .seq (.reg [
  ⟨(some 6), .mv (.k (.int .i64 (-1))), none⟩] [6]) (.ret)
def c172x7 : AC := .cond (.t 17) (c172x6) (.skip)
def c172x8 : AC := .seq (.reg [
  ⟨(some 10), .mv (.t 2), none⟩,
  ⟨(some 11), .bin .lss (.t 10) (.k (.int .i64 1)), none⟩,
  ⟨(some 12), .mv (.t 11), none⟩,
  ⟨(some 13), .mv (.t 2), (some (12, false))⟩,
  ⟨(some 14), .ld (some 5) (.t 3), (some (12, false))⟩,
  ⟨(some 15), .call 144 [(.t 14)], (some (12, false))⟩,
  ⟨(some 16), .bin .gtr (.t 13) (.t 15), (some (12, false))⟩,
  ⟨(some 17), .pick (.t 12) (.k (.bool true)) (.t 16), none⟩] [2, 3, 4, 17]) (c172x7)
def c172x9 : AC := .seq (c172x8) (c172x5)
def c172x10 : AC := .cond (.t 9) (c172x9) (.skip)
def c172x11 : AC := .seq (.reg [
  ⟨(some 7), .fad 1 (.t 3), none⟩,
  ⟨(some 8), .ld none (.t 7), none⟩,
  ⟨(some 9), .bin .eql (.t 8) (.k (.int .i64 2)), none⟩] [2, 3, 4, 9]) (c172x10)
def c172x12 : AC := .seq (c172x11) (c172x4)
def c172 : AC := .seq (.reg [
  ⟨(some 3), .new 5 (.t 0), none⟩,
  ⟨(some 4), .new 2 (.t 1), none⟩,
  ⟨(some 6), .mv (.k (.int .i64 0)), none⟩] [2, 3, 4]) (c172x12)
theorem k172 : Try.f172.body.bind (compC Try.prog Try.f172.ntmps v172) = some c172 := by kernel_rfl
theorem e172 : enters Try.prog 172 = true := by kernel_rfl
theorem q172 : Try.f172.results.toList.mapM (compRes Try.prog) = some r172 := by kernel_rfl
def v177 : List (Nat × List Nat) := [(0, [0]), (1, [2])]
def r177 : List AR := [.t 2]
def c177x0 : AC := .seq (.reg [
  ⟨(some 3), .mv (.t 0), none⟩,
  ⟨(some 4), .bin .eql (.t 3) (.k (.int .i64 0)), none⟩,
  ⟨(some 5), .mv (.t 4), none⟩,
  ⟨(some 6), .mv (.t 0), (some (5, false))⟩,
  ⟨(some 7), .bin .eql (.t 6) (.k (.int .i64 1)), (some (5, false))⟩,
  ⟨(some 8), .pick (.t 5) (.k (.bool true)) (.t 7), none⟩,
  ⟨(some 9), .mv (.t 8), none⟩,
  ⟨(some 10), .mv (.t 0), (some (9, false))⟩,
  ⟨(some 11), .bin .eql (.t 10) (.k (.int .i64 2)), (some (9, false))⟩,
  ⟨(some 12), .pick (.t 9) (.k (.bool true)) (.t 11), none⟩,
  ⟨(some 2), .mv (.t 12), none⟩] [2]) (.ret)
def c177 : AC := .seq (.reg [
  ⟨(some 2), .mv (.k (.bool false)), none⟩] [0]) (c177x0)
theorem k177 : Try.f177.body.bind (compC Try.prog Try.f177.ntmps v177) = some c177 := by kernel_rfl
theorem e177 : enters Try.prog 177 = true := by kernel_rfl
theorem q177 : Try.f177.results.toList.mapM (compRes Try.prog) = some r177 := by kernel_rfl
end Go.Proofs.Ytjmmompbmjhkpaa.Code

namespace Go.Proofs.Ytjmmompbmjhkpaa.Code
open Go Go.Proofs.Ytjmmompbmjhkpaa.Calc
set_option maxRecDepth 100000
def v18 : List (Nat × List Nat) := [(0, [0, 1, 2, 3]), (1, [0, 1, 2, 3, 9]), (2, [0, 1, 2, 3, 9]), (3, [0, 1, 2, 3, 9]), (4, [0, 1, 2, 3, 9, 10]), (5, [0, 1, 2, 3, 9, 10]), (6, [0, 1, 2, 3, 9, 10]), (7, [0, 2, 3, 9, 10, 12]), (8, [0, 2, 3, 9, 12, 14]), (9, [0, 2, 3, 9, 12, 14, 15]), (10, [0, 3, 9, 12, 14, 15, 54]), (11, [3, 9, 12, 14, 15]), (12, [8])]
def r18 : List AR := [.t 8]
def c18x0 : AC := .seq (.reg [
  ⟨(some 57), .call 76 [], none⟩,
  ⟨(some 58), .mv (.t 57), none⟩,
  ⟨(some 59), .ld (some 5) (.t 9), (some (58, true))⟩,
  ⟨(some 60), .call 77 [(.t 59)], (some (58, true))⟩,
  ⟨(some 61), .bin .eql (.t 60) (.k (.int .i64 3)), (some (58, true))⟩,
  ⟨(some 62), .pick (.t 58) (.t 61) (.k (.bool false)), none⟩,
  ⟨(some 63), .mv (.t 62), none⟩,
  ⟨(some 64), .mv (.t 12), (some (63, true))⟩,
  ⟨(some 65), .mv (.t 15), (some (63, true))⟩,
  ⟨(some 66), .bin .eql (.t 64) (.t 65), (some (63, true))⟩,
  ⟨(some 67), .pick (.t 63) (.t 66) (.k (.bool false)), none⟩,
  ⟨(some 68), .mv (.t 67), none⟩,
  ⟨(some 69), .mv (.t 14), (some (68, true))⟩,
  ⟨(some 70), .mv (.t 3), (some (68, true))⟩,
  ⟨(some 71), .bin .eql (.t 69) (.t 70), (some (68, true))⟩,
  ⟨(some 72), .pick (.t 68) (.t 71) (.k (.bool false)), none⟩,
  ⟨(some 8), .mv (.t 72), none⟩] [8]) (.ret)
def c18x1 : AC := .reg [
  ⟨(some 55), .mv (.t 0), none⟩,
  ⟨(some 56), .call 35 [(.t 55), (.k (.int .i64 8))], none⟩,
  ⟨(some 15), .mv (.t 56), none⟩] [3, 9, 12, 14, 15]
def c18x2 : AC := .cond (.t 54) (c18x1) (.skip)
def c18x3 : AC := .seq (.reg [
  ⟨(some 52), .mv (.t 2), none⟩,
  ⟨(some 53), .mv (.t 3), none⟩,
  ⟨(some 54), .bin .eql (.t 52) (.t 53), none⟩] [0, 3, 9, 12, 14, 15, 54]) (c18x2)
def c18x4 : AC := .seq (c18x3) (c18x0)
def c18x5 : AC := .seq (.reg [
  ⟨(some 15), .mv (.k (.int .i64 0)), none⟩] [0, 2, 3, 9, 12, 14, 15]) (c18x4)
def c18x6 : AC := .seq (.reg [
  ⟨(some 47), .ld (some 5) (.t 9), none⟩,
  ⟨(some 48), .ld (some 2) (.t 10), none⟩,
  ⟨(some 49), .call 75 [(.t 47), (.t 48), (.k (.int .i64 0))], none⟩,
  ⟨(some 46), .mv (.t 49), none⟩,
  ⟨(some 50), .ext (.t 46) 0, none⟩,
  ⟨(some 51), .ext (.t 46) 1, none⟩,
  ⟨(some 13), .zero [(.slice none 0 0), (.slice none 0 0)], none⟩,
  ⟨none, .st 2 (.t 13) (.t 50), none⟩,
  ⟨(some 14), .mv (.t 51), none⟩] [0, 2, 3, 9, 12, 14]) (c18x5)
def c18x7 : AC := .seq (.reg [
  ⟨(some 40), .ld (some 5) (.t 9), none⟩,
  ⟨(some 41), .ld (some 2) (.t 10), none⟩,
  ⟨(some 42), .mv (.t 1), none⟩,
  ⟨(some 43), .call 75 [(.t 40), (.t 41), (.t 42)], none⟩,
  ⟨(some 39), .mv (.t 43), none⟩,
  ⟨(some 44), .ext (.t 39) 0, none⟩,
  ⟨(some 45), .ext (.t 39) 1, none⟩,
  ⟨(some 11), .zero [(.slice none 0 0), (.slice none 0 0)], none⟩,
  ⟨none, .st 2 (.t 11) (.t 44), none⟩,
  ⟨(some 12), .mv (.t 45), none⟩] [0, 2, 3, 9, 10, 12]) (c18x6)
def c18x8 : AC := .seq (.reg [
  ⟨(some 35), .ld (some 5) (.t 9), none⟩,
  ⟨(some 36), .ld (some 2) (.t 10), none⟩,
  ⟨(some 37), .mv (.t 3), none⟩,
  ⟨(some 38), .call 73 [(.t 35), (.t 36), (.k (.int .i64 0)), (.t 37)], none⟩,
  ⟨none, .st 2 (.t 10) (.t 38), none⟩] [0, 1, 2, 3, 9, 10]) (c18x7)
def c18x9 : AC := .seq (.reg [
  ⟨(some 30), .ld (some 5) (.t 9), none⟩,
  ⟨(some 31), .ld (some 2) (.t 10), none⟩,
  ⟨(some 32), .mv (.t 1), none⟩,
  ⟨(some 33), .mv (.t 0), none⟩,
  ⟨(some 34), .call 73 [(.t 30), (.t 31), (.t 32), (.t 33)], none⟩,
  ⟨none, .st 2 (.t 10) (.t 34), none⟩] [0, 1, 2, 3, 9, 10]) (c18x8)
def c18x10 : AC := .seq (.dreg [
  ⟨(some 25), .ld (some 5) (.t 9), none⟩,
  ⟨(some 26), .ld (some 5) (.t 9), none⟩,
  ⟨(some 27), .call 74 [(.t 26)], none⟩,
  ⟨(some 28), .mv (.t 2), none⟩,
  ⟨(some 29), .call 73 [(.t 25), (.t 27), (.k (.int .i64 0)), (.t 28)], none⟩,
  ⟨(some 10), .zero [(.slice none 0 0), (.slice none 0 0)], none⟩,
  ⟨none, .st 2 (.t 10) (.t 29), none⟩] [[], [], [1], [], [0, 1, 2, 3], [], [0, 1, 2, 3, 4, 5]] [0, 1, 2, 3, 9, 10]) (c18x9)
def c18x11 : AC := .seq (.reg [
  ⟨(some 21), .mv (.t 2), none⟩,
  ⟨(some 22), .call 29 [(.t 21), (.k (.int .i64 3))], none⟩,
  ⟨(some 23), .mv (.t 3), none⟩,
  ⟨(some 24), .call 29 [(.t 23), (.k (.int .i64 3))], none⟩,
  ⟨(some 2), .mv (.t 22), none⟩,
  ⟨(some 3), .mv (.t 24), none⟩] [0, 1, 2, 3, 9]) (c18x10)
def c18x12 : AC := .seq (.reg [
  ⟨(some 18), .mv (.t 1), none⟩,
  ⟨(some 19), .call 29 [(.t 18), (.k (.int .i64 8))], none⟩,
  ⟨(some 20), .bin .add (.k (.int .i64 1)) (.t 19), none⟩,
  ⟨(some 1), .mv (.t 20), none⟩] [0, 1, 2, 3, 9]) (c18x11)
def c18x13 : AC := .seq (.reg [
  ⟨(some 16), .mksl [(.int .u8 0)] 1 (.k (.int .i64 24)) (.k (.int .i64 24)), none⟩,
  ⟨(some 17), .build [(.string ⟨#[]⟩), (.int .i64 0), (.int .i64 0), (.int .i64 0), (.slice none 0 0)] [(0, 1, (.k (.string ⟨#[97]⟩))), (1, 1, (.k (.int .i64 2))), (3, 1, (.k (.int .i64 9))), (4, 1, (.t 16))], none⟩,
  ⟨(some 9), .zero [(.string ⟨#[]⟩), (.int .i64 0), (.int .i64 0), (.int .i64 0), (.slice none 0 0)], none⟩,
  ⟨none, .st 5 (.t 9) (.t 17), none⟩] [0, 1, 2, 3, 9]) (c18x12)
def c18 : AC := .seq (.reg [
  ⟨(some 8), .mv (.k (.bool false)), none⟩] [0, 1, 2, 3]) (c18x13)
theorem k18 : Try.f18.body.bind (compC Try.prog Try.f18.ntmps v18) = some c18 := by kernel_rfl
theorem q18 : Try.f18.results.toList.mapM (compRes Try.prog) = some r18 := by kernel_rfl
def v76 : List (Nat × List Nat) := [(0, []), (1, [1]), (2, [1, 3]), (3, [0])]
def r76 : List AR := [.t 0]
def c76x0 : AC := .seq (.reg [
  ⟨(some 14), .mv (.t 3), none⟩,
  ⟨(some 15), .bin .eql (.t 14) (.k (.int .i64 9)), none⟩,
  ⟨(some 16), .mv (.t 15), none⟩,
  ⟨(some 17), .ld (some 5) (.t 1), (some (16, true))⟩,
  ⟨(some 18), .call 143 [(.t 17)], (some (16, true))⟩,
  ⟨(some 19), .bin .eql (.t 18) (.k (.int .i64 0)), (some (16, true))⟩,
  ⟨(some 20), .pick (.t 16) (.t 19) (.k (.bool false)), none⟩,
  ⟨(some 0), .mv (.t 20), none⟩] [0]) (.ret)
def c76x1 : AC := .seq (.dreg [
  ⟨(some 6), .ld (some 5) (.t 1), none⟩,
  ⟨(some 7), .ld (some 5) (.t 1), none⟩,
  ⟨(some 8), .ld (some 5) (.t 1), none⟩,
  ⟨(some 9), .call 74 [(.t 8)], none⟩,
  ⟨(some 10), .call 73 [(.t 7), (.t 9), (.k (.int .i64 2)), (.k (.int .i64 9))], none⟩,
  ⟨(some 11), .call 75 [(.t 6), (.t 10), (.k (.int .i64 2))], none⟩,
  ⟨(some 5), .mv (.t 11), none⟩,
  ⟨(some 12), .ext (.t 5) 0, none⟩,
  ⟨(some 13), .ext (.t 5) 1, none⟩,
  ⟨(some 2), .zero [(.slice none 0 0), (.slice none 0 0)], none⟩,
  ⟨none, .st 2 (.t 2) (.t 12), none⟩,
  ⟨(some 3), .mv (.t 13), none⟩] [[], [], [], [2], [1, 2, 3], [0, 1, 2, 3, 4], [0, 1, 2, 3, 4, 5], [0, 1, 2, 3, 4, 5, 6], [0, 1, 2, 3, 4, 5, 6], [], [0, 1, 2, 3, 4, 5, 6, 7, 9], [0, 1, 2, 3, 4, 5, 6, 7, 8, 9, 10]] [1, 3]) (c76x0)
def c76x2 : AC := .seq (.reg [
  ⟨(some 4), .build [(.string ⟨#[]⟩), (.int .i64 0), (.int .i64 0), (.int .i64 0), (.slice none 0 0)] [(0, 1, (.k (.string ⟨#[97]⟩))), (1, 1, (.k (.int .i64 0))), (3, 1, (.k (.int .i64 4)))], none⟩,
  ⟨(some 1), .zero [(.string ⟨#[]⟩), (.int .i64 0), (.int .i64 0), (.int .i64 0), (.slice none 0 0)], none⟩,
  ⟨none, .st 5 (.t 1) (.t 4), none⟩] [1]) (c76x1)
def c76 : AC := .seq (.reg [
  ⟨(some 0), .mv (.k (.bool false)), none⟩] []) (c76x2)
theorem k76 : Try.f76.body.bind (compC Try.prog Try.f76.ntmps v76) = some c76 := by kernel_rfl
theorem e76 : enters Try.prog 76 = true := by kernel_rfl
theorem q76 : Try.f76.results.toList.mapM (compRes Try.prog) = some r76 := by kernel_rfl
end Go.Proofs.Ytjmmompbmjhkpaa.Code

