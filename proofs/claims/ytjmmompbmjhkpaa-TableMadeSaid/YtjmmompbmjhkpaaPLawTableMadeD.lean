/- Several texts in one (CdBit, CdBakemake, CdTable, CdSlices, CdStd, CdAlu, CdKAlu, CdKStd, CdCore, CdWhole, CdKCore), for the proof of LawTableMade. No condition beyond those in each lemma. -/
import Derived.Test.YtjmmompbmjhkpaaProg
import Derived.Test.YtjmmompbmjhkpaaPLawTableMadeC
import Derived.KernelRfl
namespace Go.Proofs.Ytjmmompbmjhkpaa.Code
open Go Go.Proofs.Ytjmmompbmjhkpaa.Calc
set_option maxRecDepth 100000
def v35 : List (Nat × List Nat) := [(0, [0, 1]), (1, [4])]
def r35 : List AR := [.t 4]
def c35x0 : AC := .seq (.reg [
  ⟨(some 5), .mv (.t 0), none⟩,
  ⟨(some 6), .mv (.t 1), none⟩,
  ⟨(some 7), .call 92 [(.t 6)], none⟩,
  ⟨(some 8), .bin .shl (.k (.int .i64 1)) (.t 7), none⟩,
  ⟨(some 9), .bin .sub (.t 8) (.k (.int .i64 1)), none⟩,
  ⟨(some 10), .bin .and (.t 5) (.t 9), none⟩,
  ⟨(some 4), .mv (.t 10), none⟩] [4]) (.ret)
def c35 : AC := .seq (.reg [
  ⟨(some 4), .mv (.k (.int .i64 0)), none⟩] [0, 1]) (c35x0)
def v92 : List (Nat × List Nat) := [(0, [0]), (1, [2])]
def r92 : List AR := [.t 2]
def c92x0 : AC := .seq (.reg [
  ⟨(some 3), .mv (.t 0), none⟩,
  ⟨(some 4), .mnx false [(.t 3), (.k (.int .i64 62))], none⟩,
  ⟨(some 5), .mnx true [(.k (.int .i64 0)), (.t 4)], none⟩,
  ⟨(some 2), .mv (.t 5), none⟩] [2]) (.ret)
def c92 : AC := .seq (.reg [
  ⟨(some 2), .mv (.k (.int .i64 0)), none⟩] [0]) (c92x0)
def v95 : List (Nat × List Nat) := [(0, [0, 1, 2, 3]), (1, [0, 1, 2, 3]), (2, [0, 1, 2, 3, 9]), (3, [8])]
def r95 : List AR := [.t 8]
def c95x0 : AC := .seq (.reg [
  ⟨(some 21), .mv (.t 0), none⟩,
  ⟨(some 22), .call 35 [(.t 21), (.k (.int .i64 62))], none⟩,
  ⟨(some 23), .mv (.t 9), none⟩,
  ⟨(some 24), .bin .andNot (.t 22) (.t 23), none⟩,
  ⟨(some 25), .mv (.t 3), none⟩,
  ⟨(some 26), .mv (.t 2), none⟩,
  ⟨(some 27), .call 35 [(.t 25), (.t 26)], none⟩,
  ⟨(some 28), .mv (.t 1), none⟩,
  ⟨(some 29), .bin .shl (.t 27) (.t 28), none⟩,
  ⟨(some 30), .bin .or (.t 24) (.t 29), none⟩,
  ⟨(some 8), .mv (.t 30), none⟩] [8]) (.ret)
def c95x1 : AC := .seq (.reg [
  ⟨(some 16), .mv (.t 2), none⟩,
  ⟨(some 17), .bin .shl (.k (.int .i64 1)) (.t 16), none⟩,
  ⟨(some 18), .bin .sub (.t 17) (.k (.int .i64 1)), none⟩,
  ⟨(some 19), .mv (.t 1), none⟩,
  ⟨(some 20), .bin .shl (.t 18) (.t 19), none⟩,
  ⟨(some 9), .mv (.t 20), none⟩] [0, 1, 2, 3, 9]) (c95x0)
def c95x2 : AC := .seq (.reg [
  ⟨(some 11), .mv (.t 1), none⟩,
  ⟨(some 12), .mv (.t 2), none⟩,
  ⟨(some 13), .call 155 [(.t 11), (.t 12)], none⟩,
  ⟨(some 10), .mv (.t 13), none⟩,
  ⟨(some 14), .ext (.t 10) 0, none⟩,
  ⟨(some 15), .ext (.t 10) 1, none⟩,
  ⟨(some 1), .mv (.t 14), none⟩,
  ⟨(some 2), .mv (.t 15), none⟩] [0, 1, 2, 3]) (c95x1)
def c95 : AC := .seq (.reg [
  ⟨(some 8), .mv (.k (.int .i64 0)), none⟩] [0, 1, 2, 3]) (c95x2)
def v99 : List (Nat × List Nat) := [(0, [0, 1, 2]), (1, [0, 1, 2]), (2, [6])]
def r99 : List AR := [.t 6]
def c99x0 : AC := .seq (.reg [
  ⟨(some 13), .mv (.t 0), none⟩,
  ⟨(some 14), .call 35 [(.t 13), (.k (.int .i64 62))], none⟩,
  ⟨(some 15), .mv (.t 1), none⟩,
  ⟨(some 16), .bin .shr (.t 14) (.t 15), none⟩,
  ⟨(some 17), .mv (.t 2), none⟩,
  ⟨(some 18), .call 35 [(.t 16), (.t 17)], none⟩,
  ⟨(some 6), .mv (.t 18), none⟩] [6]) (.ret)
def c99x1 : AC := .seq (.reg [
  ⟨(some 8), .mv (.t 1), none⟩,
  ⟨(some 9), .mv (.t 2), none⟩,
  ⟨(some 10), .call 155 [(.t 8), (.t 9)], none⟩,
  ⟨(some 7), .mv (.t 10), none⟩,
  ⟨(some 11), .ext (.t 7) 0, none⟩,
  ⟨(some 12), .ext (.t 7) 1, none⟩,
  ⟨(some 1), .mv (.t 11), none⟩,
  ⟨(some 2), .mv (.t 12), none⟩] [0, 1, 2]) (c99x0)
def c99 : AC := .seq (.reg [
  ⟨(some 6), .mv (.k (.int .i64 0)), none⟩] [0, 1, 2]) (c99x1)
def v111 : List (Nat × List Nat) := [(0, [0, 1]), (1, [0, 1]), (2, [0, 1]), (3, [0, 1, 18]), (4, [0]), (5, [4])]
def r111 : List AR := [.t 4]
def c111x0 : AC := .seq (.reg [
  ⟨(some 23), .mv (.t 0), none⟩,
  ⟨(some 4), .mv (.t 23), none⟩] [4]) (.ret)
def c111x1 : AC := .reg [
  ⟨(some 19), .mv (.t 0), none⟩,
  ⟨(some 20), .mv (.t 1), none⟩,
  ⟨(some 21), .bin .shl (.k (.int .i64 1)) (.t 20), none⟩,
  ⟨(some 22), .bin .sub (.t 19) (.t 21), none⟩,
  ⟨(some 0), .mv (.t 22), none⟩] [0]
def c111x2 : AC := .cond (.t 18) (c111x1) (.skip)
def c111x3 : AC := .seq (.reg [
  ⟨(some 10), .mv (.t 1), none⟩,
  ⟨(some 11), .bin .gtr (.t 10) (.k (.int .i64 0)), none⟩,
  ⟨(some 12), .mv (.t 11), none⟩,
  ⟨(some 13), .mv (.t 0), (some (12, true))⟩,
  ⟨(some 14), .mv (.t 1), (some (12, true))⟩,
  ⟨(some 15), .bin .sub (.t 14) (.k (.int .i64 1)), (some (12, true))⟩,
  ⟨(some 16), .bin .shr (.t 13) (.t 15), (some (12, true))⟩,
  ⟨(some 17), .bin .eql (.t 16) (.k (.int .i64 1)), (some (12, true))⟩,
  ⟨(some 18), .pick (.t 12) (.t 17) (.k (.bool false)), none⟩] [0, 1, 18]) (c111x2)
def c111x4 : AC := .seq (c111x3) (c111x0)
def c111x5 : AC := .seq (.reg [
  ⟨(some 7), .mv (.t 0), none⟩,
  ⟨(some 8), .mv (.t 1), none⟩,
  ⟨(some 9), .call 35 [(.t 7), (.t 8)], none⟩,
  ⟨(some 0), .mv (.t 9), none⟩] [0, 1]) (c111x4)
def c111x6 : AC := .seq (.reg [
  ⟨(some 5), .mv (.t 1), none⟩,
  ⟨(some 6), .call 92 [(.t 5)], none⟩,
  ⟨(some 1), .mv (.t 6), none⟩] [0, 1]) (c111x5)
def c111 : AC := .seq (.reg [
  ⟨(some 4), .mv (.k (.int .i64 0)), none⟩] [0, 1]) (c111x6)
def v155 : List (Nat × List Nat) := [(0, [0, 1]), (1, [0, 1]), (2, [4, 5])]
def r155 : List AR := [.t 4, .t 5]
def c155x0 : AC := .seq (.reg [
  ⟨(some 8), .mv (.t 0), none⟩,
  ⟨(some 9), .mv (.t 1), none⟩,
  ⟨(some 10), .mv (.t 0), none⟩,
  ⟨(some 11), .bin .sub (.k (.int .i64 62)) (.t 10), none⟩,
  ⟨(some 12), .mnx false [(.t 9), (.t 11)], none⟩,
  ⟨(some 13), .mnx true [(.k (.int .i64 0)), (.t 12)], none⟩,
  ⟨(some 4), .mv (.t 8), none⟩,
  ⟨(some 5), .mv (.t 13), none⟩] [4, 5]) (.ret)
def c155x1 : AC := .seq (.reg [
  ⟨(some 6), .mv (.t 0), none⟩,
  ⟨(some 7), .call 92 [(.t 6)], none⟩,
  ⟨(some 0), .mv (.t 7), none⟩] [0, 1]) (c155x0)
def c155 : AC := .seq (.reg [
  ⟨(some 4), .mv (.k (.int .i64 0)), none⟩,
  ⟨(some 5), .mv (.k (.int .i64 0)), none⟩] [0, 1]) (c155x1)
def v157 : List (Nat × List Nat) := [(0, [0, 1, 2, 3]), (1, [0, 1, 2, 3]), (2, [3, 10]), (3, [8, 9])]
def r157 : List AR := [.t 8, .t 9]
def c157x0 : AC := .seq (.dreg [
  ⟨(some 23), .mv (.t 10), none⟩,
  ⟨(some 24), .mv (.t 3), none⟩,
  ⟨(some 25), .call 35 [(.t 23), (.t 24)], none⟩,
  ⟨(some 26), .mv (.t 10), none⟩,
  ⟨(some 27), .mv (.t 3), none⟩,
  ⟨(some 28), .bin .shr (.t 26) (.t 27), none⟩,
  ⟨(some 8), .mv (.t 25), none⟩,
  ⟨(some 9), .mv (.t 28), none⟩] [[], [], [0, 1], [], [], [3, 4], [0, 1, 2], [0, 1, 2, 3, 4, 5, 6]] [8, 9]) (.ret)
def c157x1 : AC := .seq (.reg [
  ⟨(some 13), .mv (.t 0), none⟩,
  ⟨(some 14), .mv (.t 3), none⟩,
  ⟨(some 15), .call 35 [(.t 13), (.t 14)], none⟩,
  ⟨(some 16), .mv (.t 1), none⟩,
  ⟨(some 17), .mv (.t 3), none⟩,
  ⟨(some 18), .call 35 [(.t 16), (.t 17)], none⟩,
  ⟨(some 19), .bin .add (.t 15) (.t 18), none⟩,
  ⟨(some 20), .mv (.t 2), none⟩,
  ⟨(some 21), .bin .and (.t 20) (.k (.int .i64 1)), none⟩,
  ⟨(some 22), .bin .add (.t 19) (.t 21), none⟩,
  ⟨(some 10), .mv (.t 22), none⟩] [3, 10]) (c157x0)
def c157x2 : AC := .seq (.reg [
  ⟨(some 11), .mv (.t 3), none⟩,
  ⟨(some 12), .call 92 [(.t 11)], none⟩,
  ⟨(some 3), .mv (.t 12), none⟩] [0, 1, 2, 3]) (c157x1)
def c157 : AC := .seq (.reg [
  ⟨(some 8), .mv (.k (.int .i64 0)), none⟩,
  ⟨(some 9), .mv (.k (.int .i64 0)), none⟩] [0, 1, 2, 3]) (c157x2)
def v160 : List (Nat × List Nat) := [(0, [0, 1, 2, 3]), (1, [0, 1, 2, 3]), (2, [3, 10]), (3, [3, 10, 24]), (4, [8, 9]), (5, [8, 9])]
def r160 : List AR := [.t 8, .t 9]
def c160x0 : AC := .seq (.reg [
  ⟨(some 29), .mv (.t 10), none⟩,
  ⟨(some 8), .mv (.t 29), none⟩,
  ⟨(some 9), .mv (.k (.int .i64 0)), none⟩] [8, 9]) (.ret)
def c160x1 : AC := .seq (.reg [
  ⟨(some 25), .mv (.t 10), none⟩,
  ⟨(some 26), .mv (.t 3), none⟩,
  ⟨(some 27), .bin .shl (.k (.int .i64 1)) (.t 26), none⟩,
  ⟨(some 28), .bin .add (.t 25) (.t 27), none⟩,
  ⟨(some 8), .mv (.t 28), none⟩,
  ⟨(some 9), .mv (.k (.int .i64 1)), none⟩] [8, 9]) (.ret)
def c160x2 : AC := .cond (.t 24) (c160x1) (.skip)
def c160x3 : AC := .seq (.reg [
  ⟨(some 23), .mv (.t 10), none⟩,
  ⟨(some 24), .bin .lss (.t 23) (.k (.int .i64 0)), none⟩] [3, 10, 24]) (c160x2)
def c160x4 : AC := .seq (c160x3) (c160x0)
def c160x5 : AC := .seq (.reg [
  ⟨(some 13), .mv (.t 0), none⟩,
  ⟨(some 14), .mv (.t 3), none⟩,
  ⟨(some 15), .call 35 [(.t 13), (.t 14)], none⟩,
  ⟨(some 16), .mv (.t 1), none⟩,
  ⟨(some 17), .mv (.t 3), none⟩,
  ⟨(some 18), .call 35 [(.t 16), (.t 17)], none⟩,
  ⟨(some 19), .bin .sub (.t 15) (.t 18), none⟩,
  ⟨(some 20), .mv (.t 2), none⟩,
  ⟨(some 21), .bin .and (.t 20) (.k (.int .i64 1)), none⟩,
  ⟨(some 22), .bin .sub (.t 19) (.t 21), none⟩,
  ⟨(some 10), .mv (.t 22), none⟩] [3, 10]) (c160x4)
def c160x6 : AC := .seq (.reg [
  ⟨(some 11), .mv (.t 3), none⟩,
  ⟨(some 12), .call 92 [(.t 11)], none⟩,
  ⟨(some 3), .mv (.t 12), none⟩] [0, 1, 2, 3]) (c160x5)
def c160 : AC := .seq (.reg [
  ⟨(some 8), .mv (.k (.int .i64 0)), none⟩,
  ⟨(some 9), .mv (.k (.int .i64 0)), none⟩] [0, 1, 2, 3]) (c160x6)
def v161 : List (Nat × List Nat) := [(0, [0, 1, 2]), (1, [0, 1, 2]), (2, [0, 2]), (3, [6, 7])]
def r161 : List AR := [.t 6, .t 7]
def c161x0 : AC := .seq (.dreg [
  ⟨(some 17), .mv (.t 0), none⟩,
  ⟨(some 18), .mv (.t 2), none⟩,
  ⟨(some 19), .call 35 [(.t 17), (.t 18)], none⟩,
  ⟨(some 20), .mv (.t 0), none⟩,
  ⟨(some 21), .mv (.t 2), none⟩,
  ⟨(some 22), .bin .shr (.t 20) (.t 21), none⟩,
  ⟨(some 6), .mv (.t 19), none⟩,
  ⟨(some 7), .mv (.t 22), none⟩] [[], [], [0, 1], [], [], [3, 4], [0, 1, 2], [0, 1, 2, 3, 4, 5, 6]] [6, 7]) (.ret)
def c161x1 : AC := .seq (.reg [
  ⟨(some 10), .mv (.t 0), none⟩,
  ⟨(some 11), .mv (.t 2), none⟩,
  ⟨(some 12), .call 35 [(.t 10), (.t 11)], none⟩,
  ⟨(some 13), .bin .shl (.t 12) (.k (.int .u64 1)), none⟩,
  ⟨(some 14), .mv (.t 1), none⟩,
  ⟨(some 15), .bin .and (.t 14) (.k (.int .i64 1)), none⟩,
  ⟨(some 16), .bin .or (.t 13) (.t 15), none⟩,
  ⟨(some 0), .mv (.t 16), none⟩] [0, 2]) (c161x0)
def c161x2 : AC := .seq (.reg [
  ⟨(some 8), .mv (.t 2), none⟩,
  ⟨(some 9), .call 92 [(.t 8)], none⟩,
  ⟨(some 2), .mv (.t 9), none⟩] [0, 1, 2]) (c161x1)
def c161 : AC := .seq (.reg [
  ⟨(some 6), .mv (.k (.int .i64 0)), none⟩,
  ⟨(some 7), .mv (.k (.int .i64 0)), none⟩] [0, 1, 2]) (c161x2)
def v162 : List (Nat × List Nat) := [(0, [0, 1, 2]), (1, [0, 1, 2]), (2, [0]), (3, [6, 7])]
def r162 : List AR := [.t 6, .t 7]
def c162x0 : AC := .seq (.reg [
  ⟨(some 18), .mv (.t 0), none⟩,
  ⟨(some 19), .bin .shr (.t 18) (.k (.int .u64 1)), none⟩,
  ⟨(some 20), .mv (.t 0), none⟩,
  ⟨(some 21), .bin .and (.t 20) (.k (.int .i64 1)), none⟩,
  ⟨(some 6), .mv (.t 19), none⟩,
  ⟨(some 7), .mv (.t 21), none⟩] [6, 7]) (.ret)
def c162x1 : AC := .seq (.dreg [
  ⟨(some 10), .mv (.t 0), none⟩,
  ⟨(some 11), .mv (.t 2), none⟩,
  ⟨(some 12), .call 35 [(.t 10), (.t 11)], none⟩,
  ⟨(some 13), .mv (.t 1), none⟩,
  ⟨(some 14), .bin .and (.t 13) (.k (.int .i64 1)), none⟩,
  ⟨(some 15), .mv (.t 2), none⟩,
  ⟨(some 16), .bin .shl (.t 14) (.t 15), none⟩,
  ⟨(some 17), .bin .or (.t 12) (.t 16), none⟩,
  ⟨(some 0), .mv (.t 17), none⟩] [[], [], [0, 1], [], [3], [], [3, 4, 5], [0, 1, 2, 3, 4, 5, 6], [0, 1, 2, 3, 4, 5, 6, 7]] [0]) (c162x0)
def c162x2 : AC := .seq (.reg [
  ⟨(some 8), .mv (.t 2), none⟩,
  ⟨(some 9), .call 92 [(.t 8)], none⟩,
  ⟨(some 2), .mv (.t 9), none⟩] [0, 1, 2]) (c162x1)
def c162 : AC := .seq (.reg [
  ⟨(some 6), .mv (.k (.int .i64 0)), none⟩,
  ⟨(some 7), .mv (.k (.int .i64 0)), none⟩] [0, 1, 2]) (c162x2)
end Go.Proofs.Ytjmmompbmjhkpaa.Code

namespace Go.Proofs.Ytjmmompbmjhkpaa.Code
open Go Go.Proofs.Ytjmmompbmjhkpaa.Calc
set_option maxRecDepth 100000
def v29 : List (Nat × List Nat) := [(0, [0, 1]), (1, [0, 1]), (2, [0, 1, 9]), (3, [0]), (4, [4])]
def r29 : List AR := [.t 4]
def c29x0 : AC := .seq (.reg [
  ⟨(some 13), .mv (.t 0), none⟩,
  ⟨(some 4), .mv (.t 13), none⟩] [4]) (.ret)
def c29x1 : AC := .reg [
  ⟨(some 10), .mv (.t 0), none⟩,
  ⟨(some 11), .mv (.t 1), none⟩,
  ⟨(some 12), .bin .add (.t 10) (.t 11), none⟩,
  ⟨(some 0), .mv (.t 12), none⟩] [0]
def c29x2 : AC := .cond (.t 9) (c29x1) (.skip)
def c29x3 : AC := .seq (.reg [
  ⟨(some 8), .mv (.t 0), none⟩,
  ⟨(some 9), .bin .lss (.t 8) (.k (.int .i64 0)), none⟩] [0, 1, 9]) (c29x2)
def c29x4 : AC := .seq (.reg [
  ⟨(some 5), .mv (.t 0), none⟩,
  ⟨(some 6), .mv (.t 1), none⟩,
  ⟨(some 7), .bin .rem (.t 5) (.t 6), none⟩,
  ⟨(some 0), .mv (.t 7), none⟩] [0, 1]) (c29x3)
def c29x5 : AC := .seq (c29x4) (c29x0)
def c29 : AC := .seq (.reg [
  ⟨(some 4), .mv (.k (.int .i64 0)), none⟩] [0, 1]) (c29x5)
theorem k29 : Try.f29.body.bind (compC Try.prog Try.f29.ntmps v29) = some c29 := by kernel_rfl
theorem e29 : enters Try.prog 29 = true := by kernel_rfl
theorem q29 : Try.f29.results.toList.mapM (compRes Try.prog) = some r29 := by kernel_rfl
def v44 : List (Nat × List Nat) := [(0, [0, 1]), (1, [1, 5]), (2, [5, 6]), (3, [5, 6, 15, 16]), (4, [5, 6, 15, 16, 17]), (5, [5, 6, 7, 15, 16]), (6, [5, 6, 15, 16]), (7, [5, 6, 15, 16]), (8, [4])]
def r44 : List AR := [.t 4]
def c44x0 : AC := .seq (.reg [
  ⟨(some 26), .mv (.t 6), none⟩,
  ⟨(some 4), .mv (.t 26), none⟩] [4]) (.ret)
def c44x1 : AC := .reg [
  ⟨(some 25), .bin .add (.t 16) (.k (.int .i64 1)), none⟩,
  ⟨(some 16), .mv (.t 25), none⟩] [5, 6, 15, 16]
def c44x2 : AC := .reg [
  ⟨(some 19), .mv (.t 6), none⟩,
  ⟨(some 20), .mv (.t 7), none⟩,
  ⟨(some 21), .mv (.t 5), none⟩,
  ⟨(some 22), .call 56 [(.t 21), (.k (.int .i64 256))], none⟩,
  ⟨(some 23), .cvt .u8 (.t 22), none⟩,
  ⟨(some 24), .idx 1 none (.t 19) (.t 20), none⟩,
  ⟨none, .st 1 (.t 24) (.t 23), none⟩] [5, 6, 15, 16]
def c44x3 : AC := .seq (.reg [
  ⟨(some 18), .mv (.t 16), none⟩,
  ⟨(some 7), .mv (.t 18), none⟩] [5, 6, 7, 15, 16]) (c44x2)
def c44x4 : AC := .block 1 (c44x3)
def c44x5 : AC := .seq (c44x4) (c44x1)
def c44x6 : AC := .cond (.t 17) (.skip) (.exit 0)
def c44x7 : AC := .seq (c44x6) (c44x5)
def c44x8 : AC := .seq (.reg [
  ⟨(some 17), .bin .lss (.t 16) (.t 15), none⟩] [5, 6, 15, 16, 17]) (c44x7)
def c44x9 : AC := .loop (c44x8)
def c44x10 : AC := .block 0 (c44x9)
def c44x11 : AC := .seq (.reg [
  ⟨(some 14), .mv (.t 6), none⟩,
  ⟨(some 15), .len (.t 14), none⟩,
  ⟨(some 16), .mv (.k (.int .i64 0)), none⟩] [5, 6, 15, 16]) (c44x10)
def c44x12 : AC := .seq (c44x11) (c44x0)
def c44x13 : AC := .seq (.reg [
  ⟨(some 11), .mv (.t 1), none⟩,
  ⟨(some 12), .mnx true [(.k (.int .i64 0)), (.t 11)], none⟩,
  ⟨(some 13), .mksl [(.int .u8 0)] 1 (.t 12) (.t 12), none⟩,
  ⟨(some 6), .mv (.t 13), none⟩] [5, 6]) (c44x12)
def c44x14 : AC := .seq (.reg [
  ⟨(some 8), .mv (.t 0), none⟩,
  ⟨(some 9), .build [(.slice none 0 0)] [(0, 1, (.t 8))], none⟩,
  ⟨(some 10), .new 1 (.t 9), none⟩,
  ⟨(some 5), .mv (.t 10), none⟩] [1, 5]) (c44x13)
def c44 : AC := .seq (.reg [
  ⟨(some 4), .mv (.k (.slice none 0 0)), none⟩] [0, 1]) (c44x14)
def v56 : List (Nat × List Nat) := [(0, [0, 1]), (1, [0, 1, 15]), (2, [4]), (3, [0, 1, 5]), (4, [1, 5]), (5, [4])]
def r56 : List AR := [.t 4]
def c56x0 : AC := .seq (.reg [
  ⟨(some 30), .mv (.t 5), none⟩,
  ⟨(some 31), .mv (.t 1), none⟩,
  ⟨(some 32), .call 29 [(.t 30), (.t 31)], none⟩,
  ⟨(some 4), .mv (.t 32), none⟩] [4]) (.ret)
def c56x1 : AC := .seq (.reg [
  ⟨(some 22), .mv (.t 0), none⟩,
  ⟨(some 23), .mv (.t 0), none⟩,
  ⟨(some 24), .nilc (.t 23), none⟩,
  ⟨(some 25), .fad 0 (.t 24), none⟩,
  ⟨(some 26), .ld none (.t 25), none⟩,
  ⟨(some 27), .slc 1 (.t 26) (some (.k (.int .i64 1))) none, none⟩,
  ⟨(some 28), .nilc (.t 22), none⟩,
  ⟨(some 29), .fad 0 (.t 28), none⟩,
  ⟨none, .st 1 (.t 29) (.t 27), none⟩] [1, 5]) (c56x0)
def c56x2 : AC := .seq (.reg [
  ⟨(some 16), .mv (.t 0), none⟩,
  ⟨(some 17), .nilc (.t 16), none⟩,
  ⟨(some 18), .fad 0 (.t 17), none⟩,
  ⟨(some 19), .ld none (.t 18), none⟩,
  ⟨(some 20), .idx 1 none (.t 19) (.k (.int .i64 0)), none⟩,
  ⟨(some 21), .ld none (.t 20), none⟩,
  ⟨(some 5), .mv (.t 21), none⟩] [0, 1, 5]) (c56x1)
def c56x3 : AC := .seq (.reg [
  ⟨(some 4), .mv (.k (.int .i64 0)), none⟩] [4]) (.ret)
def c56x4 : AC := .cond (.t 15) (c56x3) (.skip)
def c56x5 : AC := .seq (.reg [
  ⟨(some 6), .mv (.t 1), none⟩,
  ⟨(some 7), .bin .lss (.t 6) (.k (.int .i64 1)), none⟩,
  ⟨(some 8), .mv (.t 7), none⟩,
  ⟨(some 9), .mv (.t 0), (some (8, false))⟩,
  ⟨(some 10), .nilc (.t 9), (some (8, false))⟩,
  ⟨(some 11), .fad 0 (.t 10), (some (8, false))⟩,
  ⟨(some 12), .ld none (.t 11), (some (8, false))⟩,
  ⟨(some 13), .len (.t 12), (some (8, false))⟩,
  ⟨(some 14), .bin .eql (.t 13) (.k (.int .i64 0)), (some (8, false))⟩,
  ⟨(some 15), .pick (.t 8) (.k (.bool true)) (.t 14), none⟩] [0, 1, 15]) (c56x4)
def c56x6 : AC := .seq (c56x5) (c56x2)
def c56 : AC := .seq (.reg [
  ⟨(some 4), .mv (.k (.int .i64 0)), none⟩] [0, 1]) (c56x6)
theorem k56 : Try.f56.body.bind (compC Try.prog Try.f56.ntmps v56) = some c56 := by kernel_rfl
theorem e56 : enters Try.prog 56 = true := by kernel_rfl
theorem q56 : Try.f56.results.toList.mapM (compRes Try.prog) = some r56 := by kernel_rfl
def v58 : List (Nat × List Nat) := [(0, [0, 2]), (1, [2, 3]), (2, [2, 3, 4]), (3, [2, 3, 4, 5]), (4, [2, 3, 4, 5, 21, 22]), (5, [2, 3, 4, 5, 21, 22, 23]), (6, [2, 3, 4, 5, 6, 21, 22]), (7, [2, 3, 4, 5, 6, 21, 22]), (8, [2, 3, 4, 5, 6, 7, 21, 22]), (9, [2, 3, 4, 5, 6, 7, 8, 21, 22]), (10, [2, 3, 4, 5, 21, 22]), (11, [2, 3, 4, 5, 21, 22]), (12, [2, 4]), (13, [2])]
def r58 : List AR := [.cell (some 5) 2]
def c58x0 : AC := .seq (.reg [
  ⟨(some 63), .ld (some 5) (.t 4), none⟩,
  ⟨none, .st 5 (.t 2) (.t 63), none⟩] [2]) (.ret)
def c58x1 : AC := .seq (.reg [
  ⟨(some 54), .mv (.t 3), none⟩,
  ⟨(some 55), .call 112 [(.t 54), (.k (.int .i64 0))], none⟩,
  ⟨(some 56), .mv (.t 3), none⟩,
  ⟨(some 57), .call 112 [(.t 56), (.k (.int .i64 0))], none⟩,
  ⟨(some 58), .mv (.t 3), none⟩,
  ⟨(some 59), .call 112 [(.t 58), (.k (.int .i64 0))], none⟩,
  ⟨(some 60), .fad 2 (.t 4), none⟩,
  ⟨none, .st 1 (.t 60) (.t 55), none⟩,
  ⟨(some 61), .fad 3 (.t 4), none⟩,
  ⟨none, .st 1 (.t 61) (.t 57), none⟩,
  ⟨(some 62), .fad 4 (.t 4), none⟩,
  ⟨none, .st 1 (.t 62) (.t 59), none⟩] [2, 4]) (c58x0)
def c58x2 : AC := .reg [
  ⟨(some 53), .bin .add (.t 22) (.k (.int .i64 1)), none⟩,
  ⟨(some 22), .mv (.t 53), none⟩] [2, 3, 4, 5, 21, 22]
def c58x3 : AC := .dreg [
  ⟨(some 36), .fad 1 (.t 4), none⟩,
  ⟨(some 37), .ld none (.t 36), none⟩,
  ⟨(some 38), .mv (.t 5), none⟩,
  ⟨(some 39), .bin .sub (.t 38) (.k (.int .i64 1)), none⟩,
  ⟨(some 40), .mv (.t 6), none⟩,
  ⟨(some 41), .bin .add (.k (.int .i64 97)) (.t 40), none⟩,
  ⟨(some 42), .cvt .i32 (.t 41), none⟩,
  ⟨(some 43), .i2s (.t 42), none⟩,
  ⟨(some 44), .bin .add (.k (.string ⟨#[105, 110, 45]⟩)) (.t 43), none⟩,
  ⟨(some 45), .mv (.t 7), none⟩,
  ⟨(some 46), .mv (.t 3), none⟩,
  ⟨(some 47), .mv (.t 8), none⟩,
  ⟨(some 48), .call 112 [(.t 46), (.t 47)], none⟩,
  ⟨(some 49), .build [(.int .i64 0), (.string ⟨#[]⟩), (.int .i64 0), (.slice none 0 0)] [(0, 1, (.t 39)), (1, 1, (.t 44)), (2, 1, (.t 45)), (3, 1, (.t 48))], none⟩,
  ⟨(some 50), .bsl [(.int .i64 0), (.string ⟨#[]⟩), (.int .i64 0), (.slice none 0 0)] 1 [(0, (.t 49))], none⟩,
  ⟨(some 51), .app 4 56 (.t 37) (.t 50), none⟩,
  ⟨(some 52), .fad 1 (.t 4), none⟩,
  ⟨none, .st 1 (.t 52) (.t 51), none⟩] [[], [0], [], [2], [], [4], [4, 5], [4, 5, 6], [4, 5, 6, 7], [], [], [], [10, 11], [2, 3, 4, 5, 6, 7, 8, 9, 10, 11, 12], [2, 3, 4, 5, 6, 7, 8, 9, 10, 11, 12, 13], [0, 1, 2, 3, 4, 5, 6, 7, 8, 9, 10, 11, 12, 13, 14], [0, 1, 2, 3, 4, 5, 6, 7, 8, 9, 10, 11, 12, 13, 14, 15], [0, 1, 2, 3, 4, 5, 6, 7, 8, 9, 10, 11, 12, 13, 14, 15, 16]] [2, 3, 4, 5, 21, 22]
def c58x4 : AC := .seq (.reg [
  ⟨(some 32), .bsl [(.int .i64 0)] 9 [(0, (.k (.int .i64 0))), (1, (.k (.int .i64 1))), (2, (.k (.int .i64 1))), (3, (.k (.int .i64 1))), (4, (.k (.int .i64 2))), (5, (.k (.int .i64 2))), (6, (.k (.int .i64 2))), (7, (.k (.int .i64 1))), (8, (.k (.int .i64 1)))], none⟩,
  ⟨(some 33), .mv (.t 7), none⟩,
  ⟨(some 34), .idx 1 none (.t 32) (.t 33), none⟩,
  ⟨(some 35), .ld none (.t 34), none⟩,
  ⟨(some 8), .mv (.t 35), none⟩] [2, 3, 4, 5, 6, 7, 8, 21, 22]) (c58x3)
def c58x5 : AC := .seq (.reg [
  ⟨(some 30), .mv (.t 3), none⟩,
  ⟨(some 31), .call 56 [(.t 30), (.k (.int .i64 9))], none⟩,
  ⟨(some 7), .mv (.t 31), none⟩] [2, 3, 4, 5, 6, 7, 21, 22]) (c58x4)
def c58x6 : AC := .seq (.reg [
  ⟨(some 25), .mv (.t 5), none⟩,
  ⟨(some 26), .mv (.t 3), none⟩,
  ⟨(some 27), .call 56 [(.t 26), (.k (.int .i64 30))], none⟩,
  ⟨(some 28), .bin .add (.k (.int .i64 1)) (.t 27), none⟩,
  ⟨(some 29), .bin .add (.t 25) (.t 28), none⟩,
  ⟨(some 5), .mv (.t 29), none⟩] [2, 3, 4, 5, 6, 21, 22]) (c58x5)
def c58x7 : AC := .seq (.reg [
  ⟨(some 24), .mv (.t 22), none⟩,
  ⟨(some 6), .mv (.t 24), none⟩] [2, 3, 4, 5, 6, 21, 22]) (c58x6)
def c58x8 : AC := .block 1 (c58x7)
def c58x9 : AC := .seq (c58x8) (c58x2)
def c58x10 : AC := .cond (.t 23) (.skip) (.exit 0)
def c58x11 : AC := .seq (c58x10) (c58x9)
def c58x12 : AC := .seq (.reg [
  ⟨(some 23), .bin .lss (.t 22) (.t 21), none⟩] [2, 3, 4, 5, 21, 22, 23]) (c58x11)
def c58x13 : AC := .loop (c58x12)
def c58x14 : AC := .block 0 (c58x13)
def c58x15 : AC := .seq (.reg [
  ⟨(some 19), .mv (.t 3), none⟩,
  ⟨(some 20), .call 56 [(.t 19), (.k (.int .i64 8))], none⟩,
  ⟨(some 21), .bin .add (.k (.int .i64 1)) (.t 20), none⟩,
  ⟨(some 22), .mv (.k (.int .i64 0)), none⟩] [2, 3, 4, 5, 21, 22]) (c58x14)
def c58x16 : AC := .seq (c58x15) (c58x1)
def c58x17 : AC := .seq (.reg [
  ⟨(some 5), .mv (.k (.int .i64 0)), none⟩] [2, 3, 4, 5]) (c58x16)
def c58x18 : AC := .seq (.reg [
  ⟨(some 12), .mv (.t 3), none⟩,
  ⟨(some 13), .call 56 [(.t 12), (.k (.int .i64 26))], none⟩,
  ⟨(some 14), .bin .add (.k (.int .i64 97)) (.t 13), none⟩,
  ⟨(some 15), .cvt .i32 (.t 14), none⟩,
  ⟨(some 16), .i2s (.t 15), none⟩,
  ⟨(some 17), .bin .add (.k (.string ⟨#[99, 112, 117, 45]⟩)) (.t 16), none⟩,
  ⟨(some 18), .build [(.string ⟨#[]⟩), (.slice none 0 0), (.slice none 0 0), (.slice none 0 0), (.slice none 0 0)] [(0, 1, (.t 17))], none⟩,
  ⟨(some 4), .zero [(.string ⟨#[]⟩), (.slice none 0 0), (.slice none 0 0), (.slice none 0 0), (.slice none 0 0)], none⟩,
  ⟨none, .st 5 (.t 4) (.t 18), none⟩] [2, 3, 4]) (c58x17)
def c58x19 : AC := .seq (.reg [
  ⟨(some 9), .mv (.t 0), none⟩,
  ⟨(some 10), .build [(.slice none 0 0)] [(0, 1, (.t 9))], none⟩,
  ⟨(some 11), .new 1 (.t 10), none⟩,
  ⟨(some 3), .mv (.t 11), none⟩] [2, 3]) (c58x18)
def c58 : AC := .seq (.reg [
  ⟨(some 2), .zero [(.string ⟨#[]⟩), (.slice none 0 0), (.slice none 0 0), (.slice none 0 0), (.slice none 0 0)], none⟩] [0, 2]) (c58x19)
theorem k58 : Try.f58.body.bind (compC Try.prog Try.f58.ntmps v58) = some c58 := by kernel_rfl
theorem e58 : enters Try.prog 58 = true := by kernel_rfl
theorem q58 : Try.f58.results.toList.mapM (compRes Try.prog) = some r58 := by kernel_rfl
def v112 : List (Nat × List Nat) := [(0, [0, 1]), (1, [0, 1, 5]), (2, [0, 5, 8, 9]), (3, [0, 5, 8, 9, 10]), (4, [0, 5, 8, 9]), (5, [0, 5, 8, 9]), (6, [0, 5, 19, 20]), (7, [0, 5, 19, 20, 21]), (8, [0, 5, 6, 19, 20]), (9, [0, 5, 6, 19, 20, 27]), (10, [0, 5, 6, 19, 20]), (11, [0, 5, 19, 20]), (12, [0, 5, 19, 20]), (13, [0, 5, 41, 42]), (14, [0, 5, 41, 42, 43]), (15, [0, 5, 7, 41, 42]), (16, [0, 5, 7, 41, 42, 46, 47]), (17, [0, 5, 7, 41, 42, 46, 47, 48]), (18, [0, 5, 7, 41, 42, 46, 47]), (19, [0, 5, 7, 41, 42, 46, 47]), (20, [0, 5, 41, 42]), (21, [4])]
def r112 : List AR := [.t 4]
def c112x0 : AC := .seq (.reg [
  ⟨(some 64), .mv (.t 5), none⟩,
  ⟨(some 4), .mv (.t 64), none⟩] [4]) (.ret)
def c112x1 : AC := .reg [
  ⟨(some 63), .bin .add (.t 42) (.k (.int .i64 1)), none⟩,
  ⟨(some 42), .mv (.t 63), none⟩] [0, 5, 41, 42]
def c112x2 : AC := .reg [
  ⟨(some 62), .bin .add (.t 47) (.k (.int .i64 1)), none⟩,
  ⟨(some 47), .mv (.t 62), none⟩] [0, 5, 7, 41, 42, 46, 47]
def c112x3 : AC := .dreg [
  ⟨(some 49), .mv (.t 5), none⟩,
  ⟨(some 50), .mv (.t 7), none⟩,
  ⟨(some 51), .mv (.t 5), none⟩,
  ⟨(some 52), .mv (.t 7), none⟩,
  ⟨(some 53), .idx 4 none (.t 51) (.t 52), none⟩,
  ⟨(some 54), .fad 3 (.t 53), none⟩,
  ⟨(some 55), .ld none (.t 54), none⟩,
  ⟨(some 56), .mv (.t 0), none⟩,
  ⟨(some 57), .call 163 [(.t 56)], none⟩,
  ⟨(some 58), .bsl [(.int .i64 0), (.int .i64 0), (.int .i64 0), (.int .i64 0)] 1 [(0, (.t 57))], none⟩,
  ⟨(some 59), .app 4 32 (.t 55) (.t 58), none⟩,
  ⟨(some 60), .idx 4 none (.t 49) (.t 50), none⟩,
  ⟨(some 61), .fad 3 (.t 60), none⟩,
  ⟨none, .st 1 (.t 61) (.t 59), none⟩] [[], [], [], [], [2, 3], [2, 3, 4], [2, 3, 4, 5], [], [7], [7, 8], [2, 3, 4, 5, 6, 7, 8, 9], [0, 1, 2, 3, 4, 5, 6, 7, 8, 9, 10], [0, 1, 2, 3, 4, 5, 6, 7, 8, 9, 10, 11], [0, 1, 2, 3, 4, 5, 6, 7, 8, 9, 10, 11, 12]] [0, 5, 7, 41, 42, 46, 47]
def c112x4 : AC := .block 7 (c112x3)
def c112x5 : AC := .seq (c112x4) (c112x2)
def c112x6 : AC := .cond (.t 48) (.skip) (.exit 6)
def c112x7 : AC := .seq (c112x6) (c112x5)
def c112x8 : AC := .seq (.reg [
  ⟨(some 48), .bin .lss (.t 47) (.t 46), none⟩] [0, 5, 7, 41, 42, 46, 47, 48]) (c112x7)
def c112x9 : AC := .loop (c112x8)
def c112x10 : AC := .block 6 (c112x9)
def c112x11 : AC := .seq (.reg [
  ⟨(some 45), .mv (.t 0), none⟩,
  ⟨(some 46), .call 56 [(.t 45), (.k (.int .i64 3))], none⟩,
  ⟨(some 47), .mv (.k (.int .i64 0)), none⟩] [0, 5, 7, 41, 42, 46, 47]) (c112x10)
def c112x12 : AC := .seq (.reg [
  ⟨(some 44), .mv (.t 42), none⟩,
  ⟨(some 7), .mv (.t 44), none⟩] [0, 5, 7, 41, 42]) (c112x11)
def c112x13 : AC := .block 5 (c112x12)
def c112x14 : AC := .seq (c112x13) (c112x1)
def c112x15 : AC := .cond (.t 43) (.skip) (.exit 4)
def c112x16 : AC := .seq (c112x15) (c112x14)
def c112x17 : AC := .seq (.reg [
  ⟨(some 43), .bin .lss (.t 42) (.t 41), none⟩] [0, 5, 41, 42, 43]) (c112x16)
def c112x18 : AC := .loop (c112x17)
def c112x19 : AC := .block 4 (c112x18)
def c112x20 : AC := .seq (.reg [
  ⟨(some 40), .mv (.t 5), none⟩,
  ⟨(some 41), .len (.t 40), none⟩,
  ⟨(some 42), .mv (.k (.int .i64 0)), none⟩] [0, 5, 41, 42]) (c112x19)
def c112x21 : AC := .seq (c112x20) (c112x0)
def c112x22 : AC := .reg [
  ⟨(some 39), .bin .add (.t 20) (.k (.int .i64 1)), none⟩,
  ⟨(some 20), .mv (.t 39), none⟩] [0, 5, 19, 20]
def c112x23 : AC := .reg [
  ⟨(some 35), .mv (.t 5), none⟩,
  ⟨(some 36), .ld (some 4) (.t 6), none⟩,
  ⟨(some 37), .bsl [(.int .i64 0), (.int .i64 0), (.int .i64 0), (.slice none 0 0)] 1 [(0, (.t 36))], none⟩,
  ⟨(some 38), .app 4 48 (.t 35) (.t 37), none⟩,
  ⟨(some 5), .mv (.t 38), none⟩] [0, 5, 19, 20]
def c112x24 : AC := .reg [
  ⟨(some 28), .mv (.t 0), none⟩,
  ⟨(some 29), .call 56 [(.t 28), (.k (.int .i64 11))], none⟩,
  ⟨(some 30), .bin .add (.k (.int .i64 1)) (.t 29), none⟩,
  ⟨(some 31), .mv (.t 0), none⟩,
  ⟨(some 32), .call 56 [(.t 31), (.k (.int .i64 7))], none⟩,
  ⟨(some 33), .fad 1 (.t 6), none⟩,
  ⟨none, .st 1 (.t 33) (.t 30), none⟩,
  ⟨(some 34), .fad 2 (.t 6), none⟩,
  ⟨none, .st 1 (.t 34) (.t 32), none⟩] [0, 5, 6, 19, 20]
def c112x25 : AC := .cond (.t 27) (c112x24) (.skip)
def c112x26 : AC := .seq (.reg [
  ⟨(some 25), .fad 0 (.t 6), none⟩,
  ⟨(some 26), .ld none (.t 25), none⟩,
  ⟨(some 27), .bin .neq (.t 26) (.k (.int .i64 0)), none⟩] [0, 5, 6, 19, 20, 27]) (c112x25)
def c112x27 : AC := .seq (c112x26) (c112x23)
def c112x28 : AC := .seq (.reg [
  ⟨(some 22), .mv (.t 0), none⟩,
  ⟨(some 23), .call 56 [(.t 22), (.k (.int .i64 3))], none⟩,
  ⟨(some 24), .build [(.int .i64 0), (.int .i64 0), (.int .i64 0), (.slice none 0 0)] [(0, 1, (.t 23))], none⟩,
  ⟨(some 6), .zero [(.int .i64 0), (.int .i64 0), (.int .i64 0), (.slice none 0 0)], none⟩,
  ⟨none, .st 4 (.t 6) (.t 24), none⟩] [0, 5, 6, 19, 20]) (c112x27)
def c112x29 : AC := .block 3 (c112x28)
def c112x30 : AC := .seq (c112x29) (c112x22)
def c112x31 : AC := .cond (.t 21) (.skip) (.exit 2)
def c112x32 : AC := .seq (c112x31) (c112x30)
def c112x33 : AC := .seq (.reg [
  ⟨(some 21), .bin .lss (.t 20) (.t 19), none⟩] [0, 5, 19, 20, 21]) (c112x32)
def c112x34 : AC := .loop (c112x33)
def c112x35 : AC := .block 2 (c112x34)
def c112x36 : AC := .seq (.reg [
  ⟨(some 18), .mv (.t 0), none⟩,
  ⟨(some 19), .call 56 [(.t 18), (.k (.int .i64 4))], none⟩,
  ⟨(some 20), .mv (.k (.int .i64 0)), none⟩] [0, 5, 19, 20]) (c112x35)
def c112x37 : AC := .seq (c112x36) (c112x21)
def c112x38 : AC := .reg [
  ⟨(some 17), .bin .add (.t 9) (.k (.int .i64 1)), none⟩,
  ⟨(some 9), .mv (.t 17), none⟩] [0, 5, 8, 9]
def c112x39 : AC := .reg [
  ⟨(some 11), .mv (.t 5), none⟩,
  ⟨(some 12), .mv (.t 0), none⟩,
  ⟨(some 13), .call 56 [(.t 12), (.k (.int .i64 7))], none⟩,
  ⟨(some 14), .build [(.int .i64 0), (.int .i64 0), (.int .i64 0), (.slice none 0 0)] [(0, 1, (.k (.int .i64 1))), (1, 1, (.k (.int .i64 0))), (2, 1, (.t 13))], none⟩,
  ⟨(some 15), .bsl [(.int .i64 0), (.int .i64 0), (.int .i64 0), (.slice none 0 0)] 1 [(0, (.t 14))], none⟩,
  ⟨(some 16), .app 4 48 (.t 11) (.t 15), none⟩,
  ⟨(some 5), .mv (.t 16), none⟩] [0, 5, 8, 9]
def c112x40 : AC := .block 1 (c112x39)
def c112x41 : AC := .seq (c112x40) (c112x38)
def c112x42 : AC := .cond (.t 10) (.skip) (.exit 0)
def c112x43 : AC := .seq (c112x42) (c112x41)
def c112x44 : AC := .seq (.reg [
  ⟨(some 10), .bin .lss (.t 9) (.t 8), none⟩] [0, 5, 8, 9, 10]) (c112x43)
def c112x45 : AC := .loop (c112x44)
def c112x46 : AC := .block 0 (c112x45)
def c112x47 : AC := .seq (.reg [
  ⟨(some 8), .mv (.t 1), none⟩,
  ⟨(some 9), .mv (.k (.int .i64 0)), none⟩] [0, 5, 8, 9]) (c112x46)
def c112x48 : AC := .seq (c112x47) (c112x37)
def c112x49 : AC := .seq (.reg [
  ⟨(some 5), .mv (.k (.slice none 0 0)), none⟩] [0, 1, 5]) (c112x48)
def c112 : AC := .seq (.reg [
  ⟨(some 4), .mv (.k (.slice none 0 0)), none⟩] [0, 1]) (c112x49)
theorem k112 : Try.f112.body.bind (compC Try.prog Try.f112.ntmps v112) = some c112 := by kernel_rfl
theorem e112 : enters Try.prog 112 = true := by kernel_rfl
theorem q112 : Try.f112.results.toList.mapM (compRes Try.prog) = some r112 := by kernel_rfl
def v163 : List (Nat × List Nat) := [(0, [0, 2]), (1, [0, 2, 3, 4]), (2, [0, 2, 3, 4, 5]), (3, [0, 2, 3, 4, 5, 13]), (4, [0, 2, 3, 4, 5, 13, 14]), (5, [2]), (6, [0, 2, 3, 4, 5, 13, 17]), (7, [2]), (8, [0, 2, 3, 4, 5, 13, 24]), (9, [2]), (10, [0, 2, 3, 4, 5, 13, 31]), (11, [0, 2, 3, 4, 5, 13, 31]), (12, [2]), (13, [0, 2, 3, 4, 5, 13, 38]), (14, [0, 2, 3, 4, 5, 13, 38]), (15, [0, 2, 3, 4, 5, 13, 38]), (16, [0, 2, 3, 4, 5, 13, 38]), (17, [2]), (18, [0, 2, 3, 4, 5, 13, 47]), (19, [0, 2, 3, 4, 5, 13, 47]), (20, [2]), (21, [0, 2, 3, 5, 13, 54]), (22, [2]), (23, [0, 2, 3, 5, 13, 62]), (24, [0, 2, 3, 5, 13, 62]), (25, [0, 2, 3, 5, 13, 62]), (26, [0, 2, 3, 5, 13, 62]), (27, [0, 2, 3, 5, 13, 62]), (28, [0, 2, 3, 5, 62]), (29, [2]), (30, [2])]
def r163 : List AR := [.cell (some 4) 2]
def c163x0 : AC := .seq (.reg [
  ⟨(some 74), .mv (.t 5), none⟩,
  ⟨(some 75), .mv (.t 3), none⟩,
  ⟨(some 76), .build [(.int .i64 0), (.int .i64 0), (.int .i64 0), (.int .i64 0)] [(0, 1, (.t 74)), (1, 1, (.t 75))], none⟩,
  ⟨none, .st 4 (.t 2) (.t 76), none⟩] [2]) (.ret)
def c163x1 : AC := .seq (.reg [
  ⟨(some 16), .build [(.int .i64 0), (.int .i64 0), (.int .i64 0), (.int .i64 0)] [], none⟩,
  ⟨none, .st 4 (.t 2) (.t 16), none⟩] [2]) (.ret)
def c163x2 : AC := .seq (.reg [
  ⟨(some 19), .mv (.t 5), none⟩,
  ⟨(some 20), .mv (.t 3), none⟩,
  ⟨(some 21), .mv (.t 0), none⟩,
  ⟨(some 22), .call 56 [(.t 21), (.k (.int .i64 7))], none⟩,
  ⟨(some 23), .build [(.int .i64 0), (.int .i64 0), (.int .i64 0), (.int .i64 0)] [(0, 1, (.t 19)), (1, 1, (.t 20)), (2, 1, (.t 22))], none⟩,
  ⟨none, .st 4 (.t 2) (.t 23), none⟩] [2]) (.ret)
def c163x3 : AC := .seq (.reg [
  ⟨(some 26), .mv (.t 5), none⟩,
  ⟨(some 27), .mv (.t 3), none⟩,
  ⟨(some 28), .mv (.t 0), none⟩,
  ⟨(some 29), .call 56 [(.t 28), (.k (.int .i64 256))], none⟩,
  ⟨(some 30), .build [(.int .i64 0), (.int .i64 0), (.int .i64 0), (.int .i64 0)] [(0, 1, (.t 26)), (1, 1, (.t 27)), (3, 1, (.t 29))], none⟩,
  ⟨none, .st 4 (.t 2) (.t 30), none⟩] [2]) (.ret)
def c163x4 : AC := .seq (.reg [
  ⟨(some 34), .mv (.t 5), none⟩,
  ⟨(some 35), .mv (.t 0), none⟩,
  ⟨(some 36), .call 56 [(.t 35), (.k (.int .i64 256))], none⟩,
  ⟨(some 37), .build [(.int .i64 0), (.int .i64 0), (.int .i64 0), (.int .i64 0)] [(0, 1, (.t 34)), (3, 1, (.t 36))], none⟩,
  ⟨none, .st 4 (.t 2) (.t 37), none⟩] [2]) (.ret)
def c163x5 : AC := .seq (.reg [
  ⟨(some 43), .mv (.t 5), none⟩,
  ⟨(some 44), .mv (.t 4), none⟩,
  ⟨(some 45), .mv (.t 3), none⟩,
  ⟨(some 46), .build [(.int .i64 0), (.int .i64 0), (.int .i64 0), (.int .i64 0)] [(0, 1, (.t 43)), (1, 1, (.t 44)), (2, 1, (.t 45))], none⟩,
  ⟨none, .st 4 (.t 2) (.t 46), none⟩] [2]) (.ret)
def c163x6 : AC := .seq (.reg [
  ⟨(some 50), .mv (.t 5), none⟩,
  ⟨(some 51), .mv (.t 3), none⟩,
  ⟨(some 52), .mv (.t 4), none⟩,
  ⟨(some 53), .build [(.int .i64 0), (.int .i64 0), (.int .i64 0), (.int .i64 0)] [(0, 1, (.t 50)), (1, 1, (.t 51)), (2, 1, (.t 52))], none⟩,
  ⟨none, .st 4 (.t 2) (.t 53), none⟩] [2]) (.ret)
def c163x7 : AC := .seq (.reg [
  ⟨(some 56), .mv (.t 5), none⟩,
  ⟨(some 57), .mv (.t 0), none⟩,
  ⟨(some 58), .call 56 [(.t 57), (.k (.int .i64 2))], none⟩,
  ⟨(some 59), .mv (.t 0), none⟩,
  ⟨(some 60), .call 56 [(.t 59), (.k (.int .i64 256))], none⟩,
  ⟨(some 61), .build [(.int .i64 0), (.int .i64 0), (.int .i64 0), (.int .i64 0)] [(0, 1, (.t 56)), (2, 1, (.t 58)), (3, 1, (.t 60))], none⟩,
  ⟨none, .st 4 (.t 2) (.t 61), none⟩] [2]) (.ret)
def c163x8 : AC := .seq (.reg [
  ⟨(some 69), .mv (.t 5), none⟩,
  ⟨(some 70), .mv (.t 3), none⟩,
  ⟨(some 71), .mv (.t 0), none⟩,
  ⟨(some 72), .call 56 [(.t 71), (.k (.int .i64 7))], none⟩,
  ⟨(some 73), .build [(.int .i64 0), (.int .i64 0), (.int .i64 0), (.int .i64 0)] [(0, 1, (.t 69)), (1, 1, (.t 70)), (2, 1, (.t 72))], none⟩,
  ⟨none, .st 4 (.t 2) (.t 73), none⟩] [2]) (.ret)
def c163x9 : AC := .cond (.t 62) (c163x8) (.skip)
def c163x10 : AC := .reg [
  ⟨(some 68), .bin .eql (.t 13) (.k (.int .i64 9)), none⟩,
  ⟨(some 62), .mv (.t 68), none⟩] [0, 2, 3, 5, 62]
def c163x11 : AC := .cond (.t 62) (.skip) (c163x10)
def c163x12 : AC := .seq (.reg [
  ⟨(some 67), .bin .eql (.t 13) (.k (.int .i64 8)), none⟩,
  ⟨(some 62), .mv (.t 67), none⟩] [0, 2, 3, 5, 13, 62]) (c163x11)
def c163x13 : AC := .cond (.t 62) (.skip) (c163x12)
def c163x14 : AC := .seq (.reg [
  ⟨(some 66), .bin .eql (.t 13) (.k (.int .i64 7)), none⟩,
  ⟨(some 62), .mv (.t 66), none⟩] [0, 2, 3, 5, 13, 62]) (c163x13)
def c163x15 : AC := .cond (.t 62) (.skip) (c163x14)
def c163x16 : AC := .seq (.reg [
  ⟨(some 65), .bin .eql (.t 13) (.k (.int .i64 6)), none⟩,
  ⟨(some 62), .mv (.t 65), none⟩] [0, 2, 3, 5, 13, 62]) (c163x15)
def c163x17 : AC := .cond (.t 62) (.skip) (c163x16)
def c163x18 : AC := .seq (.reg [
  ⟨(some 64), .bin .eql (.t 13) (.k (.int .i64 5)), none⟩,
  ⟨(some 62), .mv (.t 64), none⟩] [0, 2, 3, 5, 13, 62]) (c163x17)
def c163x19 : AC := .cond (.t 62) (.skip) (c163x18)
def c163x20 : AC := .seq (.reg [
  ⟨(some 63), .bin .eql (.t 13) (.k (.int .i64 4)), none⟩,
  ⟨(some 62), .mv (.t 63), none⟩] [0, 2, 3, 5, 13, 62]) (c163x19)
def c163x21 : AC := .seq (c163x20) (c163x9)
def c163x22 : AC := .cond (.t 54) (c163x7) (c163x21)
def c163x23 : AC := .seq (.reg [
  ⟨(some 55), .bin .eql (.t 13) (.k (.int .i64 24)), none⟩,
  ⟨(some 54), .mv (.t 55), none⟩] [0, 2, 3, 5, 13, 54]) (c163x22)
def c163x24 : AC := .cond (.t 47) (c163x6) (c163x23)
def c163x25 : AC := .reg [
  ⟨(some 49), .bin .eql (.t 13) (.k (.int .i64 21)), none⟩,
  ⟨(some 47), .mv (.t 49), none⟩] [0, 2, 3, 4, 5, 13, 47]
def c163x26 : AC := .cond (.t 47) (.skip) (c163x25)
def c163x27 : AC := .seq (.reg [
  ⟨(some 48), .bin .eql (.t 13) (.k (.int .i64 20)), none⟩,
  ⟨(some 47), .mv (.t 48), none⟩] [0, 2, 3, 4, 5, 13, 47]) (c163x26)
def c163x28 : AC := .seq (c163x27) (c163x24)
def c163x29 : AC := .cond (.t 38) (c163x5) (c163x28)
def c163x30 : AC := .reg [
  ⟨(some 42), .bin .eql (.t 13) (.k (.int .i64 23)), none⟩,
  ⟨(some 38), .mv (.t 42), none⟩] [0, 2, 3, 4, 5, 13, 38]
def c163x31 : AC := .cond (.t 38) (.skip) (c163x30)
def c163x32 : AC := .seq (.reg [
  ⟨(some 41), .bin .eql (.t 13) (.k (.int .i64 22)), none⟩,
  ⟨(some 38), .mv (.t 41), none⟩] [0, 2, 3, 4, 5, 13, 38]) (c163x31)
def c163x33 : AC := .cond (.t 38) (.skip) (c163x32)
def c163x34 : AC := .seq (.reg [
  ⟨(some 40), .bin .eql (.t 13) (.k (.int .i64 19)), none⟩,
  ⟨(some 38), .mv (.t 40), none⟩] [0, 2, 3, 4, 5, 13, 38]) (c163x33)
def c163x35 : AC := .cond (.t 38) (.skip) (c163x34)
def c163x36 : AC := .seq (.reg [
  ⟨(some 39), .bin .eql (.t 13) (.k (.int .i64 18)), none⟩,
  ⟨(some 38), .mv (.t 39), none⟩] [0, 2, 3, 4, 5, 13, 38]) (c163x35)
def c163x37 : AC := .seq (c163x36) (c163x29)
def c163x38 : AC := .cond (.t 31) (c163x4) (c163x37)
def c163x39 : AC := .reg [
  ⟨(some 33), .bin .eql (.t 13) (.k (.int .i64 17)), none⟩,
  ⟨(some 31), .mv (.t 33), none⟩] [0, 2, 3, 4, 5, 13, 31]
def c163x40 : AC := .cond (.t 31) (.skip) (c163x39)
def c163x41 : AC := .seq (.reg [
  ⟨(some 32), .bin .eql (.t 13) (.k (.int .i64 16)), none⟩,
  ⟨(some 31), .mv (.t 32), none⟩] [0, 2, 3, 4, 5, 13, 31]) (c163x40)
def c163x42 : AC := .seq (c163x41) (c163x38)
def c163x43 : AC := .cond (.t 24) (c163x3) (c163x42)
def c163x44 : AC := .seq (.reg [
  ⟨(some 25), .bin .eql (.t 13) (.k (.int .i64 2)), none⟩,
  ⟨(some 24), .mv (.t 25), none⟩] [0, 2, 3, 4, 5, 13, 24]) (c163x43)
def c163x45 : AC := .cond (.t 17) (c163x2) (c163x44)
def c163x46 : AC := .seq (.reg [
  ⟨(some 18), .bin .eql (.t 13) (.k (.int .i64 1)), none⟩,
  ⟨(some 17), .mv (.t 18), none⟩] [0, 2, 3, 4, 5, 13, 17]) (c163x45)
def c163x47 : AC := .cond (.t 14) (c163x1) (c163x46)
def c163x48 : AC := .seq (.reg [
  ⟨(some 15), .bin .eql (.t 13) (.k (.int .i64 0)), none⟩,
  ⟨(some 14), .mv (.t 15), none⟩] [0, 2, 3, 4, 5, 13, 14]) (c163x47)
def c163x49 : AC := .block 0 (c163x48)
def c163x50 : AC := .seq (.reg [
  ⟨(some 13), .mv (.t 5), none⟩] [0, 2, 3, 4, 5, 13]) (c163x49)
def c163x51 : AC := .seq (c163x50) (c163x0)
def c163x52 : AC := .seq (.reg [
  ⟨(some 11), .mv (.t 0), none⟩,
  ⟨(some 12), .call 56 [(.t 11), (.k (.int .i64 25))], none⟩,
  ⟨(some 5), .mv (.t 12), none⟩] [0, 2, 3, 4, 5]) (c163x51)
def c163x53 : AC := .seq (.reg [
  ⟨(some 6), .mv (.t 0), none⟩,
  ⟨(some 7), .call 56 [(.t 6), (.k (.int .i64 7))], none⟩,
  ⟨(some 8), .mv (.t 0), none⟩,
  ⟨(some 9), .call 56 [(.t 8), (.k (.int .i64 2))], none⟩,
  ⟨(some 10), .bin .add (.k (.int .i64 7)) (.t 9), none⟩,
  ⟨(some 3), .mv (.t 7), none⟩,
  ⟨(some 4), .mv (.t 10), none⟩] [0, 2, 3, 4]) (c163x52)
def c163 : AC := .seq (.reg [
  ⟨(some 2), .zero [(.int .i64 0), (.int .i64 0), (.int .i64 0), (.int .i64 0)], none⟩] [0, 2]) (c163x53)
theorem k163 : Try.f163.body.bind (compC Try.prog Try.f163.ntmps v163) = some c163 := by kernel_rfl
theorem e163 : enters Try.prog 163 = true := by kernel_rfl
theorem q163 : Try.f163.results.toList.mapM (compRes Try.prog) = some r163 := by kernel_rfl
end Go.Proofs.Ytjmmompbmjhkpaa.Code

namespace Go.Proofs.Ytjmmompbmjhkpaa.Code
open Go Go.Proofs.Ytjmmompbmjhkpaa.Calc
set_option maxRecDepth 100000
def v60 : List (Nat × List Nat) := [(0, [1]), (1, [1, 9]), (2, [2]), (3, [1, 14]), (4, [2]), (5, [1, 20, 21, 22]), (6, [1, 20, 21, 22, 23]), (7, [1, 3, 4, 20, 21, 22]), (8, [1, 3, 4, 20, 21, 22, 27]), (9, [2]), (10, [1, 3, 4, 20, 21, 22, 36]), (11, [2]), (12, [1, 3, 4, 20, 21, 22, 51]), (13, [2]), (14, [1, 3, 4, 20, 21, 22, 56]), (15, [2]), (16, [1, 4, 20, 21, 22, 61]), (17, [2]), (18, [1, 4, 5, 20, 21, 22]), (19, [1, 4, 5, 20, 21, 22, 72]), (20, [2]), (21, [1, 20, 21, 22, 80]), (22, [2]), (23, [1, 20, 21, 22]), (24, [88, 89, 90]), (25, [88, 89, 90, 91]), (26, [7, 88, 89, 90]), (27, [8, 88, 89, 90]), (28, [8, 88, 89, 90, 97]), (29, [2]), (30, [88, 89, 90]), (31, [2])]
def r60 : List AR := [.t 2]
def c60x0 : AC := .seq (.reg [
  ⟨(some 2), .mv (.k (.int .i64 0)), none⟩] [2]) (.ret)
def c60x1 : AC := .reg [
  ⟨(some 99), .bin .add (.t 90) (.k (.int .i64 1)), none⟩,
  ⟨(some 90), .mv (.t 99), none⟩] [88, 89, 90]
def c60x2 : AC := .seq (.reg [
  ⟨(some 98), .mv (.t 8), none⟩,
  ⟨(some 2), .mv (.t 98), none⟩] [2]) (.ret)
def c60x3 : AC := .cond (.t 97) (c60x2) (.skip)
def c60x4 : AC := .seq (.reg [
  ⟨(some 96), .mv (.t 8), none⟩,
  ⟨(some 97), .bin .neq (.t 96) (.k (.int .i64 0)), none⟩] [8, 88, 89, 90, 97]) (c60x3)
def c60x5 : AC := .seq (.reg [
  ⟨(some 94), .mv (.t 7), none⟩,
  ⟨(some 95), .call 115 [(.t 94)], none⟩,
  ⟨(some 8), .mv (.t 95), none⟩] [8, 88, 89, 90]) (c60x4)
def c60x6 : AC := .seq (.reg [
  ⟨(some 92), .idx 1 none (.t 88) (.t 90), none⟩,
  ⟨(some 93), .ld none (.t 92), none⟩,
  ⟨(some 7), .mv (.t 93), none⟩] [7, 88, 89, 90]) (c60x5)
def c60x7 : AC := .block 5 (c60x6)
def c60x8 : AC := .seq (c60x7) (c60x1)
def c60x9 : AC := .cond (.t 91) (.skip) (.exit 4)
def c60x10 : AC := .seq (c60x9) (c60x8)
def c60x11 : AC := .seq (.reg [
  ⟨(some 91), .bin .lss (.t 90) (.t 89), none⟩] [88, 89, 90, 91]) (c60x10)
def c60x12 : AC := .loop (c60x11)
def c60x13 : AC := .block 4 (c60x12)
def c60x14 : AC := .seq (.reg [
  ⟨(some 82), .fad 2 (.t 1), none⟩,
  ⟨(some 83), .ld none (.t 82), none⟩,
  ⟨(some 84), .fad 3 (.t 1), none⟩,
  ⟨(some 85), .ld none (.t 84), none⟩,
  ⟨(some 86), .fad 4 (.t 1), none⟩,
  ⟨(some 87), .ld none (.t 86), none⟩,
  ⟨(some 88), .bsl [(.slice none 0 0)] 3 [(0, (.t 83)), (1, (.t 85)), (2, (.t 87))], none⟩,
  ⟨(some 89), .len (.t 88), none⟩,
  ⟨(some 90), .mv (.k (.int .i64 0)), none⟩] [88, 89, 90]) (c60x13)
def c60x15 : AC := .seq (c60x14) (c60x0)
def c60x16 : AC := .reg [
  ⟨(some 81), .bin .add (.t 22) (.k (.int .i64 1)), none⟩,
  ⟨(some 22), .mv (.t 81), none⟩] [1, 20, 21, 22]
def c60x17 : AC := .seq (.reg [
  ⟨(some 2), .mv (.k (.int .i64 3)), none⟩] [2]) (.ret)
def c60x18 : AC := .cond (.t 80) (c60x17) (.skip)
def c60x19 : AC := .seq (.dreg [
  ⟨(some 74), .fad 3 (.t 4), none⟩,
  ⟨(some 75), .ld none (.t 74), none⟩,
  ⟨(some 76), .call 116 [(.t 75)], none⟩,
  ⟨(some 77), .fad 2 (.t 4), none⟩,
  ⟨(some 78), .ld none (.t 77), none⟩,
  ⟨(some 79), .call 68 [(.t 78)], none⟩,
  ⟨(some 80), .bin .neq (.t 76) (.t 79), none⟩] [[], [0], [0, 1], [], [3], [0, 1, 2, 3, 4], [0, 1, 2, 3, 4, 5]] [1, 20, 21, 22, 80]) (c60x18)
def c60x20 : AC := .seq (.reg [
  ⟨(some 73), .mv (.t 5), none⟩,
  ⟨(some 2), .mv (.t 73), none⟩] [2]) (.ret)
def c60x21 : AC := .cond (.t 72) (c60x20) (.skip)
def c60x22 : AC := .seq (.reg [
  ⟨(some 71), .mv (.t 5), none⟩,
  ⟨(some 72), .bin .neq (.t 71) (.k (.int .i64 0)), none⟩] [1, 4, 5, 20, 21, 22, 72]) (c60x21)
def c60x23 : AC := .seq (.reg [
  ⟨(some 68), .fad 3 (.t 4), none⟩,
  ⟨(some 69), .ld none (.t 68), none⟩,
  ⟨(some 70), .call 115 [(.t 69)], none⟩,
  ⟨(some 5), .mv (.t 70), none⟩] [1, 4, 5, 20, 21, 22]) (c60x22)
def c60x24 : AC := .seq (c60x23) (c60x19)
def c60x25 : AC := .seq (.reg [
  ⟨(some 2), .mv (.k (.int .i64 1)), none⟩] [2]) (.ret)
def c60x26 : AC := .seq (.reg [
  ⟨(some 2), .mv (.k (.int .i64 9)), none⟩] [2]) (.ret)
def c60x27 : AC := .seq (.reg [
  ⟨(some 2), .mv (.k (.int .i64 15)), none⟩] [2]) (.ret)
def c60x28 : AC := .seq (.reg [
  ⟨(some 2), .mv (.k (.int .i64 8)), none⟩] [2]) (.ret)
def c60x29 : AC := .seq (.reg [
  ⟨(some 2), .mv (.k (.int .i64 5)), none⟩] [2]) (.ret)
def c60x30 : AC := .cond (.t 61) (c60x29) (.skip)
def c60x31 : AC := .seq (.reg [
  ⟨(some 62), .fad 1 (.t 1), none⟩,
  ⟨(some 63), .ld none (.t 62), none⟩,
  ⟨(some 64), .mv (.t 3), none⟩,
  ⟨(some 65), .slc 4 (.t 63) none (some (.t 64)), none⟩,
  ⟨(some 66), .mkf 114 [(.t 4)], none⟩,
  ⟨(some 67), .call 64 [(.t 65), (.t 66)], none⟩,
  ⟨(some 61), .mv (.t 67), none⟩] [1, 4, 20, 21, 22, 61]) (c60x30)
def c60x32 : AC := .cond (.t 56) (c60x28) (c60x31)
def c60x33 : AC := .seq (.reg [
  ⟨(some 57), .fad 2 (.t 4), none⟩,
  ⟨(some 58), .ld none (.t 57), none⟩,
  ⟨(some 59), .call 68 [(.t 58)], none⟩,
  ⟨(some 60), .bin .lss (.t 59) (.k (.int .i64 0)), none⟩,
  ⟨(some 56), .mv (.t 60), none⟩] [1, 3, 4, 20, 21, 22, 56]) (c60x32)
def c60x34 : AC := .cond (.t 51) (c60x27) (c60x33)
def c60x35 : AC := .seq (.reg [
  ⟨(some 52), .fad 1 (.t 4), none⟩,
  ⟨(some 53), .ld none (.t 52), none⟩,
  ⟨(some 54), .call 113 [(.t 53)], none⟩,
  ⟨(some 55), .not (.t 54), none⟩,
  ⟨(some 51), .mv (.t 55), none⟩] [1, 3, 4, 20, 21, 22, 51]) (c60x34)
def c60x36 : AC := .cond (.t 36) (c60x26) (c60x35)
def c60x37 : AC := .seq (.dreg [
  ⟨(some 37), .mv (.t 3), none⟩,
  ⟨(some 38), .bin .gtr (.t 37) (.k (.int .i64 0)), none⟩,
  ⟨(some 39), .mv (.t 38), none⟩,
  ⟨(some 40), .fad 0 (.t 4), (some (39, true))⟩,
  ⟨(some 41), .ld none (.t 40), (some (39, true))⟩,
  ⟨(some 42), .fad 1 (.t 1), (some (39, true))⟩,
  ⟨(some 43), .ld none (.t 42), (some (39, true))⟩,
  ⟨(some 44), .mv (.t 3), (some (39, true))⟩,
  ⟨(some 45), .bin .sub (.t 44) (.k (.int .i64 1)), (some (39, true))⟩,
  ⟨(some 46), .idx 4 none (.t 43) (.t 45), (some (39, true))⟩,
  ⟨(some 47), .fad 0 (.t 46), (some (39, true))⟩,
  ⟨(some 48), .ld none (.t 47), (some (39, true))⟩,
  ⟨(some 49), .bin .leq (.t 41) (.t 48), (some (39, true))⟩,
  ⟨(some 50), .pick (.t 39) (.t 49) (.k (.bool false)), none⟩,
  ⟨(some 36), .mv (.t 50), none⟩] [[], [0], [0, 1], [0, 1, 2], [0, 1, 2, 3], [0, 1, 2], [0, 1, 2, 5], [0, 1, 2], [0, 1, 2, 7], [0, 1, 2, 5, 6, 7, 8], [0, 1, 2, 5, 6, 7, 8, 9], [0, 1, 2, 5, 6, 7, 8, 9, 10], [0, 1, 2, 3, 4, 5, 6, 7, 8, 9, 10, 11], [0, 1, 2, 3, 4, 5, 6, 7, 8, 9, 10, 11, 12], [0, 1, 2, 3, 4, 5, 6, 7, 8, 9, 10, 11, 12, 13]] [1, 3, 4, 20, 21, 22, 36]) (c60x36)
def c60x38 : AC := .cond (.t 27) (c60x25) (c60x37)
def c60x39 : AC := .seq (.reg [
  ⟨(some 28), .fad 0 (.t 4), none⟩,
  ⟨(some 29), .ld none (.t 28), none⟩,
  ⟨(some 30), .bin .lss (.t 29) (.k (.int .i64 0)), none⟩,
  ⟨(some 31), .mv (.t 30), none⟩,
  ⟨(some 32), .fad 0 (.t 4), (some (31, false))⟩,
  ⟨(some 33), .ld none (.t 32), (some (31, false))⟩,
  ⟨(some 34), .bin .gtr (.t 33) (.k (.int .i64 255)), (some (31, false))⟩,
  ⟨(some 35), .pick (.t 31) (.k (.bool true)) (.t 34), none⟩,
  ⟨(some 27), .mv (.t 35), none⟩] [1, 3, 4, 20, 21, 22, 27]) (c60x38)
def c60x40 : AC := .block 3 (c60x39)
def c60x41 : AC := .seq (c60x40) (c60x24)
def c60x42 : AC := .seq (.reg [
  ⟨(some 24), .mv (.t 22), none⟩,
  ⟨(some 25), .idx 4 none (.t 20) (.t 22), none⟩,
  ⟨(some 26), .ld (some 4) (.t 25), none⟩,
  ⟨(some 4), .zero [(.int .i64 0), (.string ⟨#[]⟩), (.int .i64 0), (.slice none 0 0)], none⟩,
  ⟨(some 3), .mv (.t 24), none⟩,
  ⟨none, .st 4 (.t 4) (.t 26), none⟩] [1, 3, 4, 20, 21, 22]) (c60x41)
def c60x43 : AC := .block 2 (c60x42)
def c60x44 : AC := .seq (c60x43) (c60x16)
def c60x45 : AC := .cond (.t 23) (.skip) (.exit 1)
def c60x46 : AC := .seq (c60x45) (c60x44)
def c60x47 : AC := .seq (.reg [
  ⟨(some 23), .bin .lss (.t 22) (.t 21), none⟩] [1, 20, 21, 22, 23]) (c60x46)
def c60x48 : AC := .loop (c60x47)
def c60x49 : AC := .block 1 (c60x48)
def c60x50 : AC := .seq (.reg [
  ⟨(some 19), .fad 1 (.t 1), none⟩,
  ⟨(some 20), .ld none (.t 19), none⟩,
  ⟨(some 21), .len (.t 20), none⟩,
  ⟨(some 22), .mv (.k (.int .i64 0)), none⟩] [1, 20, 21, 22]) (c60x49)
def c60x51 : AC := .seq (c60x50) (c60x15)
def c60x52 : AC := .seq (.reg [
  ⟨(some 2), .mv (.k (.int .i64 15)), none⟩] [2]) (.ret)
def c60x53 : AC := .seq (.reg [
  ⟨(some 2), .mv (.k (.int .i64 2)), none⟩] [2]) (.ret)
def c60x54 : AC := .cond (.t 14) (c60x53) (.skip)
def c60x55 : AC := .seq (.reg [
  ⟨(some 15), .fad 1 (.t 1), none⟩,
  ⟨(some 16), .ld none (.t 15), none⟩,
  ⟨(some 17), .len (.t 16), none⟩,
  ⟨(some 18), .bin .gtr (.t 17) (.k (.int .i64 256)), none⟩,
  ⟨(some 14), .mv (.t 18), none⟩] [1, 14]) (c60x54)
def c60x56 : AC := .cond (.t 9) (c60x52) (c60x55)
def c60x57 : AC := .seq (.reg [
  ⟨(some 10), .fad 0 (.t 1), none⟩,
  ⟨(some 11), .ld none (.t 10), none⟩,
  ⟨(some 12), .call 113 [(.t 11)], none⟩,
  ⟨(some 13), .not (.t 12), none⟩,
  ⟨(some 9), .mv (.t 13), none⟩] [1, 9]) (c60x56)
def c60x58 : AC := .block 0 (c60x57)
def c60x59 : AC := .seq (c60x58) (c60x51)
def c60 : AC := .seq (.reg [
  ⟨(some 1), .new 5 (.t 0), none⟩,
  ⟨(some 2), .mv (.k (.int .i64 0)), none⟩] [1]) (c60x59)
theorem k60 : Try.f60.body.bind (compC Try.prog Try.f60.ntmps v60) = some c60 := by kernel_rfl
theorem e60 : enters Try.prog 60 = true := by kernel_rfl
theorem q60 : Try.f60.results.toList.mapM (compRes Try.prog) = some r60 := by kernel_rfl
def v61 : List (Nat × List Nat) := [(0, [2, 3]), (1, [4])]
def r61 : List AR := [.t 4]
def c61x0 : AC := .seq (.reg [
  ⟨(some 5), .fad 0 (.t 2), none⟩,
  ⟨(some 6), .ld none (.t 5), none⟩,
  ⟨(some 7), .fad 0 (.t 3), none⟩,
  ⟨(some 8), .ld none (.t 7), none⟩,
  ⟨(some 9), .bin .eql (.t 6) (.t 8), none⟩,
  ⟨(some 10), .mv (.t 9), none⟩,
  ⟨(some 11), .fad 2 (.t 2), (some (10, true))⟩,
  ⟨(some 12), .ld none (.t 11), (some (10, true))⟩,
  ⟨(some 13), .fad 2 (.t 3), (some (10, true))⟩,
  ⟨(some 14), .ld none (.t 13), (some (10, true))⟩,
  ⟨(some 15), .call 117 [(.t 12), (.t 14)], (some (10, true))⟩,
  ⟨(some 16), .pick (.t 10) (.t 15) (.k (.bool false)), none⟩,
  ⟨(some 17), .mv (.t 16), none⟩,
  ⟨(some 18), .fad 3 (.t 2), (some (17, true))⟩,
  ⟨(some 19), .ld none (.t 18), (some (17, true))⟩,
  ⟨(some 20), .fad 3 (.t 3), (some (17, true))⟩,
  ⟨(some 21), .ld none (.t 20), (some (17, true))⟩,
  ⟨(some 22), .call 117 [(.t 19), (.t 21)], (some (17, true))⟩,
  ⟨(some 23), .pick (.t 17) (.t 22) (.k (.bool false)), none⟩,
  ⟨(some 24), .mv (.t 23), none⟩,
  ⟨(some 25), .fad 4 (.t 2), (some (24, true))⟩,
  ⟨(some 26), .ld none (.t 25), (some (24, true))⟩,
  ⟨(some 27), .fad 4 (.t 3), (some (24, true))⟩,
  ⟨(some 28), .ld none (.t 27), (some (24, true))⟩,
  ⟨(some 29), .call 117 [(.t 26), (.t 28)], (some (24, true))⟩,
  ⟨(some 30), .pick (.t 24) (.t 29) (.k (.bool false)), none⟩,
  ⟨(some 31), .mv (.t 30), none⟩,
  ⟨(some 32), .fad 1 (.t 2), (some (31, true))⟩,
  ⟨(some 33), .ld none (.t 32), (some (31, true))⟩,
  ⟨(some 34), .fad 1 (.t 3), (some (31, true))⟩,
  ⟨(some 35), .ld none (.t 34), (some (31, true))⟩,
  ⟨(some 36), .call 118 [(.t 33), (.t 35), (.f 119)], (some (31, true))⟩,
  ⟨(some 37), .pick (.t 31) (.t 36) (.k (.bool false)), none⟩,
  ⟨(some 4), .mv (.t 37), none⟩] [4]) (.ret)
def c61 : AC := .seq (.reg [
  ⟨(some 2), .new 5 (.t 0), none⟩,
  ⟨(some 3), .new 5 (.t 1), none⟩,
  ⟨(some 4), .mv (.k (.bool false)), none⟩] [2, 3]) (c61x0)
theorem k61 : Try.f61.body.bind (compC Try.prog Try.f61.ntmps v61) = some c61 := by kernel_rfl
theorem e61 : enters Try.prog 61 = true := by kernel_rfl
theorem q61 : Try.f61.results.toList.mapM (compRes Try.prog) = some r61 := by kernel_rfl
def v62 : List (Nat × List Nat) := [(0, [2, 3, 4]), (1, [2, 4, 6]), (2, [2, 4, 6, 12]), (3, [4, 5]), (4, [4, 5])]
def r62 : List AR := [.cell (some 4) 4, .t 5]
def c62x0 : AC := .seq (.reg [
  ⟨(some 14), .fad 1 (.t 2), none⟩,
  ⟨(some 15), .ld none (.t 14), none⟩,
  ⟨(some 16), .mv (.t 6), none⟩,
  ⟨(some 17), .idx 4 none (.t 15) (.t 16), none⟩,
  ⟨(some 18), .ld (some 4) (.t 17), none⟩,
  ⟨(some 19), .call 122 [(.t 18)], none⟩,
  ⟨none, .st 4 (.t 4) (.t 19), none⟩,
  ⟨(some 5), .mv (.k (.bool true)), none⟩] [4, 5]) (.ret)
def c62x1 : AC := .seq (.reg [
  ⟨(some 13), .build [(.int .i64 0), (.string ⟨#[]⟩), (.int .i64 0), (.slice none 0 0)] [], none⟩,
  ⟨none, .st 4 (.t 4) (.t 13), none⟩,
  ⟨(some 5), .mv (.k (.bool false)), none⟩] [4, 5]) (.ret)
def c62x2 : AC := .cond (.t 12) (c62x1) (.skip)
def c62x3 : AC := .seq (.reg [
  ⟨(some 11), .mv (.t 6), none⟩,
  ⟨(some 12), .bin .lss (.t 11) (.k (.int .i64 0)), none⟩] [2, 4, 6, 12]) (c62x2)
def c62x4 : AC := .seq (c62x3) (c62x0)
def c62x5 : AC := .seq (.reg [
  ⟨(some 7), .fad 1 (.t 2), none⟩,
  ⟨(some 8), .ld none (.t 7), none⟩,
  ⟨(some 9), .mkf 121 [(.t 3)], none⟩,
  ⟨(some 10), .call 120 [(.t 8), (.t 9)], none⟩,
  ⟨(some 6), .mv (.t 10), none⟩] [2, 4, 6]) (c62x4)
def c62 : AC := .seq (.reg [
  ⟨(some 2), .new 5 (.t 0), none⟩,
  ⟨(some 3), .new 1 (.t 1), none⟩,
  ⟨(some 4), .zero [(.int .i64 0), (.string ⟨#[]⟩), (.int .i64 0), (.slice none 0 0)], none⟩,
  ⟨(some 5), .mv (.k (.bool false)), none⟩] [2, 3, 4]) (c62x5)
theorem k62 : Try.f62.body.bind (compC Try.prog Try.f62.ntmps v62) = some c62 := by kernel_rfl
theorem e62 : enters Try.prog 62 = true := by kernel_rfl
theorem q62 : Try.f62.results.toList.mapM (compRes Try.prog) = some r62 := by kernel_rfl
def v63 : List (Nat × List Nat) := [(0, [3, 4, 5, 6]), (1, [3, 6, 8]), (2, [3, 6, 8, 14]), (3, [6, 7]), (4, [6, 7])]
def r63 : List AR := [.cell (some 4) 6, .t 7]
def c63x0 : AC := .seq (.reg [
  ⟨(some 16), .fad 1 (.t 3), none⟩,
  ⟨(some 17), .ld none (.t 16), none⟩,
  ⟨(some 18), .mv (.t 8), none⟩,
  ⟨(some 19), .idx 4 none (.t 17) (.t 18), none⟩,
  ⟨(some 20), .ld (some 4) (.t 19), none⟩,
  ⟨(some 21), .call 122 [(.t 20)], none⟩,
  ⟨none, .st 4 (.t 6) (.t 21), none⟩,
  ⟨(some 7), .mv (.k (.bool true)), none⟩] [6, 7]) (.ret)
def c63x1 : AC := .seq (.reg [
  ⟨(some 15), .build [(.int .i64 0), (.string ⟨#[]⟩), (.int .i64 0), (.slice none 0 0)] [], none⟩,
  ⟨none, .st 4 (.t 6) (.t 15), none⟩,
  ⟨(some 7), .mv (.k (.bool false)), none⟩] [6, 7]) (.ret)
def c63x2 : AC := .cond (.t 14) (c63x1) (.skip)
def c63x3 : AC := .seq (.reg [
  ⟨(some 13), .mv (.t 8), none⟩,
  ⟨(some 14), .bin .lss (.t 13) (.k (.int .i64 0)), none⟩] [3, 6, 8, 14]) (c63x2)
def c63x4 : AC := .seq (c63x3) (c63x0)
def c63x5 : AC := .seq (.reg [
  ⟨(some 9), .fad 1 (.t 3), none⟩,
  ⟨(some 10), .ld none (.t 9), none⟩,
  ⟨(some 11), .mkf 123 [(.t 4), (.t 5)], none⟩,
  ⟨(some 12), .call 120 [(.t 10), (.t 11)], none⟩,
  ⟨(some 8), .mv (.t 12), none⟩] [3, 6, 8]) (c63x4)
def c63 : AC := .seq (.reg [
  ⟨(some 3), .new 5 (.t 0), none⟩,
  ⟨(some 4), .new 1 (.t 1), none⟩,
  ⟨(some 5), .new 1 (.t 2), none⟩,
  ⟨(some 6), .zero [(.int .i64 0), (.string ⟨#[]⟩), (.int .i64 0), (.slice none 0 0)], none⟩,
  ⟨(some 7), .mv (.k (.bool false)), none⟩] [3, 4, 5, 6]) (c63x5)
theorem k63 : Try.f63.body.bind (compC Try.prog Try.f63.ntmps v63) = some c63 := by kernel_rfl
theorem e63 : enters Try.prog 63 = true := by kernel_rfl
theorem q63 : Try.f63.results.toList.mapM (compRes Try.prog) = some r63 := by kernel_rfl
def v68 : List (Nat × List Nat) := [(0, [0]), (1, [3]), (2, [3, 4]), (3, [2]), (4, [3, 6]), (5, [3, 6]), (6, [3, 6]), (7, [2]), (8, [3, 10]), (9, [3, 10]), (10, [3, 10]), (11, [3, 10]), (12, [10]), (13, [2]), (14, [2])]
def r68 : List AR := [.t 2]
def c68x0 : AC := .seq (.reg [
  ⟨(some 2), .mv (.k (.int .i64 (-1))), none⟩] [2]) (.ret)
def c68x1 : AC := .seq (.reg [
  ⟨(some 2), .mv (.k (.int .i64 0)), none⟩] [2]) (.ret)
def c68x2 : AC := .seq (.reg [
  ⟨(some 2), .mv (.k (.int .i64 2)), none⟩] [2]) (.ret)
def c68x3 : AC := .seq (.reg [
  ⟨(some 2), .mv (.k (.int .i64 1)), none⟩] [2]) (.ret)
def c68x4 : AC := .cond (.t 10) (c68x3) (.skip)
def c68x5 : AC := .reg [
  ⟨(some 15), .bin .eql (.t 3) (.k (.int .i64 8)), none⟩,
  ⟨(some 10), .mv (.t 15), none⟩] [10]
def c68x6 : AC := .cond (.t 10) (.skip) (c68x5)
def c68x7 : AC := .seq (.reg [
  ⟨(some 14), .bin .eql (.t 3) (.k (.int .i64 7)), none⟩,
  ⟨(some 10), .mv (.t 14), none⟩] [3, 10]) (c68x6)
def c68x8 : AC := .cond (.t 10) (.skip) (c68x7)
def c68x9 : AC := .seq (.reg [
  ⟨(some 13), .bin .eql (.t 3) (.k (.int .i64 3)), none⟩,
  ⟨(some 10), .mv (.t 13), none⟩] [3, 10]) (c68x8)
def c68x10 : AC := .cond (.t 10) (.skip) (c68x9)
def c68x11 : AC := .seq (.reg [
  ⟨(some 12), .bin .eql (.t 3) (.k (.int .i64 2)), none⟩,
  ⟨(some 10), .mv (.t 12), none⟩] [3, 10]) (c68x10)
def c68x12 : AC := .cond (.t 10) (.skip) (c68x11)
def c68x13 : AC := .seq (.reg [
  ⟨(some 11), .bin .eql (.t 3) (.k (.int .i64 1)), none⟩,
  ⟨(some 10), .mv (.t 11), none⟩] [3, 10]) (c68x12)
def c68x14 : AC := .seq (c68x13) (c68x4)
def c68x15 : AC := .cond (.t 6) (c68x2) (c68x14)
def c68x16 : AC := .reg [
  ⟨(some 9), .bin .eql (.t 3) (.k (.int .i64 6)), none⟩,
  ⟨(some 6), .mv (.t 9), none⟩] [3, 6]
def c68x17 : AC := .cond (.t 6) (.skip) (c68x16)
def c68x18 : AC := .seq (.reg [
  ⟨(some 8), .bin .eql (.t 3) (.k (.int .i64 5)), none⟩,
  ⟨(some 6), .mv (.t 8), none⟩] [3, 6]) (c68x17)
def c68x19 : AC := .cond (.t 6) (.skip) (c68x18)
def c68x20 : AC := .seq (.reg [
  ⟨(some 7), .bin .eql (.t 3) (.k (.int .i64 4)), none⟩,
  ⟨(some 6), .mv (.t 7), none⟩] [3, 6]) (c68x19)
def c68x21 : AC := .seq (c68x20) (c68x15)
def c68x22 : AC := .cond (.t 4) (c68x1) (c68x21)
def c68x23 : AC := .seq (.reg [
  ⟨(some 5), .bin .eql (.t 3) (.k (.int .i64 0)), none⟩,
  ⟨(some 4), .mv (.t 5), none⟩] [3, 4]) (c68x22)
def c68x24 : AC := .block 0 (c68x23)
def c68x25 : AC := .seq (.reg [
  ⟨(some 3), .mv (.t 0), none⟩] [3]) (c68x24)
def c68x26 : AC := .seq (c68x25) (c68x0)
def c68 : AC := .seq (.reg [
  ⟨(some 2), .mv (.k (.int .i64 0)), none⟩] [0]) (c68x26)
theorem k68 : Try.f68.body.bind (compC Try.prog Try.f68.ntmps v68) = some c68 := by kernel_rfl
theorem e68 : enters Try.prog 68 = true := by kernel_rfl
theorem q68 : Try.f68.results.toList.mapM (compRes Try.prog) = some r68 := by kernel_rfl
def v104 : List (Nat × List Nat) := [(0, [0]), (1, [2])]
def r104 : List AR := [.t 2]
def c104x0 : AC := .seq (.reg [
  ⟨(some 3), .mv (.t 0), none⟩,
  ⟨(some 4), .bin .eql (.t 3) (.k (.int .i64 7)), none⟩,
  ⟨(some 5), .mv (.t 4), none⟩,
  ⟨(some 6), .mv (.t 0), (some (5, false))⟩,
  ⟨(some 7), .bin .eql (.t 6) (.k (.int .i64 8)), (some (5, false))⟩,
  ⟨(some 8), .pick (.t 5) (.k (.bool true)) (.t 7), none⟩,
  ⟨(some 2), .mv (.t 8), none⟩] [2]) (.ret)
def c104 : AC := .seq (.reg [
  ⟨(some 2), .mv (.k (.bool false)), none⟩] [0]) (c104x0)
theorem k104 : Try.f104.body.bind (compC Try.prog Try.f104.ntmps v104) = some c104 := by kernel_rfl
theorem e104 : enters Try.prog 104 = true := by kernel_rfl
theorem q104 : Try.f104.results.toList.mapM (compRes Try.prog) = some r104 := by kernel_rfl
def v113 : List (Nat × List Nat) := [(0, [0]), (1, [0, 21]), (2, [2]), (3, [23, 24, 25]), (4, [23, 24, 25, 26]), (5, [4, 23, 24, 25]), (6, [23, 24, 25, 47]), (7, [2]), (8, [23, 24, 25]), (9, [2])]
def r113 : List AR := [.t 2]
def c113x0 : AC := .seq (.reg [
  ⟨(some 2), .mv (.k (.bool true)), none⟩] [2]) (.ret)
def c113x1 : AC := .reg [
  ⟨(some 48), .bin .add (.t 25) (.k (.int .i64 1)), none⟩,
  ⟨(some 25), .mv (.t 48), none⟩] [23, 24, 25]
def c113x2 : AC := .seq (.reg [
  ⟨(some 2), .mv (.k (.bool false)), none⟩] [2]) (.ret)
def c113x3 : AC := .cond (.t 47) (c113x2) (.skip)
def c113x4 : AC := .seq (.reg [
  ⟨(some 29), .mv (.t 4), none⟩,
  ⟨(some 30), .bin .geq (.t 29) (.k (.int .u8 97)), none⟩,
  ⟨(some 31), .mv (.t 30), none⟩,
  ⟨(some 32), .mv (.t 4), (some (31, true))⟩,
  ⟨(some 33), .bin .leq (.t 32) (.k (.int .u8 122)), (some (31, true))⟩,
  ⟨(some 34), .pick (.t 31) (.t 33) (.k (.bool false)), none⟩,
  ⟨(some 35), .mv (.t 34), none⟩,
  ⟨(some 36), .mv (.t 4), (some (35, false))⟩,
  ⟨(some 37), .bin .geq (.t 36) (.k (.int .u8 48)), (some (35, false))⟩,
  ⟨(some 38), .mv (.t 37), (some (35, false))⟩,
  ⟨(some 39), .mv (.t 4), (some (38, true))⟩,
  ⟨(some 40), .bin .leq (.t 39) (.k (.int .u8 57)), (some (38, true))⟩,
  ⟨(some 41), .pick (.t 38) (.t 40) (.k (.bool false)), (some (35, false))⟩,
  ⟨(some 42), .pick (.t 35) (.k (.bool true)) (.t 41), none⟩,
  ⟨(some 43), .mv (.t 42), none⟩,
  ⟨(some 44), .mv (.t 4), (some (43, false))⟩,
  ⟨(some 45), .bin .eql (.t 44) (.k (.int .u8 45)), (some (43, false))⟩,
  ⟨(some 46), .pick (.t 43) (.k (.bool true)) (.t 45), none⟩,
  ⟨(some 47), .not (.t 46), none⟩] [23, 24, 25, 47]) (c113x3)
def c113x5 : AC := .seq (.reg [
  ⟨(some 27), .idx 1 none (.t 23) (.t 25), none⟩,
  ⟨(some 28), .ld none (.t 27), none⟩,
  ⟨(some 4), .mv (.t 28), none⟩] [4, 23, 24, 25]) (c113x4)
def c113x6 : AC := .block 1 (c113x5)
def c113x7 : AC := .seq (c113x6) (c113x1)
def c113x8 : AC := .cond (.t 26) (.skip) (.exit 0)
def c113x9 : AC := .seq (c113x8) (c113x7)
def c113x10 : AC := .seq (.reg [
  ⟨(some 26), .bin .lss (.t 25) (.t 24), none⟩] [23, 24, 25, 26]) (c113x9)
def c113x11 : AC := .loop (c113x10)
def c113x12 : AC := .block 0 (c113x11)
def c113x13 : AC := .seq (.reg [
  ⟨(some 22), .mv (.t 0), none⟩,
  ⟨(some 23), .s2b (.t 22), none⟩,
  ⟨(some 24), .len (.t 23), none⟩,
  ⟨(some 25), .mv (.k (.int .i64 0)), none⟩] [23, 24, 25]) (c113x12)
def c113x14 : AC := .seq (c113x13) (c113x0)
def c113x15 : AC := .seq (.reg [
  ⟨(some 2), .mv (.k (.bool false)), none⟩] [2]) (.ret)
def c113x16 : AC := .cond (.t 21) (c113x15) (.skip)
def c113x17 : AC := .seq (.reg [
  ⟨(some 5), .mv (.t 0), none⟩,
  ⟨(some 6), .bin .eql (.t 5) (.k (.string ⟨#[]⟩)), none⟩,
  ⟨(some 7), .mv (.t 6), none⟩,
  ⟨(some 8), .mv (.t 0), (some (7, false))⟩,
  ⟨(some 9), .lens (.t 8), (some (7, false))⟩,
  ⟨(some 10), .bin .gtr (.t 9) (.k (.int .i64 20)), (some (7, false))⟩,
  ⟨(some 11), .pick (.t 7) (.k (.bool true)) (.t 10), none⟩,
  ⟨(some 12), .mv (.t 11), none⟩,
  ⟨(some 13), .mv (.t 0), (some (12, false))⟩,
  ⟨(some 14), .ixs (.t 13) (.k (.int .i64 0)), (some (12, false))⟩,
  ⟨(some 15), .bin .lss (.t 14) (.k (.int .u8 97)), (some (12, false))⟩,
  ⟨(some 16), .pick (.t 12) (.k (.bool true)) (.t 15), none⟩,
  ⟨(some 17), .mv (.t 16), none⟩,
  ⟨(some 18), .mv (.t 0), (some (17, false))⟩,
  ⟨(some 19), .ixs (.t 18) (.k (.int .i64 0)), (some (17, false))⟩,
  ⟨(some 20), .bin .gtr (.t 19) (.k (.int .u8 122)), (some (17, false))⟩,
  ⟨(some 21), .pick (.t 17) (.k (.bool true)) (.t 20), none⟩] [0, 21]) (c113x16)
def c113x18 : AC := .seq (c113x17) (c113x14)
def c113 : AC := .seq (.reg [
  ⟨(some 2), .mv (.k (.bool false)), none⟩] [0]) (c113x18)
theorem k113 : Try.f113.body.bind (compC Try.prog Try.f113.ntmps v113) = some c113 := by kernel_rfl
theorem e113 : enters Try.prog 113 = true := by kernel_rfl
theorem q113 : Try.f113.results.toList.mapM (compRes Try.prog) = some r113 := by kernel_rfl
def v114 : List (Nat × List Nat) := [(0, [1, 2]), (1, [3])]
def r114 : List AR := [.t 3]
def c114x0 : AC := .seq (.reg [
  ⟨(some 4), .fad 1 (.t 2), none⟩,
  ⟨(some 5), .ld none (.t 4), none⟩,
  ⟨(some 6), .fad 1 (.t 1), none⟩,
  ⟨(some 7), .ld none (.t 6), none⟩,
  ⟨(some 8), .bin .eql (.t 5) (.t 7), none⟩,
  ⟨(some 9), .mv (.t 8), none⟩,
  ⟨(some 10), .fad 2 (.t 2), (some (9, true))⟩,
  ⟨(some 11), .ld none (.t 10), (some (9, true))⟩,
  ⟨(some 12), .fad 2 (.t 1), (some (9, true))⟩,
  ⟨(some 13), .ld none (.t 12), (some (9, true))⟩,
  ⟨(some 14), .bin .eql (.t 11) (.t 13), (some (9, true))⟩,
  ⟨(some 15), .pick (.t 9) (.t 14) (.k (.bool false)), none⟩,
  ⟨(some 3), .mv (.t 15), none⟩] [3]) (.ret)
def c114 : AC := .seq (.reg [
  ⟨(some 2), .new 4 (.t 0), none⟩,
  ⟨(some 3), .mv (.k (.bool false)), none⟩] [1, 2]) (c114x0)
theorem k114 : Try.f114.body.bind (compC Try.prog Try.f114.ntmps v114) = some c114 := by kernel_rfl
theorem e114 : enters Try.prog 114 = true := by kernel_rfl
theorem q114 : Try.f114.results.toList.mapM (compRes Try.prog) = some r114 := by kernel_rfl
def v115 : List (Nat × List Nat) := [(0, [0]), (1, [0, 8]), (2, [2]), (3, [9, 10, 11]), (4, [9, 10, 11, 12]), (5, [4, 9, 10, 11]), (6, [5, 9, 10, 11]), (7, [5, 9, 10, 11, 18]), (8, [2]), (9, [9, 10, 11]), (10, [2])]
def r115 : List AR := [.t 2]
def c115x0 : AC := .seq (.reg [
  ⟨(some 2), .mv (.k (.int .i64 0)), none⟩] [2]) (.ret)
def c115x1 : AC := .reg [
  ⟨(some 20), .bin .add (.t 11) (.k (.int .i64 1)), none⟩,
  ⟨(some 11), .mv (.t 20), none⟩] [9, 10, 11]
def c115x2 : AC := .seq (.reg [
  ⟨(some 19), .mv (.t 5), none⟩,
  ⟨(some 2), .mv (.t 19), none⟩] [2]) (.ret)
def c115x3 : AC := .cond (.t 18) (c115x2) (.skip)
def c115x4 : AC := .seq (.reg [
  ⟨(some 17), .mv (.t 5), none⟩,
  ⟨(some 18), .bin .neq (.t 17) (.k (.int .i64 0)), none⟩] [5, 9, 10, 11, 18]) (c115x3)
def c115x5 : AC := .seq (.reg [
  ⟨(some 15), .ld (some 4) (.t 4), none⟩,
  ⟨(some 16), .call 164 [(.t 15)], none⟩,
  ⟨(some 5), .mv (.t 16), none⟩] [5, 9, 10, 11]) (c115x4)
def c115x6 : AC := .seq (.reg [
  ⟨(some 13), .idx 4 none (.t 9) (.t 11), none⟩,
  ⟨(some 14), .ld (some 4) (.t 13), none⟩,
  ⟨(some 4), .zero [(.int .i64 0), (.int .i64 0), (.int .i64 0), (.slice none 0 0)], none⟩,
  ⟨none, .st 4 (.t 4) (.t 14), none⟩] [4, 9, 10, 11]) (c115x5)
def c115x7 : AC := .block 1 (c115x6)
def c115x8 : AC := .seq (c115x7) (c115x1)
def c115x9 : AC := .cond (.t 12) (.skip) (.exit 0)
def c115x10 : AC := .seq (c115x9) (c115x8)
def c115x11 : AC := .seq (.reg [
  ⟨(some 12), .bin .lss (.t 11) (.t 10), none⟩] [9, 10, 11, 12]) (c115x10)
def c115x12 : AC := .loop (c115x11)
def c115x13 : AC := .block 0 (c115x12)
def c115x14 : AC := .seq (.reg [
  ⟨(some 9), .mv (.t 0), none⟩,
  ⟨(some 10), .len (.t 9), none⟩,
  ⟨(some 11), .mv (.k (.int .i64 0)), none⟩] [9, 10, 11]) (c115x13)
def c115x15 : AC := .seq (c115x14) (c115x0)
def c115x16 : AC := .seq (.reg [
  ⟨(some 2), .mv (.k (.int .i64 2)), none⟩] [2]) (.ret)
def c115x17 : AC := .cond (.t 8) (c115x16) (.skip)
def c115x18 : AC := .seq (.reg [
  ⟨(some 6), .mv (.t 0), none⟩,
  ⟨(some 7), .len (.t 6), none⟩,
  ⟨(some 8), .bin .gtr (.t 7) (.k (.int .i64 8)), none⟩] [0, 8]) (c115x17)
def c115x19 : AC := .seq (c115x18) (c115x15)
def c115 : AC := .seq (.reg [
  ⟨(some 2), .mv (.k (.int .i64 0)), none⟩] [0]) (c115x19)
theorem k115 : Try.f115.body.bind (compC Try.prog Try.f115.ntmps v115) = some c115 := by kernel_rfl
theorem e115 : enters Try.prog 115 = true := by kernel_rfl
theorem q115 : Try.f115.results.toList.mapM (compRes Try.prog) = some r115 := by kernel_rfl
def v116 : List (Nat × List Nat) := [(0, [0]), (1, [0, 3]), (2, [3, 6, 7, 8]), (3, [3, 6, 7, 8, 9]), (4, [3, 5, 6, 7, 8]), (5, [3, 6, 7, 8, 19]), (6, [3, 6, 7, 8]), (7, [3, 6, 7, 8]), (8, [2])]
def r116 : List AR := [.t 2]
def c116x0 : AC := .seq (.reg [
  ⟨(some 23), .mv (.t 3), none⟩,
  ⟨(some 2), .mv (.t 23), none⟩] [2]) (.ret)
def c116x1 : AC := .reg [
  ⟨(some 22), .bin .add (.t 8) (.k (.int .i64 1)), none⟩,
  ⟨(some 8), .mv (.t 22), none⟩] [3, 6, 7, 8]
def c116x2 : AC := .reg [
  ⟨(some 20), .mv (.t 3), none⟩,
  ⟨(some 21), .bin .add (.t 20) (.k (.int .i64 1)), none⟩,
  ⟨(some 3), .mv (.t 21), none⟩] [3, 6, 7, 8]
def c116x3 : AC := .cond (.t 19) (c116x2) (.skip)
def c116x4 : AC := .seq (.reg [
  ⟨(some 12), .fad 0 (.t 5), none⟩,
  ⟨(some 13), .ld none (.t 12), none⟩,
  ⟨(some 14), .bin .eql (.t 13) (.k (.int .i64 1)), none⟩,
  ⟨(some 15), .mv (.t 14), none⟩,
  ⟨(some 16), .fad 1 (.t 5), (some (15, true))⟩,
  ⟨(some 17), .ld none (.t 16), (some (15, true))⟩,
  ⟨(some 18), .bin .eql (.t 17) (.k (.int .i64 0)), (some (15, true))⟩,
  ⟨(some 19), .pick (.t 15) (.t 18) (.k (.bool false)), none⟩] [3, 6, 7, 8, 19]) (c116x3)
def c116x5 : AC := .seq (.reg [
  ⟨(some 10), .idx 4 none (.t 6) (.t 8), none⟩,
  ⟨(some 11), .ld (some 4) (.t 10), none⟩,
  ⟨(some 5), .zero [(.int .i64 0), (.int .i64 0), (.int .i64 0), (.slice none 0 0)], none⟩,
  ⟨none, .st 4 (.t 5) (.t 11), none⟩] [3, 5, 6, 7, 8]) (c116x4)
def c116x6 : AC := .block 1 (c116x5)
def c116x7 : AC := .seq (c116x6) (c116x1)
def c116x8 : AC := .cond (.t 9) (.skip) (.exit 0)
def c116x9 : AC := .seq (c116x8) (c116x7)
def c116x10 : AC := .seq (.reg [
  ⟨(some 9), .bin .lss (.t 8) (.t 7), none⟩] [3, 6, 7, 8, 9]) (c116x9)
def c116x11 : AC := .loop (c116x10)
def c116x12 : AC := .block 0 (c116x11)
def c116x13 : AC := .seq (.reg [
  ⟨(some 6), .mv (.t 0), none⟩,
  ⟨(some 7), .len (.t 6), none⟩,
  ⟨(some 8), .mv (.k (.int .i64 0)), none⟩] [3, 6, 7, 8]) (c116x12)
def c116x14 : AC := .seq (c116x13) (c116x0)
def c116x15 : AC := .seq (.reg [
  ⟨(some 3), .mv (.k (.int .i64 0)), none⟩] [0, 3]) (c116x14)
def c116 : AC := .seq (.reg [
  ⟨(some 2), .mv (.k (.int .i64 0)), none⟩] [0]) (c116x15)
theorem k116 : Try.f116.body.bind (compC Try.prog Try.f116.ntmps v116) = some c116 := by kernel_rfl
theorem e116 : enters Try.prog 116 = true := by kernel_rfl
theorem q116 : Try.f116.results.toList.mapM (compRes Try.prog) = some r116 := by kernel_rfl
def v117 : List (Nat × List Nat) := [(0, [0, 1]), (1, [4])]
def r117 : List AR := [.t 4]
def c117x0 : AC := .seq (.reg [
  ⟨(some 5), .mv (.t 0), none⟩,
  ⟨(some 6), .mv (.t 1), none⟩,
  ⟨(some 7), .call 165 [(.t 5), (.t 6), (.f 166)], none⟩,
  ⟨(some 4), .mv (.t 7), none⟩] [4]) (.ret)
def c117 : AC := .seq (.reg [
  ⟨(some 4), .mv (.k (.bool false)), none⟩] [0, 1]) (c117x0)
theorem k117 : Try.f117.body.bind (compC Try.prog Try.f117.ntmps v117) = some c117 := by kernel_rfl
theorem e117 : enters Try.prog 117 = true := by kernel_rfl
theorem q117 : Try.f117.results.toList.mapM (compRes Try.prog) = some r117 := by kernel_rfl
def v119 : List (Nat × List Nat) := [(0, [2, 3]), (1, [4])]
def r119 : List AR := [.t 4]
def c119x0 : AC := .seq (.reg [
  ⟨(some 5), .fad 0 (.t 2), none⟩,
  ⟨(some 6), .ld none (.t 5), none⟩,
  ⟨(some 7), .fad 0 (.t 3), none⟩,
  ⟨(some 8), .ld none (.t 7), none⟩,
  ⟨(some 9), .bin .eql (.t 6) (.t 8), none⟩,
  ⟨(some 10), .mv (.t 9), none⟩,
  ⟨(some 11), .fad 1 (.t 2), (some (10, true))⟩,
  ⟨(some 12), .ld none (.t 11), (some (10, true))⟩,
  ⟨(some 13), .fad 1 (.t 3), (some (10, true))⟩,
  ⟨(some 14), .ld none (.t 13), (some (10, true))⟩,
  ⟨(some 15), .bin .eql (.t 12) (.t 14), (some (10, true))⟩,
  ⟨(some 16), .pick (.t 10) (.t 15) (.k (.bool false)), none⟩,
  ⟨(some 17), .mv (.t 16), none⟩,
  ⟨(some 18), .fad 2 (.t 2), (some (17, true))⟩,
  ⟨(some 19), .ld none (.t 18), (some (17, true))⟩,
  ⟨(some 20), .fad 2 (.t 3), (some (17, true))⟩,
  ⟨(some 21), .ld none (.t 20), (some (17, true))⟩,
  ⟨(some 22), .bin .eql (.t 19) (.t 21), (some (17, true))⟩,
  ⟨(some 23), .pick (.t 17) (.t 22) (.k (.bool false)), none⟩,
  ⟨(some 24), .mv (.t 23), none⟩,
  ⟨(some 25), .fad 3 (.t 2), (some (24, true))⟩,
  ⟨(some 26), .ld none (.t 25), (some (24, true))⟩,
  ⟨(some 27), .fad 3 (.t 3), (some (24, true))⟩,
  ⟨(some 28), .ld none (.t 27), (some (24, true))⟩,
  ⟨(some 29), .call 117 [(.t 26), (.t 28)], (some (24, true))⟩,
  ⟨(some 30), .pick (.t 24) (.t 29) (.k (.bool false)), none⟩,
  ⟨(some 4), .mv (.t 30), none⟩] [4]) (.ret)
def c119 : AC := .seq (.reg [
  ⟨(some 2), .new 4 (.t 0), none⟩,
  ⟨(some 3), .new 4 (.t 1), none⟩,
  ⟨(some 4), .mv (.k (.bool false)), none⟩] [2, 3]) (c119x0)
theorem k119 : Try.f119.body.bind (compC Try.prog Try.f119.ntmps v119) = some c119 := by kernel_rfl
theorem e119 : enters Try.prog 119 = true := by kernel_rfl
theorem q119 : Try.f119.results.toList.mapM (compRes Try.prog) = some r119 := by kernel_rfl
def v121 : List (Nat × List Nat) := [(0, [1, 2]), (1, [3])]
def r121 : List AR := [.t 3]
def c121x0 : AC := .seq (.reg [
  ⟨(some 4), .fad 0 (.t 2), none⟩,
  ⟨(some 5), .ld none (.t 4), none⟩,
  ⟨(some 6), .ld none (.t 1), none⟩,
  ⟨(some 7), .bin .eql (.t 5) (.t 6), none⟩,
  ⟨(some 3), .mv (.t 7), none⟩] [3]) (.ret)
def c121 : AC := .seq (.reg [
  ⟨(some 2), .new 4 (.t 0), none⟩,
  ⟨(some 3), .mv (.k (.bool false)), none⟩] [1, 2]) (c121x0)
theorem k121 : Try.f121.body.bind (compC Try.prog Try.f121.ntmps v121) = some c121 := by kernel_rfl
theorem e121 : enters Try.prog 121 = true := by kernel_rfl
theorem q121 : Try.f121.results.toList.mapM (compRes Try.prog) = some r121 := by kernel_rfl
def v122 : List (Nat × List Nat) := [(0, [1, 2]), (1, [1, 2]), (2, [2])]
def r122 : List AR := [.cell (some 4) 2]
def c122x0 : AC := .seq (.reg [
  ⟨(some 7), .ld (some 4) (.t 1), none⟩,
  ⟨none, .st 4 (.t 2) (.t 7), none⟩] [2]) (.ret)
def c122x1 : AC := .seq (.reg [
  ⟨(some 3), .fad 3 (.t 1), none⟩,
  ⟨(some 4), .ld none (.t 3), none⟩,
  ⟨(some 5), .call 168 [(.t 4)], none⟩,
  ⟨(some 6), .fad 3 (.t 1), none⟩,
  ⟨none, .st 1 (.t 6) (.t 5), none⟩] [1, 2]) (c122x0)
def c122 : AC := .seq (.reg [
  ⟨(some 1), .new 4 (.t 0), none⟩,
  ⟨(some 2), .zero [(.int .i64 0), (.string ⟨#[]⟩), (.int .i64 0), (.slice none 0 0)], none⟩] [1, 2]) (c122x1)
theorem k122 : Try.f122.body.bind (compC Try.prog Try.f122.ntmps v122) = some c122 := by kernel_rfl
theorem e122 : enters Try.prog 122 = true := by kernel_rfl
theorem q122 : Try.f122.results.toList.mapM (compRes Try.prog) = some r122 := by kernel_rfl
def v123 : List (Nat × List Nat) := [(0, [1, 2, 3]), (1, [4])]
def r123 : List AR := [.t 4]
def c123x0 : AC := .seq (.reg [
  ⟨(some 5), .fad 1 (.t 3), none⟩,
  ⟨(some 6), .ld none (.t 5), none⟩,
  ⟨(some 7), .ld none (.t 1), none⟩,
  ⟨(some 8), .bin .eql (.t 6) (.t 7), none⟩,
  ⟨(some 9), .mv (.t 8), none⟩,
  ⟨(some 10), .fad 2 (.t 3), (some (9, true))⟩,
  ⟨(some 11), .ld none (.t 10), (some (9, true))⟩,
  ⟨(some 12), .ld none (.t 2), (some (9, true))⟩,
  ⟨(some 13), .bin .eql (.t 11) (.t 12), (some (9, true))⟩,
  ⟨(some 14), .pick (.t 9) (.t 13) (.k (.bool false)), none⟩,
  ⟨(some 4), .mv (.t 14), none⟩] [4]) (.ret)
def c123 : AC := .seq (.reg [
  ⟨(some 3), .new 4 (.t 0), none⟩,
  ⟨(some 4), .mv (.k (.bool false)), none⟩] [1, 2, 3]) (c123x0)
theorem k123 : Try.f123.body.bind (compC Try.prog Try.f123.ntmps v123) = some c123 := by kernel_rfl
theorem e123 : enters Try.prog 123 = true := by kernel_rfl
theorem q123 : Try.f123.results.toList.mapM (compRes Try.prog) = some r123 := by kernel_rfl
def v164 : List (Nat × List Nat) := [(0, [1]), (1, [1, 6]), (2, [2]), (3, [1, 15]), (4, [2]), (5, [1, 29]), (6, [2]), (7, [1, 49]), (8, [2]), (9, [55, 56, 57]), (10, [55, 56, 57, 58]), (11, [4, 55, 56, 57]), (12, [5, 55, 56, 57]), (13, [5, 55, 56, 57, 64]), (14, [2]), (15, [55, 56, 57]), (16, [2])]
def r164 : List AR := [.t 2]
def c164x0 : AC := .seq (.reg [
  ⟨(some 2), .mv (.k (.int .i64 0)), none⟩] [2]) (.ret)
def c164x1 : AC := .reg [
  ⟨(some 66), .bin .add (.t 57) (.k (.int .i64 1)), none⟩,
  ⟨(some 57), .mv (.t 66), none⟩] [55, 56, 57]
def c164x2 : AC := .seq (.reg [
  ⟨(some 65), .mv (.t 5), none⟩,
  ⟨(some 2), .mv (.t 65), none⟩] [2]) (.ret)
def c164x3 : AC := .cond (.t 64) (c164x2) (.skip)
def c164x4 : AC := .seq (.reg [
  ⟨(some 63), .mv (.t 5), none⟩,
  ⟨(some 64), .bin .neq (.t 63) (.k (.int .i64 0)), none⟩] [5, 55, 56, 57, 64]) (c164x3)
def c164x5 : AC := .seq (.reg [
  ⟨(some 61), .ld (some 4) (.t 4), none⟩,
  ⟨(some 62), .call 189 [(.t 61)], none⟩,
  ⟨(some 5), .mv (.t 62), none⟩] [5, 55, 56, 57]) (c164x4)
def c164x6 : AC := .seq (.reg [
  ⟨(some 59), .idx 4 none (.t 55) (.t 57), none⟩,
  ⟨(some 60), .ld (some 4) (.t 59), none⟩,
  ⟨(some 4), .zero [(.int .i64 0), (.int .i64 0), (.int .i64 0), (.int .i64 0)], none⟩,
  ⟨none, .st 4 (.t 4) (.t 60), none⟩] [4, 55, 56, 57]) (c164x5)
def c164x7 : AC := .block 2 (c164x6)
def c164x8 : AC := .seq (c164x7) (c164x1)
def c164x9 : AC := .cond (.t 58) (.skip) (.exit 1)
def c164x10 : AC := .seq (c164x9) (c164x8)
def c164x11 : AC := .seq (.reg [
  ⟨(some 58), .bin .lss (.t 57) (.t 56), none⟩] [55, 56, 57, 58]) (c164x10)
def c164x12 : AC := .loop (c164x11)
def c164x13 : AC := .block 1 (c164x12)
def c164x14 : AC := .seq (.reg [
  ⟨(some 54), .fad 3 (.t 1), none⟩,
  ⟨(some 55), .ld none (.t 54), none⟩,
  ⟨(some 56), .len (.t 55), none⟩,
  ⟨(some 57), .mv (.k (.int .i64 0)), none⟩] [55, 56, 57]) (c164x13)
def c164x15 : AC := .seq (c164x14) (c164x0)
def c164x16 : AC := .seq (.reg [
  ⟨(some 2), .mv (.k (.int .i64 8)), none⟩] [2]) (.ret)
def c164x17 : AC := .seq (.reg [
  ⟨(some 2), .mv (.k (.int .i64 3)), none⟩] [2]) (.ret)
def c164x18 : AC := .seq (.reg [
  ⟨(some 2), .mv (.k (.int .i64 1)), none⟩] [2]) (.ret)
def c164x19 : AC := .seq (.reg [
  ⟨(some 2), .mv (.k (.int .i64 2)), none⟩] [2]) (.ret)
def c164x20 : AC := .cond (.t 49) (c164x19) (.skip)
def c164x21 : AC := .seq (.reg [
  ⟨(some 50), .fad 3 (.t 1), none⟩,
  ⟨(some 51), .ld none (.t 50), none⟩,
  ⟨(some 52), .len (.t 51), none⟩,
  ⟨(some 53), .bin .gtr (.t 52) (.k (.int .i64 6)), none⟩,
  ⟨(some 49), .mv (.t 53), none⟩] [1, 49]) (c164x20)
def c164x22 : AC := .cond (.t 29) (c164x18) (c164x21)
def c164x23 : AC := .seq (.reg [
  ⟨(some 30), .fad 1 (.t 1), none⟩,
  ⟨(some 31), .ld none (.t 30), none⟩,
  ⟨(some 32), .bin .lss (.t 31) (.k (.int .i64 0)), none⟩,
  ⟨(some 33), .mv (.t 32), none⟩,
  ⟨(some 34), .fad 1 (.t 1), (some (33, false))⟩,
  ⟨(some 35), .ld none (.t 34), (some (33, false))⟩,
  ⟨(some 36), .bin .geq (.t 35) (.k (.int .i64 12)), (some (33, false))⟩,
  ⟨(some 37), .pick (.t 33) (.k (.bool true)) (.t 36), none⟩,
  ⟨(some 38), .mv (.t 37), none⟩,
  ⟨(some 39), .fad 2 (.t 1), (some (38, false))⟩,
  ⟨(some 40), .ld none (.t 39), (some (38, false))⟩,
  ⟨(some 41), .call 188 [(.t 40)], (some (38, false))⟩,
  ⟨(some 42), .not (.t 41), (some (38, false))⟩,
  ⟨(some 43), .pick (.t 38) (.k (.bool true)) (.t 42), none⟩,
  ⟨(some 44), .mv (.t 43), none⟩,
  ⟨(some 45), .fad 2 (.t 1), (some (44, false))⟩,
  ⟨(some 46), .ld none (.t 45), (some (44, false))⟩,
  ⟨(some 47), .call 104 [(.t 46)], (some (44, false))⟩,
  ⟨(some 48), .pick (.t 44) (.k (.bool true)) (.t 47), none⟩,
  ⟨(some 29), .mv (.t 48), none⟩] [1, 29]) (c164x22)
def c164x24 : AC := .cond (.t 15) (c164x17) (c164x23)
def c164x25 : AC := .seq (.reg [
  ⟨(some 16), .fad 0 (.t 1), none⟩,
  ⟨(some 17), .ld none (.t 16), none⟩,
  ⟨(some 18), .bin .eql (.t 17) (.k (.int .i64 0)), none⟩,
  ⟨(some 19), .mv (.t 18), none⟩,
  ⟨(some 20), .fad 1 (.t 1), (some (19, true))⟩,
  ⟨(some 21), .ld none (.t 20), (some (19, true))⟩,
  ⟨(some 22), .bin .neq (.t 21) (.k (.int .i64 0)), (some (19, true))⟩,
  ⟨(some 23), .mv (.t 22), (some (19, true))⟩,
  ⟨(some 24), .fad 2 (.t 1), (some (23, false))⟩,
  ⟨(some 25), .ld none (.t 24), (some (23, false))⟩,
  ⟨(some 26), .bin .neq (.t 25) (.k (.int .i64 0)), (some (23, false))⟩,
  ⟨(some 27), .pick (.t 23) (.k (.bool true)) (.t 26), (some (19, true))⟩,
  ⟨(some 28), .pick (.t 19) (.t 27) (.k (.bool false)), none⟩,
  ⟨(some 15), .mv (.t 28), none⟩] [1, 15]) (c164x24)
def c164x26 : AC := .cond (.t 6) (c164x16) (c164x25)
def c164x27 : AC := .seq (.reg [
  ⟨(some 7), .fad 0 (.t 1), none⟩,
  ⟨(some 8), .ld none (.t 7), none⟩,
  ⟨(some 9), .bin .lss (.t 8) (.k (.int .i64 0)), none⟩,
  ⟨(some 10), .mv (.t 9), none⟩,
  ⟨(some 11), .fad 0 (.t 1), (some (10, false))⟩,
  ⟨(some 12), .ld none (.t 11), (some (10, false))⟩,
  ⟨(some 13), .bin .gtr (.t 12) (.k (.int .i64 2)), (some (10, false))⟩,
  ⟨(some 14), .pick (.t 10) (.k (.bool true)) (.t 13), none⟩,
  ⟨(some 6), .mv (.t 14), none⟩] [1, 6]) (c164x26)
def c164x28 : AC := .block 0 (c164x27)
def c164x29 : AC := .seq (c164x28) (c164x15)
def c164 : AC := .seq (.reg [
  ⟨(some 1), .new 4 (.t 0), none⟩,
  ⟨(some 2), .mv (.k (.int .i64 0)), none⟩] [1]) (c164x29)
theorem k164 : Try.f164.body.bind (compC Try.prog Try.f164.ntmps v164) = some c164 := by kernel_rfl
theorem e164 : enters Try.prog 164 = true := by kernel_rfl
theorem q164 : Try.f164.results.toList.mapM (compRes Try.prog) = some r164 := by kernel_rfl
def v166 : List (Nat × List Nat) := [(0, [2, 3]), (1, [4])]
def r166 : List AR := [.t 4]
def c166x0 : AC := .seq (.reg [
  ⟨(some 5), .fad 0 (.t 2), none⟩,
  ⟨(some 6), .ld none (.t 5), none⟩,
  ⟨(some 7), .fad 0 (.t 3), none⟩,
  ⟨(some 8), .ld none (.t 7), none⟩,
  ⟨(some 9), .bin .eql (.t 6) (.t 8), none⟩,
  ⟨(some 10), .mv (.t 9), none⟩,
  ⟨(some 11), .fad 1 (.t 2), (some (10, true))⟩,
  ⟨(some 12), .ld none (.t 11), (some (10, true))⟩,
  ⟨(some 13), .fad 1 (.t 3), (some (10, true))⟩,
  ⟨(some 14), .ld none (.t 13), (some (10, true))⟩,
  ⟨(some 15), .bin .eql (.t 12) (.t 14), (some (10, true))⟩,
  ⟨(some 16), .pick (.t 10) (.t 15) (.k (.bool false)), none⟩,
  ⟨(some 17), .mv (.t 16), none⟩,
  ⟨(some 18), .fad 2 (.t 2), (some (17, true))⟩,
  ⟨(some 19), .ld none (.t 18), (some (17, true))⟩,
  ⟨(some 20), .fad 2 (.t 3), (some (17, true))⟩,
  ⟨(some 21), .ld none (.t 20), (some (17, true))⟩,
  ⟨(some 22), .bin .eql (.t 19) (.t 21), (some (17, true))⟩,
  ⟨(some 23), .pick (.t 17) (.t 22) (.k (.bool false)), none⟩,
  ⟨(some 24), .mv (.t 23), none⟩,
  ⟨(some 25), .fad 3 (.t 2), (some (24, true))⟩,
  ⟨(some 26), .ld none (.t 25), (some (24, true))⟩,
  ⟨(some 27), .fad 3 (.t 3), (some (24, true))⟩,
  ⟨(some 28), .ld none (.t 27), (some (24, true))⟩,
  ⟨(some 29), .call 167 [(.t 26), (.t 28)], (some (24, true))⟩,
  ⟨(some 30), .pick (.t 24) (.t 29) (.k (.bool false)), none⟩,
  ⟨(some 4), .mv (.t 30), none⟩] [4]) (.ret)
def c166 : AC := .seq (.reg [
  ⟨(some 2), .new 4 (.t 0), none⟩,
  ⟨(some 3), .new 4 (.t 1), none⟩,
  ⟨(some 4), .mv (.k (.bool false)), none⟩] [2, 3]) (c166x0)
theorem k166 : Try.f166.body.bind (compC Try.prog Try.f166.ntmps v166) = some c166 := by kernel_rfl
theorem e166 : enters Try.prog 166 = true := by kernel_rfl
theorem q166 : Try.f166.results.toList.mapM (compRes Try.prog) = some r166 := by kernel_rfl
def v168 : List (Nat × List Nat) := [(0, [0]), (1, [3]), (2, [3, 8, 9]), (3, [3, 8, 9, 10]), (4, [3, 4, 8, 9]), (5, [3, 8, 9]), (6, [3, 8, 9]), (7, [2])]
def r168 : List AR := [.t 2]
def c168x0 : AC := .seq (.reg [
  ⟨(some 23), .mv (.t 3), none⟩,
  ⟨(some 2), .mv (.t 23), none⟩] [2]) (.ret)
def c168x1 : AC := .reg [
  ⟨(some 22), .bin .add (.t 9) (.k (.int .i64 1)), none⟩,
  ⟨(some 9), .mv (.t 22), none⟩] [3, 8, 9]
def c168x2 : AC := .reg [
  ⟨(some 12), .mv (.t 3), none⟩,
  ⟨(some 13), .mv (.t 4), none⟩,
  ⟨(some 14), .mv (.t 3), none⟩,
  ⟨(some 15), .mv (.t 4), none⟩,
  ⟨(some 16), .idx 4 none (.t 14) (.t 15), none⟩,
  ⟨(some 17), .fad 3 (.t 16), none⟩,
  ⟨(some 18), .ld none (.t 17), none⟩,
  ⟨(some 19), .call 191 [(.t 18)], none⟩,
  ⟨(some 20), .idx 4 none (.t 12) (.t 13), none⟩,
  ⟨(some 21), .fad 3 (.t 20), none⟩,
  ⟨none, .st 1 (.t 21) (.t 19), none⟩] [3, 8, 9]
def c168x3 : AC := .seq (.reg [
  ⟨(some 11), .mv (.t 9), none⟩,
  ⟨(some 4), .mv (.t 11), none⟩] [3, 4, 8, 9]) (c168x2)
def c168x4 : AC := .block 1 (c168x3)
def c168x5 : AC := .seq (c168x4) (c168x1)
def c168x6 : AC := .cond (.t 10) (.skip) (.exit 0)
def c168x7 : AC := .seq (c168x6) (c168x5)
def c168x8 : AC := .seq (.reg [
  ⟨(some 10), .bin .lss (.t 9) (.t 8), none⟩] [3, 8, 9, 10]) (c168x7)
def c168x9 : AC := .loop (c168x8)
def c168x10 : AC := .block 0 (c168x9)
def c168x11 : AC := .seq (.reg [
  ⟨(some 7), .mv (.t 3), none⟩,
  ⟨(some 8), .len (.t 7), none⟩,
  ⟨(some 9), .mv (.k (.int .i64 0)), none⟩] [3, 8, 9]) (c168x10)
def c168x12 : AC := .seq (c168x11) (c168x0)
def c168x13 : AC := .seq (.reg [
  ⟨(some 5), .mv (.t 0), none⟩,
  ⟨(some 6), .call 190 [(.t 5)], none⟩,
  ⟨(some 3), .mv (.t 6), none⟩] [3]) (c168x12)
def c168 : AC := .seq (.reg [
  ⟨(some 2), .mv (.k (.slice none 0 0)), none⟩] [0]) (c168x13)
theorem k168 : Try.f168.body.bind (compC Try.prog Try.f168.ntmps v168) = some c168 := by kernel_rfl
theorem e168 : enters Try.prog 168 = true := by kernel_rfl
theorem q168 : Try.f168.results.toList.mapM (compRes Try.prog) = some r168 := by kernel_rfl
def v188 : List (Nat × List Nat) := [(0, [0]), (1, [2])]
def r188 : List AR := [.t 2]
def c188x0 : AC := .seq (.reg [
  ⟨(some 3), .mv (.t 0), none⟩,
  ⟨(some 4), .bin .geq (.t 3) (.k (.int .i64 0)), none⟩,
  ⟨(some 5), .mv (.t 4), none⟩,
  ⟨(some 6), .mv (.t 0), (some (5, true))⟩,
  ⟨(some 7), .bin .lss (.t 6) (.k (.int .i64 9)), (some (5, true))⟩,
  ⟨(some 8), .pick (.t 5) (.t 7) (.k (.bool false)), none⟩,
  ⟨(some 2), .mv (.t 8), none⟩] [2]) (.ret)
def c188 : AC := .seq (.reg [
  ⟨(some 2), .mv (.k (.bool false)), none⟩] [0]) (c188x0)
theorem k188 : Try.f188.body.bind (compC Try.prog Try.f188.ntmps v188) = some c188 := by kernel_rfl
theorem e188 : enters Try.prog 188 = true := by kernel_rfl
theorem q188 : Try.f188.results.toList.mapM (compRes Try.prog) = some r188 := by kernel_rfl
def v189 : List (Nat × List Nat) := [(0, [1]), (1, [1, 14]), (2, [2]), (3, [1, 17]), (4, [40]), (5, [2]), (6, [2]), (7, [1, 3, 4, 5]), (8, [1, 3, 4, 5, 6]), (9, [1, 3, 4, 5, 6, 60]), (10, [1, 3, 4, 5, 6]), (11, [1, 3, 4, 6, 62]), (12, [1, 3, 4, 6]), (13, [98]), (14, [2]), (15, [2])]
def r189 : List AR := [.t 2]
def c189x0 : AC := .seq (.reg [
  ⟨(some 2), .mv (.k (.int .i64 0)), none⟩] [2]) (.ret)
def c189x1 : AC := .seq (.reg [
  ⟨(some 2), .mv (.k (.int .i64 1)), none⟩] [2]) (.ret)
def c189x2 : AC := .cond (.t 98) (c189x1) (.skip)
def c189x3 : AC := .seq (.dreg [
  ⟨(some 63), .fad 1 (.t 1), none⟩,
  ⟨(some 64), .ld none (.t 63), none⟩,
  ⟨(some 65), .mv (.t 3), none⟩,
  ⟨(some 66), .call 196 [(.t 64), (.t 65)], none⟩,
  ⟨(some 67), .not (.t 66), none⟩,
  ⟨(some 68), .mv (.t 67), none⟩,
  ⟨(some 69), .fad 2 (.t 1), (some (68, false))⟩,
  ⟨(some 70), .ld none (.t 69), (some (68, false))⟩,
  ⟨(some 71), .mv (.t 4), (some (68, false))⟩,
  ⟨(some 72), .call 196 [(.t 70), (.t 71)], (some (68, false))⟩,
  ⟨(some 73), .not (.t 72), (some (68, false))⟩,
  ⟨(some 74), .pick (.t 68) (.k (.bool true)) (.t 73), none⟩,
  ⟨(some 75), .mv (.t 74), none⟩,
  ⟨(some 76), .mv (.t 3), (some (75, false))⟩,
  ⟨(some 77), .bin .eql (.t 76) (.k (.int .u8 115)), (some (75, false))⟩,
  ⟨(some 78), .mv (.t 77), (some (75, false))⟩,
  ⟨(some 79), .fad 1 (.t 1), (some (78, true))⟩,
  ⟨(some 80), .ld none (.t 79), (some (78, true))⟩,
  ⟨(some 81), .call 104 [(.t 80)], (some (78, true))⟩,
  ⟨(some 82), .fad 2 (.t 1), (some (78, true))⟩,
  ⟨(some 83), .ld none (.t 82), (some (78, true))⟩,
  ⟨(some 84), .call 104 [(.t 83)], (some (78, true))⟩,
  ⟨(some 85), .eqb true (.t 81) (.t 84), (some (78, true))⟩,
  ⟨(some 86), .pick (.t 78) (.t 85) (.k (.bool false)), (some (75, false))⟩,
  ⟨(some 87), .pick (.t 75) (.k (.bool true)) (.t 86), none⟩,
  ⟨(some 88), .mv (.t 87), none⟩,
  ⟨(some 89), .fad 3 (.t 1), (some (88, false))⟩,
  ⟨(some 90), .ld none (.t 89), (some (88, false))⟩,
  ⟨(some 91), .bin .lss (.t 90) (.k (.int .i64 0)), (some (88, false))⟩,
  ⟨(some 92), .pick (.t 88) (.k (.bool true)) (.t 91), none⟩,
  ⟨(some 93), .mv (.t 92), none⟩,
  ⟨(some 94), .fad 3 (.t 1), (some (93, false))⟩,
  ⟨(some 95), .ld none (.t 94), (some (93, false))⟩,
  ⟨(some 96), .mv (.t 6), (some (93, false))⟩,
  ⟨(some 97), .bin .gtr (.t 95) (.t 96), (some (93, false))⟩,
  ⟨(some 98), .pick (.t 93) (.k (.bool true)) (.t 97), none⟩] [[], [0], [], [0, 1, 2], [0, 1, 2, 3], [0, 1, 2, 3, 4], [0, 1, 2, 3, 4, 5], [0, 1, 2, 3, 4, 5, 6], [0, 1, 2, 3, 4, 5], [0, 1, 2, 3, 4, 5, 6, 7, 8], [0, 1, 2, 3, 4, 5, 6, 7, 8, 9], [0, 1, 2, 3, 4, 5, 6, 7, 8, 9, 10], [0, 1, 2, 3, 4, 5, 6, 7, 8, 9, 10, 11], [0, 1, 2, 3, 4, 5, 6, 7, 8, 9, 10, 11, 12], [0, 1, 2, 3, 4, 5, 6, 7, 8, 9, 10, 11, 12, 13], [0, 1, 2, 3, 4, 5, 6, 7, 8, 9, 10, 11, 12, 13, 14], [0, 1, 2, 3, 4, 5, 6, 7, 8, 9, 10, 11, 12, 13, 14, 15], [0, 1, 2, 3, 4, 5, 6, 7, 8, 9, 10, 11, 12, 13, 14, 15, 16], [0, 1, 2, 3, 4, 5, 6, 7, 8, 9, 10, 11, 12, 13, 14, 15, 16, 17], [0, 1, 2, 3, 4, 5, 6, 7, 8, 9, 10, 11, 12, 13, 14, 15], [0, 1, 2, 3, 4, 5, 6, 7, 8, 9, 10, 11, 12, 13, 14, 15, 19], [0, 1, 2, 3, 4, 5, 6, 7, 8, 9, 10, 11, 12, 13, 14, 15, 16, 17, 18, 19, 20], [0, 1, 2, 3, 4, 5, 6, 7, 8, 9, 10, 11, 12, 13, 14, 15, 16, 17, 18, 19, 20, 21], [0, 1, 2, 3, 4, 5, 6, 7, 8, 9, 10, 11, 12, 13, 14, 15, 16, 17, 18, 19, 20, 21, 22], [0, 1, 2, 3, 4, 5, 6, 7, 8, 9, 10, 11, 12, 13, 14, 15, 16, 17, 18, 19, 20, 21, 22, 23], [0, 1, 2, 3, 4, 5, 6, 7, 8, 9, 10, 11, 12, 13, 14, 15, 16, 17, 18, 19, 20, 21, 22, 23, 24], [0, 1, 2, 3, 4, 5, 6, 7, 8, 9, 10, 11, 12, 13, 14, 15, 16, 17, 18, 19, 20, 21, 22, 23, 24, 25], [0, 1, 2, 3, 4, 5, 6, 7, 8, 9, 10, 11, 12, 13, 14, 15, 16, 17, 18, 19, 20, 21, 22, 23, 24, 25, 26], [0, 1, 2, 3, 4, 5, 6, 7, 8, 9, 10, 11, 12, 13, 14, 15, 16, 17, 18, 19, 20, 21, 22, 23, 24, 25, 26, 27], [0, 1, 2, 3, 4, 5, 6, 7, 8, 9, 10, 11, 12, 13, 14, 15, 16, 17, 18, 19, 20, 21, 22, 23, 24, 25, 26, 27, 28], [0, 1, 2, 3, 4, 5, 6, 7, 8, 9, 10, 11, 12, 13, 14, 15, 16, 17, 18, 19, 20, 21, 22, 23, 24, 25, 26, 27, 28, 29], [0, 1, 2, 3, 4, 5, 6, 7, 8, 9, 10, 11, 12, 13, 14, 15, 16, 17, 18, 19, 20, 21, 22, 23, 24, 25, 26, 27, 28, 29, 30], [0, 1, 2, 3, 4, 5, 6, 7, 8, 9, 10, 11, 12, 13, 14, 15, 16, 17, 18, 19, 20, 21, 22, 23, 24, 25, 26, 27, 28, 29, 30, 31], [0, 1, 2, 3, 4, 5, 6, 7, 8, 9, 10, 11, 12, 13, 14, 15, 16, 17, 18, 19, 20, 21, 22, 23, 24, 25, 26, 27, 28, 29, 30], [0, 1, 2, 3, 4, 5, 6, 7, 8, 9, 10, 11, 12, 13, 14, 15, 16, 17, 18, 19, 20, 21, 22, 23, 24, 25, 26, 27, 28, 29, 30, 31, 32, 33], [0, 1, 2, 3, 4, 5, 6, 7, 8, 9, 10, 11, 12, 13, 14, 15, 16, 17, 18, 19, 20, 21, 22, 23, 24, 25, 26, 27, 28, 29, 30, 31, 32, 33, 34]] [98]) (c189x2)
def c189x4 : AC := .seq (c189x3) (c189x0)
def c189x5 : AC := .reg [
  ⟨(some 6), .mv (.k (.int .i64 0)), none⟩] [1, 3, 4, 6]
def c189x6 : AC := .cond (.t 62) (c189x5) (.skip)
def c189x7 : AC := .seq (.reg [
  ⟨(some 61), .mv (.t 5), none⟩,
  ⟨(some 62), .not (.t 61), none⟩] [1, 3, 4, 6, 62]) (c189x6)
def c189x8 : AC := .seq (c189x7) (c189x4)
def c189x9 : AC := .reg [
  ⟨(some 6), .mv (.k (.int .i64 65535)), none⟩] [1, 3, 4, 5, 6]
def c189x10 : AC := .cond (.t 60) (c189x9) (.skip)
def c189x11 : AC := .seq (.reg [
  ⟨(some 48), .fad 0 (.t 1), none⟩,
  ⟨(some 49), .ld none (.t 48), none⟩,
  ⟨(some 50), .bin .eql (.t 49) (.k (.int .i64 2)), none⟩,
  ⟨(some 51), .mv (.t 50), none⟩,
  ⟨(some 52), .fad 1 (.t 1), (some (51, true))⟩,
  ⟨(some 53), .ld none (.t 52), (some (51, true))⟩,
  ⟨(some 54), .call 188 [(.t 53)], (some (51, true))⟩,
  ⟨(some 55), .pick (.t 51) (.t 54) (.k (.bool false)), none⟩,
  ⟨(some 56), .mv (.t 55), none⟩,
  ⟨(some 57), .fad 1 (.t 1), (some (56, true))⟩,
  ⟨(some 58), .ld none (.t 57), (some (56, true))⟩,
  ⟨(some 59), .call 104 [(.t 58)], (some (56, true))⟩,
  ⟨(some 60), .pick (.t 56) (.t 59) (.k (.bool false)), none⟩] [1, 3, 4, 5, 6, 60]) (c189x10)
def c189x12 : AC := .seq (c189x11) (c189x8)
def c189x13 : AC := .seq (.reg [
  ⟨(some 6), .mv (.k (.int .i64 255)), none⟩] [1, 3, 4, 5, 6]) (c189x12)
def c189x14 : AC := .seq (.reg [
  ⟨(some 42), .fad 0 (.t 1), none⟩,
  ⟨(some 43), .ld none (.t 42), none⟩,
  ⟨(some 44), .call 195 [(.t 43)], none⟩,
  ⟨(some 41), .mv (.t 44), none⟩,
  ⟨(some 45), .ext (.t 41) 0, none⟩,
  ⟨(some 46), .ext (.t 41) 1, none⟩,
  ⟨(some 47), .ext (.t 41) 2, none⟩,
  ⟨(some 3), .mv (.t 45), none⟩,
  ⟨(some 4), .mv (.t 46), none⟩,
  ⟨(some 5), .mv (.t 47), none⟩] [1, 3, 4, 5]) (c189x13)
def c189x15 : AC := .seq (.reg [
  ⟨(some 2), .mv (.k (.int .i64 0)), none⟩] [2]) (.ret)
def c189x16 : AC := .seq (.reg [
  ⟨(some 2), .mv (.k (.int .i64 1)), none⟩] [2]) (.ret)
def c189x17 : AC := .cond (.t 40) (c189x16) (.skip)
def c189x18 : AC := .seq (.reg [
  ⟨(some 18), .fad 1 (.t 1), none⟩,
  ⟨(some 19), .ld none (.t 18), none⟩,
  ⟨(some 20), .bin .neq (.t 19) (.k (.int .i64 0)), none⟩,
  ⟨(some 21), .mv (.t 20), none⟩,
  ⟨(some 22), .fad 2 (.t 1), (some (21, false))⟩,
  ⟨(some 23), .ld none (.t 22), (some (21, false))⟩,
  ⟨(some 24), .bin .lss (.t 23) (.k (.int .i64 0)), (some (21, false))⟩,
  ⟨(some 25), .pick (.t 21) (.k (.bool true)) (.t 24), none⟩,
  ⟨(some 26), .mv (.t 25), none⟩,
  ⟨(some 27), .fad 2 (.t 1), (some (26, false))⟩,
  ⟨(some 28), .ld none (.t 27), (some (26, false))⟩,
  ⟨(some 29), .bin .gtr (.t 28) (.k (.int .i64 1)), (some (26, false))⟩,
  ⟨(some 30), .pick (.t 26) (.k (.bool true)) (.t 29), none⟩,
  ⟨(some 31), .mv (.t 30), none⟩,
  ⟨(some 32), .fad 3 (.t 1), (some (31, false))⟩,
  ⟨(some 33), .ld none (.t 32), (some (31, false))⟩,
  ⟨(some 34), .bin .lss (.t 33) (.k (.int .i64 0)), (some (31, false))⟩,
  ⟨(some 35), .pick (.t 31) (.k (.bool true)) (.t 34), none⟩,
  ⟨(some 36), .mv (.t 35), none⟩,
  ⟨(some 37), .fad 3 (.t 1), (some (36, false))⟩,
  ⟨(some 38), .ld none (.t 37), (some (36, false))⟩,
  ⟨(some 39), .bin .gtr (.t 38) (.k (.int .i64 255)), (some (36, false))⟩,
  ⟨(some 40), .pick (.t 36) (.k (.bool true)) (.t 39), none⟩] [40]) (c189x17)
def c189x19 : AC := .seq (c189x18) (c189x15)
def c189x20 : AC := .cond (.t 17) (c189x19) (.skip)
def c189x21 : AC := .seq (.reg [
  ⟨(some 15), .fad 0 (.t 1), none⟩,
  ⟨(some 16), .ld none (.t 15), none⟩,
  ⟨(some 17), .bin .eql (.t 16) (.k (.int .i64 24)), none⟩] [1, 17]) (c189x20)
def c189x22 : AC := .seq (c189x21) (c189x14)
def c189x23 : AC := .seq (.reg [
  ⟨(some 2), .mv (.k (.int .i64 8)), none⟩] [2]) (.ret)
def c189x24 : AC := .cond (.t 14) (c189x23) (.skip)
def c189x25 : AC := .seq (.reg [
  ⟨(some 7), .fad 0 (.t 1), none⟩,
  ⟨(some 8), .ld none (.t 7), none⟩,
  ⟨(some 9), .bin .lss (.t 8) (.k (.int .i64 0)), none⟩,
  ⟨(some 10), .mv (.t 9), none⟩,
  ⟨(some 11), .fad 0 (.t 1), (some (10, false))⟩,
  ⟨(some 12), .ld none (.t 11), (some (10, false))⟩,
  ⟨(some 13), .bin .geq (.t 12) (.k (.int .i64 25)), (some (10, false))⟩,
  ⟨(some 14), .pick (.t 10) (.k (.bool true)) (.t 13), none⟩] [1, 14]) (c189x24)
def c189x26 : AC := .seq (c189x25) (c189x22)
def c189 : AC := .seq (.reg [
  ⟨(some 1), .new 4 (.t 0), none⟩,
  ⟨(some 2), .mv (.k (.int .i64 0)), none⟩] [1]) (c189x26)
theorem k189 : Try.f189.body.bind (compC Try.prog Try.f189.ntmps v189) = some c189 := by kernel_rfl
theorem e189 : enters Try.prog 189 = true := by kernel_rfl
theorem q189 : Try.f189.results.toList.mapM (compRes Try.prog) = some r189 := by kernel_rfl
def v195 : List (Nat × List Nat) := [(0, [0]), (1, [5]), (2, [5, 6]), (3, [2, 3, 4]), (4, [5, 8]), (5, [2, 3, 4]), (6, [5, 10]), (7, [5, 10]), (8, [5, 10]), (9, [5, 10]), (10, [5, 10]), (11, [2, 3, 4]), (12, [5, 16]), (13, [5, 16]), (14, [5, 16]), (15, [5, 16]), (16, [5, 16]), (17, [5, 16]), (18, [2, 3, 4]), (19, [5, 23]), (20, [5, 23]), (21, [2, 3, 4]), (22, [5, 26]), (23, [5, 26]), (24, [2, 3, 4]), (25, [5, 29]), (26, [5, 29]), (27, [5, 29]), (28, [5, 29]), (29, [2, 3, 4]), (30, [5, 34]), (31, [34]), (32, [2, 3, 4]), (33, [2, 3, 4])]
def r195 : List AR := [.t 2, .t 3, .t 4]
def c195x0 : AC := .seq (.reg [
  ⟨(some 2), .mv (.k (.int .u8 0)), none⟩,
  ⟨(some 3), .mv (.k (.int .u8 0)), none⟩,
  ⟨(some 4), .mv (.k (.bool false)), none⟩] [2, 3, 4]) (.ret)
def c195x1 : AC := .seq (.reg [
  ⟨(some 2), .mv (.k (.int .u8 115)), none⟩,
  ⟨(some 3), .mv (.k (.int .u8 115)), none⟩,
  ⟨(some 4), .mv (.k (.bool false)), none⟩] [2, 3, 4]) (.ret)
def c195x2 : AC := .seq (.reg [
  ⟨(some 2), .mv (.k (.int .u8 97)), none⟩,
  ⟨(some 3), .mv (.k (.int .u8 0)), none⟩,
  ⟨(some 4), .mv (.k (.bool true)), none⟩] [2, 3, 4]) (.ret)
def c195x3 : AC := .seq (.reg [
  ⟨(some 2), .mv (.k (.int .u8 98)), none⟩,
  ⟨(some 3), .mv (.k (.int .u8 0)), none⟩,
  ⟨(some 4), .mv (.k (.bool false)), none⟩] [2, 3, 4]) (.ret)
def c195x4 : AC := .seq (.reg [
  ⟨(some 2), .mv (.k (.int .u8 98)), none⟩,
  ⟨(some 3), .mv (.k (.int .u8 98)), none⟩,
  ⟨(some 4), .mv (.k (.bool false)), none⟩] [2, 3, 4]) (.ret)
def c195x5 : AC := .seq (.reg [
  ⟨(some 2), .mv (.k (.int .u8 97)), none⟩,
  ⟨(some 3), .mv (.k (.int .u8 0)), none⟩,
  ⟨(some 4), .mv (.k (.bool false)), none⟩] [2, 3, 4]) (.ret)
def c195x6 : AC := .seq (.reg [
  ⟨(some 2), .mv (.k (.int .u8 0)), none⟩,
  ⟨(some 3), .mv (.k (.int .u8 0)), none⟩,
  ⟨(some 4), .mv (.k (.bool true)), none⟩] [2, 3, 4]) (.ret)
def c195x7 : AC := .seq (.reg [
  ⟨(some 2), .mv (.k (.int .u8 119)), none⟩,
  ⟨(some 3), .mv (.k (.int .u8 98)), none⟩,
  ⟨(some 4), .mv (.k (.bool false)), none⟩] [2, 3, 4]) (.ret)
def c195x8 : AC := .seq (.reg [
  ⟨(some 2), .mv (.k (.int .u8 98)), none⟩,
  ⟨(some 3), .mv (.k (.int .u8 119)), none⟩,
  ⟨(some 4), .mv (.k (.bool false)), none⟩] [2, 3, 4]) (.ret)
def c195x9 : AC := .cond (.t 34) (c195x8) (.skip)
def c195x10 : AC := .reg [
  ⟨(some 36), .bin .eql (.t 5) (.k (.int .i64 21)), none⟩,
  ⟨(some 34), .mv (.t 36), none⟩] [34]
def c195x11 : AC := .cond (.t 34) (.skip) (c195x10)
def c195x12 : AC := .seq (.reg [
  ⟨(some 35), .bin .eql (.t 5) (.k (.int .i64 20)), none⟩,
  ⟨(some 34), .mv (.t 35), none⟩] [5, 34]) (c195x11)
def c195x13 : AC := .seq (c195x12) (c195x9)
def c195x14 : AC := .cond (.t 29) (c195x7) (c195x13)
def c195x15 : AC := .reg [
  ⟨(some 33), .bin .eql (.t 5) (.k (.int .i64 23)), none⟩,
  ⟨(some 29), .mv (.t 33), none⟩] [5, 29]
def c195x16 : AC := .cond (.t 29) (.skip) (c195x15)
def c195x17 : AC := .seq (.reg [
  ⟨(some 32), .bin .eql (.t 5) (.k (.int .i64 22)), none⟩,
  ⟨(some 29), .mv (.t 32), none⟩] [5, 29]) (c195x16)
def c195x18 : AC := .cond (.t 29) (.skip) (c195x17)
def c195x19 : AC := .seq (.reg [
  ⟨(some 31), .bin .eql (.t 5) (.k (.int .i64 19)), none⟩,
  ⟨(some 29), .mv (.t 31), none⟩] [5, 29]) (c195x18)
def c195x20 : AC := .cond (.t 29) (.skip) (c195x19)
def c195x21 : AC := .seq (.reg [
  ⟨(some 30), .bin .eql (.t 5) (.k (.int .i64 18)), none⟩,
  ⟨(some 29), .mv (.t 30), none⟩] [5, 29]) (c195x20)
def c195x22 : AC := .seq (c195x21) (c195x14)
def c195x23 : AC := .cond (.t 26) (c195x6) (c195x22)
def c195x24 : AC := .reg [
  ⟨(some 28), .bin .eql (.t 5) (.k (.int .i64 17)), none⟩,
  ⟨(some 26), .mv (.t 28), none⟩] [5, 26]
def c195x25 : AC := .cond (.t 26) (.skip) (c195x24)
def c195x26 : AC := .seq (.reg [
  ⟨(some 27), .bin .eql (.t 5) (.k (.int .i64 16)), none⟩,
  ⟨(some 26), .mv (.t 27), none⟩] [5, 26]) (c195x25)
def c195x27 : AC := .seq (c195x26) (c195x23)
def c195x28 : AC := .cond (.t 23) (c195x5) (c195x27)
def c195x29 : AC := .reg [
  ⟨(some 25), .bin .eql (.t 5) (.k (.int .i64 11)), none⟩,
  ⟨(some 23), .mv (.t 25), none⟩] [5, 23]
def c195x30 : AC := .cond (.t 23) (.skip) (c195x29)
def c195x31 : AC := .seq (.reg [
  ⟨(some 24), .bin .eql (.t 5) (.k (.int .i64 10)), none⟩,
  ⟨(some 23), .mv (.t 24), none⟩] [5, 23]) (c195x30)
def c195x32 : AC := .seq (c195x31) (c195x28)
def c195x33 : AC := .cond (.t 16) (c195x4) (c195x32)
def c195x34 : AC := .reg [
  ⟨(some 22), .bin .eql (.t 5) (.k (.int .i64 9)), none⟩,
  ⟨(some 16), .mv (.t 22), none⟩] [5, 16]
def c195x35 : AC := .cond (.t 16) (.skip) (c195x34)
def c195x36 : AC := .seq (.reg [
  ⟨(some 21), .bin .eql (.t 5) (.k (.int .i64 8)), none⟩,
  ⟨(some 16), .mv (.t 21), none⟩] [5, 16]) (c195x35)
def c195x37 : AC := .cond (.t 16) (.skip) (c195x36)
def c195x38 : AC := .seq (.reg [
  ⟨(some 20), .bin .eql (.t 5) (.k (.int .i64 7)), none⟩,
  ⟨(some 16), .mv (.t 20), none⟩] [5, 16]) (c195x37)
def c195x39 : AC := .cond (.t 16) (.skip) (c195x38)
def c195x40 : AC := .seq (.reg [
  ⟨(some 19), .bin .eql (.t 5) (.k (.int .i64 6)), none⟩,
  ⟨(some 16), .mv (.t 19), none⟩] [5, 16]) (c195x39)
def c195x41 : AC := .cond (.t 16) (.skip) (c195x40)
def c195x42 : AC := .seq (.reg [
  ⟨(some 18), .bin .eql (.t 5) (.k (.int .i64 5)), none⟩,
  ⟨(some 16), .mv (.t 18), none⟩] [5, 16]) (c195x41)
def c195x43 : AC := .cond (.t 16) (.skip) (c195x42)
def c195x44 : AC := .seq (.reg [
  ⟨(some 17), .bin .eql (.t 5) (.k (.int .i64 4)), none⟩,
  ⟨(some 16), .mv (.t 17), none⟩] [5, 16]) (c195x43)
def c195x45 : AC := .seq (c195x44) (c195x33)
def c195x46 : AC := .cond (.t 10) (c195x3) (c195x45)
def c195x47 : AC := .reg [
  ⟨(some 15), .bin .eql (.t 5) (.k (.int .i64 15)), none⟩,
  ⟨(some 10), .mv (.t 15), none⟩] [5, 10]
def c195x48 : AC := .cond (.t 10) (.skip) (c195x47)
def c195x49 : AC := .seq (.reg [
  ⟨(some 14), .bin .eql (.t 5) (.k (.int .i64 14)), none⟩,
  ⟨(some 10), .mv (.t 14), none⟩] [5, 10]) (c195x48)
def c195x50 : AC := .cond (.t 10) (.skip) (c195x49)
def c195x51 : AC := .seq (.reg [
  ⟨(some 13), .bin .eql (.t 5) (.k (.int .i64 13)), none⟩,
  ⟨(some 10), .mv (.t 13), none⟩] [5, 10]) (c195x50)
def c195x52 : AC := .cond (.t 10) (.skip) (c195x51)
def c195x53 : AC := .seq (.reg [
  ⟨(some 12), .bin .eql (.t 5) (.k (.int .i64 12)), none⟩,
  ⟨(some 10), .mv (.t 12), none⟩] [5, 10]) (c195x52)
def c195x54 : AC := .cond (.t 10) (.skip) (c195x53)
def c195x55 : AC := .seq (.reg [
  ⟨(some 11), .bin .eql (.t 5) (.k (.int .i64 3)), none⟩,
  ⟨(some 10), .mv (.t 11), none⟩] [5, 10]) (c195x54)
def c195x56 : AC := .seq (c195x55) (c195x46)
def c195x57 : AC := .cond (.t 8) (c195x2) (c195x56)
def c195x58 : AC := .seq (.reg [
  ⟨(some 9), .bin .eql (.t 5) (.k (.int .i64 2)), none⟩,
  ⟨(some 8), .mv (.t 9), none⟩] [5, 8]) (c195x57)
def c195x59 : AC := .cond (.t 6) (c195x1) (c195x58)
def c195x60 : AC := .seq (.reg [
  ⟨(some 7), .bin .eql (.t 5) (.k (.int .i64 1)), none⟩,
  ⟨(some 6), .mv (.t 7), none⟩] [5, 6]) (c195x59)
def c195x61 : AC := .block 0 (c195x60)
def c195x62 : AC := .seq (.reg [
  ⟨(some 5), .mv (.t 0), none⟩] [5]) (c195x61)
def c195x63 : AC := .seq (c195x62) (c195x0)
def c195 : AC := .seq (.reg [
  ⟨(some 2), .mv (.k (.int .u8 0)), none⟩,
  ⟨(some 3), .mv (.k (.int .u8 0)), none⟩,
  ⟨(some 4), .mv (.k (.bool false)), none⟩] [0]) (c195x63)
theorem k195 : Try.f195.body.bind (compC Try.prog Try.f195.ntmps v195) = some c195 := by kernel_rfl
theorem e195 : enters Try.prog 195 = true := by kernel_rfl
theorem q195 : Try.f195.results.toList.mapM (compRes Try.prog) = some r195 := by kernel_rfl
def v196 : List (Nat × List Nat) := [(0, [0, 1]), (1, [0, 5]), (2, [0, 5, 6]), (3, [4]), (4, [0, 5, 10]), (5, [4]), (6, [0, 18]), (7, [4]), (8, [4])]
def r196 : List AR := [.t 4]
def c196x0 : AC := .seq (.reg [
  ⟨(some 27), .mv (.t 0), none⟩,
  ⟨(some 28), .call 188 [(.t 27)], none⟩,
  ⟨(some 4), .mv (.t 28), none⟩] [4]) (.ret)
def c196x1 : AC := .seq (.reg [
  ⟨(some 8), .mv (.t 0), none⟩,
  ⟨(some 9), .bin .eql (.t 8) (.k (.int .i64 0)), none⟩,
  ⟨(some 4), .mv (.t 9), none⟩] [4]) (.ret)
def c196x2 : AC := .seq (.reg [
  ⟨(some 12), .mv (.t 0), none⟩,
  ⟨(some 13), .call 188 [(.t 12)], none⟩,
  ⟨(some 14), .mv (.t 13), none⟩,
  ⟨(some 15), .mv (.t 0), (some (14, true))⟩,
  ⟨(some 16), .call 104 [(.t 15)], (some (14, true))⟩,
  ⟨(some 17), .pick (.t 14) (.t 16) (.k (.bool false)), none⟩,
  ⟨(some 4), .mv (.t 17), none⟩] [4]) (.ret)
def c196x3 : AC := .seq (.reg [
  ⟨(some 20), .mv (.t 0), none⟩,
  ⟨(some 21), .call 188 [(.t 20)], none⟩,
  ⟨(some 22), .mv (.t 21), none⟩,
  ⟨(some 23), .mv (.t 0), (some (22, true))⟩,
  ⟨(some 24), .call 104 [(.t 23)], (some (22, true))⟩,
  ⟨(some 25), .not (.t 24), (some (22, true))⟩,
  ⟨(some 26), .pick (.t 22) (.t 25) (.k (.bool false)), none⟩,
  ⟨(some 4), .mv (.t 26), none⟩] [4]) (.ret)
def c196x4 : AC := .cond (.t 18) (c196x3) (.skip)
def c196x5 : AC := .seq (.reg [
  ⟨(some 19), .bin .eql (.t 5) (.k (.int .u8 98)), none⟩,
  ⟨(some 18), .mv (.t 19), none⟩] [0, 18]) (c196x4)
def c196x6 : AC := .cond (.t 10) (c196x2) (c196x5)
def c196x7 : AC := .seq (.reg [
  ⟨(some 11), .bin .eql (.t 5) (.k (.int .u8 119)), none⟩,
  ⟨(some 10), .mv (.t 11), none⟩] [0, 5, 10]) (c196x6)
def c196x8 : AC := .cond (.t 6) (c196x1) (c196x7)
def c196x9 : AC := .seq (.reg [
  ⟨(some 7), .bin .eql (.t 5) (.k (.int .u8 0)), none⟩,
  ⟨(some 6), .mv (.t 7), none⟩] [0, 5, 6]) (c196x8)
def c196x10 : AC := .block 0 (c196x9)
def c196x11 : AC := .seq (.reg [
  ⟨(some 5), .mv (.t 1), none⟩] [0, 5]) (c196x10)
def c196x12 : AC := .seq (c196x11) (c196x0)
def c196 : AC := .seq (.reg [
  ⟨(some 4), .mv (.k (.bool false)), none⟩] [0, 1]) (c196x12)
theorem k196 : Try.f196.body.bind (compC Try.prog Try.f196.ntmps v196) = some c196 := by kernel_rfl
theorem e196 : enters Try.prog 196 = true := by kernel_rfl
theorem q196 : Try.f196.results.toList.mapM (compRes Try.prog) = some r196 := by kernel_rfl
end Go.Proofs.Ytjmmompbmjhkpaa.Code

namespace Go.Proofs.Ytjmmompbmjhkpaa.Code
open Go Go.Proofs.Ytjmmompbmjhkpaa.Calc
set_option maxRecDepth 100000
def v64 : List (Nat × List Nat) := [(0, [0, 1]), (1, [4])]
def r64 : List AR := [.t 4]
def c64x0 : AC := .seq (.reg [
  ⟨(some 5), .mv (.t 0), none⟩,
  ⟨(some 6), .mv (.t 1), none⟩,
  ⟨(some 7), .call 120 [(.t 5), (.t 6)], none⟩,
  ⟨(some 8), .bin .geq (.t 7) (.k (.int .i64 0)), none⟩,
  ⟨(some 4), .mv (.t 8), none⟩] [4]) (.ret)
def c64 : AC := .seq (.reg [
  ⟨(some 4), .mv (.k (.bool false)), none⟩] [0, 1]) (c64x0)
theorem k64 : Try.f64.body.bind (compC Try.prog Try.f64.ntmps v64) = some c64 := by kernel_rfl
theorem e64 : enters Try.prog 64 = true := by kernel_rfl
theorem q64 : Try.f64.results.toList.mapM (compRes Try.prog) = some r64 := by kernel_rfl
def v118 : List (Nat × List Nat) := [(0, [0, 1, 2]), (1, [0, 1, 2, 14]), (2, [6]), (3, [1, 2, 15, 16, 17]), (4, [1, 2, 15, 16, 17, 18]), (5, [1, 2, 7, 8, 15, 16, 17]), (6, [1, 2, 8, 9, 15, 16, 17]), (7, [1, 2, 15, 16, 17, 30]), (8, [6]), (9, [1, 2, 15, 16, 17]), (10, [6])]
def r118 : List AR := [.t 6]
def c118x0 : AC := .seq (.reg [
  ⟨(some 6), .mv (.k (.bool true)), none⟩] [6]) (.ret)
def c118x1 : AC := .reg [
  ⟨(some 31), .bin .add (.t 17) (.k (.int .i64 1)), none⟩,
  ⟨(some 17), .mv (.t 31), none⟩] [1, 2, 15, 16, 17]
def c118x2 : AC := .seq (.reg [
  ⟨(some 6), .mv (.k (.bool false)), none⟩] [6]) (.ret)
def c118x3 : AC := .cond (.t 30) (c118x2) (.skip)
def c118x4 : AC := .seq (.reg [
  ⟨(some 26), .mv (.t 2), none⟩,
  ⟨(some 27), .ld (some 4) (.t 8), none⟩,
  ⟨(some 28), .ld (some 4) (.t 9), none⟩,
  ⟨(some 29), .callc (.t 26) [(.t 27), (.t 28)], none⟩,
  ⟨(some 30), .not (.t 29), none⟩] [1, 2, 15, 16, 17, 30]) (c118x3)
def c118x5 : AC := .seq (.reg [
  ⟨(some 22), .mv (.t 1), none⟩,
  ⟨(some 23), .mv (.t 7), none⟩,
  ⟨(some 24), .idx 4 none (.t 22) (.t 23), none⟩,
  ⟨(some 25), .ld (some 4) (.t 24), none⟩,
  ⟨(some 9), .zero [(.int .i64 0), (.string ⟨#[]⟩), (.int .i64 0), (.slice none 0 0)], none⟩,
  ⟨none, .st 4 (.t 9) (.t 25), none⟩] [1, 2, 8, 9, 15, 16, 17]) (c118x4)
def c118x6 : AC := .seq (.reg [
  ⟨(some 19), .mv (.t 17), none⟩,
  ⟨(some 20), .idx 4 none (.t 15) (.t 17), none⟩,
  ⟨(some 21), .ld (some 4) (.t 20), none⟩,
  ⟨(some 8), .zero [(.int .i64 0), (.string ⟨#[]⟩), (.int .i64 0), (.slice none 0 0)], none⟩,
  ⟨(some 7), .mv (.t 19), none⟩,
  ⟨none, .st 4 (.t 8) (.t 21), none⟩] [1, 2, 7, 8, 15, 16, 17]) (c118x5)
def c118x7 : AC := .block 1 (c118x6)
def c118x8 : AC := .seq (c118x7) (c118x1)
def c118x9 : AC := .cond (.t 18) (.skip) (.exit 0)
def c118x10 : AC := .seq (c118x9) (c118x8)
def c118x11 : AC := .seq (.reg [
  ⟨(some 18), .bin .lss (.t 17) (.t 16), none⟩] [1, 2, 15, 16, 17, 18]) (c118x10)
def c118x12 : AC := .loop (c118x11)
def c118x13 : AC := .block 0 (c118x12)
def c118x14 : AC := .seq (.reg [
  ⟨(some 15), .mv (.t 0), none⟩,
  ⟨(some 16), .len (.t 15), none⟩,
  ⟨(some 17), .mv (.k (.int .i64 0)), none⟩] [1, 2, 15, 16, 17]) (c118x13)
def c118x15 : AC := .seq (c118x14) (c118x0)
def c118x16 : AC := .seq (.reg [
  ⟨(some 6), .mv (.k (.bool false)), none⟩] [6]) (.ret)
def c118x17 : AC := .cond (.t 14) (c118x16) (.skip)
def c118x18 : AC := .seq (.reg [
  ⟨(some 10), .mv (.t 0), none⟩,
  ⟨(some 11), .len (.t 10), none⟩,
  ⟨(some 12), .mv (.t 1), none⟩,
  ⟨(some 13), .len (.t 12), none⟩,
  ⟨(some 14), .bin .neq (.t 11) (.t 13), none⟩] [0, 1, 2, 14]) (c118x17)
def c118x19 : AC := .seq (c118x18) (c118x15)
def c118 : AC := .seq (.reg [
  ⟨(some 6), .mv (.k (.bool false)), none⟩] [0, 1, 2]) (c118x19)
theorem k118 : Try.f118.body.bind (compC Try.prog Try.f118.ntmps v118) = some c118 := by kernel_rfl
theorem e118 : enters Try.prog 118 = true := by kernel_rfl
theorem q118 : Try.f118.results.toList.mapM (compRes Try.prog) = some r118 := by kernel_rfl
def v120 : List (Nat × List Nat) := [(0, [0, 1]), (1, [0, 1, 7, 8]), (2, [0, 1, 7, 8, 9]), (3, [0, 1, 5, 7, 8]), (4, [0, 1, 5, 7, 8, 16]), (5, [4]), (6, [0, 1, 7, 8]), (7, [4])]
def r120 : List AR := [.t 4]
def c120x0 : AC := .seq (.reg [
  ⟨(some 4), .mv (.k (.int .i64 (-1))), none⟩] [4]) (.ret)
def c120x1 : AC := .reg [
  ⟨(some 18), .bin .add (.t 8) (.k (.int .i64 1)), none⟩,
  ⟨(some 8), .mv (.t 18), none⟩] [0, 1, 7, 8]
def c120x2 : AC := .seq (.reg [
  ⟨(some 17), .mv (.t 5), none⟩,
  ⟨(some 4), .mv (.t 17), none⟩] [4]) (.ret)
def c120x3 : AC := .cond (.t 16) (c120x2) (.skip)
def c120x4 : AC := .seq (.reg [
  ⟨(some 11), .mv (.t 1), none⟩,
  ⟨(some 12), .mv (.t 0), none⟩,
  ⟨(some 13), .mv (.t 5), none⟩,
  ⟨(some 14), .idx 4 none (.t 12) (.t 13), none⟩,
  ⟨(some 15), .ld (some 4) (.t 14), none⟩,
  ⟨(some 16), .callc (.t 11) [(.t 15)], none⟩] [0, 1, 5, 7, 8, 16]) (c120x3)
def c120x5 : AC := .seq (.reg [
  ⟨(some 10), .mv (.t 8), none⟩,
  ⟨(some 5), .mv (.t 10), none⟩] [0, 1, 5, 7, 8]) (c120x4)
def c120x6 : AC := .block 1 (c120x5)
def c120x7 : AC := .seq (c120x6) (c120x1)
def c120x8 : AC := .cond (.t 9) (.skip) (.exit 0)
def c120x9 : AC := .seq (c120x8) (c120x7)
def c120x10 : AC := .seq (.reg [
  ⟨(some 9), .bin .lss (.t 8) (.t 7), none⟩] [0, 1, 7, 8, 9]) (c120x9)
def c120x11 : AC := .loop (c120x10)
def c120x12 : AC := .block 0 (c120x11)
def c120x13 : AC := .seq (.reg [
  ⟨(some 6), .mv (.t 0), none⟩,
  ⟨(some 7), .len (.t 6), none⟩,
  ⟨(some 8), .mv (.k (.int .i64 0)), none⟩] [0, 1, 7, 8]) (c120x12)
def c120x14 : AC := .seq (c120x13) (c120x0)
def c120 : AC := .seq (.reg [
  ⟨(some 4), .mv (.k (.int .i64 0)), none⟩] [0, 1]) (c120x14)
theorem k120 : Try.f120.body.bind (compC Try.prog Try.f120.ntmps v120) = some c120 := by kernel_rfl
theorem e120 : enters Try.prog 120 = true := by kernel_rfl
theorem q120 : Try.f120.results.toList.mapM (compRes Try.prog) = some r120 := by kernel_rfl
def v165 : List (Nat × List Nat) := [(0, [0, 1, 2]), (1, [0, 1, 2, 14]), (2, [6]), (3, [1, 2, 15, 16, 17]), (4, [1, 2, 15, 16, 17, 18]), (5, [1, 2, 7, 8, 15, 16, 17]), (6, [1, 2, 8, 9, 15, 16, 17]), (7, [1, 2, 15, 16, 17, 30]), (8, [6]), (9, [1, 2, 15, 16, 17]), (10, [6])]
def r165 : List AR := [.t 6]
def c165x0 : AC := .seq (.reg [
  ⟨(some 6), .mv (.k (.bool true)), none⟩] [6]) (.ret)
def c165x1 : AC := .reg [
  ⟨(some 31), .bin .add (.t 17) (.k (.int .i64 1)), none⟩,
  ⟨(some 17), .mv (.t 31), none⟩] [1, 2, 15, 16, 17]
def c165x2 : AC := .seq (.reg [
  ⟨(some 6), .mv (.k (.bool false)), none⟩] [6]) (.ret)
def c165x3 : AC := .cond (.t 30) (c165x2) (.skip)
def c165x4 : AC := .seq (.reg [
  ⟨(some 26), .mv (.t 2), none⟩,
  ⟨(some 27), .ld (some 4) (.t 8), none⟩,
  ⟨(some 28), .ld (some 4) (.t 9), none⟩,
  ⟨(some 29), .callc (.t 26) [(.t 27), (.t 28)], none⟩,
  ⟨(some 30), .not (.t 29), none⟩] [1, 2, 15, 16, 17, 30]) (c165x3)
def c165x5 : AC := .seq (.reg [
  ⟨(some 22), .mv (.t 1), none⟩,
  ⟨(some 23), .mv (.t 7), none⟩,
  ⟨(some 24), .idx 4 none (.t 22) (.t 23), none⟩,
  ⟨(some 25), .ld (some 4) (.t 24), none⟩,
  ⟨(some 9), .zero [(.int .i64 0), (.int .i64 0), (.int .i64 0), (.slice none 0 0)], none⟩,
  ⟨none, .st 4 (.t 9) (.t 25), none⟩] [1, 2, 8, 9, 15, 16, 17]) (c165x4)
def c165x6 : AC := .seq (.reg [
  ⟨(some 19), .mv (.t 17), none⟩,
  ⟨(some 20), .idx 4 none (.t 15) (.t 17), none⟩,
  ⟨(some 21), .ld (some 4) (.t 20), none⟩,
  ⟨(some 8), .zero [(.int .i64 0), (.int .i64 0), (.int .i64 0), (.slice none 0 0)], none⟩,
  ⟨(some 7), .mv (.t 19), none⟩,
  ⟨none, .st 4 (.t 8) (.t 21), none⟩] [1, 2, 7, 8, 15, 16, 17]) (c165x5)
def c165x7 : AC := .block 1 (c165x6)
def c165x8 : AC := .seq (c165x7) (c165x1)
def c165x9 : AC := .cond (.t 18) (.skip) (.exit 0)
def c165x10 : AC := .seq (c165x9) (c165x8)
def c165x11 : AC := .seq (.reg [
  ⟨(some 18), .bin .lss (.t 17) (.t 16), none⟩] [1, 2, 15, 16, 17, 18]) (c165x10)
def c165x12 : AC := .loop (c165x11)
def c165x13 : AC := .block 0 (c165x12)
def c165x14 : AC := .seq (.reg [
  ⟨(some 15), .mv (.t 0), none⟩,
  ⟨(some 16), .len (.t 15), none⟩,
  ⟨(some 17), .mv (.k (.int .i64 0)), none⟩] [1, 2, 15, 16, 17]) (c165x13)
def c165x15 : AC := .seq (c165x14) (c165x0)
def c165x16 : AC := .seq (.reg [
  ⟨(some 6), .mv (.k (.bool false)), none⟩] [6]) (.ret)
def c165x17 : AC := .cond (.t 14) (c165x16) (.skip)
def c165x18 : AC := .seq (.reg [
  ⟨(some 10), .mv (.t 0), none⟩,
  ⟨(some 11), .len (.t 10), none⟩,
  ⟨(some 12), .mv (.t 1), none⟩,
  ⟨(some 13), .len (.t 12), none⟩,
  ⟨(some 14), .bin .neq (.t 11) (.t 13), none⟩] [0, 1, 2, 14]) (c165x17)
def c165x19 : AC := .seq (c165x18) (c165x15)
def c165 : AC := .seq (.reg [
  ⟨(some 6), .mv (.k (.bool false)), none⟩] [0, 1, 2]) (c165x19)
theorem k165 : Try.f165.body.bind (compC Try.prog Try.f165.ntmps v165) = some c165 := by kernel_rfl
theorem e165 : enters Try.prog 165 = true := by kernel_rfl
theorem q165 : Try.f165.results.toList.mapM (compRes Try.prog) = some r165 := by kernel_rfl
def v167 : List (Nat × List Nat) := [(0, [0, 1]), (1, [0, 1, 10]), (2, [4]), (3, [0, 1, 12, 13]), (4, [0, 1, 12, 13, 14]), (5, [0, 1, 5, 12, 13]), (6, [0, 1, 12, 13, 24]), (7, [4]), (8, [0, 1, 12, 13]), (9, [4])]
def r167 : List AR := [.t 4]
def c167x0 : AC := .seq (.reg [
  ⟨(some 4), .mv (.k (.bool true)), none⟩] [4]) (.ret)
def c167x1 : AC := .reg [
  ⟨(some 25), .bin .add (.t 13) (.k (.int .i64 1)), none⟩,
  ⟨(some 13), .mv (.t 25), none⟩] [0, 1, 12, 13]
def c167x2 : AC := .seq (.reg [
  ⟨(some 4), .mv (.k (.bool false)), none⟩] [4]) (.ret)
def c167x3 : AC := .cond (.t 24) (c167x2) (.skip)
def c167x4 : AC := .seq (.dreg [
  ⟨(some 16), .mv (.t 0), none⟩,
  ⟨(some 17), .mv (.t 5), none⟩,
  ⟨(some 18), .idx 4 none (.t 16) (.t 17), none⟩,
  ⟨(some 19), .ld (some 4) (.t 18), none⟩,
  ⟨(some 20), .mv (.t 1), none⟩,
  ⟨(some 21), .mv (.t 5), none⟩,
  ⟨(some 22), .idx 4 none (.t 20) (.t 21), none⟩,
  ⟨(some 23), .ld (some 4) (.t 22), none⟩,
  ⟨(some 24), .eqs [.i .i64, .i .i64, .i .i64, .i .i64] true (.t 19) (.t 23), none⟩] [[], [], [0, 1], [0, 1, 2], [], [], [4, 5], [4, 5, 6], [0, 1, 2, 3, 4, 5, 6, 7]] [0, 1, 12, 13, 24]) (c167x3)
def c167x5 : AC := .seq (.reg [
  ⟨(some 15), .mv (.t 13), none⟩,
  ⟨(some 5), .mv (.t 15), none⟩] [0, 1, 5, 12, 13]) (c167x4)
def c167x6 : AC := .block 1 (c167x5)
def c167x7 : AC := .seq (c167x6) (c167x1)
def c167x8 : AC := .cond (.t 14) (.skip) (.exit 0)
def c167x9 : AC := .seq (c167x8) (c167x7)
def c167x10 : AC := .seq (.reg [
  ⟨(some 14), .bin .lss (.t 13) (.t 12), none⟩] [0, 1, 12, 13, 14]) (c167x9)
def c167x11 : AC := .loop (c167x10)
def c167x12 : AC := .block 0 (c167x11)
def c167x13 : AC := .seq (.reg [
  ⟨(some 11), .mv (.t 0), none⟩,
  ⟨(some 12), .len (.t 11), none⟩,
  ⟨(some 13), .mv (.k (.int .i64 0)), none⟩] [0, 1, 12, 13]) (c167x12)
def c167x14 : AC := .seq (c167x13) (c167x0)
def c167x15 : AC := .seq (.reg [
  ⟨(some 4), .mv (.k (.bool false)), none⟩] [4]) (.ret)
def c167x16 : AC := .cond (.t 10) (c167x15) (.skip)
def c167x17 : AC := .seq (.reg [
  ⟨(some 6), .mv (.t 0), none⟩,
  ⟨(some 7), .len (.t 6), none⟩,
  ⟨(some 8), .mv (.t 1), none⟩,
  ⟨(some 9), .len (.t 8), none⟩,
  ⟨(some 10), .bin .neq (.t 7) (.t 9), none⟩] [0, 1, 10]) (c167x16)
def c167x18 : AC := .seq (c167x17) (c167x14)
def c167 : AC := .seq (.reg [
  ⟨(some 4), .mv (.k (.bool false)), none⟩] [0, 1]) (c167x18)
theorem k167 : Try.f167.body.bind (compC Try.prog Try.f167.ntmps v167) = some c167 := by kernel_rfl
theorem e167 : enters Try.prog 167 = true := by kernel_rfl
theorem q167 : Try.f167.results.toList.mapM (compRes Try.prog) = some r167 := by kernel_rfl
def v190 : List (Nat × List Nat) := [(0, [0]), (1, [0, 4]), (2, [2]), (3, [2])]
def r190 : List AR := [.t 2]
def c190x0 : AC := .seq (.reg [
  ⟨(some 5), .bsl [(.int .i64 0), (.int .i64 0), (.int .i64 0), (.slice none 0 0)] 0 [], none⟩,
  ⟨(some 6), .mv (.t 0), none⟩,
  ⟨(some 7), .app 4 48 (.t 5) (.t 6), none⟩,
  ⟨(some 2), .mv (.t 7), none⟩] [2]) (.ret)
def c190x1 : AC := .seq (.reg [
  ⟨(some 2), .mv (.k (.slice none 0 0)), none⟩] [2]) (.ret)
def c190x2 : AC := .cond (.t 4) (c190x1) (.skip)
def c190x3 : AC := .seq (.reg [
  ⟨(some 3), .mv (.t 0), none⟩,
  ⟨(some 4), .eqn false (.t 3), none⟩] [0, 4]) (c190x2)
def c190x4 : AC := .seq (c190x3) (c190x0)
def c190 : AC := .seq (.reg [
  ⟨(some 2), .mv (.k (.slice none 0 0)), none⟩] [0]) (c190x4)
theorem k190 : Try.f190.body.bind (compC Try.prog Try.f190.ntmps v190) = some c190 := by kernel_rfl
theorem e190 : enters Try.prog 190 = true := by kernel_rfl
theorem q190 : Try.f190.results.toList.mapM (compRes Try.prog) = some r190 := by kernel_rfl
def v191 : List (Nat × List Nat) := [(0, [0]), (1, [0, 4]), (2, [2]), (3, [2])]
def r191 : List AR := [.t 2]
def c191x0 : AC := .seq (.reg [
  ⟨(some 5), .bsl [(.int .i64 0), (.int .i64 0), (.int .i64 0), (.int .i64 0)] 0 [], none⟩,
  ⟨(some 6), .mv (.t 0), none⟩,
  ⟨(some 7), .app 4 32 (.t 5) (.t 6), none⟩,
  ⟨(some 2), .mv (.t 7), none⟩] [2]) (.ret)
def c191x1 : AC := .seq (.reg [
  ⟨(some 2), .mv (.k (.slice none 0 0)), none⟩] [2]) (.ret)
def c191x2 : AC := .cond (.t 4) (c191x1) (.skip)
def c191x3 : AC := .seq (.reg [
  ⟨(some 3), .mv (.t 0), none⟩,
  ⟨(some 4), .eqn false (.t 3), none⟩] [0, 4]) (c191x2)
def c191x4 : AC := .seq (c191x3) (c191x0)
def c191 : AC := .seq (.reg [
  ⟨(some 2), .mv (.k (.slice none 0 0)), none⟩] [0]) (c191x4)
theorem k191 : Try.f191.body.bind (compC Try.prog Try.f191.ntmps v191) = some c191 := by kernel_rfl
theorem e191 : enters Try.prog 191 = true := by kernel_rfl
theorem q191 : Try.f191.results.toList.mapM (compRes Try.prog) = some r191 := by kernel_rfl
end Go.Proofs.Ytjmmompbmjhkpaa.Code

namespace Go.Proofs.Ytjmmompbmjhkpaa.Code
open Go Go.Proofs.Ytjmmompbmjhkpaa.Calc
set_option maxRecDepth 100000
def v78 : List (Nat × List Nat) := [(0, [0]), (1, [0, 1]), (2, [0, 1]), (3, [0, 1]), (4, [0, 1]), (5, [0, 1, 2]), (6, [0])]
def r78 : List AR := [.cell (some 5) 0]
def c78x0 : AC := .seq (.dreg [
  ⟨(some 18), .mv (.t 1), none⟩,
  ⟨(some 19), .nilc (.t 18), none⟩,
  ⟨(some 20), .fad 0 (.t 19), none⟩,
  ⟨(some 21), .ld none (.t 20), none⟩,
  ⟨(some 22), .mv (.t 2), none⟩,
  ⟨(some 23), .call 150 [(.k (.int .i64 6)), (.k (.int .i64 7))], none⟩,
  ⟨(some 24), .call 150 [(.k (.int .i64 8)), (.k (.int .i64 9))], none⟩,
  ⟨(some 25), .build [(.string ⟨#[]⟩), (.slice none 0 0), (.slice none 0 0), (.slice none 0 0), (.slice none 0 0)] [(0, 1, (.k (.string ⟨#[115, 116, 100]⟩))), (1, 1, (.t 21)), (2, 1, (.t 22)), (3, 1, (.t 23)), (4, 1, (.t 24))], none⟩,
  ⟨none, .st 5 (.t 0) (.t 25), none⟩] [[], [0], [0, 1], [0, 1, 2], [], [], [5], [0, 1, 2, 3, 4, 5, 6], [0, 1, 2, 3, 4, 5, 6, 7]] [0]) (.ret)
def c78x1 : AC := .seq (.reg [
  ⟨(some 11), .call 148 [(.k (.int .i64 10)), (.k (.int .i64 5)), (.k (.slice none 0 0))], none⟩,
  ⟨(some 12), .call 149 [(.k (.int .i64 7))], none⟩,
  ⟨(some 13), .build [(.int .i64 0), (.int .i64 0), (.int .i64 0), (.int .i64 0)] [(0, 1, (.k (.int .i64 2))), (1, 1, (.k (.int .i64 3))), (3, 1, (.k (.int .i64 255)))], none⟩,
  ⟨(some 14), .bsl [(.int .i64 0), (.int .i64 0), (.int .i64 0), (.int .i64 0)] 1 [(0, (.t 13))], none⟩,
  ⟨(some 15), .app 4 32 (.t 12) (.t 14), none⟩,
  ⟨(some 16), .call 148 [(.k (.int .i64 11)), (.k (.int .i64 6)), (.t 15)], none⟩,
  ⟨(some 17), .bsl [(.int .i64 0), (.int .i64 0), (.int .i64 0), (.slice none 0 0)] 2 [(0, (.t 11)), (1, (.t 16))], none⟩,
  ⟨(some 2), .mv (.t 17), none⟩] [0, 1, 2]) (c78x0)
def c78x2 : AC := .seq (.reg [
  ⟨(some 9), .mv (.t 1), none⟩,
  ⟨(some 10), .call 147 [(.t 9)], none⟩] [0, 1]) (c78x1)
def c78x3 : AC := .seq (.reg [
  ⟨(some 7), .mv (.t 1), none⟩,
  ⟨(some 8), .call 146 [(.t 7)], none⟩] [0, 1]) (c78x2)
def c78x4 : AC := .seq (.reg [
  ⟨(some 5), .mv (.t 1), none⟩,
  ⟨(some 6), .call 145 [(.t 5)], none⟩] [0, 1]) (c78x3)
def c78x5 : AC := .seq (.reg [
  ⟨(some 3), .build [(.slice none 0 0)] [], none⟩,
  ⟨(some 4), .new 1 (.t 3), none⟩,
  ⟨(some 1), .mv (.t 4), none⟩] [0, 1]) (c78x4)
def c78 : AC := .seq (.reg [
  ⟨(some 0), .zero [(.string ⟨#[]⟩), (.slice none 0 0), (.slice none 0 0), (.slice none 0 0), (.slice none 0 0)], none⟩] [0]) (c78x5)
def v145 : List (Nat × List Nat) := [(0, [0]), (1, [0]), (2, [0]), (3, [0]), (4, [0]), (5, [0]), (6, [0, 28, 29, 30]), (7, [0, 28, 29, 30, 31]), (8, [0, 3, 28, 29, 30]), (9, [0, 28, 29, 30]), (10, [0, 28, 29, 30]), (11, [0]), (12, [0]), (13, [0]), (14, [0]), (15, [0]), (16, [0]), (17, [0]), (18, [])]
def r145 : List AR := []
def c145x0 : AC := .reg [
  ⟨(some 63), .mv (.t 0), none⟩,
  ⟨(some 64), .bsl [(.int .i64 0)] 2 [(0, (.k (.int .i64 0))), (1, (.k (.int .i64 2)))], none⟩,
  ⟨(some 65), .call 182 [(.t 63), (.k (.string ⟨#[114, 111, 114]⟩)), (.k (.int .i64 15)), (.t 64)], none⟩] []
def c145x1 : AC := .seq (.reg [
  ⟨(some 60), .mv (.t 0), none⟩,
  ⟨(some 61), .bsl [(.int .i64 0)] 2 [(0, (.k (.int .i64 0))), (1, (.k (.int .i64 2)))], none⟩,
  ⟨(some 62), .call 182 [(.t 60), (.k (.string ⟨#[114, 111, 108]⟩)), (.k (.int .i64 14)), (.t 61)], none⟩] [0]) (c145x0)
def c145x2 : AC := .seq (.reg [
  ⟨(some 57), .mv (.t 0), none⟩,
  ⟨(some 58), .bsl [(.int .i64 0)] 2 [(0, (.k (.int .i64 0))), (1, (.k (.int .i64 2)))], none⟩,
  ⟨(some 59), .call 182 [(.t 57), (.k (.string ⟨#[108, 115, 114]⟩)), (.k (.int .i64 13)), (.t 58)], none⟩] [0]) (c145x1)
def c145x3 : AC := .seq (.reg [
  ⟨(some 54), .mv (.t 0), none⟩,
  ⟨(some 55), .bsl [(.int .i64 0)] 2 [(0, (.k (.int .i64 0))), (1, (.k (.int .i64 2)))], none⟩,
  ⟨(some 56), .call 182 [(.t 54), (.k (.string ⟨#[97, 115, 108]⟩)), (.k (.int .i64 12)), (.t 55)], none⟩] [0]) (c145x2)
def c145x4 : AC := .seq (.reg [
  ⟨(some 51), .mv (.t 0), none⟩,
  ⟨(some 52), .bsl [(.int .i64 0)] 2 [(0, (.k (.int .i64 2))), (1, (.k (.int .i64 4)))], none⟩,
  ⟨(some 53), .call 182 [(.t 51), (.k (.string ⟨#[100, 101, 99]⟩)), (.k (.int .i64 11)), (.t 52)], none⟩] [0]) (c145x3)
def c145x5 : AC := .seq (.reg [
  ⟨(some 48), .mv (.t 0), none⟩,
  ⟨(some 49), .bsl [(.int .i64 0)] 2 [(0, (.k (.int .i64 2))), (1, (.k (.int .i64 4)))], none⟩,
  ⟨(some 50), .call 182 [(.t 48), (.k (.string ⟨#[105, 110, 99]⟩)), (.k (.int .i64 10)), (.t 49)], none⟩] [0]) (c145x4)
def c145x6 : AC := .seq (.reg [
  ⟨(some 45), .mv (.t 0), none⟩,
  ⟨(some 46), .bsl [(.int .i64 0)] 2 [(0, (.k (.int .i64 1))), (1, (.k (.int .i64 2)))], none⟩,
  ⟨(some 47), .call 181 [(.t 45), (.k (.string ⟨#[99, 112, 121]⟩)), (.k (.int .i64 6)), (.k (.int .i64 2)), (.t 46)], none⟩] [0]) (c145x5)
def c145x7 : AC := .seq (.reg [
  ⟨(some 42), .mv (.t 0), none⟩,
  ⟨(some 43), .bsl [(.int .i64 0)] 2 [(0, (.k (.int .i64 1))), (1, (.k (.int .i64 2)))], none⟩,
  ⟨(some 44), .call 181 [(.t 42), (.k (.string ⟨#[99, 112, 120]⟩)), (.k (.int .i64 6)), (.k (.int .i64 1)), (.t 43)], none⟩] [0]) (c145x6)
def c145x8 : AC := .reg [
  ⟨(some 41), .bin .add (.t 30) (.k (.int .i64 1)), none⟩,
  ⟨(some 30), .mv (.t 41), none⟩] [0, 28, 29, 30]
def c145x9 : AC := .reg [
  ⟨(some 34), .mv (.t 0), none⟩,
  ⟨(some 35), .fad 0 (.t 3), none⟩,
  ⟨(some 36), .ld none (.t 35), none⟩,
  ⟨(some 37), .fad 1 (.t 3), none⟩,
  ⟨(some 38), .ld none (.t 37), none⟩,
  ⟨(some 39), .bsl [(.int .i64 0)] 4 [(0, (.k (.int .i64 1))), (1, (.k (.int .i64 2))), (2, (.k (.int .i64 4))), (3, (.k (.int .i64 5)))], none⟩,
  ⟨(some 40), .call 181 [(.t 34), (.t 36), (.t 38), (.k (.int .i64 0)), (.t 39)], none⟩] [0, 28, 29, 30]
def c145x10 : AC := .seq (.reg [
  ⟨(some 32), .idx 2 none (.t 28) (.t 30), none⟩,
  ⟨(some 33), .ld (some 2) (.t 32), none⟩,
  ⟨(some 3), .zero [(.string ⟨#[]⟩), (.int .i64 0)], none⟩,
  ⟨none, .st 2 (.t 3) (.t 33), none⟩] [0, 3, 28, 29, 30]) (c145x9)
def c145x11 : AC := .block 1 (c145x10)
def c145x12 : AC := .seq (c145x11) (c145x8)
def c145x13 : AC := .cond (.t 31) (.skip) (.exit 0)
def c145x14 : AC := .seq (c145x13) (c145x12)
def c145x15 : AC := .seq (.reg [
  ⟨(some 31), .bin .lss (.t 30) (.t 29), none⟩] [0, 28, 29, 30, 31]) (c145x14)
def c145x16 : AC := .loop (c145x15)
def c145x17 : AC := .block 0 (c145x16)
def c145x18 : AC := .seq (.reg [
  ⟨(some 22), .build [(.string ⟨#[]⟩), (.int .i64 0)] [(0, 1, (.k (.string ⟨#[97, 100, 99]⟩))), (1, 1, (.k (.int .i64 4)))], none⟩,
  ⟨(some 23), .build [(.string ⟨#[]⟩), (.int .i64 0)] [(0, 1, (.k (.string ⟨#[115, 98, 99]⟩))), (1, 1, (.k (.int .i64 5)))], none⟩,
  ⟨(some 24), .build [(.string ⟨#[]⟩), (.int .i64 0)] [(0, 1, (.k (.string ⟨#[97, 110, 100]⟩))), (1, 1, (.k (.int .i64 7)))], none⟩,
  ⟨(some 25), .build [(.string ⟨#[]⟩), (.int .i64 0)] [(0, 1, (.k (.string ⟨#[111, 114, 97]⟩))), (1, 1, (.k (.int .i64 8)))], none⟩,
  ⟨(some 26), .build [(.string ⟨#[]⟩), (.int .i64 0)] [(0, 1, (.k (.string ⟨#[101, 111, 114]⟩))), (1, 1, (.k (.int .i64 9)))], none⟩,
  ⟨(some 27), .build [(.string ⟨#[]⟩), (.int .i64 0)] [(0, 1, (.k (.string ⟨#[99, 109, 112]⟩))), (1, 1, (.k (.int .i64 6)))], none⟩,
  ⟨(some 28), .bsl [(.string ⟨#[]⟩), (.int .i64 0)] 6 [(0, (.t 22)), (1, (.t 23)), (2, (.t 24)), (3, (.t 25)), (4, (.t 26)), (5, (.t 27))], none⟩,
  ⟨(some 29), .len (.t 28), none⟩,
  ⟨(some 30), .mv (.k (.int .i64 0)), none⟩] [0, 28, 29, 30]) (c145x17)
def c145x19 : AC := .seq (c145x18) (c145x7)
def c145x20 : AC := .seq (.reg [
  ⟨(some 19), .mv (.t 0), none⟩,
  ⟨(some 20), .bsl [(.int .i64 0)] 2 [(0, (.k (.int .i64 2))), (1, (.k (.int .i64 4)))], none⟩,
  ⟨(some 21), .call 180 [(.t 19), (.k (.string ⟨#[115, 116, 121]⟩)), (.k (.int .i64 2)), (.t 20)], none⟩] [0]) (c145x19)
def c145x21 : AC := .seq (.reg [
  ⟨(some 16), .mv (.t 0), none⟩,
  ⟨(some 17), .bsl [(.int .i64 0)] 2 [(0, (.k (.int .i64 2))), (1, (.k (.int .i64 4)))], none⟩,
  ⟨(some 18), .call 180 [(.t 16), (.k (.string ⟨#[115, 116, 120]⟩)), (.k (.int .i64 1)), (.t 17)], none⟩] [0]) (c145x20)
def c145x22 : AC := .seq (.reg [
  ⟨(some 13), .mv (.t 0), none⟩,
  ⟨(some 14), .bsl [(.int .i64 0)] 6 [(0, (.k (.int .i64 2))), (1, (.k (.int .i64 3))), (2, (.k (.int .i64 4))), (3, (.k (.int .i64 5))), (4, (.k (.int .i64 6))), (5, (.k (.int .i64 8)))], none⟩,
  ⟨(some 15), .call 180 [(.t 13), (.k (.string ⟨#[115, 116, 97]⟩)), (.k (.int .i64 0)), (.t 14)], none⟩] [0]) (c145x21)
def c145x23 : AC := .seq (.reg [
  ⟨(some 10), .mv (.t 0), none⟩,
  ⟨(some 11), .bsl [(.int .i64 0)] 3 [(0, (.k (.int .i64 1))), (1, (.k (.int .i64 2))), (2, (.k (.int .i64 4)))], none⟩,
  ⟨(some 12), .call 179 [(.t 10), (.k (.string ⟨#[108, 100, 121]⟩)), (.k (.int .i64 2)), (.t 11)], none⟩] [0]) (c145x22)
def c145x24 : AC := .seq (.reg [
  ⟨(some 7), .mv (.t 0), none⟩,
  ⟨(some 8), .bsl [(.int .i64 0)] 3 [(0, (.k (.int .i64 1))), (1, (.k (.int .i64 2))), (2, (.k (.int .i64 4)))], none⟩,
  ⟨(some 9), .call 179 [(.t 7), (.k (.string ⟨#[108, 100, 120]⟩)), (.k (.int .i64 1)), (.t 8)], none⟩] [0]) (c145x23)
def c145 : AC := .seq (.reg [
  ⟨(some 4), .mv (.t 0), none⟩,
  ⟨(some 5), .bsl [(.int .i64 0)] 7 [(0, (.k (.int .i64 1))), (1, (.k (.int .i64 2))), (2, (.k (.int .i64 3))), (3, (.k (.int .i64 4))), (4, (.k (.int .i64 5))), (5, (.k (.int .i64 6))), (6, (.k (.int .i64 8)))], none⟩,
  ⟨(some 6), .call 179 [(.t 4), (.k (.string ⟨#[108, 100, 97]⟩)), (.k (.int .i64 0)), (.t 5)], none⟩] [0]) (c145x24)
def v146 : List (Nat × List Nat) := [(0, [0, 9, 10, 11]), (1, [0, 9, 10, 11, 12]), (2, [0, 3, 9, 10, 11]), (3, [0, 9, 10, 11]), (4, [0, 9, 10, 11]), (5, [0]), (6, [0]), (7, [0]), (8, [0]), (9, [0]), (10, [0]), (11, [0]), (12, [0]), (13, [0]), (14, [0]), (15, [0]), (16, [0]), (17, [0]), (18, [])]
def r146 : List AR := []
def c146x0 : AC := .reg [
  ⟨(some 103), .mv (.t 0), none⟩,
  ⟨(some 104), .call 148 [(.k (.int .i64 5)), (.k (.int .i64 4)), (.k (.slice none 0 0))], none⟩,
  ⟨(some 105), .bsl [(.int .i64 0), (.int .i64 0), (.int .i64 0), (.slice none 0 0)] 1 [(0, (.t 104))], none⟩,
  ⟨(some 106), .call 183 [(.t 103), (.k (.string ⟨#[112, 108, 112]⟩)), (.k (.int .i64 0)), (.t 105)], none⟩] []
def c146x1 : AC := .seq (.reg [
  ⟨(some 99), .mv (.t 0), none⟩,
  ⟨(some 100), .call 187 [(.k (.int .i64 4)), (.k (.int .i64 4)), (.k (.slice none 0 0))], none⟩,
  ⟨(some 101), .bsl [(.int .i64 0), (.int .i64 0), (.int .i64 0), (.slice none 0 0)] 1 [(0, (.t 100))], none⟩,
  ⟨(some 102), .call 183 [(.t 99), (.k (.string ⟨#[112, 104, 112]⟩)), (.k (.int .i64 0)), (.t 101)], none⟩] [0]) (c146x0)
def c146x2 : AC := .seq (.reg [
  ⟨(some 93), .mv (.t 0), none⟩,
  ⟨(some 94), .call 186 [(.k (.int .i64 3)), (.k (.int .i64 0))], none⟩,
  ⟨(some 95), .bsl [(.int .i64 0), (.int .i64 0), (.int .i64 0), (.int .i64 0)] 1 [(0, (.t 94))], none⟩,
  ⟨(some 96), .call 148 [(.k (.int .i64 5)), (.k (.int .i64 0)), (.t 95)], none⟩,
  ⟨(some 97), .bsl [(.int .i64 0), (.int .i64 0), (.int .i64 0), (.slice none 0 0)] 1 [(0, (.t 96))], none⟩,
  ⟨(some 98), .call 183 [(.t 93), (.k (.string ⟨#[112, 108, 97]⟩)), (.k (.int .i64 0)), (.t 97)], none⟩] [0]) (c146x1)
def c146x3 : AC := .seq (.reg [
  ⟨(some 89), .mv (.t 0), none⟩,
  ⟨(some 90), .call 187 [(.k (.int .i64 4)), (.k (.int .i64 0)), (.k (.slice none 0 0))], none⟩,
  ⟨(some 91), .bsl [(.int .i64 0), (.int .i64 0), (.int .i64 0), (.slice none 0 0)] 1 [(0, (.t 90))], none⟩,
  ⟨(some 92), .call 183 [(.t 89), (.k (.string ⟨#[112, 104, 97]⟩)), (.k (.int .i64 0)), (.t 91)], none⟩] [0]) (c146x2)
def c146x4 : AC := .seq (.reg [
  ⟨(some 85), .mv (.t 0), none⟩,
  ⟨(some 86), .call 184 [(.k (.slice none 0 0))], none⟩,
  ⟨(some 87), .bsl [(.int .i64 0), (.int .i64 0), (.int .i64 0), (.slice none 0 0)] 1 [(0, (.t 86))], none⟩,
  ⟨(some 88), .call 183 [(.t 85), (.k (.string ⟨#[110, 111, 112]⟩)), (.k (.int .i64 0)), (.t 87)], none⟩] [0]) (c146x3)
def c146x5 : AC := .seq (.reg [
  ⟨(some 79), .mv (.t 0), none⟩,
  ⟨(some 80), .build [(.int .i64 0), (.int .i64 0), (.int .i64 0), (.int .i64 0)] [(0, 1, (.k (.int .i64 16))), (3, 1, (.k (.int .i64 4)))], none⟩,
  ⟨(some 81), .bsl [(.int .i64 0), (.int .i64 0), (.int .i64 0), (.int .i64 0)] 1 [(0, (.t 80))], none⟩,
  ⟨(some 82), .call 184 [(.t 81)], none⟩,
  ⟨(some 83), .bsl [(.int .i64 0), (.int .i64 0), (.int .i64 0), (.slice none 0 0)] 1 [(0, (.t 82))], none⟩,
  ⟨(some 84), .call 183 [(.t 79), (.k (.string ⟨#[115, 101, 105]⟩)), (.k (.int .i64 0)), (.t 83)], none⟩] [0]) (c146x4)
def c146x6 : AC := .seq (.reg [
  ⟨(some 73), .mv (.t 0), none⟩,
  ⟨(some 74), .build [(.int .i64 0), (.int .i64 0), (.int .i64 0), (.int .i64 0)] [(0, 1, (.k (.int .i64 17))), (3, 1, (.k (.int .i64 4)))], none⟩,
  ⟨(some 75), .bsl [(.int .i64 0), (.int .i64 0), (.int .i64 0), (.int .i64 0)] 1 [(0, (.t 74))], none⟩,
  ⟨(some 76), .call 184 [(.t 75)], none⟩,
  ⟨(some 77), .bsl [(.int .i64 0), (.int .i64 0), (.int .i64 0), (.slice none 0 0)] 1 [(0, (.t 76))], none⟩,
  ⟨(some 78), .call 183 [(.t 73), (.k (.string ⟨#[99, 108, 105]⟩)), (.k (.int .i64 0)), (.t 77)], none⟩] [0]) (c146x5)
def c146x7 : AC := .seq (.reg [
  ⟨(some 67), .mv (.t 0), none⟩,
  ⟨(some 68), .build [(.int .i64 0), (.int .i64 0), (.int .i64 0), (.int .i64 0)] [(0, 1, (.k (.int .i64 16))), (3, 1, (.k (.int .i64 1)))], none⟩,
  ⟨(some 69), .bsl [(.int .i64 0), (.int .i64 0), (.int .i64 0), (.int .i64 0)] 1 [(0, (.t 68))], none⟩,
  ⟨(some 70), .call 184 [(.t 69)], none⟩,
  ⟨(some 71), .bsl [(.int .i64 0), (.int .i64 0), (.int .i64 0), (.slice none 0 0)] 1 [(0, (.t 70))], none⟩,
  ⟨(some 72), .call 183 [(.t 67), (.k (.string ⟨#[115, 101, 99]⟩)), (.k (.int .i64 0)), (.t 71)], none⟩] [0]) (c146x6)
def c146x8 : AC := .seq (.reg [
  ⟨(some 61), .mv (.t 0), none⟩,
  ⟨(some 62), .build [(.int .i64 0), (.int .i64 0), (.int .i64 0), (.int .i64 0)] [(0, 1, (.k (.int .i64 17))), (3, 1, (.k (.int .i64 1)))], none⟩,
  ⟨(some 63), .bsl [(.int .i64 0), (.int .i64 0), (.int .i64 0), (.int .i64 0)] 1 [(0, (.t 62))], none⟩,
  ⟨(some 64), .call 184 [(.t 63)], none⟩,
  ⟨(some 65), .bsl [(.int .i64 0), (.int .i64 0), (.int .i64 0), (.slice none 0 0)] 1 [(0, (.t 64))], none⟩,
  ⟨(some 66), .call 183 [(.t 61), (.k (.string ⟨#[99, 108, 99]⟩)), (.k (.int .i64 0)), (.t 65)], none⟩] [0]) (c146x7)
def c146x9 : AC := .seq (.reg [
  ⟨(some 55), .mv (.t 0), none⟩,
  ⟨(some 56), .call 186 [(.k (.int .i64 11)), (.k (.int .i64 2))], none⟩,
  ⟨(some 57), .bsl [(.int .i64 0), (.int .i64 0), (.int .i64 0), (.int .i64 0)] 1 [(0, (.t 56))], none⟩,
  ⟨(some 58), .call 184 [(.t 57)], none⟩,
  ⟨(some 59), .bsl [(.int .i64 0), (.int .i64 0), (.int .i64 0), (.slice none 0 0)] 1 [(0, (.t 58))], none⟩,
  ⟨(some 60), .call 183 [(.t 55), (.k (.string ⟨#[100, 101, 121]⟩)), (.k (.int .i64 0)), (.t 59)], none⟩] [0]) (c146x8)
def c146x10 : AC := .seq (.reg [
  ⟨(some 49), .mv (.t 0), none⟩,
  ⟨(some 50), .call 186 [(.k (.int .i64 11)), (.k (.int .i64 1))], none⟩,
  ⟨(some 51), .bsl [(.int .i64 0), (.int .i64 0), (.int .i64 0), (.int .i64 0)] 1 [(0, (.t 50))], none⟩,
  ⟨(some 52), .call 184 [(.t 51)], none⟩,
  ⟨(some 53), .bsl [(.int .i64 0), (.int .i64 0), (.int .i64 0), (.slice none 0 0)] 1 [(0, (.t 52))], none⟩,
  ⟨(some 54), .call 183 [(.t 49), (.k (.string ⟨#[100, 101, 120]⟩)), (.k (.int .i64 0)), (.t 53)], none⟩] [0]) (c146x9)
def c146x11 : AC := .seq (.reg [
  ⟨(some 43), .mv (.t 0), none⟩,
  ⟨(some 44), .call 186 [(.k (.int .i64 10)), (.k (.int .i64 2))], none⟩,
  ⟨(some 45), .bsl [(.int .i64 0), (.int .i64 0), (.int .i64 0), (.int .i64 0)] 1 [(0, (.t 44))], none⟩,
  ⟨(some 46), .call 184 [(.t 45)], none⟩,
  ⟨(some 47), .bsl [(.int .i64 0), (.int .i64 0), (.int .i64 0), (.slice none 0 0)] 1 [(0, (.t 46))], none⟩,
  ⟨(some 48), .call 183 [(.t 43), (.k (.string ⟨#[105, 110, 121]⟩)), (.k (.int .i64 0)), (.t 47)], none⟩] [0]) (c146x10)
def c146x12 : AC := .seq (.reg [
  ⟨(some 37), .mv (.t 0), none⟩,
  ⟨(some 38), .call 186 [(.k (.int .i64 10)), (.k (.int .i64 1))], none⟩,
  ⟨(some 39), .bsl [(.int .i64 0), (.int .i64 0), (.int .i64 0), (.int .i64 0)] 1 [(0, (.t 38))], none⟩,
  ⟨(some 40), .call 184 [(.t 39)], none⟩,
  ⟨(some 41), .bsl [(.int .i64 0), (.int .i64 0), (.int .i64 0), (.slice none 0 0)] 1 [(0, (.t 40))], none⟩,
  ⟨(some 42), .call 183 [(.t 37), (.k (.string ⟨#[105, 110, 120]⟩)), (.k (.int .i64 0)), (.t 41)], none⟩] [0]) (c146x11)
def c146x13 : AC := .seq (.reg [
  ⟨(some 31), .mv (.t 0), none⟩,
  ⟨(some 32), .call 185 [(.k (.int .i64 1)), (.k (.int .i64 3)), (.k (.int .i64 1))], none⟩,
  ⟨(some 33), .bsl [(.int .i64 0), (.int .i64 0), (.int .i64 0), (.int .i64 0)] 1 [(0, (.t 32))], none⟩,
  ⟨(some 34), .call 184 [(.t 33)], none⟩,
  ⟨(some 35), .bsl [(.int .i64 0), (.int .i64 0), (.int .i64 0), (.slice none 0 0)] 1 [(0, (.t 34))], none⟩,
  ⟨(some 36), .call 183 [(.t 31), (.k (.string ⟨#[116, 120, 115]⟩)), (.k (.int .i64 0)), (.t 35)], none⟩] [0]) (c146x12)
def c146x14 : AC := .reg [
  ⟨(some 30), .bin .add (.t 11) (.k (.int .i64 1)), none⟩,
  ⟨(some 11), .mv (.t 30), none⟩] [0, 9, 10, 11]
def c146x15 : AC := .dreg [
  ⟨(some 15), .mv (.t 0), none⟩,
  ⟨(some 16), .fad 0 (.t 3), none⟩,
  ⟨(some 17), .ld none (.t 16), none⟩,
  ⟨(some 18), .fad 1 (.t 3), none⟩,
  ⟨(some 19), .ld none (.t 18), none⟩,
  ⟨(some 20), .fad 2 (.t 3), none⟩,
  ⟨(some 21), .ld none (.t 20), none⟩,
  ⟨(some 22), .call 185 [(.k (.int .i64 1)), (.t 19), (.t 21)], none⟩,
  ⟨(some 23), .fad 1 (.t 3), none⟩,
  ⟨(some 24), .ld none (.t 23), none⟩,
  ⟨(some 25), .call 186 [(.k (.int .i64 3)), (.t 24)], none⟩,
  ⟨(some 26), .bsl [(.int .i64 0), (.int .i64 0), (.int .i64 0), (.int .i64 0)] 2 [(0, (.t 22)), (1, (.t 25))], none⟩,
  ⟨(some 27), .call 184 [(.t 26)], none⟩,
  ⟨(some 28), .bsl [(.int .i64 0), (.int .i64 0), (.int .i64 0), (.slice none 0 0)] 1 [(0, (.t 27))], none⟩,
  ⟨(some 29), .call 183 [(.t 15), (.t 17), (.k (.int .i64 0)), (.t 28)], none⟩] [[], [], [1], [], [3], [], [5], [3, 4, 5, 6], [], [8], [3, 4, 5, 6, 7, 8, 9], [3, 4, 5, 6, 7, 8, 9, 10], [3, 4, 5, 6, 7, 8, 9, 10, 11], [3, 4, 5, 6, 7, 8, 9, 10, 11, 12], [0, 1, 2, 3, 4, 5, 6, 7, 8, 9, 10, 11, 12, 13]] [0, 9, 10, 11]
def c146x16 : AC := .seq (.reg [
  ⟨(some 13), .idx 3 none (.t 9) (.t 11), none⟩,
  ⟨(some 14), .ld (some 3) (.t 13), none⟩,
  ⟨(some 3), .zero [(.string ⟨#[]⟩), (.int .i64 0), (.int .i64 0)], none⟩,
  ⟨none, .st 3 (.t 3) (.t 14), none⟩] [0, 3, 9, 10, 11]) (c146x15)
def c146x17 : AC := .block 1 (c146x16)
def c146x18 : AC := .seq (c146x17) (c146x14)
def c146x19 : AC := .cond (.t 12) (.skip) (.exit 0)
def c146x20 : AC := .seq (c146x19) (c146x18)
def c146x21 : AC := .seq (.reg [
  ⟨(some 12), .bin .lss (.t 11) (.t 10), none⟩] [0, 9, 10, 11, 12]) (c146x20)
def c146x22 : AC := .loop (c146x21)
def c146x23 : AC := .block 0 (c146x22)
def c146x24 : AC := .seq (.reg [
  ⟨(some 4), .build [(.string ⟨#[]⟩), (.int .i64 0), (.int .i64 0)] [(0, 1, (.k (.string ⟨#[116, 97, 120]⟩))), (1, 1, (.k (.int .i64 1))), (2, 1, (.k (.int .i64 0)))], none⟩,
  ⟨(some 5), .build [(.string ⟨#[]⟩), (.int .i64 0), (.int .i64 0)] [(0, 1, (.k (.string ⟨#[116, 97, 121]⟩))), (1, 1, (.k (.int .i64 2))), (2, 1, (.k (.int .i64 0)))], none⟩,
  ⟨(some 6), .build [(.string ⟨#[]⟩), (.int .i64 0), (.int .i64 0)] [(0, 1, (.k (.string ⟨#[116, 120, 97]⟩))), (1, 1, (.k (.int .i64 0))), (2, 1, (.k (.int .i64 1)))], none⟩,
  ⟨(some 7), .build [(.string ⟨#[]⟩), (.int .i64 0), (.int .i64 0)] [(0, 1, (.k (.string ⟨#[116, 121, 97]⟩))), (1, 1, (.k (.int .i64 0))), (2, 1, (.k (.int .i64 2)))], none⟩,
  ⟨(some 8), .build [(.string ⟨#[]⟩), (.int .i64 0), (.int .i64 0)] [(0, 1, (.k (.string ⟨#[116, 115, 120]⟩))), (1, 1, (.k (.int .i64 1))), (2, 1, (.k (.int .i64 3)))], none⟩,
  ⟨(some 9), .bsl [(.string ⟨#[]⟩), (.int .i64 0), (.int .i64 0)] 5 [(0, (.t 4)), (1, (.t 5)), (2, (.t 6)), (3, (.t 7)), (4, (.t 8))], none⟩,
  ⟨(some 10), .len (.t 9), none⟩,
  ⟨(some 11), .mv (.k (.int .i64 0)), none⟩] [0, 9, 10, 11]) (c146x23)
def c146 : AC := .seq (c146x24) (c146x13)
def v147 : List (Nat × List Nat) := [(0, [0]), (1, [0]), (2, [0]), (3, [0]), (4, [0, 45, 46, 47]), (5, [0, 45, 46, 47, 48]), (6, [0, 3, 45, 46, 47]), (7, [0, 45, 46, 47]), (8, [0, 45, 46, 47])]
def r147 : List AR := []
def c147x0 : AC := .reg [
  ⟨(some 66), .bin .add (.t 47) (.k (.int .i64 1)), none⟩,
  ⟨(some 47), .mv (.t 66), none⟩] [0, 45, 46, 47]
def c147x1 : AC := .dreg [
  ⟨(some 51), .mv (.t 0), none⟩,
  ⟨(some 52), .fad 0 (.t 3), none⟩,
  ⟨(some 53), .ld none (.t 52), none⟩,
  ⟨(some 54), .fad 2 (.t 3), none⟩,
  ⟨(some 55), .ld none (.t 54), none⟩,
  ⟨(some 56), .fad 1 (.t 3), none⟩,
  ⟨(some 57), .ld none (.t 56), none⟩,
  ⟨(some 58), .build [(.int .i64 0), (.int .i64 0), (.int .i64 0), (.int .i64 0)] [(0, 1, (.k (.int .i64 24))), (2, 1, (.t 55)), (3, 1, (.t 57))], none⟩,
  ⟨(some 59), .bsl [(.int .i64 0), (.int .i64 0), (.int .i64 0), (.int .i64 0)] 1 [(0, (.t 58))], none⟩,
  ⟨(some 60), .call 148 [(.k (.int .i64 0)), (.k (.int .i64 5)), (.t 59)], none⟩,
  ⟨(some 61), .call 185 [(.k (.int .i64 23)), (.k (.int .i64 7)), (.k (.int .i64 5))], none⟩,
  ⟨(some 62), .bsl [(.int .i64 0), (.int .i64 0), (.int .i64 0), (.int .i64 0)] 1 [(0, (.t 61))], none⟩,
  ⟨(some 63), .call 184 [(.t 62)], none⟩,
  ⟨(some 64), .bsl [(.int .i64 0), (.int .i64 0), (.int .i64 0), (.slice none 0 0)] 2 [(0, (.t 60)), (1, (.t 63))], none⟩,
  ⟨(some 65), .call 183 [(.t 51), (.t 53), (.k (.int .i64 7)), (.t 64)], none⟩] [[], [], [1], [], [3], [], [5], [3, 4, 5, 6], [3, 4, 5, 6, 7], [3, 4, 5, 6, 7, 8], [3, 4, 5, 6, 7, 8, 9], [3, 4, 5, 6, 7, 8, 9, 10], [3, 4, 5, 6, 7, 8, 9, 10, 11], [3, 4, 5, 6, 7, 8, 9, 10, 11, 12], [0, 1, 2, 3, 4, 5, 6, 7, 8, 9, 10, 11, 12, 13]] [0, 45, 46, 47]
def c147x2 : AC := .seq (.reg [
  ⟨(some 49), .idx 3 none (.t 45) (.t 47), none⟩,
  ⟨(some 50), .ld (some 3) (.t 49), none⟩,
  ⟨(some 3), .zero [(.string ⟨#[]⟩), (.int .i64 0), (.int .i64 0)], none⟩,
  ⟨none, .st 3 (.t 3) (.t 50), none⟩] [0, 3, 45, 46, 47]) (c147x1)
def c147x3 : AC := .block 1 (c147x2)
def c147x4 : AC := .seq (c147x3) (c147x0)
def c147x5 : AC := .cond (.t 48) (.skip) (.exit 0)
def c147x6 : AC := .seq (c147x5) (c147x4)
def c147x7 : AC := .seq (.reg [
  ⟨(some 48), .bin .lss (.t 47) (.t 46), none⟩] [0, 45, 46, 47, 48]) (c147x6)
def c147x8 : AC := .loop (c147x7)
def c147x9 : AC := .block 0 (c147x8)
def c147x10 : AC := .seq (.reg [
  ⟨(some 39), .build [(.string ⟨#[]⟩), (.int .i64 0), (.int .i64 0)] [(0, 1, (.k (.string ⟨#[98, 101, 113]⟩))), (1, 1, (.k (.int .i64 2))), (2, 1, (.k (.int .i64 1)))], none⟩,
  ⟨(some 40), .build [(.string ⟨#[]⟩), (.int .i64 0), (.int .i64 0)] [(0, 1, (.k (.string ⟨#[98, 110, 101]⟩))), (1, 1, (.k (.int .i64 2))), (2, 1, (.k (.int .i64 0)))], none⟩,
  ⟨(some 41), .build [(.string ⟨#[]⟩), (.int .i64 0), (.int .i64 0)] [(0, 1, (.k (.string ⟨#[98, 99, 115]⟩))), (1, 1, (.k (.int .i64 1))), (2, 1, (.k (.int .i64 1)))], none⟩,
  ⟨(some 42), .build [(.string ⟨#[]⟩), (.int .i64 0), (.int .i64 0)] [(0, 1, (.k (.string ⟨#[98, 99, 99]⟩))), (1, 1, (.k (.int .i64 1))), (2, 1, (.k (.int .i64 0)))], none⟩,
  ⟨(some 43), .build [(.string ⟨#[]⟩), (.int .i64 0), (.int .i64 0)] [(0, 1, (.k (.string ⟨#[98, 109, 105]⟩))), (1, 1, (.k (.int .i64 128))), (2, 1, (.k (.int .i64 1)))], none⟩,
  ⟨(some 44), .build [(.string ⟨#[]⟩), (.int .i64 0), (.int .i64 0)] [(0, 1, (.k (.string ⟨#[98, 112, 108]⟩))), (1, 1, (.k (.int .i64 128))), (2, 1, (.k (.int .i64 0)))], none⟩,
  ⟨(some 45), .bsl [(.string ⟨#[]⟩), (.int .i64 0), (.int .i64 0)] 6 [(0, (.t 39)), (1, (.t 40)), (2, (.t 41)), (3, (.t 42)), (4, (.t 43)), (5, (.t 44))], none⟩,
  ⟨(some 46), .len (.t 45), none⟩,
  ⟨(some 47), .mv (.k (.int .i64 0)), none⟩] [0, 45, 46, 47]) (c147x9)
def c147x11 : AC := .seq (.reg [
  ⟨(some 32), .mv (.t 0), none⟩,
  ⟨(some 33), .call 148 [(.k (.int .i64 5)), (.k (.int .i64 4)), (.k (.slice none 0 0))], none⟩,
  ⟨(some 34), .call 148 [(.k (.int .i64 5)), (.k (.int .i64 5)), (.k (.slice none 0 0))], none⟩,
  ⟨(some 35), .call 149 [(.k (.int .i64 7))], none⟩,
  ⟨(some 36), .call 148 [(.k (.int .i64 5)), (.k (.int .i64 6)), (.t 35)], none⟩,
  ⟨(some 37), .bsl [(.int .i64 0), (.int .i64 0), (.int .i64 0), (.slice none 0 0)] 3 [(0, (.t 33)), (1, (.t 34)), (2, (.t 36))], none⟩,
  ⟨(some 38), .call 183 [(.t 32), (.k (.string ⟨#[114, 116, 105]⟩)), (.k (.int .i64 0)), (.t 37)], none⟩] [0]) (c147x10)
def c147x12 : AC := .seq (.reg [
  ⟨(some 26), .mv (.t 0), none⟩,
  ⟨(some 27), .call 148 [(.k (.int .i64 5)), (.k (.int .i64 5)), (.k (.slice none 0 0))], none⟩,
  ⟨(some 28), .call 149 [(.k (.int .i64 7))], none⟩,
  ⟨(some 29), .call 148 [(.k (.int .i64 5)), (.k (.int .i64 6)), (.t 28)], none⟩,
  ⟨(some 30), .bsl [(.int .i64 0), (.int .i64 0), (.int .i64 0), (.slice none 0 0)] 2 [(0, (.t 27)), (1, (.t 29))], none⟩,
  ⟨(some 31), .call 183 [(.t 26), (.k (.string ⟨#[114, 116, 115]⟩)), (.k (.int .i64 0)), (.t 30)], none⟩] [0]) (c147x11)
def c147x13 : AC := .seq (.reg [
  ⟨(some 10), .mv (.t 0), none⟩,
  ⟨(some 11), .call 185 [(.k (.int .i64 18)), (.k (.int .i64 8)), (.k (.int .i64 5))], none⟩,
  ⟨(some 12), .bsl [(.int .i64 0), (.int .i64 0), (.int .i64 0), (.int .i64 0)] 1 [(0, (.t 11))], none⟩,
  ⟨(some 13), .call 148 [(.k (.int .i64 0)), (.k (.int .i64 5)), (.t 12)], none⟩,
  ⟨(some 14), .call 185 [(.k (.int .i64 19)), (.k (.int .i64 8)), (.k (.int .i64 5))], none⟩,
  ⟨(some 15), .call 185 [(.k (.int .i64 21)), (.k (.int .i64 5)), (.k (.int .i64 7))], none⟩,
  ⟨(some 16), .bsl [(.int .i64 0), (.int .i64 0), (.int .i64 0), (.int .i64 0)] 2 [(0, (.t 14)), (1, (.t 15))], none⟩,
  ⟨(some 17), .call 148 [(.k (.int .i64 0)), (.k (.int .i64 5)), (.t 16)], none⟩,
  ⟨(some 18), .call 185 [(.k (.int .i64 20)), (.k (.int .i64 5)), (.k (.int .i64 7))], none⟩,
  ⟨(some 19), .bsl [(.int .i64 0), (.int .i64 0), (.int .i64 0), (.int .i64 0)] 1 [(0, (.t 18))], none⟩,
  ⟨(some 20), .call 187 [(.k (.int .i64 4)), (.k (.int .i64 5)), (.t 19)], none⟩,
  ⟨(some 21), .call 185 [(.k (.int .i64 1)), (.k (.int .i64 7)), (.k (.int .i64 8))], none⟩,
  ⟨(some 22), .bsl [(.int .i64 0), (.int .i64 0), (.int .i64 0), (.int .i64 0)] 1 [(0, (.t 21))], none⟩,
  ⟨(some 23), .call 187 [(.k (.int .i64 4)), (.k (.int .i64 5)), (.t 22)], none⟩,
  ⟨(some 24), .bsl [(.int .i64 0), (.int .i64 0), (.int .i64 0), (.slice none 0 0)] 4 [(0, (.t 13)), (1, (.t 17)), (2, (.t 20)), (3, (.t 23))], none⟩,
  ⟨(some 25), .call 183 [(.t 10), (.k (.string ⟨#[106, 115, 114]⟩)), (.k (.int .i64 4)), (.t 24)], none⟩] [0]) (c147x12)
def c147 : AC := .seq (.reg [
  ⟨(some 4), .mv (.t 0), none⟩,
  ⟨(some 5), .call 148 [(.k (.int .i64 0)), (.k (.int .i64 5)), (.k (.slice none 0 0))], none⟩,
  ⟨(some 6), .call 149 [(.k (.int .i64 7))], none⟩,
  ⟨(some 7), .call 148 [(.k (.int .i64 0)), (.k (.int .i64 6)), (.t 6)], none⟩,
  ⟨(some 8), .bsl [(.int .i64 0), (.int .i64 0), (.int .i64 0), (.slice none 0 0)] 2 [(0, (.t 5)), (1, (.t 7))], none⟩,
  ⟨(some 9), .call 183 [(.t 4), (.k (.string ⟨#[106, 109, 112]⟩)), (.k (.int .i64 4)), (.t 8)], none⟩] [0]) (c147x13)
def v148 : List (Nat × List Nat) := [(0, [0, 1, 2, 6]), (1, [6])]
def r148 : List AR := [.cell (some 4) 6]
def c148x0 : AC := .seq (.reg [
  ⟨(some 7), .mv (.t 0), none⟩,
  ⟨(some 8), .mv (.t 1), none⟩,
  ⟨(some 9), .mv (.t 2), none⟩,
  ⟨(some 10), .build [(.int .i64 0), (.int .i64 0), (.int .i64 0), (.slice none 0 0)] [(0, 1, (.k (.int .i64 1))), (1, 1, (.t 7)), (2, 1, (.t 8)), (3, 1, (.t 9))], none⟩,
  ⟨none, .st 4 (.t 6) (.t 10), none⟩] [6]) (.ret)
def c148 : AC := .seq (.reg [
  ⟨(some 6), .zero [(.int .i64 0), (.int .i64 0), (.int .i64 0), (.slice none 0 0)], none⟩] [0, 1, 2, 6]) (c148x0)
def v149 : List (Nat × List Nat) := [(0, [0]), (1, [2])]
def r149 : List AR := [.t 2]
def c149x0 : AC := .seq (.reg [
  ⟨(some 3), .mv (.t 0), none⟩,
  ⟨(some 4), .call 185 [(.k (.int .i64 18)), (.t 3), (.k (.int .i64 5))], none⟩,
  ⟨(some 5), .mv (.t 0), none⟩,
  ⟨(some 6), .call 185 [(.k (.int .i64 19)), (.t 5), (.k (.int .i64 6))], none⟩,
  ⟨(some 7), .bsl [(.int .i64 0), (.int .i64 0), (.int .i64 0), (.int .i64 0)] 2 [(0, (.t 4)), (1, (.t 6))], none⟩,
  ⟨(some 2), .mv (.t 7), none⟩] [2]) (.ret)
def c149 : AC := .seq (.reg [
  ⟨(some 2), .mv (.k (.slice none 0 0)), none⟩] [0]) (c149x0)
def v150 : List (Nat × List Nat) := [(0, [0, 1]), (1, [4])]
def r150 : List AR := [.t 4]
def c150x0 : AC := .seq (.reg [
  ⟨(some 5), .call 185 [(.k (.int .i64 21)), (.k (.int .i64 5)), (.k (.int .i64 7))], none⟩,
  ⟨(some 6), .bsl [(.int .i64 0), (.int .i64 0), (.int .i64 0), (.int .i64 0)] 1 [(0, (.t 5))], none⟩,
  ⟨(some 7), .call 184 [(.t 6)], none⟩,
  ⟨(some 8), .call 185 [(.k (.int .i64 20)), (.k (.int .i64 5)), (.k (.int .i64 7))], none⟩,
  ⟨(some 9), .bsl [(.int .i64 0), (.int .i64 0), (.int .i64 0), (.int .i64 0)] 1 [(0, (.t 8))], none⟩,
  ⟨(some 10), .call 187 [(.k (.int .i64 4)), (.k (.int .i64 5)), (.t 9)], none⟩,
  ⟨(some 11), .call 187 [(.k (.int .i64 4)), (.k (.int .i64 5)), (.k (.slice none 0 0))], none⟩,
  ⟨(some 12), .build [(.int .i64 0), (.int .i64 0), (.int .i64 0), (.int .i64 0)] [(0, 1, (.k (.int .i64 16))), (3, 1, (.k (.int .i64 4)))], none⟩,
  ⟨(some 13), .bsl [(.int .i64 0), (.int .i64 0), (.int .i64 0), (.int .i64 0)] 1 [(0, (.t 12))], none⟩,
  ⟨(some 14), .call 187 [(.k (.int .i64 4)), (.k (.int .i64 4)), (.t 13)], none⟩,
  ⟨(some 15), .mv (.t 0), none⟩,
  ⟨(some 16), .call 148 [(.t 15), (.k (.int .i64 5)), (.k (.slice none 0 0))], none⟩,
  ⟨(some 17), .mv (.t 1), none⟩,
  ⟨(some 18), .call 149 [(.k (.int .i64 7))], none⟩,
  ⟨(some 19), .call 148 [(.t 17), (.k (.int .i64 6)), (.t 18)], none⟩,
  ⟨(some 20), .bsl [(.int .i64 0), (.int .i64 0), (.int .i64 0), (.slice none 0 0)] 6 [(0, (.t 7)), (1, (.t 10)), (2, (.t 11)), (3, (.t 14)), (4, (.t 16)), (5, (.t 19))], none⟩,
  ⟨(some 4), .mv (.t 20), none⟩] [4]) (.ret)
def c150 : AC := .seq (.reg [
  ⟨(some 4), .mv (.k (.slice none 0 0)), none⟩] [0, 1]) (c150x0)
def v179 : List (Nat × List Nat) := [(0, [0, 1, 2, 10, 11, 12]), (1, [0, 1, 2, 10, 11, 12, 13]), (2, [0, 1, 2, 9, 10, 11, 12]), (3, [0, 1, 2, 10, 11, 12]), (4, [0, 1, 2, 10, 11, 12])]
def r179 : List AR := []
def c179x0 : AC := .reg [
  ⟨(some 27), .bin .add (.t 12) (.k (.int .i64 1)), none⟩,
  ⟨(some 12), .mv (.t 27), none⟩] [0, 1, 2, 10, 11, 12]
def c179x1 : AC := .reg [
  ⟨(some 16), .mv (.t 0), none⟩,
  ⟨(some 17), .mv (.t 1), none⟩,
  ⟨(some 18), .mv (.t 9), none⟩,
  ⟨(some 19), .mv (.t 9), none⟩,
  ⟨(some 20), .mv (.t 2), none⟩,
  ⟨(some 21), .call 185 [(.k (.int .i64 1)), (.t 20), (.k (.int .i64 5))], none⟩,
  ⟨(some 22), .mv (.t 2), none⟩,
  ⟨(some 23), .call 186 [(.k (.int .i64 3)), (.t 22)], none⟩,
  ⟨(some 24), .bsl [(.int .i64 0), (.int .i64 0), (.int .i64 0), (.int .i64 0)] 2 [(0, (.t 21)), (1, (.t 23))], none⟩,
  ⟨(some 25), .call 193 [(.t 19), (.t 24)], none⟩,
  ⟨(some 26), .call 183 [(.t 16), (.t 17), (.t 18), (.t 25)], none⟩] [0, 1, 2, 10, 11, 12]
def c179x2 : AC := .seq (.reg [
  ⟨(some 14), .idx 1 none (.t 10) (.t 12), none⟩,
  ⟨(some 15), .ld none (.t 14), none⟩,
  ⟨(some 9), .mv (.t 15), none⟩] [0, 1, 2, 9, 10, 11, 12]) (c179x1)
def c179x3 : AC := .block 1 (c179x2)
def c179x4 : AC := .seq (c179x3) (c179x0)
def c179x5 : AC := .cond (.t 13) (.skip) (.exit 0)
def c179x6 : AC := .seq (c179x5) (c179x4)
def c179x7 : AC := .seq (.reg [
  ⟨(some 13), .bin .lss (.t 12) (.t 11), none⟩] [0, 1, 2, 10, 11, 12, 13]) (c179x6)
def c179x8 : AC := .loop (c179x7)
def c179x9 : AC := .block 0 (c179x8)
def c179 : AC := .seq (.reg [
  ⟨(some 10), .mv (.t 3), none⟩,
  ⟨(some 11), .len (.t 10), none⟩,
  ⟨(some 12), .mv (.k (.int .i64 0)), none⟩] [0, 1, 2, 10, 11, 12]) (c179x9)
def v180 : List (Nat × List Nat) := [(0, [0, 1, 2, 10, 11, 12]), (1, [0, 1, 2, 10, 11, 12, 13]), (2, [0, 1, 2, 9, 10, 11, 12]), (3, [0, 1, 2, 10, 11, 12]), (4, [0, 1, 2, 10, 11, 12])]
def r180 : List AR := []
def c180x0 : AC := .reg [
  ⟨(some 26), .bin .add (.t 12) (.k (.int .i64 1)), none⟩,
  ⟨(some 12), .mv (.t 26), none⟩] [0, 1, 2, 10, 11, 12]
def c180x1 : AC := .reg [
  ⟨(some 16), .mv (.t 0), none⟩,
  ⟨(some 17), .mv (.t 1), none⟩,
  ⟨(some 18), .mv (.t 9), none⟩,
  ⟨(some 19), .mv (.t 9), none⟩,
  ⟨(some 20), .call 194 [(.t 19)], none⟩,
  ⟨(some 21), .mv (.t 2), none⟩,
  ⟨(some 22), .call 187 [(.k (.int .i64 2)), (.t 21), (.k (.slice none 0 0))], none⟩,
  ⟨(some 23), .bsl [(.int .i64 0), (.int .i64 0), (.int .i64 0), (.slice none 0 0)] 1 [(0, (.t 22))], none⟩,
  ⟨(some 24), .app 4 48 (.t 20) (.t 23), none⟩,
  ⟨(some 25), .call 183 [(.t 16), (.t 17), (.t 18), (.t 24)], none⟩] [0, 1, 2, 10, 11, 12]
def c180x2 : AC := .seq (.reg [
  ⟨(some 14), .idx 1 none (.t 10) (.t 12), none⟩,
  ⟨(some 15), .ld none (.t 14), none⟩,
  ⟨(some 9), .mv (.t 15), none⟩] [0, 1, 2, 9, 10, 11, 12]) (c180x1)
def c180x3 : AC := .block 1 (c180x2)
def c180x4 : AC := .seq (c180x3) (c180x0)
def c180x5 : AC := .cond (.t 13) (.skip) (.exit 0)
def c180x6 : AC := .seq (c180x5) (c180x4)
def c180x7 : AC := .seq (.reg [
  ⟨(some 13), .bin .lss (.t 12) (.t 11), none⟩] [0, 1, 2, 10, 11, 12, 13]) (c180x6)
def c180x8 : AC := .loop (c180x7)
def c180x9 : AC := .block 0 (c180x8)
def c180 : AC := .seq (.reg [
  ⟨(some 10), .mv (.t 3), none⟩,
  ⟨(some 11), .len (.t 10), none⟩,
  ⟨(some 12), .mv (.k (.int .i64 0)), none⟩] [0, 1, 2, 10, 11, 12]) (c180x9)
def v181 : List (Nat × List Nat) := [(0, [0, 1, 2, 3, 12, 13, 14]), (1, [0, 1, 2, 3, 12, 13, 14, 15]), (2, [0, 1, 2, 3, 11, 12, 13, 14]), (3, [0, 1, 2, 3, 12, 13, 14]), (4, [0, 1, 2, 3, 12, 13, 14])]
def r181 : List AR := []
def c181x0 : AC := .reg [
  ⟨(some 28), .bin .add (.t 14) (.k (.int .i64 1)), none⟩,
  ⟨(some 14), .mv (.t 28), none⟩] [0, 1, 2, 3, 12, 13, 14]
def c181x1 : AC := .reg [
  ⟨(some 18), .mv (.t 0), none⟩,
  ⟨(some 19), .mv (.t 1), none⟩,
  ⟨(some 20), .mv (.t 11), none⟩,
  ⟨(some 21), .mv (.t 11), none⟩,
  ⟨(some 22), .mv (.t 2), none⟩,
  ⟨(some 23), .mv (.t 3), none⟩,
  ⟨(some 24), .call 185 [(.t 22), (.t 23), (.k (.int .i64 5))], none⟩,
  ⟨(some 25), .bsl [(.int .i64 0), (.int .i64 0), (.int .i64 0), (.int .i64 0)] 1 [(0, (.t 24))], none⟩,
  ⟨(some 26), .call 193 [(.t 21), (.t 25)], none⟩,
  ⟨(some 27), .call 183 [(.t 18), (.t 19), (.t 20), (.t 26)], none⟩] [0, 1, 2, 3, 12, 13, 14]
def c181x2 : AC := .seq (.reg [
  ⟨(some 16), .idx 1 none (.t 12) (.t 14), none⟩,
  ⟨(some 17), .ld none (.t 16), none⟩,
  ⟨(some 11), .mv (.t 17), none⟩] [0, 1, 2, 3, 11, 12, 13, 14]) (c181x1)
def c181x3 : AC := .block 1 (c181x2)
def c181x4 : AC := .seq (c181x3) (c181x0)
def c181x5 : AC := .cond (.t 15) (.skip) (.exit 0)
def c181x6 : AC := .seq (c181x5) (c181x4)
def c181x7 : AC := .seq (.reg [
  ⟨(some 15), .bin .lss (.t 14) (.t 13), none⟩] [0, 1, 2, 3, 12, 13, 14, 15]) (c181x6)
def c181x8 : AC := .loop (c181x7)
def c181x9 : AC := .block 0 (c181x8)
def c181 : AC := .seq (.reg [
  ⟨(some 12), .mv (.t 4), none⟩,
  ⟨(some 13), .len (.t 12), none⟩,
  ⟨(some 14), .mv (.k (.int .i64 0)), none⟩] [0, 1, 2, 3, 12, 13, 14]) (c181x9)
def v182 : List (Nat × List Nat) := [(0, [0, 1, 2, 10, 11, 12]), (1, [0, 1, 2, 10, 11, 12, 13]), (2, [0, 1, 2, 9, 10, 11, 12]), (3, [0, 1, 2, 9, 10, 11, 12, 17]), (4, [0, 1, 2, 10, 11, 12]), (5, [0, 1, 2, 10, 11, 12]), (6, [0, 1, 2, 10, 11, 12])]
def r182 : List AR := []
def c182x0 : AC := .reg [
  ⟨(some 40), .bin .add (.t 12) (.k (.int .i64 1)), none⟩,
  ⟨(some 12), .mv (.t 40), none⟩] [0, 1, 2, 10, 11, 12]
def c182x1 : AC := .reg [
  ⟨(some 27), .mv (.t 0), none⟩,
  ⟨(some 28), .mv (.t 1), none⟩,
  ⟨(some 29), .mv (.t 9), none⟩,
  ⟨(some 30), .mv (.t 9), none⟩,
  ⟨(some 31), .call 194 [(.t 30)], none⟩,
  ⟨(some 32), .mv (.t 2), none⟩,
  ⟨(some 33), .call 186 [(.t 32), (.k (.int .i64 5))], none⟩,
  ⟨(some 34), .bsl [(.int .i64 0), (.int .i64 0), (.int .i64 0), (.int .i64 0)] 1 [(0, (.t 33))], none⟩,
  ⟨(some 35), .call 148 [(.k (.int .i64 2)), (.k (.int .i64 5)), (.t 34)], none⟩,
  ⟨(some 36), .call 187 [(.k (.int .i64 2)), (.k (.int .i64 5)), (.k (.slice none 0 0))], none⟩,
  ⟨(some 37), .bsl [(.int .i64 0), (.int .i64 0), (.int .i64 0), (.slice none 0 0)] 2 [(0, (.t 35)), (1, (.t 36))], none⟩,
  ⟨(some 38), .app 4 48 (.t 31) (.t 37), none⟩,
  ⟨(some 39), .call 183 [(.t 27), (.t 28), (.t 29), (.t 38)], none⟩] [0, 1, 2, 10, 11, 12]
def c182x2 : AC := .seq (.reg [
  ⟨(some 18), .mv (.t 0), none⟩,
  ⟨(some 19), .mv (.t 1), none⟩,
  ⟨(some 20), .mv (.t 9), none⟩,
  ⟨(some 21), .mv (.t 2), none⟩,
  ⟨(some 22), .call 186 [(.t 21), (.k (.int .i64 0))], none⟩,
  ⟨(some 23), .bsl [(.int .i64 0), (.int .i64 0), (.int .i64 0), (.int .i64 0)] 1 [(0, (.t 22))], none⟩,
  ⟨(some 24), .call 184 [(.t 23)], none⟩,
  ⟨(some 25), .bsl [(.int .i64 0), (.int .i64 0), (.int .i64 0), (.slice none 0 0)] 1 [(0, (.t 24))], none⟩,
  ⟨(some 26), .call 183 [(.t 18), (.t 19), (.t 20), (.t 25)], none⟩] [0, 1, 2, 10, 11, 12]) (.exit 1)
def c182x3 : AC := .cond (.t 17) (c182x2) (.skip)
def c182x4 : AC := .seq (.reg [
  ⟨(some 16), .mv (.t 9), none⟩,
  ⟨(some 17), .bin .eql (.t 16) (.k (.int .i64 0)), none⟩] [0, 1, 2, 9, 10, 11, 12, 17]) (c182x3)
def c182x5 : AC := .seq (c182x4) (c182x1)
def c182x6 : AC := .seq (.reg [
  ⟨(some 14), .idx 1 none (.t 10) (.t 12), none⟩,
  ⟨(some 15), .ld none (.t 14), none⟩,
  ⟨(some 9), .mv (.t 15), none⟩] [0, 1, 2, 9, 10, 11, 12]) (c182x5)
def c182x7 : AC := .block 1 (c182x6)
def c182x8 : AC := .seq (c182x7) (c182x0)
def c182x9 : AC := .cond (.t 13) (.skip) (.exit 0)
def c182x10 : AC := .seq (c182x9) (c182x8)
def c182x11 : AC := .seq (.reg [
  ⟨(some 13), .bin .lss (.t 12) (.t 11), none⟩] [0, 1, 2, 10, 11, 12, 13]) (c182x10)
def c182x12 : AC := .loop (c182x11)
def c182x13 : AC := .block 0 (c182x12)
def c182 : AC := .seq (.reg [
  ⟨(some 10), .mv (.t 3), none⟩,
  ⟨(some 11), .len (.t 10), none⟩,
  ⟨(some 12), .mv (.k (.int .i64 0)), none⟩] [0, 1, 2, 10, 11, 12]) (c182x13)
def v183 : List (Nat × List Nat) := [(0, [])]
def r183 : List AR := []

def c183 : AC := .dreg [
  ⟨(some 8), .mv (.t 0), none⟩,
  ⟨(some 9), .mv (.t 0), none⟩,
  ⟨(some 10), .nilc (.t 9), none⟩,
  ⟨(some 11), .fad 0 (.t 10), none⟩,
  ⟨(some 12), .ld none (.t 11), none⟩,
  ⟨(some 13), .mv (.t 0), none⟩,
  ⟨(some 14), .nilc (.t 13), none⟩,
  ⟨(some 15), .fad 0 (.t 14), none⟩,
  ⟨(some 16), .ld none (.t 15), none⟩,
  ⟨(some 17), .len (.t 16), none⟩,
  ⟨(some 18), .bin .add (.t 17) (.k (.int .i64 1)), none⟩,
  ⟨(some 19), .mv (.t 1), none⟩,
  ⟨(some 20), .mv (.t 2), none⟩,
  ⟨(some 21), .mv (.t 3), none⟩,
  ⟨(some 22), .build [(.int .i64 0), (.string ⟨#[]⟩), (.int .i64 0), (.slice none 0 0)] [(0, 1, (.t 18)), (1, 1, (.t 19)), (2, 1, (.t 20)), (3, 1, (.t 21))], none⟩,
  ⟨(some 23), .bsl [(.int .i64 0), (.string ⟨#[]⟩), (.int .i64 0), (.slice none 0 0)] 1 [(0, (.t 22))], none⟩,
  ⟨(some 24), .app 4 56 (.t 12) (.t 23), none⟩,
  ⟨(some 25), .nilc (.t 8), none⟩,
  ⟨(some 26), .fad 0 (.t 25), none⟩,
  ⟨none, .st 1 (.t 26) (.t 24), none⟩] [[], [], [1], [1, 2], [1, 2, 3], [], [5], [5, 6], [5, 6, 7], [5, 6, 7, 8], [5, 6, 7, 8, 9], [], [], [], [5, 6, 7, 8, 9, 10, 11, 12, 13], [5, 6, 7, 8, 9, 10, 11, 12, 13, 14], [1, 2, 3, 4, 5, 6, 7, 8, 9, 10, 11, 12, 13, 14, 15], [0, 1, 2, 3, 4, 5, 6, 7, 8, 9, 10, 11, 12, 13, 14, 15, 16], [0, 1, 2, 3, 4, 5, 6, 7, 8, 9, 10, 11, 12, 13, 14, 15, 16, 17], [0, 1, 2, 3, 4, 5, 6, 7, 8, 9, 10, 11, 12, 13, 14, 15, 16, 17, 18]] []
def v184 : List (Nat × List Nat) := [(0, [0, 2]), (1, [2])]
def r184 : List AR := [.cell (some 4) 2]
def c184x0 : AC := .seq (.reg [
  ⟨(some 3), .mv (.t 0), none⟩,
  ⟨(some 4), .build [(.int .i64 0), (.int .i64 0), (.int .i64 0), (.slice none 0 0)] [(3, 1, (.t 3))], none⟩,
  ⟨none, .st 4 (.t 2) (.t 4), none⟩] [2]) (.ret)
def c184 : AC := .seq (.reg [
  ⟨(some 2), .zero [(.int .i64 0), (.int .i64 0), (.int .i64 0), (.slice none 0 0)], none⟩] [0, 2]) (c184x0)
def v185 : List (Nat × List Nat) := [(0, [0, 1, 2, 6]), (1, [6])]
def r185 : List AR := [.cell (some 4) 6]
def c185x0 : AC := .seq (.reg [
  ⟨(some 7), .mv (.t 0), none⟩,
  ⟨(some 8), .mv (.t 1), none⟩,
  ⟨(some 9), .mv (.t 2), none⟩,
  ⟨(some 10), .build [(.int .i64 0), (.int .i64 0), (.int .i64 0), (.int .i64 0)] [(0, 1, (.t 7)), (1, 1, (.t 8)), (2, 1, (.t 9))], none⟩,
  ⟨none, .st 4 (.t 6) (.t 10), none⟩] [6]) (.ret)
def c185 : AC := .seq (.reg [
  ⟨(some 6), .zero [(.int .i64 0), (.int .i64 0), (.int .i64 0), (.int .i64 0)], none⟩] [0, 1, 2, 6]) (c185x0)
def v186 : List (Nat × List Nat) := [(0, [0, 1, 4]), (1, [4])]
def r186 : List AR := [.cell (some 4) 4]
def c186x0 : AC := .seq (.reg [
  ⟨(some 5), .mv (.t 0), none⟩,
  ⟨(some 6), .mv (.t 1), none⟩,
  ⟨(some 7), .build [(.int .i64 0), (.int .i64 0), (.int .i64 0), (.int .i64 0)] [(0, 1, (.t 5)), (1, 1, (.t 6))], none⟩,
  ⟨none, .st 4 (.t 4) (.t 7), none⟩] [4]) (.ret)
def c186 : AC := .seq (.reg [
  ⟨(some 4), .zero [(.int .i64 0), (.int .i64 0), (.int .i64 0), (.int .i64 0)], none⟩] [0, 1, 4]) (c186x0)
def v187 : List (Nat × List Nat) := [(0, [0, 1, 2, 6]), (1, [6])]
def r187 : List AR := [.cell (some 4) 6]
def c187x0 : AC := .seq (.reg [
  ⟨(some 7), .mv (.t 0), none⟩,
  ⟨(some 8), .mv (.t 1), none⟩,
  ⟨(some 9), .mv (.t 2), none⟩,
  ⟨(some 10), .build [(.int .i64 0), (.int .i64 0), (.int .i64 0), (.slice none 0 0)] [(0, 1, (.k (.int .i64 2))), (1, 1, (.t 7)), (2, 1, (.t 8)), (3, 1, (.t 9))], none⟩,
  ⟨none, .st 4 (.t 6) (.t 10), none⟩] [6]) (.ret)
def c187 : AC := .seq (.reg [
  ⟨(some 6), .zero [(.int .i64 0), (.int .i64 0), (.int .i64 0), (.slice none 0 0)], none⟩] [0, 1, 2, 6]) (c187x0)
def v193 : List (Nat × List Nat) := [(0, [0, 1]), (1, [0, 1, 5]), (2, [0, 1, 5, 7]), (3, [0, 1, 5]), (4, [4])]
def r193 : List AR := [.t 4]
def c193x0 : AC := .seq (.reg [
  ⟨(some 8), .mv (.t 0), none⟩,
  ⟨(some 9), .call 194 [(.t 8)], none⟩,
  ⟨(some 10), .mv (.t 5), none⟩,
  ⟨(some 11), .mv (.t 1), none⟩,
  ⟨(some 12), .call 148 [(.t 10), (.k (.int .i64 5)), (.t 11)], none⟩,
  ⟨(some 13), .bsl [(.int .i64 0), (.int .i64 0), (.int .i64 0), (.slice none 0 0)] 1 [(0, (.t 12))], none⟩,
  ⟨(some 14), .app 4 48 (.t 9) (.t 13), none⟩,
  ⟨(some 4), .mv (.t 14), none⟩] [4]) (.ret)
def c193x1 : AC := .reg [
  ⟨(some 5), .mv (.k (.int .i64 0)), none⟩] [0, 1, 5]
def c193x2 : AC := .cond (.t 7) (c193x1) (.skip)
def c193x3 : AC := .seq (.reg [
  ⟨(some 6), .mv (.t 0), none⟩,
  ⟨(some 7), .bin .eql (.t 6) (.k (.int .i64 1)), none⟩] [0, 1, 5, 7]) (c193x2)
def c193x4 : AC := .seq (c193x3) (c193x0)
def c193x5 : AC := .seq (.reg [
  ⟨(some 5), .mv (.k (.int .i64 2)), none⟩] [0, 1, 5]) (c193x4)
def c193 : AC := .seq (.reg [
  ⟨(some 4), .mv (.k (.slice none 0 0)), none⟩] [0, 1]) (c193x5)
def v194 : List (Nat × List Nat) := [(0, [0]), (1, [0, 3]), (2, [0, 3, 4]), (3, [0, 3, 4, 5]), (4, [3, 4, 5, 16]), (5, [3, 4, 5, 16, 17]), (6, [2]), (7, [3, 4, 5, 16, 21]), (8, [3]), (9, [2]), (10, [3, 4, 5, 16, 36]), (11, [2]), (12, [3, 4, 5, 16, 41]), (13, [2]), (14, [3, 4, 5, 16, 49]), (15, [2]), (16, [3, 57]), (17, [2]), (18, [2])]
def r194 : List AR := [.t 2]
def c194x0 : AC := .seq (.reg [
  ⟨(some 2), .mv (.k (.slice none 0 0)), none⟩] [2]) (.ret)
def c194x1 : AC := .seq (.reg [
  ⟨(some 19), .ld (some 4) (.t 3), none⟩,
  ⟨(some 20), .bsl [(.int .i64 0), (.int .i64 0), (.int .i64 0), (.slice none 0 0)] 1 [(0, (.t 19))], none⟩,
  ⟨(some 2), .mv (.t 20), none⟩] [2]) (.ret)
def c194x2 : AC := .seq (.dreg [
  ⟨(some 29), .ld (some 4) (.t 3), none⟩,
  ⟨(some 30), .call 185 [(.k (.int .i64 20)), (.k (.int .i64 5)), (.k (.int .i64 8))], none⟩,
  ⟨(some 31), .call 197 [], none⟩,
  ⟨(some 32), .call 185 [(.k (.int .i64 18)), (.k (.int .i64 8)), (.k (.int .i64 5))], none⟩,
  ⟨(some 33), .bsl [(.int .i64 0), (.int .i64 0), (.int .i64 0), (.int .i64 0)] 3 [(0, (.t 30)), (1, (.t 31)), (2, (.t 32))], none⟩,
  ⟨(some 34), .call 184 [(.t 33)], none⟩,
  ⟨(some 35), .bsl [(.int .i64 0), (.int .i64 0), (.int .i64 0), (.slice none 0 0)] 2 [(0, (.t 29)), (1, (.t 34))], none⟩,
  ⟨(some 2), .mv (.t 35), none⟩] [[], [], [1], [1, 2], [1, 2, 3], [1, 2, 3, 4], [0, 1, 2, 3, 4, 5], [0, 1, 2, 3, 4, 5, 6]] [2]) (.ret)
def c194x3 : AC := .seq (.dreg [
  ⟨(some 23), .fad 3 (.t 3), none⟩,
  ⟨(some 24), .ld none (.t 23), none⟩,
  ⟨(some 25), .call 185 [(.k (.int .i64 22)), (.k (.int .i64 8)), (.k (.int .i64 1))], none⟩,
  ⟨(some 26), .bsl [(.int .i64 0), (.int .i64 0), (.int .i64 0), (.int .i64 0)] 1 [(0, (.t 25))], none⟩,
  ⟨(some 27), .app 4 32 (.t 24) (.t 26), none⟩,
  ⟨(some 28), .fad 3 (.t 3), none⟩,
  ⟨none, .st 1 (.t 28) (.t 27), none⟩] [[], [0], [], [2], [0, 1, 2, 3], [0, 1, 2, 3, 4], [0, 1, 2, 3, 4, 5]] [3]) (c194x2)
def c194x4 : AC := .seq (.reg [
  ⟨(some 38), .ld (some 4) (.t 4), none⟩,
  ⟨(some 39), .ld (some 4) (.t 5), none⟩,
  ⟨(some 40), .bsl [(.int .i64 0), (.int .i64 0), (.int .i64 0), (.slice none 0 0)] 2 [(0, (.t 38)), (1, (.t 39))], none⟩,
  ⟨(some 2), .mv (.t 40), none⟩] [2]) (.ret)
def c194x5 : AC := .seq (.dreg [
  ⟨(some 43), .ld (some 4) (.t 4), none⟩,
  ⟨(some 44), .ld (some 4) (.t 5), none⟩,
  ⟨(some 45), .call 185 [(.k (.int .i64 22)), (.k (.int .i64 8)), (.k (.int .i64 1))], none⟩,
  ⟨(some 46), .bsl [(.int .i64 0), (.int .i64 0), (.int .i64 0), (.int .i64 0)] 1 [(0, (.t 45))], none⟩,
  ⟨(some 47), .call 184 [(.t 46)], none⟩,
  ⟨(some 48), .bsl [(.int .i64 0), (.int .i64 0), (.int .i64 0), (.slice none 0 0)] 3 [(0, (.t 43)), (1, (.t 44)), (2, (.t 47))], none⟩,
  ⟨(some 2), .mv (.t 48), none⟩] [[], [], [], [2], [2, 3], [0, 1, 2, 3, 4], [0, 1, 2, 3, 4, 5]] [2]) (.ret)
def c194x6 : AC := .seq (.dreg [
  ⟨(some 51), .ld (some 4) (.t 4), none⟩,
  ⟨(some 52), .ld (some 4) (.t 5), none⟩,
  ⟨(some 53), .call 185 [(.k (.int .i64 22)), (.k (.int .i64 8)), (.k (.int .i64 2))], none⟩,
  ⟨(some 54), .bsl [(.int .i64 0), (.int .i64 0), (.int .i64 0), (.int .i64 0)] 1 [(0, (.t 53))], none⟩,
  ⟨(some 55), .call 184 [(.t 54)], none⟩,
  ⟨(some 56), .bsl [(.int .i64 0), (.int .i64 0), (.int .i64 0), (.slice none 0 0)] 3 [(0, (.t 51)), (1, (.t 52)), (2, (.t 55))], none⟩,
  ⟨(some 2), .mv (.t 56), none⟩] [[], [], [], [2], [2, 3], [0, 1, 2, 3, 4], [0, 1, 2, 3, 4, 5]] [2]) (.ret)
def c194x7 : AC := .seq (.dreg [
  ⟨(some 59), .ld (some 4) (.t 3), none⟩,
  ⟨(some 60), .call 148 [(.k (.int .i64 2)), (.k (.int .i64 5)), (.k (.slice none 0 0))], none⟩,
  ⟨(some 61), .call 149 [(.k (.int .i64 8))], none⟩,
  ⟨(some 62), .call 185 [(.k (.int .i64 22)), (.k (.int .i64 8)), (.k (.int .i64 2))], none⟩,
  ⟨(some 63), .bsl [(.int .i64 0), (.int .i64 0), (.int .i64 0), (.int .i64 0)] 1 [(0, (.t 62))], none⟩,
  ⟨(some 64), .app 4 32 (.t 61) (.t 63), none⟩,
  ⟨(some 65), .call 148 [(.k (.int .i64 3)), (.k (.int .i64 6)), (.t 64)], none⟩,
  ⟨(some 66), .bsl [(.int .i64 0), (.int .i64 0), (.int .i64 0), (.slice none 0 0)] 3 [(0, (.t 59)), (1, (.t 60)), (2, (.t 65))], none⟩,
  ⟨(some 2), .mv (.t 66), none⟩] [[], [], [1], [1, 2], [1, 2, 3], [1, 2, 3, 4], [1, 2, 3, 4, 5], [0, 1, 2, 3, 4, 5, 6], [0, 1, 2, 3, 4, 5, 6, 7]] [2]) (.ret)
def c194x8 : AC := .cond (.t 57) (c194x7) (.skip)
def c194x9 : AC := .seq (.reg [
  ⟨(some 58), .bin .eql (.t 16) (.k (.int .i64 8)), none⟩,
  ⟨(some 57), .mv (.t 58), none⟩] [3, 57]) (c194x8)
def c194x10 : AC := .cond (.t 49) (c194x6) (c194x9)
def c194x11 : AC := .seq (.reg [
  ⟨(some 50), .bin .eql (.t 16) (.k (.int .i64 6)), none⟩,
  ⟨(some 49), .mv (.t 50), none⟩] [3, 4, 5, 16, 49]) (c194x10)
def c194x12 : AC := .cond (.t 41) (c194x5) (c194x11)
def c194x13 : AC := .seq (.reg [
  ⟨(some 42), .bin .eql (.t 16) (.k (.int .i64 5)), none⟩,
  ⟨(some 41), .mv (.t 42), none⟩] [3, 4, 5, 16, 41]) (c194x12)
def c194x14 : AC := .cond (.t 36) (c194x4) (c194x13)
def c194x15 : AC := .seq (.reg [
  ⟨(some 37), .bin .eql (.t 16) (.k (.int .i64 4)), none⟩,
  ⟨(some 36), .mv (.t 37), none⟩] [3, 4, 5, 16, 36]) (c194x14)
def c194x16 : AC := .cond (.t 21) (c194x3) (c194x15)
def c194x17 : AC := .seq (.reg [
  ⟨(some 22), .bin .eql (.t 16) (.k (.int .i64 3)), none⟩,
  ⟨(some 21), .mv (.t 22), none⟩] [3, 4, 5, 16, 21]) (c194x16)
def c194x18 : AC := .cond (.t 17) (c194x1) (c194x17)
def c194x19 : AC := .seq (.reg [
  ⟨(some 18), .bin .eql (.t 16) (.k (.int .i64 2)), none⟩,
  ⟨(some 17), .mv (.t 18), none⟩] [3, 4, 5, 16, 17]) (c194x18)
def c194x20 : AC := .block 0 (c194x19)
def c194x21 : AC := .seq (.reg [
  ⟨(some 16), .mv (.t 0), none⟩] [3, 4, 5, 16]) (c194x20)
def c194x22 : AC := .seq (c194x21) (c194x0)
def c194x23 : AC := .seq (.reg [
  ⟨(some 13), .call 185 [(.k (.int .i64 19)), (.k (.int .i64 8)), (.k (.int .i64 5))], none⟩,
  ⟨(some 14), .bsl [(.int .i64 0), (.int .i64 0), (.int .i64 0), (.int .i64 0)] 1 [(0, (.t 13))], none⟩,
  ⟨(some 15), .call 148 [(.k (.int .i64 0)), (.k (.int .i64 5)), (.t 14)], none⟩,
  ⟨(some 5), .zero [(.int .i64 0), (.int .i64 0), (.int .i64 0), (.slice none 0 0)], none⟩,
  ⟨none, .st 4 (.t 5) (.t 15), none⟩] [0, 3, 4, 5]) (c194x22)
def c194x24 : AC := .seq (.reg [
  ⟨(some 10), .call 185 [(.k (.int .i64 18)), (.k (.int .i64 8)), (.k (.int .i64 5))], none⟩,
  ⟨(some 11), .bsl [(.int .i64 0), (.int .i64 0), (.int .i64 0), (.int .i64 0)] 1 [(0, (.t 10))], none⟩,
  ⟨(some 12), .call 148 [(.k (.int .i64 0)), (.k (.int .i64 5)), (.t 11)], none⟩,
  ⟨(some 4), .zero [(.int .i64 0), (.int .i64 0), (.int .i64 0), (.slice none 0 0)], none⟩,
  ⟨none, .st 4 (.t 4) (.t 12), none⟩] [0, 3, 4]) (c194x23)
def c194x25 : AC := .seq (.reg [
  ⟨(some 6), .call 197 [], none⟩,
  ⟨(some 7), .call 185 [(.k (.int .i64 18)), (.k (.int .i64 8)), (.k (.int .i64 5))], none⟩,
  ⟨(some 8), .bsl [(.int .i64 0), (.int .i64 0), (.int .i64 0), (.int .i64 0)] 2 [(0, (.t 6)), (1, (.t 7))], none⟩,
  ⟨(some 9), .call 148 [(.k (.int .i64 0)), (.k (.int .i64 5)), (.t 8)], none⟩,
  ⟨(some 3), .zero [(.int .i64 0), (.int .i64 0), (.int .i64 0), (.slice none 0 0)], none⟩,
  ⟨none, .st 4 (.t 3) (.t 9), none⟩] [0, 3]) (c194x24)
def c194 : AC := .seq (.reg [
  ⟨(some 2), .mv (.k (.slice none 0 0)), none⟩] [0]) (c194x25)
def v197 : List (Nat × List Nat) := [(0, [0]), (1, [0])]
def r197 : List AR := [.cell (some 4) 0]
def c197x0 : AC := .seq (.reg [
  ⟨(some 1), .build [(.int .i64 0), (.int .i64 0), (.int .i64 0), (.int .i64 0)] [(0, 1, (.k (.int .i64 2))), (1, 1, (.k (.int .i64 8)))], none⟩,
  ⟨none, .st 4 (.t 0) (.t 1), none⟩] [0]) (.ret)
def c197 : AC := .seq (.reg [
  ⟨(some 0), .zero [(.int .i64 0), (.int .i64 0), (.int .i64 0), (.int .i64 0)], none⟩] [0]) (c197x0)
end Go.Proofs.Ytjmmompbmjhkpaa.Code

namespace Go.Proofs.Ytjmmompbmjhkpaa.Code
open Go Go.Proofs.Ytjmmompbmjhkpaa.Calc
set_option maxRecDepth 100000
def v54 : List (Nat × List Nat) := [(0, [2, 3, 4]), (1, [2, 3, 4, 6, 7]), (2, [2, 3, 4, 6, 7]), (3, [2, 3, 4, 6, 7, 18]), (4, [2, 3, 4, 6, 7, 18, 19]), (5, [3, 4]), (6, [2, 3, 4, 6, 7, 18, 26]), (7, [3, 4]), (8, [2, 3, 4, 6, 7, 18, 32]), (9, [3, 4]), (10, [2, 3, 4, 6, 7, 18, 40]), (11, [2, 3, 4, 6, 7, 18, 40]), (12, [2, 3, 4, 6, 7, 18, 40]), (13, [2, 3, 4, 6, 7, 18, 40]), (14, [2, 3, 4, 6, 7, 18, 40]), (15, [2, 3, 4, 6, 7, 18, 40]), (16, [3, 4]), (17, [2, 3, 4, 6, 7, 18, 53]), (18, [2, 3, 4, 6, 7, 18, 53]), (19, [3, 4, 6, 8]), (20, [3, 4, 6, 8, 70]), (21, [3, 4, 6, 8]), (22, [3, 4]), (23, [2, 3, 4, 6, 7, 18, 77]), (24, [2, 3, 4, 6, 7, 18, 77]), (25, [2, 3, 4, 6, 7, 18, 77]), (26, [2, 3, 4, 6, 7, 18, 77]), (27, [3, 4]), (28, [2, 3, 4, 6, 7, 18, 87]), (29, [2, 3, 4, 6, 7, 18, 87]), (30, [3, 4]), (31, [2, 3, 4, 6, 7, 18, 98]), (32, [2, 3, 4, 6, 7, 18, 98]), (33, [3, 4]), (34, [2, 3, 4, 6, 7, 18, 114]), (35, [2, 3, 4, 6, 7, 18, 114]), (36, [3, 4]), (37, [2, 3, 4, 6, 7, 18, 127]), (38, [3, 4]), (39, [2, 3, 4, 6, 7, 18, 138]), (40, [3, 4]), (41, [2, 3, 4, 149]), (42, [4, 5]), (43, [4, 5])]
def r54 : List AR := [.cell (some 9) 4, .t 5]
def c54x0 : AC := .seq (.reg [
  ⟨(some 163), .ld (some 9) (.t 3), none⟩,
  ⟨(some 164), .call 57 [(.t 163)], none⟩,
  ⟨none, .st 9 (.t 4) (.t 164), none⟩,
  ⟨(some 5), .mv (.k (.bool false)), none⟩] [4, 5]) (.ret)
def c54x1 : AC := .reg [
  ⟨(some 21), .mv (.t 6), none⟩,
  ⟨(some 22), .mv (.t 7), none⟩,
  ⟨(some 23), .idx 1 (some 9) (.t 3) (.t 22), none⟩,
  ⟨(some 24), .ld none (.t 23), none⟩,
  ⟨(some 25), .idx 1 (some 9) (.t 3) (.t 21), none⟩,
  ⟨none, .st 1 (.t 25) (.t 24), none⟩] [3, 4]
def c54x2 : AC := .reg [
  ⟨(some 28), .mv (.t 6), none⟩,
  ⟨(some 29), .fad 3 (.t 2), none⟩,
  ⟨(some 30), .ld none (.t 29), none⟩,
  ⟨(some 31), .idx 1 (some 9) (.t 3) (.t 28), none⟩,
  ⟨none, .st 1 (.t 31) (.t 30), none⟩] [3, 4]
def c54x3 : AC := .dreg [
  ⟨(some 34), .ld (some 9) (.t 3), none⟩,
  ⟨(some 35), .mv (.t 6), none⟩,
  ⟨(some 36), .idx 1 (some 9) (.t 3) (.t 35), none⟩,
  ⟨(some 37), .ld none (.t 36), none⟩,
  ⟨(some 38), .call 35 [(.t 37), (.k (.int .i64 8))], none⟩,
  ⟨(some 39), .call 106 [(.t 34), (.t 38)], none⟩,
  ⟨none, .st 9 (.t 3) (.t 39), none⟩] [[], [], [1], [1, 2], [1, 2, 3], [0, 1, 2, 3, 4], [0, 1, 2, 3, 4, 5]] [3, 4]
def c54x4 : AC := .reg [
  ⟨(some 47), .fad 0 (.t 2), none⟩,
  ⟨(some 48), .ld none (.t 47), none⟩,
  ⟨(some 49), .mv (.t 6), none⟩,
  ⟨(some 50), .mv (.t 7), none⟩,
  ⟨(some 51), .ld (some 9) (.t 3), none⟩,
  ⟨(some 52), .call 107 [(.t 48), (.t 49), (.t 50), (.t 51)], none⟩,
  ⟨none, .st 9 (.t 3) (.t 52), none⟩] [3, 4]
def c54x5 : AC := .reg [
  ⟨(some 74), .mv (.t 6), none⟩,
  ⟨(some 75), .mv (.t 8), none⟩,
  ⟨(some 76), .idx 1 (some 9) (.t 3) (.t 74), none⟩,
  ⟨none, .st 1 (.t 76) (.t 75), none⟩] [3, 4]
def c54x6 : AC := .reg [
  ⟨(some 71), .ld (some 9) (.t 3), none⟩,
  ⟨(some 72), .mv (.t 8), none⟩,
  ⟨(some 73), .call 106 [(.t 71), (.t 72)], none⟩,
  ⟨none, .st 9 (.t 3) (.t 73), none⟩] [3, 4, 6, 8]
def c54x7 : AC := .cond (.t 70) (c54x6) (.skip)
def c54x8 : AC := .seq (.reg [
  ⟨(some 68), .mv (.t 6), none⟩,
  ⟨(some 69), .call 104 [(.t 68)], none⟩,
  ⟨(some 70), .not (.t 69), none⟩] [3, 4, 6, 8, 70]) (c54x7)
def c54x9 : AC := .seq (c54x8) (c54x5)
def c54x10 : AC := .seq (.dreg [
  ⟨(some 56), .mv (.t 6), none⟩,
  ⟨(some 57), .idx 1 (some 9) (.t 3) (.t 56), none⟩,
  ⟨(some 58), .ld none (.t 57), none⟩,
  ⟨(some 59), .bin .add (.t 58) (.k (.int .i64 1)), none⟩,
  ⟨(some 60), .fad 0 (.t 2), none⟩,
  ⟨(some 61), .ld none (.t 60), none⟩,
  ⟨(some 62), .bin .sub (.t 61) (.k (.int .i64 10)), none⟩,
  ⟨(some 63), .bin .mul (.k (.int .i64 2)) (.t 62), none⟩,
  ⟨(some 64), .bin .sub (.t 59) (.t 63), none⟩,
  ⟨(some 65), .mv (.t 6), none⟩,
  ⟨(some 66), .call 108 [(.t 65)], none⟩,
  ⟨(some 67), .call 35 [(.t 64), (.t 66)], none⟩,
  ⟨(some 8), .mv (.t 67), none⟩] [[], [0], [0, 1], [0, 1, 2], [], [4], [4, 5], [4, 5, 6], [0, 1, 2, 3, 4, 5, 6, 7], [], [9], [0, 1, 2, 3, 4, 5, 6, 7, 8, 9, 10], [0, 1, 2, 3, 4, 5, 6, 7, 8, 9, 10, 11]] [3, 4, 6, 8]) (c54x9)
def c54x11 : AC := .reg [
  ⟨(some 82), .fad 0 (.t 2), none⟩,
  ⟨(some 83), .ld none (.t 82), none⟩,
  ⟨(some 84), .mv (.t 6), none⟩,
  ⟨(some 85), .ld (some 9) (.t 3), none⟩,
  ⟨(some 86), .call 109 [(.t 83), (.t 84), (.t 85)], none⟩,
  ⟨none, .st 9 (.t 3) (.t 86), none⟩] [3, 4]
def c54x12 : AC := .dreg [
  ⟨(some 90), .ld (some 9) (.t 3), none⟩,
  ⟨(some 91), .fad 3 (.t 2), none⟩,
  ⟨(some 92), .ld none (.t 91), none⟩,
  ⟨(some 93), .call 35 [(.t 92), (.k (.int .i64 8))], none⟩,
  ⟨(some 94), .fad 0 (.t 2), none⟩,
  ⟨(some 95), .ld none (.t 94), none⟩,
  ⟨(some 96), .bin .eql (.t 95) (.k (.int .i64 16)), none⟩,
  ⟨(some 97), .call 110 [(.t 90), (.t 93), (.t 96)], none⟩,
  ⟨none, .st 9 (.t 3) (.t 97), none⟩] [[], [], [1], [1, 2], [], [4], [4, 5], [0, 1, 2, 3, 4, 5, 6], [0, 1, 2, 3, 4, 5, 6, 7]] [3, 4]
def c54x13 : AC := .dreg [
  ⟨(some 101), .mv (.t 6), none⟩,
  ⟨(some 102), .mv (.t 6), none⟩,
  ⟨(some 103), .idx 1 (some 9) (.t 3) (.t 102), none⟩,
  ⟨(some 104), .ld none (.t 103), none⟩,
  ⟨(some 105), .fad 0 (.t 2), none⟩,
  ⟨(some 106), .ld none (.t 105), none⟩,
  ⟨(some 107), .bin .sub (.t 106) (.k (.int .i64 18)), none⟩,
  ⟨(some 108), .bin .mul (.k (.int .i64 8)) (.t 107), none⟩,
  ⟨(some 109), .mv (.t 7), none⟩,
  ⟨(some 110), .idx 1 (some 9) (.t 3) (.t 109), none⟩,
  ⟨(some 111), .ld none (.t 110), none⟩,
  ⟨(some 112), .call 95 [(.t 104), (.t 108), (.k (.int .i64 8)), (.t 111)], none⟩,
  ⟨(some 113), .idx 1 (some 9) (.t 3) (.t 101), none⟩,
  ⟨none, .st 1 (.t 113) (.t 112), none⟩] [[], [], [1], [1, 2], [], [4], [4, 5], [4, 5, 6], [], [8], [8, 9], [1, 2, 3, 4, 5, 6, 7, 8, 9, 10], [0, 1, 2, 3, 4, 5, 6, 7, 8, 9, 10, 11], [0, 1, 2, 3, 4, 5, 6, 7, 8, 9, 10, 11, 12]] [3, 4]
def c54x14 : AC := .dreg [
  ⟨(some 117), .mv (.t 6), none⟩,
  ⟨(some 118), .mv (.t 7), none⟩,
  ⟨(some 119), .idx 1 (some 9) (.t 3) (.t 118), none⟩,
  ⟨(some 120), .ld none (.t 119), none⟩,
  ⟨(some 121), .fad 0 (.t 2), none⟩,
  ⟨(some 122), .ld none (.t 121), none⟩,
  ⟨(some 123), .bin .sub (.t 122) (.k (.int .i64 20)), none⟩,
  ⟨(some 124), .bin .mul (.k (.int .i64 8)) (.t 123), none⟩,
  ⟨(some 125), .call 99 [(.t 120), (.t 124), (.k (.int .i64 8))], none⟩,
  ⟨(some 126), .idx 1 (some 9) (.t 3) (.t 117), none⟩,
  ⟨none, .st 1 (.t 126) (.t 125), none⟩] [[], [], [1], [1, 2], [], [4], [4, 5], [4, 5, 6], [1, 2, 3, 4, 5, 6, 7], [0, 1, 2, 3, 4, 5, 6, 7, 8], [0, 1, 2, 3, 4, 5, 6, 7, 8, 9]] [3, 4]
def c54x15 : AC := .dreg [
  ⟨(some 129), .mv (.t 6), none⟩,
  ⟨(some 130), .idx 1 (some 9) (.t 3) (.t 129), none⟩,
  ⟨(some 131), .ld none (.t 130), none⟩,
  ⟨(some 132), .mv (.t 7), none⟩,
  ⟨(some 133), .idx 1 (some 9) (.t 3) (.t 132), none⟩,
  ⟨(some 134), .ld none (.t 133), none⟩,
  ⟨(some 135), .call 35 [(.t 134), (.k (.int .i64 8))], none⟩,
  ⟨(some 136), .bin .add (.t 131) (.t 135), none⟩,
  ⟨(some 137), .idx 1 (some 9) (.t 3) (.t 129), none⟩,
  ⟨none, .st 1 (.t 137) (.t 136), none⟩] [[], [0], [0, 1], [], [3], [3, 4], [3, 4, 5], [0, 1, 2, 3, 4, 5, 6], [0, 1, 2, 3, 4, 5, 6, 7], [0, 1, 2, 3, 4, 5, 6, 7, 8]] [3, 4]
def c54x16 : AC := .dreg [
  ⟨(some 140), .mv (.t 6), none⟩,
  ⟨(some 141), .idx 1 (some 9) (.t 3) (.t 140), none⟩,
  ⟨(some 142), .ld none (.t 141), none⟩,
  ⟨(some 143), .mv (.t 7), none⟩,
  ⟨(some 144), .idx 1 (some 9) (.t 3) (.t 143), none⟩,
  ⟨(some 145), .ld none (.t 144), none⟩,
  ⟨(some 146), .call 111 [(.t 145), (.k (.int .i64 8))], none⟩,
  ⟨(some 147), .bin .add (.t 142) (.t 146), none⟩,
  ⟨(some 148), .idx 1 (some 9) (.t 3) (.t 140), none⟩,
  ⟨none, .st 1 (.t 148) (.t 147), none⟩] [[], [0], [0, 1], [], [3], [3, 4], [3, 4, 5], [0, 1, 2, 3, 4, 5, 6], [0, 1, 2, 3, 4, 5, 6, 7], [0, 1, 2, 3, 4, 5, 6, 7, 8]] [3, 4]
def c54x17 : AC := .seq (.dreg [
  ⟨(some 151), .ld (some 9) (.t 3), none⟩,
  ⟨(some 152), .idx 1 (some 9) (.t 3) (.k (.int .i64 4)), none⟩,
  ⟨(some 153), .ld none (.t 152), none⟩,
  ⟨(some 154), .fad 3 (.t 2), none⟩,
  ⟨(some 155), .ld none (.t 154), none⟩,
  ⟨(some 156), .call 35 [(.t 155), (.k (.int .i64 8))], none⟩,
  ⟨(some 157), .bin .and (.t 153) (.t 156), none⟩,
  ⟨(some 158), .bin .neq (.t 157) (.k (.int .i64 0)), none⟩,
  ⟨(some 159), .fad 2 (.t 2), none⟩,
  ⟨(some 160), .ld none (.t 159), none⟩,
  ⟨(some 161), .bin .eql (.t 160) (.k (.int .i64 1)), none⟩,
  ⟨(some 162), .eqb true (.t 158) (.t 161), none⟩,
  ⟨none, .st 9 (.t 4) (.t 151), none⟩,
  ⟨(some 5), .mv (.t 162), none⟩] [[], [], [1], [], [3], [3, 4], [1, 2, 3, 4, 5], [1, 2, 3, 4, 5, 6], [], [8], [8, 9], [1, 2, 3, 4, 5, 6, 7, 8, 9, 10], [0, 3, 4, 5], [0, 1, 2, 3, 4, 5, 6, 7, 8, 9, 10, 11, 12]] [4, 5]) (.ret)
def c54x18 : AC := .cond (.t 149) (c54x17) (.skip)
def c54x19 : AC := .seq (.reg [
  ⟨(some 150), .bin .eql (.t 18) (.k (.int .i64 24)), none⟩,
  ⟨(some 149), .mv (.t 150), none⟩] [2, 3, 4, 149]) (c54x18)
def c54x20 : AC := .cond (.t 138) (c54x16) (c54x19)
def c54x21 : AC := .seq (.reg [
  ⟨(some 139), .bin .eql (.t 18) (.k (.int .i64 23)), none⟩,
  ⟨(some 138), .mv (.t 139), none⟩] [2, 3, 4, 6, 7, 18, 138]) (c54x20)
def c54x22 : AC := .cond (.t 127) (c54x15) (c54x21)
def c54x23 : AC := .seq (.reg [
  ⟨(some 128), .bin .eql (.t 18) (.k (.int .i64 22)), none⟩,
  ⟨(some 127), .mv (.t 128), none⟩] [2, 3, 4, 6, 7, 18, 127]) (c54x22)
def c54x24 : AC := .cond (.t 114) (c54x14) (c54x23)
def c54x25 : AC := .reg [
  ⟨(some 116), .bin .eql (.t 18) (.k (.int .i64 21)), none⟩,
  ⟨(some 114), .mv (.t 116), none⟩] [2, 3, 4, 6, 7, 18, 114]
def c54x26 : AC := .cond (.t 114) (.skip) (c54x25)
def c54x27 : AC := .seq (.reg [
  ⟨(some 115), .bin .eql (.t 18) (.k (.int .i64 20)), none⟩,
  ⟨(some 114), .mv (.t 115), none⟩] [2, 3, 4, 6, 7, 18, 114]) (c54x26)
def c54x28 : AC := .seq (c54x27) (c54x24)
def c54x29 : AC := .cond (.t 98) (c54x13) (c54x28)
def c54x30 : AC := .reg [
  ⟨(some 100), .bin .eql (.t 18) (.k (.int .i64 19)), none⟩,
  ⟨(some 98), .mv (.t 100), none⟩] [2, 3, 4, 6, 7, 18, 98]
def c54x31 : AC := .cond (.t 98) (.skip) (c54x30)
def c54x32 : AC := .seq (.reg [
  ⟨(some 99), .bin .eql (.t 18) (.k (.int .i64 18)), none⟩,
  ⟨(some 98), .mv (.t 99), none⟩] [2, 3, 4, 6, 7, 18, 98]) (c54x31)
def c54x33 : AC := .seq (c54x32) (c54x29)
def c54x34 : AC := .cond (.t 87) (c54x12) (c54x33)
def c54x35 : AC := .reg [
  ⟨(some 89), .bin .eql (.t 18) (.k (.int .i64 17)), none⟩,
  ⟨(some 87), .mv (.t 89), none⟩] [2, 3, 4, 6, 7, 18, 87]
def c54x36 : AC := .cond (.t 87) (.skip) (c54x35)
def c54x37 : AC := .seq (.reg [
  ⟨(some 88), .bin .eql (.t 18) (.k (.int .i64 16)), none⟩,
  ⟨(some 87), .mv (.t 88), none⟩] [2, 3, 4, 6, 7, 18, 87]) (c54x36)
def c54x38 : AC := .seq (c54x37) (c54x34)
def c54x39 : AC := .cond (.t 77) (c54x11) (c54x38)
def c54x40 : AC := .reg [
  ⟨(some 81), .bin .eql (.t 18) (.k (.int .i64 15)), none⟩,
  ⟨(some 77), .mv (.t 81), none⟩] [2, 3, 4, 6, 7, 18, 77]
def c54x41 : AC := .cond (.t 77) (.skip) (c54x40)
def c54x42 : AC := .seq (.reg [
  ⟨(some 80), .bin .eql (.t 18) (.k (.int .i64 14)), none⟩,
  ⟨(some 77), .mv (.t 80), none⟩] [2, 3, 4, 6, 7, 18, 77]) (c54x41)
def c54x43 : AC := .cond (.t 77) (.skip) (c54x42)
def c54x44 : AC := .seq (.reg [
  ⟨(some 79), .bin .eql (.t 18) (.k (.int .i64 13)), none⟩,
  ⟨(some 77), .mv (.t 79), none⟩] [2, 3, 4, 6, 7, 18, 77]) (c54x43)
def c54x45 : AC := .cond (.t 77) (.skip) (c54x44)
def c54x46 : AC := .seq (.reg [
  ⟨(some 78), .bin .eql (.t 18) (.k (.int .i64 12)), none⟩,
  ⟨(some 77), .mv (.t 78), none⟩] [2, 3, 4, 6, 7, 18, 77]) (c54x45)
def c54x47 : AC := .seq (c54x46) (c54x39)
def c54x48 : AC := .cond (.t 53) (c54x10) (c54x47)
def c54x49 : AC := .reg [
  ⟨(some 55), .bin .eql (.t 18) (.k (.int .i64 11)), none⟩,
  ⟨(some 53), .mv (.t 55), none⟩] [2, 3, 4, 6, 7, 18, 53]
def c54x50 : AC := .cond (.t 53) (.skip) (c54x49)
def c54x51 : AC := .seq (.reg [
  ⟨(some 54), .bin .eql (.t 18) (.k (.int .i64 10)), none⟩,
  ⟨(some 53), .mv (.t 54), none⟩] [2, 3, 4, 6, 7, 18, 53]) (c54x50)
def c54x52 : AC := .seq (c54x51) (c54x48)
def c54x53 : AC := .cond (.t 40) (c54x4) (c54x52)
def c54x54 : AC := .reg [
  ⟨(some 46), .bin .eql (.t 18) (.k (.int .i64 9)), none⟩,
  ⟨(some 40), .mv (.t 46), none⟩] [2, 3, 4, 6, 7, 18, 40]
def c54x55 : AC := .cond (.t 40) (.skip) (c54x54)
def c54x56 : AC := .seq (.reg [
  ⟨(some 45), .bin .eql (.t 18) (.k (.int .i64 8)), none⟩,
  ⟨(some 40), .mv (.t 45), none⟩] [2, 3, 4, 6, 7, 18, 40]) (c54x55)
def c54x57 : AC := .cond (.t 40) (.skip) (c54x56)
def c54x58 : AC := .seq (.reg [
  ⟨(some 44), .bin .eql (.t 18) (.k (.int .i64 7)), none⟩,
  ⟨(some 40), .mv (.t 44), none⟩] [2, 3, 4, 6, 7, 18, 40]) (c54x57)
def c54x59 : AC := .cond (.t 40) (.skip) (c54x58)
def c54x60 : AC := .seq (.reg [
  ⟨(some 43), .bin .eql (.t 18) (.k (.int .i64 6)), none⟩,
  ⟨(some 40), .mv (.t 43), none⟩] [2, 3, 4, 6, 7, 18, 40]) (c54x59)
def c54x61 : AC := .cond (.t 40) (.skip) (c54x60)
def c54x62 : AC := .seq (.reg [
  ⟨(some 42), .bin .eql (.t 18) (.k (.int .i64 5)), none⟩,
  ⟨(some 40), .mv (.t 42), none⟩] [2, 3, 4, 6, 7, 18, 40]) (c54x61)
def c54x63 : AC := .cond (.t 40) (.skip) (c54x62)
def c54x64 : AC := .seq (.reg [
  ⟨(some 41), .bin .eql (.t 18) (.k (.int .i64 4)), none⟩,
  ⟨(some 40), .mv (.t 41), none⟩] [2, 3, 4, 6, 7, 18, 40]) (c54x63)
def c54x65 : AC := .seq (c54x64) (c54x53)
def c54x66 : AC := .cond (.t 32) (c54x3) (c54x65)
def c54x67 : AC := .seq (.reg [
  ⟨(some 33), .bin .eql (.t 18) (.k (.int .i64 3)), none⟩,
  ⟨(some 32), .mv (.t 33), none⟩] [2, 3, 4, 6, 7, 18, 32]) (c54x66)
def c54x68 : AC := .cond (.t 26) (c54x2) (c54x67)
def c54x69 : AC := .seq (.reg [
  ⟨(some 27), .bin .eql (.t 18) (.k (.int .i64 2)), none⟩,
  ⟨(some 26), .mv (.t 27), none⟩] [2, 3, 4, 6, 7, 18, 26]) (c54x68)
def c54x70 : AC := .cond (.t 19) (c54x1) (c54x69)
def c54x71 : AC := .seq (.reg [
  ⟨(some 20), .bin .eql (.t 18) (.k (.int .i64 1)), none⟩,
  ⟨(some 19), .mv (.t 20), none⟩] [2, 3, 4, 6, 7, 18, 19]) (c54x70)
def c54x72 : AC := .block 0 (c54x71)
def c54x73 : AC := .seq (.reg [
  ⟨(some 17), .fad 0 (.t 2), none⟩,
  ⟨(some 18), .ld none (.t 17), none⟩] [2, 3, 4, 6, 7, 18]) (c54x72)
def c54x74 : AC := .seq (c54x73) (c54x0)
def c54x75 : AC := .seq (.reg [
  ⟨(some 15), .ld (some 9) (.t 3), none⟩,
  ⟨(some 16), .call 57 [(.t 15)], none⟩,
  ⟨none, .st 9 (.t 3) (.t 16), none⟩] [2, 3, 4, 6, 7]) (c54x74)
def c54x76 : AC := .seq (.dreg [
  ⟨(some 9), .fad 1 (.t 2), none⟩,
  ⟨(some 10), .ld none (.t 9), none⟩,
  ⟨(some 11), .call 105 [(.t 10)], none⟩,
  ⟨(some 12), .fad 2 (.t 2), none⟩,
  ⟨(some 13), .ld none (.t 12), none⟩,
  ⟨(some 14), .call 105 [(.t 13)], none⟩,
  ⟨(some 6), .mv (.t 11), none⟩,
  ⟨(some 7), .mv (.t 14), none⟩] [[], [0], [0, 1], [], [3], [0, 1, 2, 3, 4], [0, 1, 2, 3, 4, 5], [0, 1, 2, 3, 4, 5, 6]] [2, 3, 4, 6, 7]) (c54x75)
def c54 : AC := .seq (.reg [
  ⟨(some 2), .new 4 (.t 0), none⟩,
  ⟨(some 3), .new 9 (.t 1), none⟩,
  ⟨(some 4), .zero [(.int .i64 0), (.int .i64 0), (.int .i64 0), (.int .i64 0), (.int .i64 0), (.int .i64 0), (.int .i64 0), (.int .i64 0), (.int .i64 0)], none⟩,
  ⟨(some 5), .mv (.k (.bool false)), none⟩] [2, 3, 4]) (c54x76)
def v57 : List (Nat × List Nat) := [(0, [1, 2]), (1, [1, 2, 4]), (2, [1, 2, 4, 5]), (3, [1, 2, 3, 4]), (4, [1, 2, 4]), (5, [1, 2, 4]), (6, [2])]
def r57 : List AR := [.cell (some 9) 2]
def c57x0 : AC := .seq (.reg [
  ⟨(some 16), .ld (some 9) (.t 1), none⟩,
  ⟨none, .st 9 (.t 2) (.t 16), none⟩] [2]) (.ret)
def c57x1 : AC := .reg [
  ⟨(some 15), .bin .add (.t 4) (.k (.int .i64 1)), none⟩,
  ⟨(some 4), .mv (.t 15), none⟩] [1, 2, 4]
def c57x2 : AC := .dreg [
  ⟨(some 7), .mv (.t 3), none⟩,
  ⟨(some 8), .mv (.t 3), none⟩,
  ⟨(some 9), .idx 1 (some 9) (.t 1) (.t 8), none⟩,
  ⟨(some 10), .ld none (.t 9), none⟩,
  ⟨(some 11), .mv (.t 3), none⟩,
  ⟨(some 12), .call 108 [(.t 11)], none⟩,
  ⟨(some 13), .call 35 [(.t 10), (.t 12)], none⟩,
  ⟨(some 14), .idx 1 (some 9) (.t 1) (.t 7), none⟩,
  ⟨none, .st 1 (.t 14) (.t 13), none⟩] [[], [], [1], [1, 2], [], [4], [1, 2, 3, 4, 5], [0, 1, 2, 3, 4, 5, 6], [0, 1, 2, 3, 4, 5, 6, 7]] [1, 2, 4]
def c57x3 : AC := .seq (.reg [
  ⟨(some 6), .mv (.t 4), none⟩,
  ⟨(some 3), .mv (.t 6), none⟩] [1, 2, 3, 4]) (c57x2)
def c57x4 : AC := .block 1 (c57x3)
def c57x5 : AC := .seq (c57x4) (c57x1)
def c57x6 : AC := .cond (.t 5) (.skip) (.exit 0)
def c57x7 : AC := .seq (c57x6) (c57x5)
def c57x8 : AC := .seq (.reg [
  ⟨(some 5), .bin .lss (.t 4) (.k (.int .i64 9)), none⟩] [1, 2, 4, 5]) (c57x7)
def c57x9 : AC := .loop (c57x8)
def c57x10 : AC := .block 0 (c57x9)
def c57x11 : AC := .seq (.reg [
  ⟨(some 4), .mv (.k (.int .i64 0)), none⟩] [1, 2, 4]) (c57x10)
def c57x12 : AC := .seq (c57x11) (c57x0)
def c57 : AC := .seq (.reg [
  ⟨(some 1), .new 9 (.t 0), none⟩,
  ⟨(some 2), .zero [(.int .i64 0), (.int .i64 0), (.int .i64 0), (.int .i64 0), (.int .i64 0), (.int .i64 0), (.int .i64 0), (.int .i64 0), (.int .i64 0)], none⟩] [1, 2]) (c57x12)
def v105 : List (Nat × List Nat) := [(0, [0]), (1, [2])]
def r105 : List AR := [.t 2]
def c105x0 : AC := .seq (.reg [
  ⟨(some 3), .mv (.t 0), none⟩,
  ⟨(some 4), .mnx false [(.t 3), (.k (.int .i64 8))], none⟩,
  ⟨(some 5), .mnx true [(.k (.int .i64 0)), (.t 4)], none⟩,
  ⟨(some 2), .mv (.t 5), none⟩] [2]) (.ret)
def c105 : AC := .seq (.reg [
  ⟨(some 2), .mv (.k (.int .i64 0)), none⟩] [0]) (c105x0)
def v106 : List (Nat × List Nat) := [(0, [1, 2, 4]), (1, [4])]
def r106 : List AR := [.cell (some 9) 4]
def c106x0 : AC := .seq (.reg [
  ⟨(some 5), .ld (some 9) (.t 2), none⟩,
  ⟨(some 6), .mv (.t 1), none⟩,
  ⟨(some 7), .bin .eql (.t 6) (.k (.int .i64 0)), none⟩,
  ⟨(some 8), .call 110 [(.t 5), (.k (.int .i64 2)), (.t 7)], none⟩,
  ⟨(some 9), .mv (.t 1), none⟩,
  ⟨(some 10), .bin .geq (.t 9) (.k (.int .i64 128)), none⟩,
  ⟨(some 11), .call 110 [(.t 8), (.k (.int .i64 128)), (.t 10)], none⟩,
  ⟨none, .st 9 (.t 4) (.t 11), none⟩] [4]) (.ret)
def c106 : AC := .seq (.reg [
  ⟨(some 2), .new 9 (.t 0), none⟩,
  ⟨(some 4), .zero [(.int .i64 0), (.int .i64 0), (.int .i64 0), (.int .i64 0), (.int .i64 0), (.int .i64 0), (.int .i64 0), (.int .i64 0), (.int .i64 0)], none⟩] [1, 2, 4]) (c106x0)
def v107 : List (Nat × List Nat) := [(0, [0, 1, 2, 7, 8]), (1, [0, 1, 7, 8, 9, 10]), (2, [1, 7, 8, 9, 10, 25]), (3, [1, 7, 8, 9]), (4, [1, 7, 8, 9, 10, 25, 29]), (5, [1, 7, 8, 11, 12]), (6, [8]), (7, [1, 7, 8, 9, 10, 25, 44]), (8, [1, 7, 8, 13, 14]), (9, [8]), (10, [1, 7, 8, 9, 10, 25, 61]), (11, [7, 8, 15, 16]), (12, [8]), (13, [1, 7, 8, 9, 10, 25, 75]), (14, [1, 7, 8, 9]), (15, [1, 7, 8, 9, 10, 80]), (16, [1, 7, 8, 9]), (17, [1, 7, 8, 9]), (18, [7, 8]), (19, [8])]
def r107 : List AR := [.cell (some 9) 8]
def c107x0 : AC := .seq (.reg [
  ⟨(some 91), .ld (some 9) (.t 7), none⟩,
  ⟨none, .st 9 (.t 8) (.t 91), none⟩] [8]) (.ret)
def c107x1 : AC := .seq (.reg [
  ⟨(some 88), .mv (.t 1), none⟩,
  ⟨(some 89), .mv (.t 9), none⟩,
  ⟨(some 90), .idx 1 (some 9) (.t 7) (.t 88), none⟩,
  ⟨none, .st 1 (.t 90) (.t 89), none⟩] [7, 8]) (c107x0)
def c107x2 : AC := .seq (.reg [
  ⟨(some 85), .ld (some 9) (.t 7), none⟩,
  ⟨(some 86), .mv (.t 9), none⟩,
  ⟨(some 87), .call 106 [(.t 85), (.t 86)], none⟩,
  ⟨none, .st 9 (.t 7) (.t 87), none⟩] [1, 7, 8, 9]) (c107x1)
def c107x3 : AC := .seq (.reg [
  ⟨(some 39), .ld (some 9) (.t 7), none⟩,
  ⟨(some 40), .mv (.t 1), none⟩,
  ⟨(some 41), .mv (.t 11), none⟩,
  ⟨(some 42), .mv (.t 12), none⟩,
  ⟨(some 43), .call 159 [(.t 39), (.t 40), (.t 41), (.t 42)], none⟩,
  ⟨none, .st 9 (.t 8) (.t 43), none⟩] [8]) (.ret)
def c107x4 : AC := .seq (.reg [
  ⟨(some 32), .mv (.t 9), none⟩,
  ⟨(some 33), .mv (.t 10), none⟩,
  ⟨(some 34), .ld (some 9) (.t 7), none⟩,
  ⟨(some 35), .call 158 [(.t 34)], none⟩,
  ⟨(some 36), .call 157 [(.t 32), (.t 33), (.t 35), (.k (.int .i64 8))], none⟩,
  ⟨(some 31), .mv (.t 36), none⟩,
  ⟨(some 37), .ext (.t 31) 0, none⟩,
  ⟨(some 38), .ext (.t 31) 1, none⟩,
  ⟨(some 11), .mv (.t 37), none⟩,
  ⟨(some 12), .mv (.t 38), none⟩] [1, 7, 8, 11, 12]) (c107x3)
def c107x5 : AC := .seq (.reg [
  ⟨(some 55), .ld (some 9) (.t 7), none⟩,
  ⟨(some 56), .mv (.t 1), none⟩,
  ⟨(some 57), .mv (.t 13), none⟩,
  ⟨(some 58), .mv (.t 14), none⟩,
  ⟨(some 59), .bin .sub (.k (.int .i64 1)) (.t 58), none⟩,
  ⟨(some 60), .call 159 [(.t 55), (.t 56), (.t 57), (.t 59)], none⟩,
  ⟨none, .st 9 (.t 8) (.t 60), none⟩] [8]) (.ret)
def c107x6 : AC := .seq (.reg [
  ⟨(some 47), .mv (.t 9), none⟩,
  ⟨(some 48), .mv (.t 10), none⟩,
  ⟨(some 49), .ld (some 9) (.t 7), none⟩,
  ⟨(some 50), .call 158 [(.t 49)], none⟩,
  ⟨(some 51), .bin .sub (.k (.int .i64 1)) (.t 50), none⟩,
  ⟨(some 52), .call 160 [(.t 47), (.t 48), (.t 51), (.k (.int .i64 8))], none⟩,
  ⟨(some 46), .mv (.t 52), none⟩,
  ⟨(some 53), .ext (.t 46) 0, none⟩,
  ⟨(some 54), .ext (.t 46) 1, none⟩,
  ⟨(some 13), .mv (.t 53), none⟩,
  ⟨(some 14), .mv (.t 54), none⟩] [1, 7, 8, 13, 14]) (c107x5)
def c107x7 : AC := .seq (.reg [
  ⟨(some 69), .ld (some 9) (.t 7), none⟩,
  ⟨(some 70), .mv (.t 15), none⟩,
  ⟨(some 71), .call 106 [(.t 69), (.t 70)], none⟩,
  ⟨(some 72), .mv (.t 16), none⟩,
  ⟨(some 73), .bin .eql (.t 72) (.k (.int .i64 0)), none⟩,
  ⟨(some 74), .call 110 [(.t 71), (.k (.int .i64 1)), (.t 73)], none⟩,
  ⟨none, .st 9 (.t 8) (.t 74), none⟩] [8]) (.ret)
def c107x8 : AC := .seq (.reg [
  ⟨(some 64), .mv (.t 9), none⟩,
  ⟨(some 65), .mv (.t 10), none⟩,
  ⟨(some 66), .call 160 [(.t 64), (.t 65), (.k (.int .i64 0)), (.k (.int .i64 8))], none⟩,
  ⟨(some 63), .mv (.t 66), none⟩,
  ⟨(some 67), .ext (.t 63) 0, none⟩,
  ⟨(some 68), .ext (.t 63) 1, none⟩,
  ⟨(some 15), .mv (.t 67), none⟩,
  ⟨(some 16), .mv (.t 68), none⟩] [7, 8, 15, 16]) (c107x7)
def c107x9 : AC := .reg [
  ⟨(some 77), .mv (.t 9), none⟩,
  ⟨(some 78), .mv (.t 10), none⟩,
  ⟨(some 79), .bin .and (.t 77) (.t 78), none⟩,
  ⟨(some 9), .mv (.t 79), none⟩] [1, 7, 8, 9]
def c107x10 : AC := .reg [
  ⟨(some 82), .mv (.t 9), none⟩,
  ⟨(some 83), .mv (.t 10), none⟩,
  ⟨(some 84), .bin .or (.t 82) (.t 83), none⟩,
  ⟨(some 9), .mv (.t 84), none⟩] [1, 7, 8, 9]
def c107x11 : AC := .reg [
  ⟨(some 26), .mv (.t 9), none⟩,
  ⟨(some 27), .mv (.t 10), none⟩,
  ⟨(some 28), .bin .xor (.t 26) (.t 27), none⟩,
  ⟨(some 9), .mv (.t 28), none⟩] [1, 7, 8, 9]
def c107x12 : AC := .cond (.t 80) (c107x10) (c107x11)
def c107x13 : AC := .seq (.reg [
  ⟨(some 81), .bin .eql (.t 25) (.k (.int .i64 8)), none⟩,
  ⟨(some 80), .mv (.t 81), none⟩] [1, 7, 8, 9, 10, 80]) (c107x12)
def c107x14 : AC := .cond (.t 75) (c107x9) (c107x13)
def c107x15 : AC := .seq (.reg [
  ⟨(some 76), .bin .eql (.t 25) (.k (.int .i64 7)), none⟩,
  ⟨(some 75), .mv (.t 76), none⟩] [1, 7, 8, 9, 10, 25, 75]) (c107x14)
def c107x16 : AC := .cond (.t 61) (c107x8) (c107x15)
def c107x17 : AC := .seq (.reg [
  ⟨(some 62), .bin .eql (.t 25) (.k (.int .i64 6)), none⟩,
  ⟨(some 61), .mv (.t 62), none⟩] [1, 7, 8, 9, 10, 25, 61]) (c107x16)
def c107x18 : AC := .cond (.t 44) (c107x6) (c107x17)
def c107x19 : AC := .seq (.reg [
  ⟨(some 45), .bin .eql (.t 25) (.k (.int .i64 5)), none⟩,
  ⟨(some 44), .mv (.t 45), none⟩] [1, 7, 8, 9, 10, 25, 44]) (c107x18)
def c107x20 : AC := .cond (.t 29) (c107x4) (c107x19)
def c107x21 : AC := .seq (.reg [
  ⟨(some 30), .bin .eql (.t 25) (.k (.int .i64 4)), none⟩,
  ⟨(some 29), .mv (.t 30), none⟩] [1, 7, 8, 9, 10, 25, 29]) (c107x20)
def c107x22 : AC := .block 0 (c107x21)
def c107x23 : AC := .seq (.reg [
  ⟨(some 25), .mv (.t 0), none⟩] [1, 7, 8, 9, 10, 25]) (c107x22)
def c107x24 : AC := .seq (c107x23) (c107x2)
def c107x25 : AC := .seq (.dreg [
  ⟨(some 17), .mv (.t 1), none⟩,
  ⟨(some 18), .idx 1 (some 9) (.t 7) (.t 17), none⟩,
  ⟨(some 19), .ld none (.t 18), none⟩,
  ⟨(some 20), .call 35 [(.t 19), (.k (.int .i64 8))], none⟩,
  ⟨(some 21), .mv (.t 2), none⟩,
  ⟨(some 22), .idx 1 (some 9) (.t 7) (.t 21), none⟩,
  ⟨(some 23), .ld none (.t 22), none⟩,
  ⟨(some 24), .call 35 [(.t 23), (.k (.int .i64 8))], none⟩,
  ⟨(some 9), .mv (.t 20), none⟩,
  ⟨(some 10), .mv (.t 24), none⟩] [[], [0], [0, 1], [0, 1, 2], [], [4], [4, 5], [0, 1, 2, 3, 4, 5, 6], [0, 1, 2, 3, 4, 5, 6, 7], [0, 1, 2, 3, 4, 5, 6, 7, 8]] [0, 1, 7, 8, 9, 10]) (c107x24)
def c107 : AC := .seq (.reg [
  ⟨(some 7), .new 9 (.t 3), none⟩,
  ⟨(some 8), .zero [(.int .i64 0), (.int .i64 0), (.int .i64 0), (.int .i64 0), (.int .i64 0), (.int .i64 0), (.int .i64 0), (.int .i64 0), (.int .i64 0)], none⟩] [0, 1, 2, 7, 8]) (c107x25)
def v108 : List (Nat × List Nat) := [(0, [0]), (1, [4]), (2, [2]), (3, [2])]
def r108 : List AR := [.t 2]
def c108x0 : AC := .seq (.reg [
  ⟨(some 2), .mv (.k (.int .i64 8)), none⟩] [2]) (.ret)
def c108x1 : AC := .seq (.reg [
  ⟨(some 2), .mv (.k (.int .i64 16)), none⟩] [2]) (.ret)
def c108x2 : AC := .cond (.t 4) (c108x1) (.skip)
def c108x3 : AC := .seq (.reg [
  ⟨(some 3), .mv (.t 0), none⟩,
  ⟨(some 4), .call 104 [(.t 3)], none⟩] [4]) (c108x2)
def c108x4 : AC := .seq (c108x3) (c108x0)
def c108 : AC := .seq (.reg [
  ⟨(some 2), .mv (.k (.int .i64 0)), none⟩] [0]) (c108x4)
def v109 : List (Nat × List Nat) := [(0, [0, 1, 5, 6]), (1, [0, 1, 5, 6, 7]), (2, [0, 1, 5, 6, 7, 19]), (3, [0, 1, 5, 6, 7]), (4, [1, 5, 6, 7, 25]), (5, [1, 5, 6, 8, 9]), (6, [6]), (7, [1, 5, 6, 10, 11]), (8, [6])]
def r109 : List AR := [.cell (some 9) 6]
def c109x0 : AC := .seq (.reg [
  ⟨(some 47), .ld (some 9) (.t 5), none⟩,
  ⟨(some 48), .mv (.t 1), none⟩,
  ⟨(some 49), .mv (.t 10), none⟩,
  ⟨(some 50), .mv (.t 11), none⟩,
  ⟨(some 51), .call 159 [(.t 47), (.t 48), (.t 49), (.t 50)], none⟩,
  ⟨none, .st 9 (.t 6) (.t 51), none⟩] [6]) (.ret)
def c109x1 : AC := .seq (.reg [
  ⟨(some 40), .mv (.t 1), none⟩,
  ⟨(some 41), .idx 1 (some 9) (.t 5) (.t 40), none⟩,
  ⟨(some 42), .ld none (.t 41), none⟩,
  ⟨(some 43), .mv (.t 7), none⟩,
  ⟨(some 44), .call 162 [(.t 42), (.t 43), (.k (.int .i64 8))], none⟩,
  ⟨(some 39), .mv (.t 44), none⟩,
  ⟨(some 45), .ext (.t 39) 0, none⟩,
  ⟨(some 46), .ext (.t 39) 1, none⟩,
  ⟨(some 10), .mv (.t 45), none⟩,
  ⟨(some 11), .mv (.t 46), none⟩] [1, 5, 6, 10, 11]) (c109x0)
def c109x2 : AC := .seq (.reg [
  ⟨(some 34), .ld (some 9) (.t 5), none⟩,
  ⟨(some 35), .mv (.t 1), none⟩,
  ⟨(some 36), .mv (.t 8), none⟩,
  ⟨(some 37), .mv (.t 9), none⟩,
  ⟨(some 38), .call 159 [(.t 34), (.t 35), (.t 36), (.t 37)], none⟩,
  ⟨none, .st 9 (.t 6) (.t 38), none⟩] [6]) (.ret)
def c109x3 : AC := .seq (.reg [
  ⟨(some 27), .mv (.t 1), none⟩,
  ⟨(some 28), .idx 1 (some 9) (.t 5) (.t 27), none⟩,
  ⟨(some 29), .ld none (.t 28), none⟩,
  ⟨(some 30), .mv (.t 7), none⟩,
  ⟨(some 31), .call 161 [(.t 29), (.t 30), (.k (.int .i64 8))], none⟩,
  ⟨(some 26), .mv (.t 31), none⟩,
  ⟨(some 32), .ext (.t 26) 0, none⟩,
  ⟨(some 33), .ext (.t 26) 1, none⟩,
  ⟨(some 8), .mv (.t 32), none⟩,
  ⟨(some 9), .mv (.t 33), none⟩] [1, 5, 6, 8, 9]) (c109x2)
def c109x4 : AC := .cond (.t 25) (c109x3) (.skip)
def c109x5 : AC := .seq (.reg [
  ⟨(some 20), .mv (.t 0), none⟩,
  ⟨(some 21), .bin .eql (.t 20) (.k (.int .i64 12)), none⟩,
  ⟨(some 22), .mv (.t 21), none⟩,
  ⟨(some 23), .mv (.t 0), (some (22, false))⟩,
  ⟨(some 24), .bin .eql (.t 23) (.k (.int .i64 14)), (some (22, false))⟩,
  ⟨(some 25), .pick (.t 22) (.k (.bool true)) (.t 24), none⟩] [1, 5, 6, 7, 25]) (c109x4)
def c109x6 : AC := .seq (c109x5) (c109x1)
def c109x7 : AC := .reg [
  ⟨(some 7), .mv (.k (.int .i64 0)), none⟩] [0, 1, 5, 6, 7]
def c109x8 : AC := .cond (.t 19) (c109x7) (.skip)
def c109x9 : AC := .seq (.reg [
  ⟨(some 14), .mv (.t 0), none⟩,
  ⟨(some 15), .bin .eql (.t 14) (.k (.int .i64 12)), none⟩,
  ⟨(some 16), .mv (.t 15), none⟩,
  ⟨(some 17), .mv (.t 0), (some (16, false))⟩,
  ⟨(some 18), .bin .eql (.t 17) (.k (.int .i64 13)), (some (16, false))⟩,
  ⟨(some 19), .pick (.t 16) (.k (.bool true)) (.t 18), none⟩] [0, 1, 5, 6, 7, 19]) (c109x8)
def c109x10 : AC := .seq (c109x9) (c109x6)
def c109x11 : AC := .seq (.reg [
  ⟨(some 12), .ld (some 9) (.t 5), none⟩,
  ⟨(some 13), .call 158 [(.t 12)], none⟩,
  ⟨(some 7), .mv (.t 13), none⟩] [0, 1, 5, 6, 7]) (c109x10)
def c109 : AC := .seq (.reg [
  ⟨(some 5), .new 9 (.t 2), none⟩,
  ⟨(some 6), .zero [(.int .i64 0), (.int .i64 0), (.int .i64 0), (.int .i64 0), (.int .i64 0), (.int .i64 0), (.int .i64 0), (.int .i64 0), (.int .i64 0)], none⟩] [0, 1, 5, 6]) (c109x11)
def v110 : List (Nat × List Nat) := [(0, [1, 2, 3, 6]), (1, [1, 2, 3, 6]), (2, [1, 3, 6, 12]), (3, [3, 6]), (4, [6])]
def r110 : List AR := [.cell (some 9) 6]
def c110x0 : AC := .seq (.reg [
  ⟨(some 18), .ld (some 9) (.t 3), none⟩,
  ⟨none, .st 9 (.t 6) (.t 18), none⟩] [6]) (.ret)
def c110x1 : AC := .reg [
  ⟨(some 13), .idx 1 (some 9) (.t 3) (.k (.int .i64 4)), none⟩,
  ⟨(some 14), .ld none (.t 13), none⟩,
  ⟨(some 15), .mv (.t 1), none⟩,
  ⟨(some 16), .bin .or (.t 14) (.t 15), none⟩,
  ⟨(some 17), .idx 1 (some 9) (.t 3) (.k (.int .i64 4)), none⟩,
  ⟨none, .st 1 (.t 17) (.t 16), none⟩] [3, 6]
def c110x2 : AC := .cond (.t 12) (c110x1) (.skip)
def c110x3 : AC := .seq (.reg [
  ⟨(some 12), .mv (.t 2), none⟩] [1, 3, 6, 12]) (c110x2)
def c110x4 : AC := .seq (c110x3) (c110x0)
def c110x5 : AC := .seq (.reg [
  ⟨(some 7), .idx 1 (some 9) (.t 3) (.k (.int .i64 4)), none⟩,
  ⟨(some 8), .ld none (.t 7), none⟩,
  ⟨(some 9), .mv (.t 1), none⟩,
  ⟨(some 10), .bin .andNot (.t 8) (.t 9), none⟩,
  ⟨(some 11), .idx 1 (some 9) (.t 3) (.k (.int .i64 4)), none⟩,
  ⟨none, .st 1 (.t 11) (.t 10), none⟩] [1, 2, 3, 6]) (c110x4)
def c110 : AC := .seq (.reg [
  ⟨(some 3), .new 9 (.t 0), none⟩,
  ⟨(some 6), .zero [(.int .i64 0), (.int .i64 0), (.int .i64 0), (.int .i64 0), (.int .i64 0), (.int .i64 0), (.int .i64 0), (.int .i64 0), (.int .i64 0)], none⟩] [1, 2, 3, 6]) (c110x5)
def v158 : List (Nat × List Nat) := [(0, [1]), (1, [2])]
def r158 : List AR := [.t 2]
def c158x0 : AC := .seq (.reg [
  ⟨(some 3), .idx 1 (some 9) (.t 1) (.k (.int .i64 4)), none⟩,
  ⟨(some 4), .ld none (.t 3), none⟩,
  ⟨(some 5), .bin .and (.t 4) (.k (.int .i64 1)), none⟩,
  ⟨(some 2), .mv (.t 5), none⟩] [2]) (.ret)
def c158 : AC := .seq (.reg [
  ⟨(some 1), .new 9 (.t 0), none⟩,
  ⟨(some 2), .mv (.k (.int .i64 0)), none⟩] [1]) (c158x0)
def v159 : List (Nat × List Nat) := [(0, [1, 2, 3, 4, 8]), (1, [1, 2, 4, 8]), (2, [4, 8]), (3, [8])]
def r159 : List AR := [.cell (some 9) 8]
def c159x0 : AC := .seq (.reg [
  ⟨(some 18), .ld (some 9) (.t 4), none⟩,
  ⟨none, .st 9 (.t 8) (.t 18), none⟩] [8]) (.ret)
def c159x1 : AC := .seq (.reg [
  ⟨(some 15), .mv (.t 1), none⟩,
  ⟨(some 16), .mv (.t 2), none⟩,
  ⟨(some 17), .idx 1 (some 9) (.t 4) (.t 15), none⟩,
  ⟨none, .st 1 (.t 17) (.t 16), none⟩] [4, 8]) (c159x0)
def c159x2 : AC := .seq (.reg [
  ⟨(some 9), .ld (some 9) (.t 4), none⟩,
  ⟨(some 10), .mv (.t 2), none⟩,
  ⟨(some 11), .call 106 [(.t 9), (.t 10)], none⟩,
  ⟨(some 12), .mv (.t 3), none⟩,
  ⟨(some 13), .bin .eql (.t 12) (.k (.int .i64 1)), none⟩,
  ⟨(some 14), .call 110 [(.t 11), (.k (.int .i64 1)), (.t 13)], none⟩,
  ⟨none, .st 9 (.t 4) (.t 14), none⟩] [1, 2, 4, 8]) (c159x1)
def c159 : AC := .seq (.reg [
  ⟨(some 4), .new 9 (.t 0), none⟩,
  ⟨(some 8), .zero [(.int .i64 0), (.int .i64 0), (.int .i64 0), (.int .i64 0), (.int .i64 0), (.int .i64 0), (.int .i64 0), (.int .i64 0), (.int .i64 0)], none⟩] [1, 2, 3, 4, 8]) (c159x2)
end Go.Proofs.Ytjmmompbmjhkpaa.Code

namespace Go.Proofs.Ytjmmompbmjhkpaa.Code
open Go Go.Proofs.Ytjmmompbmjhkpaa.Calc
set_option maxRecDepth 100000
def v11 : List (Nat × List Nat) := [(0, [0]), (1, [3]), (2, [3, 4]), (3, [3, 4, 5]), (4, [3, 4, 5, 7]), (5, [3, 5, 7]), (6, [3, 5, 7]), (7, [2])]
def r11 : List AR := [.t 2]
def c11x0 : AC := .seq (.reg [
  ⟨(some 33), .call 55 [], none⟩,
  ⟨(some 34), .mv (.t 33), none⟩,
  ⟨(some 35), .idx 1 (some 9) (.t 7) (.k (.int .i64 0)), (some (34, true))⟩,
  ⟨(some 36), .ld none (.t 35), (some (34, true))⟩,
  ⟨(some 37), .idx 1 (some 9) (.t 3) (.k (.int .i64 0)), (some (34, true))⟩,
  ⟨(some 38), .ld none (.t 37), (some (34, true))⟩,
  ⟨(some 39), .bin .eql (.t 36) (.t 38), (some (34, true))⟩,
  ⟨(some 40), .pick (.t 34) (.t 39) (.k (.bool false)), none⟩,
  ⟨(some 41), .mv (.t 40), none⟩,
  ⟨(some 42), .idx 1 (some 9) (.t 5) (.k (.int .i64 4)), (some (41, true))⟩,
  ⟨(some 43), .ld none (.t 42), (some (41, true))⟩,
  ⟨(some 44), .bin .and (.t 43) (.k (.int .i64 2)), (some (41, true))⟩,
  ⟨(some 45), .bin .neq (.t 44) (.k (.int .i64 0)), (some (41, true))⟩,
  ⟨(some 46), .idx 1 (some 9) (.t 5) (.k (.int .i64 0)), (some (41, true))⟩,
  ⟨(some 47), .ld none (.t 46), (some (41, true))⟩,
  ⟨(some 48), .bin .eql (.t 47) (.k (.int .i64 0)), (some (41, true))⟩,
  ⟨(some 49), .eqb false (.t 45) (.t 48), (some (41, true))⟩,
  ⟨(some 50), .pick (.t 41) (.t 49) (.k (.bool false)), none⟩,
  ⟨(some 51), .mv (.t 50), none⟩,
  ⟨(some 52), .idx 1 (some 9) (.t 5) (.k (.int .i64 4)), (some (51, true))⟩,
  ⟨(some 53), .ld none (.t 52), (some (51, true))⟩,
  ⟨(some 54), .bin .and (.t 53) (.k (.int .i64 128)), (some (51, true))⟩,
  ⟨(some 55), .bin .neq (.t 54) (.k (.int .i64 0)), (some (51, true))⟩,
  ⟨(some 56), .idx 1 (some 9) (.t 5) (.k (.int .i64 0)), (some (51, true))⟩,
  ⟨(some 57), .ld none (.t 56), (some (51, true))⟩,
  ⟨(some 58), .bin .geq (.t 57) (.k (.int .i64 128)), (some (51, true))⟩,
  ⟨(some 59), .eqb false (.t 55) (.t 58), (some (51, true))⟩,
  ⟨(some 60), .pick (.t 51) (.t 59) (.k (.bool false)), none⟩,
  ⟨(some 2), .mv (.t 60), none⟩] [2]) (.ret)
def c11x1 : AC := .seq (.reg [
  ⟨(some 28), .build [(.int .i64 0), (.int .i64 0), (.int .i64 0), (.int .i64 0)] [(0, 1, (.k (.int .i64 5))), (1, 1, (.k (.int .i64 0))), (2, 1, (.k (.int .i64 1)))], none⟩,
  ⟨(some 29), .ld (some 9) (.t 7), none⟩,
  ⟨(some 30), .call 54 [(.t 28), (.t 29)], none⟩,
  ⟨(some 27), .mv (.t 30), none⟩,
  ⟨(some 31), .ext (.t 27) 0, none⟩,
  ⟨(some 32), .ext (.t 27) 1, none⟩,
  ⟨none, .st 9 (.t 7) (.t 31), none⟩] [3, 5, 7]) (c11x0)
def c11x2 : AC := .seq (.reg [
  ⟨(some 20), .idx 1 (some 9) (.t 7) (.k (.int .i64 4)), none⟩,
  ⟨(some 21), .ld none (.t 20), none⟩,
  ⟨(some 22), .bin .andNot (.t 21) (.k (.int .i64 1)), none⟩,
  ⟨(some 23), .bin .or (.t 22) (.k (.int .i64 1)), none⟩,
  ⟨(some 24), .mv (.t 4), none⟩,
  ⟨(some 25), .bin .sub (.t 23) (.t 24), none⟩,
  ⟨(some 26), .idx 1 (some 9) (.t 7) (.k (.int .i64 4)), none⟩,
  ⟨none, .st 1 (.t 26) (.t 25), none⟩] [3, 5, 7]) (c11x1)
def c11x3 : AC := .seq (.reg [
  ⟨(some 19), .ld (some 9) (.t 5), none⟩,
  ⟨(some 7), .zero [(.int .i64 0), (.int .i64 0), (.int .i64 0), (.int .i64 0), (.int .i64 0), (.int .i64 0), (.int .i64 0), (.int .i64 0), (.int .i64 0)], none⟩,
  ⟨none, .st 9 (.t 7) (.t 19), none⟩] [3, 4, 5, 7]) (c11x2)
def c11x4 : AC := .seq (.reg [
  ⟨(some 14), .build [(.int .i64 0), (.int .i64 0), (.int .i64 0), (.int .i64 0)] [(0, 1, (.k (.int .i64 4))), (1, 1, (.k (.int .i64 0))), (2, 1, (.k (.int .i64 1)))], none⟩,
  ⟨(some 15), .ld (some 9) (.t 3), none⟩,
  ⟨(some 16), .call 54 [(.t 14), (.t 15)], none⟩,
  ⟨(some 13), .mv (.t 16), none⟩,
  ⟨(some 17), .ext (.t 13) 0, none⟩,
  ⟨(some 18), .ext (.t 13) 1, none⟩,
  ⟨(some 5), .zero [(.int .i64 0), (.int .i64 0), (.int .i64 0), (.int .i64 0), (.int .i64 0), (.int .i64 0), (.int .i64 0), (.int .i64 0), (.int .i64 0)], none⟩,
  ⟨none, .st 9 (.t 5) (.t 17), none⟩,
  ⟨(some 6), .mv (.t 18), none⟩] [3, 4, 5]) (c11x3)
def c11x5 : AC := .seq (.reg [
  ⟨(some 10), .idx 1 (some 9) (.t 3) (.k (.int .i64 4)), none⟩,
  ⟨(some 11), .ld none (.t 10), none⟩,
  ⟨(some 12), .bin .and (.t 11) (.k (.int .i64 1)), none⟩,
  ⟨(some 4), .mv (.t 12), none⟩] [3, 4]) (c11x4)
def c11x6 : AC := .seq (.reg [
  ⟨(some 8), .mv (.t 0), none⟩,
  ⟨(some 9), .call 53 [(.t 8)], none⟩,
  ⟨(some 3), .zero [(.int .i64 0), (.int .i64 0), (.int .i64 0), (.int .i64 0), (.int .i64 0), (.int .i64 0), (.int .i64 0), (.int .i64 0), (.int .i64 0)], none⟩,
  ⟨none, .st 9 (.t 3) (.t 9), none⟩] [3]) (c11x5)
def c11 : AC := .seq (.reg [
  ⟨(some 2), .mv (.k (.bool false)), none⟩] [0]) (c11x6)
def v53 : List (Nat × List Nat) := [(0, [0, 2]), (1, [2, 3]), (2, [2, 3, 4]), (3, [2, 3, 4, 9]), (4, [2, 3, 4, 9, 10]), (5, [2, 3, 4, 5, 9]), (6, [2, 3, 4, 5, 9]), (7, [2, 3, 4, 5, 9, 17]), (8, [2, 3, 4, 9]), (9, [2, 3, 4, 9]), (10, [2])]
def r53 : List AR := [.cell (some 9) 2]
def c53x0 : AC := .seq (.reg [
  ⟨(some 23), .ld (some 9) (.t 4), none⟩,
  ⟨none, .st 9 (.t 2) (.t 23), none⟩] [2]) (.ret)
def c53x1 : AC := .reg [
  ⟨(some 22), .bin .add (.t 9) (.k (.int .i64 1)), none⟩,
  ⟨(some 9), .mv (.t 22), none⟩] [2, 3, 4, 9]
def c53x2 : AC := .reg [
  ⟨(some 18), .mv (.t 5), none⟩,
  ⟨(some 19), .mv (.t 3), none⟩,
  ⟨(some 20), .call 56 [(.t 19), (.k (.int .i64 65536))], none⟩,
  ⟨(some 21), .idx 1 (some 9) (.t 4) (.t 18), none⟩,
  ⟨none, .st 1 (.t 21) (.t 20), none⟩] [2, 3, 4, 9]
def c53x3 : AC := .cond (.t 17) (c53x2) (.skip)
def c53x4 : AC := .seq (.reg [
  ⟨(some 16), .mv (.t 5), none⟩,
  ⟨(some 17), .call 104 [(.t 16)], none⟩] [2, 3, 4, 5, 9, 17]) (c53x3)
def c53x5 : AC := .seq (.reg [
  ⟨(some 12), .mv (.t 5), none⟩,
  ⟨(some 13), .mv (.t 3), none⟩,
  ⟨(some 14), .call 56 [(.t 13), (.k (.int .i64 256))], none⟩,
  ⟨(some 15), .idx 1 (some 9) (.t 4) (.t 12), none⟩,
  ⟨none, .st 1 (.t 15) (.t 14), none⟩] [2, 3, 4, 5, 9]) (c53x4)
def c53x6 : AC := .seq (.reg [
  ⟨(some 11), .mv (.t 9), none⟩,
  ⟨(some 5), .mv (.t 11), none⟩] [2, 3, 4, 5, 9]) (c53x5)
def c53x7 : AC := .block 1 (c53x6)
def c53x8 : AC := .seq (c53x7) (c53x1)
def c53x9 : AC := .cond (.t 10) (.skip) (.exit 0)
def c53x10 : AC := .seq (c53x9) (c53x8)
def c53x11 : AC := .seq (.reg [
  ⟨(some 10), .bin .lss (.t 9) (.k (.int .i64 9)), none⟩] [2, 3, 4, 9, 10]) (c53x10)
def c53x12 : AC := .loop (c53x11)
def c53x13 : AC := .block 0 (c53x12)
def c53x14 : AC := .seq (.reg [
  ⟨(some 9), .mv (.k (.int .i64 0)), none⟩] [2, 3, 4, 9]) (c53x13)
def c53x15 : AC := .seq (c53x14) (c53x0)
def c53x16 : AC := .seq (.reg [
  ⟨(some 4), .zero [(.int .i64 0), (.int .i64 0), (.int .i64 0), (.int .i64 0), (.int .i64 0), (.int .i64 0), (.int .i64 0), (.int .i64 0), (.int .i64 0)], none⟩] [2, 3, 4]) (c53x15)
def c53x17 : AC := .seq (.reg [
  ⟨(some 6), .mv (.t 0), none⟩,
  ⟨(some 7), .build [(.slice none 0 0)] [(0, 1, (.t 6))], none⟩,
  ⟨(some 8), .new 1 (.t 7), none⟩,
  ⟨(some 3), .mv (.t 8), none⟩] [2, 3]) (c53x16)
def c53 : AC := .seq (.reg [
  ⟨(some 2), .zero [(.int .i64 0), (.int .i64 0), (.int .i64 0), (.int .i64 0), (.int .i64 0), (.int .i64 0), (.int .i64 0), (.int .i64 0), (.int .i64 0)], none⟩] [0, 2]) (c53x17)
def v55 : List (Nat × List Nat) := [(0, []), (1, [1, 2]), (2, [0])]
def r55 : List AR := [.t 0]
def c55x0 : AC := .seq (.reg [
  ⟨(some 9), .mv (.t 2), none⟩,
  ⟨(some 10), .not (.t 9), none⟩,
  ⟨(some 11), .mv (.t 10), none⟩,
  ⟨(some 12), .idx 1 (some 9) (.t 1) (.k (.int .i64 0)), (some (11, true))⟩,
  ⟨(some 13), .ld none (.t 12), (some (11, true))⟩,
  ⟨(some 14), .bin .eql (.t 13) (.k (.int .i64 44)), (some (11, true))⟩,
  ⟨(some 15), .pick (.t 11) (.t 14) (.k (.bool false)), none⟩,
  ⟨(some 16), .mv (.t 15), none⟩,
  ⟨(some 17), .idx 1 (some 9) (.t 1) (.k (.int .i64 4)), (some (16, true))⟩,
  ⟨(some 18), .ld none (.t 17), (some (16, true))⟩,
  ⟨(some 19), .bin .eql (.t 18) (.k (.int .i64 1)), (some (16, true))⟩,
  ⟨(some 20), .pick (.t 16) (.t 19) (.k (.bool false)), none⟩,
  ⟨(some 0), .mv (.t 20), none⟩] [0]) (.ret)
def c55x1 : AC := .seq (.reg [
  ⟨(some 4), .build [(.int .i64 0), (.int .i64 0), (.int .i64 0), (.int .i64 0)] [(0, 1, (.k (.int .i64 4))), (1, 1, (.k (.int .i64 0))), (2, 1, (.k (.int .i64 1)))], none⟩,
  ⟨(some 5), .build [(.int .i64 0), (.int .i64 0), (.int .i64 0), (.int .i64 0), (.int .i64 0), (.int .i64 0), (.int .i64 0), (.int .i64 0), (.int .i64 0)] [(0, 1, (.k (.int .i64 200))), (1, 1, (.k (.int .i64 100)))], none⟩,
  ⟨(some 6), .call 54 [(.t 4), (.t 5)], none⟩,
  ⟨(some 3), .mv (.t 6), none⟩,
  ⟨(some 7), .ext (.t 3) 0, none⟩,
  ⟨(some 8), .ext (.t 3) 1, none⟩,
  ⟨(some 1), .zero [(.int .i64 0), (.int .i64 0), (.int .i64 0), (.int .i64 0), (.int .i64 0), (.int .i64 0), (.int .i64 0), (.int .i64 0), (.int .i64 0)], none⟩,
  ⟨none, .st 9 (.t 1) (.t 7), none⟩,
  ⟨(some 2), .mv (.t 8), none⟩] [1, 2]) (c55x0)
def c55 : AC := .seq (.reg [
  ⟨(some 0), .mv (.k (.bool false)), none⟩] []) (c55x1)
end Go.Proofs.Ytjmmompbmjhkpaa.Code

namespace Go.Proofs.Ytjmmompbmjhkpaa.Code
open Go Go.Proofs.Ytjmmompbmjhkpaa.Calc
set_option maxRecDepth 100000
def v83 : List (Nat × List Nat) := [(0, [0, 1, 4]), (1, [0, 1, 4, 6]), (2, [0, 4, 6]), (3, [4, 6, 7]), (4, [4, 6, 7]), (5, [4, 5])]
def r83 : List AR := [.cell (some 12) 4, .t 5]
def c83x0 : AC := .seq (.reg [
  ⟨(some 23), .ld (some 12) (.t 7), none⟩,
  ⟨(some 24), .mv (.t 6), none⟩,
  ⟨none, .st 12 (.t 4) (.t 23), none⟩,
  ⟨(some 5), .mv (.t 24), none⟩] [4, 5]) (.ret)
def c83x1 : AC := .seq (.reg [
  ⟨(some 21), .fad 0 (.t 7), none⟩,
  ⟨(some 22), .idx 1 (some 9) (.t 21) (.k (.int .i64 7)), none⟩,
  ⟨none, .st 1 (.t 22) (.k (.int .i64 1024)), none⟩] [4, 6, 7]) (c83x0)
def c83x2 : AC := .seq (.reg [
  ⟨(some 18), .mv (.t 0), none⟩,
  ⟨(some 19), .call 53 [(.t 18)], none⟩,
  ⟨(some 20), .build [(.int .i64 0), (.int .i64 0), (.int .i64 0), (.int .i64 0), (.int .i64 0), (.int .i64 0), (.int .i64 0), (.int .i64 0), (.int .i64 0), (.int .i64 0), (.int .i64 0), (.bool false)] [(0, 9, (.t 19)), (9, 1, (.k (.int .i64 (-1))))], none⟩,
  ⟨(some 7), .zero [(.int .i64 0), (.int .i64 0), (.int .i64 0), (.int .i64 0), (.int .i64 0), (.int .i64 0), (.int .i64 0), (.int .i64 0), (.int .i64 0), (.int .i64 0), (.int .i64 0), (.bool false)], none⟩,
  ⟨none, .st 12 (.t 7) (.t 20), none⟩] [4, 6, 7]) (c83x1)
def c83x3 : AC := .seq (.reg [
  ⟨(some 11), .mv (.t 6), none⟩,
  ⟨(some 12), .nilc (.t 11), none⟩,
  ⟨(some 13), .fad 0 (.t 12), none⟩,
  ⟨(some 14), .ld none (.t 13), none⟩,
  ⟨(some 15), .slc 1 (.t 14) (some (.k (.int .i64 1024))) none, none⟩,
  ⟨(some 16), .mv (.t 1), none⟩,
  ⟨(some 17), .copy 1 (.t 15) (.t 16), none⟩] [0, 4, 6]) (c83x2)
def c83x4 : AC := .seq (.reg [
  ⟨(some 8), .mksl [(.int .u8 0)] 1 (.k (.int .i64 65536)) (.k (.int .i64 65536)), none⟩,
  ⟨(some 9), .build [(.slice none 0 0)] [(0, 1, (.t 8))], none⟩,
  ⟨(some 10), .new 1 (.t 9), none⟩,
  ⟨(some 6), .mv (.t 10), none⟩] [0, 1, 4, 6]) (c83x3)
def c83 : AC := .seq (.reg [
  ⟨(some 4), .zero [(.int .i64 0), (.int .i64 0), (.int .i64 0), (.int .i64 0), (.int .i64 0), (.int .i64 0), (.int .i64 0), (.int .i64 0), (.int .i64 0), (.int .i64 0), (.int .i64 0), (.bool false)], none⟩,
  ⟨(some 5), .mv (.k (.pointer none)), none⟩] [0, 1, 4]) (c83x4)
def v84 : List (Nat × List Nat) := [(0, [0, 1]), (1, [5]), (2, [4])]
def r84 : List AR := [.t 4]
def c84x0 : AC := .seq (.reg [
  ⟨(some 14), .fad 0 (.t 5), none⟩,
  ⟨(some 15), .ld none (.t 14), none⟩,
  ⟨(some 16), .cvt .u8 (.t 15), none⟩,
  ⟨(some 4), .mv (.t 16), none⟩] [4]) (.ret)
def c84x1 : AC := .seq (.reg [
  ⟨(some 8), .call 78 [], none⟩,
  ⟨(some 9), .mv (.t 0), none⟩,
  ⟨(some 10), .mv (.t 1), none⟩,
  ⟨(some 11), .call 63 [(.t 8), (.t 9), (.t 10)], none⟩,
  ⟨(some 7), .mv (.t 11), none⟩,
  ⟨(some 12), .ext (.t 7) 0, none⟩,
  ⟨(some 13), .ext (.t 7) 1, none⟩,
  ⟨(some 5), .zero [(.int .i64 0), (.string ⟨#[]⟩), (.int .i64 0), (.slice none 0 0)], none⟩,
  ⟨none, .st 4 (.t 5) (.t 12), none⟩,
  ⟨(some 6), .mv (.t 13), none⟩] [5]) (c84x0)
def c84 : AC := .seq (.reg [
  ⟨(some 4), .mv (.k (.int .u8 0)), none⟩] [0, 1]) (c84x1)
def v85 : List (Nat × List Nat) := [(0, [1, 2, 3, 6]), (1, [1, 2, 3, 6, 7]), (2, [1, 3, 6, 7, 9, 10]), (3, [1, 3, 6, 7, 9, 10, 11]), (4, [1, 3, 6, 7, 9, 10]), (5, [1, 3, 6, 7, 9, 10]), (6, [6])]
def r85 : List AR := [.cell (some 12) 6]
def c85x0 : AC := .seq (.reg [
  ⟨(some 20), .ld (some 12) (.t 3), none⟩,
  ⟨none, .st 12 (.t 6) (.t 20), none⟩] [6]) (.ret)
def c85x1 : AC := .reg [
  ⟨(some 19), .bin .add (.t 10) (.k (.int .i64 1)), none⟩,
  ⟨(some 10), .mv (.t 19), none⟩] [1, 3, 6, 7, 9, 10]
def c85x2 : AC := .reg [
  ⟨(some 13), .ld (some 5) (.t 7), none⟩,
  ⟨(some 14), .ld (some 12) (.t 3), none⟩,
  ⟨(some 15), .mv (.t 1), none⟩,
  ⟨(some 16), .call 80 [(.t 13), (.t 14), (.t 15)], none⟩,
  ⟨(some 12), .mv (.t 16), none⟩,
  ⟨(some 17), .ext (.t 12) 0, none⟩,
  ⟨(some 18), .ext (.t 12) 1, none⟩,
  ⟨none, .st 12 (.t 3) (.t 17), none⟩] [1, 3, 6, 7, 9, 10]
def c85x3 : AC := .block 1 (c85x2)
def c85x4 : AC := .seq (c85x3) (c85x1)
def c85x5 : AC := .cond (.t 11) (.skip) (.exit 0)
def c85x6 : AC := .seq (c85x5) (c85x4)
def c85x7 : AC := .seq (.reg [
  ⟨(some 11), .bin .lss (.t 10) (.t 9), none⟩] [1, 3, 6, 7, 9, 10, 11]) (c85x6)
def c85x8 : AC := .loop (c85x7)
def c85x9 : AC := .block 0 (c85x8)
def c85x10 : AC := .seq (.reg [
  ⟨(some 9), .mv (.t 2), none⟩,
  ⟨(some 10), .mv (.k (.int .i64 0)), none⟩] [1, 3, 6, 7, 9, 10]) (c85x9)
def c85x11 : AC := .seq (c85x10) (c85x0)
def c85x12 : AC := .seq (.reg [
  ⟨(some 8), .call 78 [], none⟩,
  ⟨(some 7), .zero [(.string ⟨#[]⟩), (.slice none 0 0), (.slice none 0 0), (.slice none 0 0), (.slice none 0 0)], none⟩,
  ⟨none, .st 5 (.t 7) (.t 8), none⟩] [1, 2, 3, 6, 7]) (c85x11)
def c85 : AC := .seq (.reg [
  ⟨(some 3), .new 12 (.t 0), none⟩,
  ⟨(some 6), .zero [(.int .i64 0), (.int .i64 0), (.int .i64 0), (.int .i64 0), (.int .i64 0), (.int .i64 0), (.int .i64 0), (.int .i64 0), (.int .i64 0), (.int .i64 0), (.int .i64 0), (.bool false)], none⟩] [1, 2, 3, 6]) (c85x12)
def v213 : List (Nat × List Nat) := [(0, [0, 1]), (1, [4])]
def r213 : List AR := [.t 4]
def c213x0 : AC := .seq (.reg [
  ⟨(some 5), .mv (.t 0), none⟩,
  ⟨(some 6), .nilc (.t 5), none⟩,
  ⟨(some 7), .fad 0 (.t 6), none⟩,
  ⟨(some 8), .ld none (.t 7), none⟩,
  ⟨(some 9), .mv (.t 1), none⟩,
  ⟨(some 10), .bin .and (.t 9) (.k (.int .i64 65535)), none⟩,
  ⟨(some 11), .idx 1 none (.t 8) (.t 10), none⟩,
  ⟨(some 12), .ld none (.t 11), none⟩,
  ⟨(some 13), .cvt .i64 (.t 12), none⟩,
  ⟨(some 4), .mv (.t 13), none⟩] [4]) (.ret)
def c213 : AC := .seq (.reg [
  ⟨(some 4), .mv (.k (.int .i64 0)), none⟩] [0, 1]) (c213x0)
def v214 : List (Nat × List Nat) := [(0, [])]
def r214 : List AR := []

def c214 : AC := .reg [
  ⟨(some 6), .mv (.t 0), none⟩,
  ⟨(some 7), .nilc (.t 6), none⟩,
  ⟨(some 8), .fad 0 (.t 7), none⟩,
  ⟨(some 9), .ld none (.t 8), none⟩,
  ⟨(some 10), .mv (.t 1), none⟩,
  ⟨(some 11), .bin .and (.t 10) (.k (.int .i64 65535)), none⟩,
  ⟨(some 12), .mv (.t 2), none⟩,
  ⟨(some 13), .cvt .u8 (.t 12), none⟩,
  ⟨(some 14), .idx 1 none (.t 9) (.t 11), none⟩,
  ⟨none, .st 1 (.t 14) (.t 13), none⟩] []
end Go.Proofs.Ytjmmompbmjhkpaa.Code

namespace Go.Proofs.Ytjmmompbmjhkpaa.Code
open Go Go.Proofs.Ytjmmompbmjhkpaa.Calc
set_option maxRecDepth 100000
def v69 : List (Nat × List Nat) := [(0, [2, 3, 4, 6]), (1, [2, 3, 4, 6]), (2, [2, 3, 4, 6]), (3, [2, 3, 4, 6, 23]), (4, [2, 4, 6, 7, 8]), (5, [2, 4, 6, 7, 30]), (6, [4, 6]), (7, [2, 4, 6, 34]), (8, [4, 6]), (9, [4, 6]), (10, [6]), (11, [2, 3, 4, 6, 9, 10]), (12, [2, 3, 4, 6, 9, 50]), (13, [6]), (14, [2, 3, 4, 6, 9, 66]), (15, [3, 4, 6, 9]), (16, [3, 4, 6, 9]), (17, [3, 4, 6, 77, 78, 79]), (18, [3, 4, 6, 77, 78, 79, 80]), (19, [3, 4, 6, 12, 77, 78, 79]), (20, [3, 4, 6, 13, 14, 77, 78, 79]), (21, [3, 4, 6, 14, 77, 78, 79]), (22, [3, 4, 6, 77, 78, 79, 92]), (23, [4, 6]), (24, [6]), (25, [3, 4, 6, 77, 78, 79]), (26, [4, 6, 104]), (27, [4, 6]), (28, [6])]
def r69 : List AR := [.cell (some 12) 6]
def c69x0 : AC := .seq (.reg [
  ⟨(some 107), .ld (some 12) (.t 4), none⟩,
  ⟨none, .st 12 (.t 6) (.t 107), none⟩] [6]) (.ret)
def c69x1 : AC := .reg [
  ⟨(some 105), .fad 9 (.t 4), none⟩,
  ⟨none, .st 1 (.t 105) (.k (.int .i64 (-1))), none⟩,
  ⟨(some 106), .fad 10 (.t 4), none⟩,
  ⟨none, .st 1 (.t 106) (.k (.int .i64 0)), none⟩] [4, 6]
def c69x2 : AC := .cond (.t 104) (c69x1) (.skip)
def c69x3 : AC := .seq (.dreg [
  ⟨(some 97), .fad 10 (.t 4), none⟩,
  ⟨(some 98), .ld none (.t 97), none⟩,
  ⟨(some 99), .ld (some 5) (.t 3), none⟩,
  ⟨(some 100), .fad 9 (.t 4), none⟩,
  ⟨(some 101), .ld none (.t 100), none⟩,
  ⟨(some 102), .call 128 [(.t 99), (.t 101)], none⟩,
  ⟨(some 103), .len (.t 102), none⟩,
  ⟨(some 104), .bin .geq (.t 98) (.t 103), none⟩] [[], [0], [], [], [3], [2, 3, 4], [2, 3, 4, 5], [0, 1, 2, 3, 4, 5, 6]] [4, 6, 104]) (c69x2)
def c69x4 : AC := .seq (c69x3) (c69x0)
def c69x5 : AC := .reg [
  ⟨(some 96), .bin .add (.t 79) (.k (.int .i64 1)), none⟩,
  ⟨(some 79), .mv (.t 96), none⟩] [3, 4, 6, 77, 78, 79]
def c69x6 : AC := .seq (.reg [
  ⟨(some 95), .ld (some 12) (.t 4), none⟩,
  ⟨none, .st 12 (.t 6) (.t 95), none⟩] [6]) (.ret)
def c69x7 : AC := .seq (.reg [
  ⟨(some 93), .fad 9 (.t 4), none⟩,
  ⟨none, .st 1 (.t 93) (.k (.int .i64 (-1))), none⟩,
  ⟨(some 94), .fad 10 (.t 4), none⟩,
  ⟨none, .st 1 (.t 94) (.k (.int .i64 0)), none⟩] [4, 6]) (c69x6)
def c69x8 : AC := .cond (.t 92) (c69x7) (.skip)
def c69x9 : AC := .seq (.reg [
  ⟨(some 92), .mv (.t 14), none⟩] [3, 4, 6, 77, 78, 79, 92]) (c69x8)
def c69x10 : AC := .seq (.reg [
  ⟨(some 90), .ld (some 9) (.t 13), none⟩,
  ⟨(some 91), .fad 0 (.t 4), none⟩,
  ⟨none, .st 9 (.t 91) (.t 90), none⟩] [3, 4, 6, 14, 77, 78, 79]) (c69x9)
def c69x11 : AC := .seq (.reg [
  ⟨(some 84), .ld (some 4) (.t 12), none⟩,
  ⟨(some 85), .fad 0 (.t 4), none⟩,
  ⟨(some 86), .ld (some 9) (.t 85), none⟩,
  ⟨(some 87), .call 54 [(.t 84), (.t 86)], none⟩,
  ⟨(some 83), .mv (.t 87), none⟩,
  ⟨(some 88), .ext (.t 83) 0, none⟩,
  ⟨(some 89), .ext (.t 83) 1, none⟩,
  ⟨(some 13), .zero [(.int .i64 0), (.int .i64 0), (.int .i64 0), (.int .i64 0), (.int .i64 0), (.int .i64 0), (.int .i64 0), (.int .i64 0), (.int .i64 0)], none⟩,
  ⟨none, .st 9 (.t 13) (.t 88), none⟩,
  ⟨(some 14), .mv (.t 89), none⟩] [3, 4, 6, 13, 14, 77, 78, 79]) (c69x10)
def c69x12 : AC := .seq (.reg [
  ⟨(some 81), .idx 4 none (.t 77) (.t 79), none⟩,
  ⟨(some 82), .ld (some 4) (.t 81), none⟩,
  ⟨(some 12), .zero [(.int .i64 0), (.int .i64 0), (.int .i64 0), (.int .i64 0)], none⟩,
  ⟨none, .st 4 (.t 12) (.t 82), none⟩] [3, 4, 6, 12, 77, 78, 79]) (c69x11)
def c69x13 : AC := .block 2 (c69x12)
def c69x14 : AC := .seq (c69x13) (c69x5)
def c69x15 : AC := .cond (.t 80) (.skip) (.exit 1)
def c69x16 : AC := .seq (c69x15) (c69x14)
def c69x17 : AC := .seq (.reg [
  ⟨(some 80), .bin .lss (.t 79) (.t 78), none⟩] [3, 4, 6, 77, 78, 79, 80]) (c69x16)
def c69x18 : AC := .loop (c69x17)
def c69x19 : AC := .block 1 (c69x18)
def c69x20 : AC := .seq (.reg [
  ⟨(some 76), .fad 3 (.t 9), none⟩,
  ⟨(some 77), .ld none (.t 76), none⟩,
  ⟨(some 78), .len (.t 77), none⟩,
  ⟨(some 79), .mv (.k (.int .i64 0)), none⟩] [3, 4, 6, 77, 78, 79]) (c69x19)
def c69x21 : AC := .seq (c69x20) (c69x4)
def c69x22 : AC := .seq (.reg [
  ⟨(some 72), .fad 10 (.t 4), none⟩,
  ⟨(some 73), .ld none (.t 72), none⟩,
  ⟨(some 74), .bin .add (.t 73) (.k (.int .i64 1)), none⟩,
  ⟨(some 75), .fad 10 (.t 4), none⟩,
  ⟨none, .st 1 (.t 75) (.t 74), none⟩] [3, 4, 6, 9]) (c69x21)
def c69x23 : AC := .reg [
  ⟨(some 67), .fad 2 (.t 9), none⟩,
  ⟨(some 68), .ld none (.t 67), none⟩,
  ⟨(some 69), .mv (.t 2), none⟩,
  ⟨(some 70), .fad 0 (.t 4), none⟩,
  ⟨(some 71), .idx 1 (some 9) (.t 70) (.t 68), none⟩,
  ⟨none, .st 1 (.t 71) (.t 69), none⟩] [3, 4, 6, 9]
def c69x24 : AC := .cond (.t 66) (c69x23) (.skip)
def c69x25 : AC := .seq (.reg [
  ⟨(some 54), .fad 0 (.t 9), none⟩,
  ⟨(some 55), .ld none (.t 54), none⟩,
  ⟨(some 56), .bin .eql (.t 55) (.k (.int .i64 1)), none⟩,
  ⟨(some 57), .mv (.t 56), none⟩,
  ⟨(some 58), .fad 2 (.t 9), (some (57, true))⟩,
  ⟨(some 59), .ld none (.t 58), (some (57, true))⟩,
  ⟨(some 60), .bin .geq (.t 59) (.k (.int .i64 0)), (some (57, true))⟩,
  ⟨(some 61), .pick (.t 57) (.t 60) (.k (.bool false)), none⟩,
  ⟨(some 62), .mv (.t 61), none⟩,
  ⟨(some 63), .fad 2 (.t 9), (some (62, true))⟩,
  ⟨(some 64), .ld none (.t 63), (some (62, true))⟩,
  ⟨(some 65), .bin .lss (.t 64) (.k (.int .i64 9)), (some (62, true))⟩,
  ⟨(some 66), .pick (.t 62) (.t 65) (.k (.bool false)), none⟩] [2, 3, 4, 6, 9, 66]) (c69x24)
def c69x26 : AC := .seq (c69x25) (c69x22)
def c69x27 : AC := .seq (.reg [
  ⟨(some 51), .ld (some 5) (.t 3), none⟩,
  ⟨(some 52), .ld (some 12) (.t 4), none⟩,
  ⟨(some 53), .call 127 [(.t 51), (.t 52)], none⟩,
  ⟨none, .st 12 (.t 6) (.t 53), none⟩] [6]) (.ret)
def c69x28 : AC := .cond (.t 50) (c69x27) (.skip)
def c69x29 : AC := .seq (.reg [
  ⟨(some 49), .mv (.t 10), none⟩,
  ⟨(some 50), .not (.t 49), none⟩] [2, 3, 4, 6, 9, 50]) (c69x28)
def c69x30 : AC := .seq (c69x29) (c69x26)
def c69x31 : AC := .seq (.reg [
  ⟨(some 44), .ld (some 5) (.t 3), none⟩,
  ⟨(some 45), .ld (some 12) (.t 4), none⟩,
  ⟨(some 46), .call 126 [(.t 44), (.t 45)], none⟩,
  ⟨(some 43), .mv (.t 46), none⟩,
  ⟨(some 47), .ext (.t 43) 0, none⟩,
  ⟨(some 48), .ext (.t 43) 1, none⟩,
  ⟨(some 9), .zero [(.int .i64 0), (.int .i64 0), (.int .i64 0), (.slice none 0 0)], none⟩,
  ⟨none, .st 4 (.t 9) (.t 47), none⟩,
  ⟨(some 10), .mv (.t 48), none⟩] [2, 3, 4, 6, 9, 10]) (c69x30)
def c69x32 : AC := .seq (.reg [
  ⟨(some 42), .ld (some 12) (.t 4), none⟩,
  ⟨none, .st 12 (.t 6) (.t 42), none⟩] [6]) (.ret)
def c69x33 : AC := .seq (.reg [
  ⟨(some 41), .fad 10 (.t 4), none⟩,
  ⟨none, .st 1 (.t 41) (.k (.int .i64 0)), none⟩] [4, 6]) (c69x32)
def c69x34 : AC := .reg [
  ⟨(some 33), .fad 9 (.t 4), none⟩,
  ⟨none, .st 1 (.t 33) (.k (.int .i64 259)), none⟩] [4, 6]
def c69x35 : AC := .reg [
  ⟨(some 39), .mv (.t 2), none⟩,
  ⟨(some 40), .fad 9 (.t 4), none⟩,
  ⟨none, .st 1 (.t 40) (.t 39), none⟩] [4, 6]
def c69x36 : AC := .cond (.t 34) (c69x35) (.skip)
def c69x37 : AC := .seq (.reg [
  ⟨(some 35), .fad 3 (.t 7), none⟩,
  ⟨(some 36), .ld none (.t 35), none⟩,
  ⟨(some 37), .len (.t 36), none⟩,
  ⟨(some 38), .bin .gtr (.t 37) (.k (.int .i64 0)), none⟩,
  ⟨(some 34), .mv (.t 38), none⟩] [2, 4, 6, 34]) (c69x36)
def c69x38 : AC := .cond (.t 30) (c69x34) (c69x37)
def c69x39 : AC := .seq (.reg [
  ⟨(some 31), .mv (.t 8), none⟩,
  ⟨(some 32), .not (.t 31), none⟩,
  ⟨(some 30), .mv (.t 32), none⟩] [2, 4, 6, 7, 30]) (c69x38)
def c69x40 : AC := .block 0 (c69x39)
def c69x41 : AC := .seq (c69x40) (c69x33)
def c69x42 : AC := .seq (.reg [
  ⟨(some 25), .ld (some 5) (.t 3), none⟩,
  ⟨(some 26), .mv (.t 2), none⟩,
  ⟨(some 27), .call 62 [(.t 25), (.t 26)], none⟩,
  ⟨(some 24), .mv (.t 27), none⟩,
  ⟨(some 28), .ext (.t 24) 0, none⟩,
  ⟨(some 29), .ext (.t 24) 1, none⟩,
  ⟨(some 7), .zero [(.int .i64 0), (.string ⟨#[]⟩), (.int .i64 0), (.slice none 0 0)], none⟩,
  ⟨none, .st 4 (.t 7) (.t 28), none⟩,
  ⟨(some 8), .mv (.t 29), none⟩] [2, 4, 6, 7, 8]) (c69x41)
def c69x43 : AC := .cond (.t 23) (c69x42) (.skip)
def c69x44 : AC := .seq (.reg [
  ⟨(some 21), .fad 9 (.t 4), none⟩,
  ⟨(some 22), .ld none (.t 21), none⟩,
  ⟨(some 23), .bin .eql (.t 22) (.k (.int .i64 (-1))), none⟩] [2, 3, 4, 6, 23]) (c69x43)
def c69x45 : AC := .seq (c69x44) (c69x31)
def c69x46 : AC := .seq (.reg [
  ⟨(some 17), .fad 0 (.t 4), none⟩,
  ⟨(some 18), .ld (some 9) (.t 17), none⟩,
  ⟨(some 19), .call 57 [(.t 18)], none⟩,
  ⟨(some 20), .fad 0 (.t 4), none⟩,
  ⟨none, .st 9 (.t 20) (.t 19), none⟩] [2, 3, 4, 6]) (c69x45)
def c69x47 : AC := .seq (.reg [
  ⟨(some 15), .mv (.t 2), none⟩,
  ⟨(some 16), .call 35 [(.t 15), (.k (.int .i64 8))], none⟩,
  ⟨(some 2), .mv (.t 16), none⟩] [2, 3, 4, 6]) (c69x46)
def c69 : AC := .seq (.reg [
  ⟨(some 3), .new 5 (.t 0), none⟩,
  ⟨(some 4), .new 12 (.t 1), none⟩,
  ⟨(some 6), .zero [(.int .i64 0), (.int .i64 0), (.int .i64 0), (.int .i64 0), (.int .i64 0), (.int .i64 0), (.int .i64 0), (.int .i64 0), (.int .i64 0), (.int .i64 0), (.int .i64 0), (.bool false)], none⟩] [2, 3, 4, 6]) (c69x47)
def v71 : List (Nat × List Nat) := [(0, [2, 3, 4, 6, 7]), (1, [2, 3, 4, 6, 7]), (2, [2, 3, 4, 6, 7, 19]), (3, [3, 4, 6, 7]), (4, [3, 4, 6, 7, 26]), (5, [4, 6, 7, 8, 9]), (6, [4, 6, 7, 8]), (7, [6, 7]), (8, [4, 6, 7, 10, 11]), (9, [4, 6, 7, 10, 50]), (10, [6, 7]), (11, [4, 6, 7, 10, 12]), (12, [4, 6, 7, 10, 12, 68]), (13, [4, 6, 7, 10, 12]), (14, [4, 6, 7, 12]), (15, [6, 7])]
def r71 : List AR := [.cell (some 12) 6, .cell (some 3) 7]
def c71x0 : AC := .seq (.dreg [
  ⟨(some 86), .ld (some 12) (.t 4), none⟩,
  ⟨(some 87), .ld (some 3) (.t 12), none⟩,
  ⟨none, .st 12 (.t 6) (.t 86), none⟩,
  ⟨none, .st 3 (.t 7) (.t 87), none⟩] [[], [], [0], [0, 1, 2]] [6, 7]) (.ret)
def c71x1 : AC := .seq (.reg [
  ⟨(some 77), .fad 1 (.t 10), none⟩,
  ⟨(some 78), .ld none (.t 77), none⟩,
  ⟨(some 79), .fad 0 (.t 4), none⟩,
  ⟨(some 80), .ld (some 9) (.t 79), none⟩,
  ⟨(some 81), .call 130 [(.t 78), (.t 80)], none⟩,
  ⟨(some 76), .mv (.t 81), none⟩,
  ⟨(some 82), .ext (.t 76) 0, none⟩,
  ⟨(some 83), .ext (.t 76) 1, none⟩,
  ⟨(some 84), .fad 1 (.t 12), none⟩,
  ⟨none, .st 1 (.t 84) (.t 82), none⟩,
  ⟨(some 85), .fad 0 (.t 4), none⟩,
  ⟨none, .st 9 (.t 85) (.t 83), none⟩] [4, 6, 7, 12]) (c71x0)
def c71x2 : AC := .reg [
  ⟨(some 69), .fad 2 (.t 10), none⟩,
  ⟨(some 70), .ld none (.t 69), none⟩,
  ⟨(some 71), .fad 0 (.t 4), none⟩,
  ⟨(some 72), .idx 1 (some 9) (.t 71) (.t 70), none⟩,
  ⟨(some 73), .ld none (.t 72), none⟩,
  ⟨(some 74), .call 35 [(.t 73), (.k (.int .i64 8))], none⟩,
  ⟨(some 75), .fad 2 (.t 12), none⟩,
  ⟨none, .st 1 (.t 75) (.t 74), none⟩] [4, 6, 7, 10, 12]
def c71x3 : AC := .cond (.t 68) (c71x2) (.skip)
def c71x4 : AC := .seq (.reg [
  ⟨(some 56), .fad 0 (.t 10), none⟩,
  ⟨(some 57), .ld none (.t 56), none⟩,
  ⟨(some 58), .bin .eql (.t 57) (.k (.int .i64 2)), none⟩,
  ⟨(some 59), .mv (.t 58), none⟩,
  ⟨(some 60), .fad 2 (.t 10), (some (59, true))⟩,
  ⟨(some 61), .ld none (.t 60), (some (59, true))⟩,
  ⟨(some 62), .bin .geq (.t 61) (.k (.int .i64 0)), (some (59, true))⟩,
  ⟨(some 63), .pick (.t 59) (.t 62) (.k (.bool false)), none⟩,
  ⟨(some 64), .mv (.t 63), none⟩,
  ⟨(some 65), .fad 2 (.t 10), (some (64, true))⟩,
  ⟨(some 66), .ld none (.t 65), (some (64, true))⟩,
  ⟨(some 67), .bin .lss (.t 66) (.k (.int .i64 9)), (some (64, true))⟩,
  ⟨(some 68), .pick (.t 64) (.t 67) (.k (.bool false)), none⟩] [4, 6, 7, 10, 12, 68]) (c71x3)
def c71x5 : AC := .seq (c71x4) (c71x1)
def c71x6 : AC := .seq (.reg [
  ⟨(some 53), .fad 0 (.t 10), none⟩,
  ⟨(some 54), .ld none (.t 53), none⟩,
  ⟨(some 55), .build [(.int .i64 0), (.int .i64 0), (.int .i64 0)] [(0, 1, (.t 54))], none⟩,
  ⟨(some 12), .zero [(.int .i64 0), (.int .i64 0), (.int .i64 0)], none⟩,
  ⟨none, .st 3 (.t 12) (.t 55), none⟩] [4, 6, 7, 10, 12]) (c71x5)
def c71x7 : AC := .seq (.reg [
  ⟨(some 51), .ld (some 12) (.t 4), none⟩,
  ⟨(some 52), .build [(.int .i64 0), (.int .i64 0), (.int .i64 0)] [], none⟩,
  ⟨none, .st 12 (.t 6) (.t 51), none⟩,
  ⟨none, .st 3 (.t 7) (.t 52), none⟩] [6, 7]) (.ret)
def c71x8 : AC := .cond (.t 50) (c71x7) (.skip)
def c71x9 : AC := .seq (.reg [
  ⟨(some 44), .mv (.t 11), none⟩,
  ⟨(some 45), .not (.t 44), none⟩,
  ⟨(some 46), .mv (.t 45), none⟩,
  ⟨(some 47), .fad 0 (.t 10), (some (46, false))⟩,
  ⟨(some 48), .ld none (.t 47), (some (46, false))⟩,
  ⟨(some 49), .bin .eql (.t 48) (.k (.int .i64 0)), (some (46, false))⟩,
  ⟨(some 50), .pick (.t 46) (.k (.bool true)) (.t 49), none⟩] [4, 6, 7, 10, 50]) (c71x8)
def c71x10 : AC := .seq (c71x9) (c71x6)
def c71x11 : AC := .seq (.reg [
  ⟨(some 39), .ld (some 5) (.t 3), none⟩,
  ⟨(some 40), .ld (some 12) (.t 4), none⟩,
  ⟨(some 41), .call 126 [(.t 39), (.t 40)], none⟩,
  ⟨(some 38), .mv (.t 41), none⟩,
  ⟨(some 42), .ext (.t 38) 0, none⟩,
  ⟨(some 43), .ext (.t 38) 1, none⟩,
  ⟨(some 10), .zero [(.int .i64 0), (.int .i64 0), (.int .i64 0), (.slice none 0 0)], none⟩,
  ⟨none, .st 4 (.t 10) (.t 42), none⟩,
  ⟨(some 11), .mv (.t 43), none⟩] [4, 6, 7, 10, 11]) (c71x10)
def c71x12 : AC := .seq (.reg [
  ⟨(some 35), .ld (some 12) (.t 4), none⟩,
  ⟨(some 36), .mv (.t 8), none⟩,
  ⟨(some 37), .build [(.int .i64 0), (.int .i64 0), (.int .i64 0)] [(0, 1, (.k (.int .i64 1))), (1, 1, (.t 36))], none⟩,
  ⟨none, .st 12 (.t 6) (.t 35), none⟩,
  ⟨none, .st 3 (.t 7) (.t 37), none⟩] [6, 7]) (.ret)
def c71x13 : AC := .seq (.reg [
  ⟨(some 33), .ld (some 9) (.t 9), none⟩,
  ⟨(some 34), .fad 0 (.t 4), none⟩,
  ⟨none, .st 9 (.t 34) (.t 33), none⟩] [4, 6, 7, 8]) (c71x12)
def c71x14 : AC := .seq (.reg [
  ⟨(some 28), .fad 0 (.t 4), none⟩,
  ⟨(some 29), .ld (some 9) (.t 28), none⟩,
  ⟨(some 30), .call 130 [(.k (.int .i64 0)), (.t 29)], none⟩,
  ⟨(some 27), .mv (.t 30), none⟩,
  ⟨(some 31), .ext (.t 27) 0, none⟩,
  ⟨(some 32), .ext (.t 27) 1, none⟩,
  ⟨(some 9), .zero [(.int .i64 0), (.int .i64 0), (.int .i64 0), (.int .i64 0), (.int .i64 0), (.int .i64 0), (.int .i64 0), (.int .i64 0), (.int .i64 0)], none⟩,
  ⟨(some 8), .mv (.t 31), none⟩,
  ⟨none, .st 9 (.t 9) (.t 32), none⟩] [4, 6, 7, 8, 9]) (c71x13)
def c71x15 : AC := .cond (.t 26) (c71x14) (.skip)
def c71x16 : AC := .seq (.reg [
  ⟨(some 24), .fad 9 (.t 4), none⟩,
  ⟨(some 25), .ld none (.t 24), none⟩,
  ⟨(some 26), .bin .eql (.t 25) (.k (.int .i64 (-1))), none⟩] [3, 4, 6, 7, 26]) (c71x15)
def c71x17 : AC := .seq (c71x16) (c71x11)
def c71x18 : AC := .reg [
  ⟨(some 20), .ld (some 5) (.t 3), none⟩,
  ⟨(some 21), .ld (some 12) (.t 4), none⟩,
  ⟨(some 22), .mv (.t 2), none⟩,
  ⟨(some 23), .call 129 [(.t 20), (.t 21), (.t 22)], none⟩,
  ⟨none, .st 12 (.t 4) (.t 23), none⟩] [3, 4, 6, 7]
def c71x19 : AC := .cond (.t 19) (c71x18) (.skip)
def c71x20 : AC := .seq (.reg [
  ⟨(some 17), .fad 9 (.t 4), none⟩,
  ⟨(some 18), .ld none (.t 17), none⟩,
  ⟨(some 19), .bin .eql (.t 18) (.k (.int .i64 (-1))), none⟩] [2, 3, 4, 6, 7, 19]) (c71x19)
def c71x21 : AC := .seq (c71x20) (c71x17)
def c71x22 : AC := .seq (.reg [
  ⟨(some 13), .fad 0 (.t 4), none⟩,
  ⟨(some 14), .ld (some 9) (.t 13), none⟩,
  ⟨(some 15), .call 57 [(.t 14)], none⟩,
  ⟨(some 16), .fad 0 (.t 4), none⟩,
  ⟨none, .st 9 (.t 16) (.t 15), none⟩] [2, 3, 4, 6, 7]) (c71x21)
def c71 : AC := .seq (.reg [
  ⟨(some 3), .new 5 (.t 0), none⟩,
  ⟨(some 4), .new 12 (.t 1), none⟩,
  ⟨(some 6), .zero [(.int .i64 0), (.int .i64 0), (.int .i64 0), (.int .i64 0), (.int .i64 0), (.int .i64 0), (.int .i64 0), (.int .i64 0), (.int .i64 0), (.int .i64 0), (.int .i64 0), (.bool false)], none⟩,
  ⟨(some 7), .zero [(.int .i64 0), (.int .i64 0), (.int .i64 0)], none⟩] [2, 3, 4, 6, 7]) (c71x22)
def v79 : List (Nat × List Nat) := [(0, [1, 2]), (1, [1, 2]), (2, [2])]
def r79 : List AR := [.cell (some 12) 2]
def c79x0 : AC := .seq (.reg [
  ⟨(some 4), .ld (some 12) (.t 1), none⟩,
  ⟨none, .st 12 (.t 2) (.t 4), none⟩] [2]) (.ret)
def c79x1 : AC := .seq (.reg [
  ⟨(some 3), .fad 11 (.t 1), none⟩,
  ⟨none, .st 1 (.t 3) (.k (.bool true)), none⟩] [1, 2]) (c79x0)
def c79 : AC := .seq (.reg [
  ⟨(some 1), .new 12 (.t 0), none⟩,
  ⟨(some 2), .zero [(.int .i64 0), (.int .i64 0), (.int .i64 0), (.int .i64 0), (.int .i64 0), (.int .i64 0), (.int .i64 0), (.int .i64 0), (.int .i64 0), (.int .i64 0), (.int .i64 0), (.bool false)], none⟩] [1, 2]) (c79x1)
def v81 : List (Nat × List Nat) := [(0, [0]), (1, [0, 1]), (2, [0, 1]), (3, [0])]
def r81 : List AR := [.cell (some 12) 0]
def c81x0 : AC := .seq (.reg [
  ⟨(some 5), .ld (some 12) (.t 1), none⟩,
  ⟨none, .st 12 (.t 0) (.t 5), none⟩] [0]) (.ret)
def c81x1 : AC := .seq (.reg [
  ⟨(some 3), .fad 0 (.t 1), none⟩,
  ⟨(some 4), .idx 1 (some 9) (.t 3) (.k (.int .i64 4)), none⟩,
  ⟨none, .st 1 (.t 4) (.k (.int .i64 4)), none⟩] [0, 1]) (c81x0)
def c81x2 : AC := .seq (.reg [
  ⟨(some 2), .build [(.int .i64 0), (.int .i64 0), (.int .i64 0), (.int .i64 0), (.int .i64 0), (.int .i64 0), (.int .i64 0), (.int .i64 0), (.int .i64 0), (.int .i64 0), (.int .i64 0), (.bool false)] [(9, 1, (.k (.int .i64 258)))], none⟩,
  ⟨(some 1), .zero [(.int .i64 0), (.int .i64 0), (.int .i64 0), (.int .i64 0), (.int .i64 0), (.int .i64 0), (.int .i64 0), (.int .i64 0), (.int .i64 0), (.int .i64 0), (.int .i64 0), (.bool false)], none⟩,
  ⟨none, .st 12 (.t 1) (.t 2), none⟩] [0, 1]) (c81x1)
def c81 : AC := .seq (.reg [
  ⟨(some 0), .zero [(.int .i64 0), (.int .i64 0), (.int .i64 0), (.int .i64 0), (.int .i64 0), (.int .i64 0), (.int .i64 0), (.int .i64 0), (.int .i64 0), (.int .i64 0), (.int .i64 0), (.bool false)], none⟩] [0]) (c81x2)
def v126 : List (Nat × List Nat) := [(0, [2, 3, 4]), (1, [3, 4, 6]), (2, [3, 4, 6, 25]), (3, [4, 5]), (4, [4, 5])]
def r126 : List AR := [.cell (some 4) 4, .t 5]
def c126x0 : AC := .seq (.reg [
  ⟨(some 27), .mv (.t 6), none⟩,
  ⟨(some 28), .fad 10 (.t 3), none⟩,
  ⟨(some 29), .ld none (.t 28), none⟩,
  ⟨(some 30), .idx 4 none (.t 27) (.t 29), none⟩,
  ⟨(some 31), .ld (some 4) (.t 30), none⟩,
  ⟨none, .st 4 (.t 4) (.t 31), none⟩,
  ⟨(some 5), .mv (.k (.bool true)), none⟩] [4, 5]) (.ret)
def c126x1 : AC := .seq (.reg [
  ⟨(some 26), .build [(.int .i64 0), (.int .i64 0), (.int .i64 0), (.slice none 0 0)] [], none⟩,
  ⟨none, .st 4 (.t 4) (.t 26), none⟩,
  ⟨(some 5), .mv (.k (.bool false)), none⟩] [4, 5]) (.ret)
def c126x2 : AC := .cond (.t 25) (c126x1) (.skip)
def c126x3 : AC := .seq (.reg [
  ⟨(some 11), .fad 9 (.t 3), none⟩,
  ⟨(some 12), .ld none (.t 11), none⟩,
  ⟨(some 13), .bin .eql (.t 12) (.k (.int .i64 (-1))), none⟩,
  ⟨(some 14), .mv (.t 13), none⟩,
  ⟨(some 15), .fad 10 (.t 3), (some (14, false))⟩,
  ⟨(some 16), .ld none (.t 15), (some (14, false))⟩,
  ⟨(some 17), .bin .lss (.t 16) (.k (.int .i64 0)), (some (14, false))⟩,
  ⟨(some 18), .pick (.t 14) (.k (.bool true)) (.t 17), none⟩,
  ⟨(some 19), .mv (.t 18), none⟩,
  ⟨(some 20), .fad 10 (.t 3), (some (19, false))⟩,
  ⟨(some 21), .ld none (.t 20), (some (19, false))⟩,
  ⟨(some 22), .mv (.t 6), (some (19, false))⟩,
  ⟨(some 23), .len (.t 22), (some (19, false))⟩,
  ⟨(some 24), .bin .geq (.t 21) (.t 23), (some (19, false))⟩,
  ⟨(some 25), .pick (.t 19) (.k (.bool true)) (.t 24), none⟩] [3, 4, 6, 25]) (c126x2)
def c126x4 : AC := .seq (c126x3) (c126x0)
def c126x5 : AC := .seq (.reg [
  ⟨(some 7), .ld (some 5) (.t 2), none⟩,
  ⟨(some 8), .fad 9 (.t 3), none⟩,
  ⟨(some 9), .ld none (.t 8), none⟩,
  ⟨(some 10), .call 128 [(.t 7), (.t 9)], none⟩,
  ⟨(some 6), .mv (.t 10), none⟩] [3, 4, 6]) (c126x4)
def c126 : AC := .seq (.reg [
  ⟨(some 2), .new 5 (.t 0), none⟩,
  ⟨(some 3), .new 12 (.t 1), none⟩,
  ⟨(some 4), .zero [(.int .i64 0), (.int .i64 0), (.int .i64 0), (.slice none 0 0)], none⟩,
  ⟨(some 5), .mv (.k (.bool false)), none⟩] [2, 3, 4]) (c126x5)
def v127 : List (Nat × List Nat) := [(0, [3, 4]), (1, [3, 4, 7]), (2, [3, 4]), (3, [4])]
def r127 : List AR := [.cell (some 12) 4]
def c127x0 : AC := .seq (.reg [
  ⟨(some 10), .ld (some 12) (.t 3), none⟩,
  ⟨none, .st 12 (.t 4) (.t 10), none⟩] [4]) (.ret)
def c127x1 : AC := .reg [
  ⟨(some 8), .fad 9 (.t 3), none⟩,
  ⟨none, .st 1 (.t 8) (.k (.int .i64 (-1))), none⟩,
  ⟨(some 9), .fad 10 (.t 3), none⟩,
  ⟨none, .st 1 (.t 9) (.k (.int .i64 0)), none⟩] [3, 4]
def c127x2 : AC := .cond (.t 7) (c127x1) (.skip)
def c127x3 : AC := .seq (.reg [
  ⟨(some 5), .fad 9 (.t 3), none⟩,
  ⟨(some 6), .ld none (.t 5), none⟩,
  ⟨(some 7), .bin .neq (.t 6) (.k (.int .i64 259)), none⟩] [3, 4, 7]) (c127x2)
def c127x4 : AC := .seq (c127x3) (c127x0)
def c127 : AC := .seq (.reg [
  ⟨(some 2), .new 5 (.t 0), none⟩,
  ⟨(some 3), .new 12 (.t 1), none⟩,
  ⟨(some 4), .zero [(.int .i64 0), (.int .i64 0), (.int .i64 0), (.int .i64 0), (.int .i64 0), (.int .i64 0), (.int .i64 0), (.int .i64 0), (.int .i64 0), (.int .i64 0), (.int .i64 0), (.bool false)], none⟩] [3, 4]) (c127x4)
def v128 : List (Nat × List Nat) := [(0, [1, 2]), (1, [1, 2, 7]), (2, [1, 2, 7, 8]), (3, [4]), (4, [1, 2, 7, 12]), (5, [4]), (6, [1, 2, 16]), (7, [4]), (8, [1, 21, 22, 23]), (9, [1, 21, 22, 23, 24]), (10, [1, 6, 21, 22, 23]), (11, [1, 6, 21, 22, 23, 38]), (12, [4]), (13, [1, 21, 22, 23]), (14, [4])]
def r128 : List AR := [.t 4]
def c128x0 : AC := .seq (.reg [
  ⟨(some 4), .mv (.k (.slice none 0 0)), none⟩] [4]) (.ret)
def c128x1 : AC := .reg [
  ⟨(some 41), .bin .add (.t 23) (.k (.int .i64 1)), none⟩,
  ⟨(some 23), .mv (.t 41), none⟩] [1, 21, 22, 23]
def c128x2 : AC := .seq (.reg [
  ⟨(some 39), .fad 3 (.t 6), none⟩,
  ⟨(some 40), .ld none (.t 39), none⟩,
  ⟨(some 4), .mv (.t 40), none⟩] [4]) (.ret)
def c128x3 : AC := .cond (.t 38) (c128x2) (.skip)
def c128x4 : AC := .seq (.reg [
  ⟨(some 27), .fad 0 (.t 6), none⟩,
  ⟨(some 28), .ld none (.t 27), none⟩,
  ⟨(some 29), .mv (.t 1), none⟩,
  ⟨(some 30), .bin .eql (.t 28) (.t 29), none⟩,
  ⟨(some 31), .mv (.t 30), none⟩,
  ⟨(some 32), .mv (.t 1), (some (31, true))⟩,
  ⟨(some 33), .bin .geq (.t 32) (.k (.int .i64 0)), (some (31, true))⟩,
  ⟨(some 34), .pick (.t 31) (.t 33) (.k (.bool false)), none⟩,
  ⟨(some 35), .mv (.t 34), none⟩,
  ⟨(some 36), .mv (.t 1), (some (35, true))⟩,
  ⟨(some 37), .bin .leq (.t 36) (.k (.int .i64 255)), (some (35, true))⟩,
  ⟨(some 38), .pick (.t 35) (.t 37) (.k (.bool false)), none⟩] [1, 6, 21, 22, 23, 38]) (c128x3)
def c128x5 : AC := .seq (.reg [
  ⟨(some 25), .idx 4 none (.t 21) (.t 23), none⟩,
  ⟨(some 26), .ld (some 4) (.t 25), none⟩,
  ⟨(some 6), .zero [(.int .i64 0), (.string ⟨#[]⟩), (.int .i64 0), (.slice none 0 0)], none⟩,
  ⟨none, .st 4 (.t 6) (.t 26), none⟩] [1, 6, 21, 22, 23]) (c128x4)
def c128x6 : AC := .block 2 (c128x5)
def c128x7 : AC := .seq (c128x6) (c128x1)
def c128x8 : AC := .cond (.t 24) (.skip) (.exit 1)
def c128x9 : AC := .seq (c128x8) (c128x7)
def c128x10 : AC := .seq (.reg [
  ⟨(some 24), .bin .lss (.t 23) (.t 22), none⟩] [1, 21, 22, 23, 24]) (c128x9)
def c128x11 : AC := .loop (c128x10)
def c128x12 : AC := .block 1 (c128x11)
def c128x13 : AC := .seq (.reg [
  ⟨(some 20), .fad 1 (.t 2), none⟩,
  ⟨(some 21), .ld none (.t 20), none⟩,
  ⟨(some 22), .len (.t 21), none⟩,
  ⟨(some 23), .mv (.k (.int .i64 0)), none⟩] [1, 21, 22, 23]) (c128x12)
def c128x14 : AC := .seq (c128x13) (c128x0)
def c128x15 : AC := .seq (.reg [
  ⟨(some 10), .fad 3 (.t 2), none⟩,
  ⟨(some 11), .ld none (.t 10), none⟩,
  ⟨(some 4), .mv (.t 11), none⟩] [4]) (.ret)
def c128x16 : AC := .seq (.reg [
  ⟨(some 14), .fad 4 (.t 2), none⟩,
  ⟨(some 15), .ld none (.t 14), none⟩,
  ⟨(some 4), .mv (.t 15), none⟩] [4]) (.ret)
def c128x17 : AC := .seq (.reg [
  ⟨(some 18), .fad 2 (.t 2), none⟩,
  ⟨(some 19), .ld none (.t 18), none⟩,
  ⟨(some 4), .mv (.t 19), none⟩] [4]) (.ret)
def c128x18 : AC := .cond (.t 16) (c128x17) (.skip)
def c128x19 : AC := .seq (.reg [
  ⟨(some 17), .bin .eql (.t 7) (.k (.int .i64 258)), none⟩,
  ⟨(some 16), .mv (.t 17), none⟩] [1, 2, 16]) (c128x18)
def c128x20 : AC := .cond (.t 12) (c128x16) (c128x19)
def c128x21 : AC := .seq (.reg [
  ⟨(some 13), .bin .eql (.t 7) (.k (.int .i64 257)), none⟩,
  ⟨(some 12), .mv (.t 13), none⟩] [1, 2, 7, 12]) (c128x20)
def c128x22 : AC := .cond (.t 8) (c128x15) (c128x21)
def c128x23 : AC := .seq (.reg [
  ⟨(some 9), .bin .eql (.t 7) (.k (.int .i64 256)), none⟩,
  ⟨(some 8), .mv (.t 9), none⟩] [1, 2, 7, 8]) (c128x22)
def c128x24 : AC := .block 0 (c128x23)
def c128x25 : AC := .seq (.reg [
  ⟨(some 7), .mv (.t 1), none⟩] [1, 2, 7]) (c128x24)
def c128x26 : AC := .seq (c128x25) (c128x14)
def c128 : AC := .seq (.reg [
  ⟨(some 2), .new 5 (.t 0), none⟩,
  ⟨(some 4), .mv (.k (.slice none 0 0)), none⟩] [1, 2]) (c128x26)
def v129 : List (Nat × List Nat) := [(0, [2, 3, 4, 6]), (1, [2, 3, 4, 6, 10, 11, 12]), (2, [2, 3, 4, 6, 10, 11, 12, 13]), (3, [2, 3, 4, 6, 8, 10, 11, 12]), (4, [2, 3, 4, 6, 8, 9, 10, 11, 12]), (5, [2, 3, 4, 6, 8, 9, 10, 11, 12, 19]), (6, [2, 3, 4, 6, 8, 9, 10, 11, 12]), (7, [2, 3, 4, 6, 8, 10, 11, 12, 35]), (8, [4, 6, 8, 37]), (9, [4, 6, 8]), (10, [4, 6]), (11, [6]), (12, [2, 3, 4, 6, 10, 11, 12]), (13, [6])]
def r129 : List AR := [.cell (some 12) 6]
def c129x0 : AC := .seq (.reg [
  ⟨(some 44), .ld (some 12) (.t 4), none⟩,
  ⟨none, .st 12 (.t 6) (.t 44), none⟩] [6]) (.ret)
def c129x1 : AC := .reg [
  ⟨(some 43), .bin .add (.t 12) (.k (.int .i64 1)), none⟩,
  ⟨(some 12), .mv (.t 43), none⟩] [2, 3, 4, 6, 10, 11, 12]
def c129x2 : AC := .seq (.reg [
  ⟨(some 42), .ld (some 12) (.t 4), none⟩,
  ⟨none, .st 12 (.t 6) (.t 42), none⟩] [6]) (.ret)
def c129x3 : AC := .seq (.reg [
  ⟨(some 39), .mv (.t 8), none⟩,
  ⟨(some 40), .fad 9 (.t 4), none⟩,
  ⟨none, .st 1 (.t 40) (.t 39), none⟩,
  ⟨(some 41), .fad 10 (.t 4), none⟩,
  ⟨none, .st 1 (.t 41) (.k (.int .i64 0)), none⟩] [4, 6]) (c129x2)
def c129x4 : AC := .reg [
  ⟨(some 38), .fad 11 (.t 4), none⟩,
  ⟨none, .st 1 (.t 38) (.k (.bool false)), none⟩] [4, 6, 8]
def c129x5 : AC := .cond (.t 37) (c129x4) (.skip)
def c129x6 : AC := .seq (.reg [
  ⟨(some 36), .mv (.t 8), none⟩,
  ⟨(some 37), .bin .eql (.t 36) (.k (.int .i64 257)), none⟩] [4, 6, 8, 37]) (c129x5)
def c129x7 : AC := .seq (c129x6) (c129x3)
def c129x8 : AC := .cond (.t 35) (c129x7) (.skip)
def c129x9 : AC := .seq (.reg [
  ⟨(some 28), .mv (.t 9), none⟩,
  ⟨(some 29), .mv (.t 28), none⟩,
  ⟨(some 30), .ld (some 5) (.t 3), (some (29, true))⟩,
  ⟨(some 31), .mv (.t 8), (some (29, true))⟩,
  ⟨(some 32), .call 128 [(.t 30), (.t 31)], (some (29, true))⟩,
  ⟨(some 33), .len (.t 32), (some (29, true))⟩,
  ⟨(some 34), .bin .gtr (.t 33) (.k (.int .i64 0)), (some (29, true))⟩,
  ⟨(some 35), .pick (.t 29) (.t 34) (.k (.bool false)), none⟩] [2, 3, 4, 6, 8, 10, 11, 12, 35]) (c129x8)
def c129x10 : AC := .reg [
  ⟨(some 20), .mv (.t 2), none⟩,
  ⟨(some 21), .mv (.t 20), none⟩,
  ⟨(some 22), .fad 0 (.t 4), (some (21, true))⟩,
  ⟨(some 23), .idx 1 (some 9) (.t 22) (.k (.int .i64 4)), (some (21, true))⟩,
  ⟨(some 24), .ld none (.t 23), (some (21, true))⟩,
  ⟨(some 25), .bin .and (.t 24) (.k (.int .i64 4)), (some (21, true))⟩,
  ⟨(some 26), .bin .eql (.t 25) (.k (.int .i64 0)), (some (21, true))⟩,
  ⟨(some 27), .pick (.t 21) (.t 26) (.k (.bool false)), none⟩,
  ⟨(some 9), .mv (.t 27), none⟩] [2, 3, 4, 6, 8, 9, 10, 11, 12]
def c129x11 : AC := .cond (.t 19) (c129x10) (.skip)
def c129x12 : AC := .seq (.reg [
  ⟨(some 18), .mv (.t 8), none⟩,
  ⟨(some 19), .bin .eql (.t 18) (.k (.int .i64 256)), none⟩] [2, 3, 4, 6, 8, 9, 10, 11, 12, 19]) (c129x11)
def c129x13 : AC := .seq (c129x12) (c129x9)
def c129x14 : AC := .seq (.reg [
  ⟨(some 16), .fad 11 (.t 4), none⟩,
  ⟨(some 17), .ld none (.t 16), none⟩,
  ⟨(some 9), .mv (.t 17), none⟩] [2, 3, 4, 6, 8, 9, 10, 11, 12]) (c129x13)
def c129x15 : AC := .seq (.reg [
  ⟨(some 14), .idx 1 none (.t 10) (.t 12), none⟩,
  ⟨(some 15), .ld none (.t 14), none⟩,
  ⟨(some 8), .mv (.t 15), none⟩] [2, 3, 4, 6, 8, 10, 11, 12]) (c129x14)
def c129x16 : AC := .block 1 (c129x15)
def c129x17 : AC := .seq (c129x16) (c129x1)
def c129x18 : AC := .cond (.t 13) (.skip) (.exit 0)
def c129x19 : AC := .seq (c129x18) (c129x17)
def c129x20 : AC := .seq (.reg [
  ⟨(some 13), .bin .lss (.t 12) (.t 11), none⟩] [2, 3, 4, 6, 10, 11, 12, 13]) (c129x19)
def c129x21 : AC := .loop (c129x20)
def c129x22 : AC := .block 0 (c129x21)
def c129x23 : AC := .seq (.reg [
  ⟨(some 10), .bsl [(.int .i64 0)] 2 [(0, (.k (.int .i64 257))), (1, (.k (.int .i64 256)))], none⟩,
  ⟨(some 11), .len (.t 10), none⟩,
  ⟨(some 12), .mv (.k (.int .i64 0)), none⟩] [2, 3, 4, 6, 10, 11, 12]) (c129x22)
def c129x24 : AC := .seq (c129x23) (c129x0)
def c129 : AC := .seq (.reg [
  ⟨(some 3), .new 5 (.t 0), none⟩,
  ⟨(some 4), .new 12 (.t 1), none⟩,
  ⟨(some 6), .zero [(.int .i64 0), (.int .i64 0), (.int .i64 0), (.int .i64 0), (.int .i64 0), (.int .i64 0), (.int .i64 0), (.int .i64 0), (.int .i64 0), (.int .i64 0), (.int .i64 0), (.bool false)], none⟩] [2, 3, 4, 6]) (c129x24)
def v130 : List (Nat × List Nat) := [(0, [0, 3, 5]), (1, [0, 3, 5, 8]), (2, [0, 3, 5, 8, 9]), (3, [3, 5, 6]), (4, [3, 5, 6]), (5, [4, 5]), (6, [0, 3, 5, 8, 19]), (7, [4, 5]), (8, [0, 3, 5, 8, 24]), (9, [4, 5]), (10, [0, 3, 5, 8, 29]), (11, [4, 5]), (12, [0, 3, 5, 8, 36]), (13, [3, 5, 7]), (14, [3, 5, 7]), (15, [4, 5]), (16, [0, 3, 5, 48]), (17, [3, 5]), (18, [4, 5]), (19, [0, 3, 5, 64]), (20, [4, 5]), (21, [4, 5])]
def r130 : List AR := [.t 4, .cell (some 9) 5]
def c130x0 : AC := .seq (.dreg [
  ⟨(some 66), .mv (.t 0), none⟩,
  ⟨(some 67), .call 170 [(.t 66)], none⟩,
  ⟨(some 68), .ld (some 9) (.t 3), none⟩,
  ⟨(some 4), .mv (.t 67), none⟩,
  ⟨none, .st 9 (.t 5) (.t 68), none⟩] [[], [0], [], [0, 1], [0, 1, 2, 3]] [4, 5]) (.ret)
def c130x1 : AC := .seq (.dreg [
  ⟨(some 65), .ld (some 9) (.t 3), none⟩,
  ⟨(some 4), .mv (.k (.int .i64 0)), none⟩,
  ⟨none, .st 9 (.t 5) (.t 65), none⟩] [[], [], [0, 1]] [4, 5]) (.ret)
def c130x2 : AC := .cond (.t 64) (c130x1) (.skip)
def c130x3 : AC := .seq (.reg [
  ⟨(some 59), .mv (.t 0), none⟩,
  ⟨(some 60), .bin .lss (.t 59) (.k (.int .i64 0)), none⟩,
  ⟨(some 61), .mv (.t 60), none⟩,
  ⟨(some 62), .mv (.t 0), (some (61, false))⟩,
  ⟨(some 63), .bin .geq (.t 62) (.k (.int .i64 12)), (some (61, false))⟩,
  ⟨(some 64), .pick (.t 61) (.k (.bool true)) (.t 63), none⟩] [0, 3, 5, 64]) (c130x2)
def c130x4 : AC := .seq (c130x3) (c130x0)
def c130x5 : AC := .seq (.dreg [
  ⟨(some 17), .mv (.t 6), none⟩,
  ⟨(some 18), .ld (some 9) (.t 3), none⟩,
  ⟨(some 4), .mv (.t 17), none⟩,
  ⟨none, .st 9 (.t 5) (.t 18), none⟩] [[], [], [0], [0, 1, 2]] [4, 5]) (.ret)
def c130x6 : AC := .seq (.reg [
  ⟨(some 13), .mv (.t 6), none⟩,
  ⟨(some 14), .bin .add (.t 13) (.k (.int .i64 1)), none⟩,
  ⟨(some 15), .call 35 [(.t 14), (.k (.int .i64 16))], none⟩,
  ⟨(some 16), .idx 1 (some 9) (.t 3) (.k (.int .i64 7)), none⟩,
  ⟨none, .st 1 (.t 16) (.t 15), none⟩] [3, 5, 6]) (c130x5)
def c130x7 : AC := .seq (.reg [
  ⟨(some 11), .idx 1 (some 9) (.t 3) (.k (.int .i64 7)), none⟩,
  ⟨(some 12), .ld none (.t 11), none⟩,
  ⟨(some 6), .mv (.t 12), none⟩] [3, 5, 6]) (c130x6)
def c130x8 : AC := .seq (.dreg [
  ⟨(some 21), .idx 1 (some 9) (.t 3) (.k (.int .i64 7)), none⟩,
  ⟨(some 22), .ld none (.t 21), none⟩,
  ⟨(some 23), .ld (some 9) (.t 3), none⟩,
  ⟨(some 4), .mv (.t 22), none⟩,
  ⟨none, .st 9 (.t 5) (.t 23), none⟩] [[], [0], [], [0, 1], [0, 1, 2, 3]] [4, 5]) (.ret)
def c130x9 : AC := .seq (.dreg [
  ⟨(some 26), .idx 1 (some 9) (.t 3) (.k (.int .i64 8)), none⟩,
  ⟨(some 27), .ld none (.t 26), none⟩,
  ⟨(some 28), .ld (some 9) (.t 3), none⟩,
  ⟨(some 4), .mv (.t 27), none⟩,
  ⟨none, .st 9 (.t 5) (.t 28), none⟩] [[], [0], [], [0, 1], [0, 1, 2, 3]] [4, 5]) (.ret)
def c130x10 : AC := .seq (.dreg [
  ⟨(some 31), .idx 1 (some 9) (.t 3) (.k (.int .i64 8)), none⟩,
  ⟨(some 32), .ld none (.t 31), none⟩,
  ⟨(some 33), .bin .add (.t 32) (.k (.int .i64 1)), none⟩,
  ⟨(some 34), .call 35 [(.t 33), (.k (.int .i64 16))], none⟩,
  ⟨(some 35), .ld (some 9) (.t 3), none⟩,
  ⟨(some 4), .mv (.t 34), none⟩,
  ⟨none, .st 9 (.t 5) (.t 35), none⟩] [[], [0], [0, 1], [0, 1, 2], [], [0, 1, 2, 3], [0, 1, 2, 3, 4, 5]] [4, 5]) (.ret)
def c130x11 : AC := .seq (.dreg [
  ⟨(some 46), .mv (.t 7), none⟩,
  ⟨(some 47), .ld (some 9) (.t 3), none⟩,
  ⟨(some 4), .mv (.t 46), none⟩,
  ⟨none, .st 9 (.t 5) (.t 47), none⟩] [[], [], [0], [0, 1, 2]] [4, 5]) (.ret)
def c130x12 : AC := .seq (.reg [
  ⟨(some 41), .idx 1 (some 9) (.t 3) (.k (.int .i64 3)), none⟩,
  ⟨(some 42), .ld none (.t 41), none⟩,
  ⟨(some 43), .bin .sub (.t 42) (.k (.int .i64 1)), none⟩,
  ⟨(some 44), .call 35 [(.t 43), (.k (.int .i64 8))], none⟩,
  ⟨(some 45), .idx 1 (some 9) (.t 3) (.k (.int .i64 3)), none⟩,
  ⟨none, .st 1 (.t 45) (.t 44), none⟩] [3, 5, 7]) (c130x11)
def c130x13 : AC := .seq (.reg [
  ⟨(some 38), .idx 1 (some 9) (.t 3) (.k (.int .i64 3)), none⟩,
  ⟨(some 39), .ld none (.t 38), none⟩,
  ⟨(some 40), .bin .add (.k (.int .i64 256)) (.t 39), none⟩,
  ⟨(some 7), .mv (.t 40), none⟩] [3, 5, 7]) (c130x12)
def c130x14 : AC := .seq (.dreg [
  ⟨(some 55), .idx 1 (some 9) (.t 3) (.k (.int .i64 3)), none⟩,
  ⟨(some 56), .ld none (.t 55), none⟩,
  ⟨(some 57), .bin .add (.k (.int .i64 256)) (.t 56), none⟩,
  ⟨(some 58), .ld (some 9) (.t 3), none⟩,
  ⟨(some 4), .mv (.t 57), none⟩,
  ⟨none, .st 9 (.t 5) (.t 58), none⟩] [[], [0], [0, 1], [], [0, 1, 2], [0, 1, 2, 3, 4]] [4, 5]) (.ret)
def c130x15 : AC := .seq (.reg [
  ⟨(some 50), .idx 1 (some 9) (.t 3) (.k (.int .i64 3)), none⟩,
  ⟨(some 51), .ld none (.t 50), none⟩,
  ⟨(some 52), .bin .add (.t 51) (.k (.int .i64 1)), none⟩,
  ⟨(some 53), .call 35 [(.t 52), (.k (.int .i64 8))], none⟩,
  ⟨(some 54), .idx 1 (some 9) (.t 3) (.k (.int .i64 3)), none⟩,
  ⟨none, .st 1 (.t 54) (.t 53), none⟩] [3, 5]) (c130x14)
def c130x16 : AC := .cond (.t 48) (c130x15) (.skip)
def c130x17 : AC := .seq (.reg [
  ⟨(some 49), .bin .eql (.t 8) (.k (.int .i64 5)), none⟩,
  ⟨(some 48), .mv (.t 49), none⟩] [0, 3, 5, 48]) (c130x16)
def c130x18 : AC := .cond (.t 36) (c130x13) (c130x17)
def c130x19 : AC := .seq (.reg [
  ⟨(some 37), .bin .eql (.t 8) (.k (.int .i64 4)), none⟩,
  ⟨(some 36), .mv (.t 37), none⟩] [0, 3, 5, 8, 36]) (c130x18)
def c130x20 : AC := .cond (.t 29) (c130x10) (c130x19)
def c130x21 : AC := .seq (.reg [
  ⟨(some 30), .bin .eql (.t 8) (.k (.int .i64 3)), none⟩,
  ⟨(some 29), .mv (.t 30), none⟩] [0, 3, 5, 8, 29]) (c130x20)
def c130x22 : AC := .cond (.t 24) (c130x9) (c130x21)
def c130x23 : AC := .seq (.reg [
  ⟨(some 25), .bin .eql (.t 8) (.k (.int .i64 2)), none⟩,
  ⟨(some 24), .mv (.t 25), none⟩] [0, 3, 5, 8, 24]) (c130x22)
def c130x24 : AC := .cond (.t 19) (c130x8) (c130x23)
def c130x25 : AC := .seq (.reg [
  ⟨(some 20), .bin .eql (.t 8) (.k (.int .i64 1)), none⟩,
  ⟨(some 19), .mv (.t 20), none⟩] [0, 3, 5, 8, 19]) (c130x24)
def c130x26 : AC := .cond (.t 9) (c130x7) (c130x25)
def c130x27 : AC := .seq (.reg [
  ⟨(some 10), .bin .eql (.t 8) (.k (.int .i64 0)), none⟩,
  ⟨(some 9), .mv (.t 10), none⟩] [0, 3, 5, 8, 9]) (c130x26)
def c130x28 : AC := .block 0 (c130x27)
def c130x29 : AC := .seq (.reg [
  ⟨(some 8), .mv (.t 0), none⟩] [0, 3, 5, 8]) (c130x28)
def c130x30 : AC := .seq (c130x29) (c130x4)
def c130 : AC := .seq (.reg [
  ⟨(some 3), .new 9 (.t 1), none⟩,
  ⟨(some 4), .mv (.k (.int .i64 0)), none⟩,
  ⟨(some 5), .zero [(.int .i64 0), (.int .i64 0), (.int .i64 0), (.int .i64 0), (.int .i64 0), (.int .i64 0), (.int .i64 0), (.int .i64 0), (.int .i64 0)], none⟩] [0, 3, 5]) (c130x30)
def v170 : List (Nat × List Nat) := [(0, [0]), (1, [2])]
def r170 : List AR := [.t 2]
def c170x0 : AC := .seq (.reg [
  ⟨(some 3), .bsl [(.int .i64 0)] 6 [(0, (.k (.int .i64 65534))), (1, (.k (.int .i64 65535))), (2, (.k (.int .i64 65530))), (3, (.k (.int .i64 65531))), (4, (.k (.int .i64 65532))), (5, (.k (.int .i64 65533)))], none⟩,
  ⟨(some 4), .mv (.t 0), none⟩,
  ⟨(some 5), .bin .sub (.t 4) (.k (.int .i64 6)), none⟩,
  ⟨(some 6), .idx 1 none (.t 3) (.t 5), none⟩,
  ⟨(some 7), .ld none (.t 6), none⟩,
  ⟨(some 2), .mv (.t 7), none⟩] [2]) (.ret)
def c170 : AC := .seq (.reg [
  ⟨(some 2), .mv (.k (.int .i64 0)), none⟩] [0]) (c170x0)
end Go.Proofs.Ytjmmompbmjhkpaa.Code

namespace Go.Proofs.Ytjmmompbmjhkpaa.Code
open Go Go.Proofs.Ytjmmompbmjhkpaa.Calc
set_option maxRecDepth 100000
def v72 : List (Nat × List Nat) := [(0, [1]), (1, [1, 4]), (2, [1, 4, 5]), (3, [4, 5, 15, 16, 17]), (4, [4, 5, 15, 16, 17, 18]), (5, [4, 5, 6, 7, 15, 16, 17]), (6, [4, 5, 6, 15, 16, 17, 23, 24, 25]), (7, [4, 5, 6, 15, 16, 17, 23, 24, 25, 26]), (8, [4, 5, 6, 9, 15, 16, 17, 23, 24, 25]), (9, [4, 5, 6, 15, 16, 17, 23, 24, 25, 31]), (10, [4, 5, 6, 15, 16, 17, 23, 24, 25]), (11, [4, 5, 6, 15, 16, 17, 23, 24, 25]), (12, [4, 5, 15, 16, 17]), (13, [2, 3])]
def r72 : List AR := [.t 2, .t 3]
def c72x0 : AC := .seq (.reg [
  ⟨(some 38), .mv (.t 5), none⟩,
  ⟨(some 39), .bin .add (.t 38) (.k (.int .i64 1)), none⟩,
  ⟨(some 40), .mv (.t 4), none⟩,
  ⟨(some 41), .bin .add (.t 40) (.k (.int .i64 1)), none⟩,
  ⟨(some 2), .mv (.t 39), none⟩,
  ⟨(some 3), .mv (.t 41), none⟩] [2, 3]) (.ret)
def c72x1 : AC := .reg [
  ⟨(some 37), .bin .add (.t 17) (.k (.int .i64 1)), none⟩,
  ⟨(some 17), .mv (.t 37), none⟩] [4, 5, 15, 16, 17]
def c72x2 : AC := .reg [
  ⟨(some 36), .bin .add (.t 25) (.k (.int .i64 1)), none⟩,
  ⟨(some 25), .mv (.t 36), none⟩] [4, 5, 6, 15, 16, 17, 23, 24, 25]
def c72x3 : AC := .reg [
  ⟨(some 32), .mv (.t 5), none⟩,
  ⟨(some 33), .mv (.t 6), none⟩,
  ⟨(some 34), .bin .add (.t 33) (.k (.int .i64 1)), none⟩,
  ⟨(some 35), .mnx false [(.t 32), (.t 34)], none⟩,
  ⟨(some 5), .mv (.t 35), none⟩] [4, 5, 6, 15, 16, 17, 23, 24, 25]
def c72x4 : AC := .cond (.t 31) (c72x3) (.skip)
def c72x5 : AC := .seq (.reg [
  ⟨(some 29), .fad 0 (.t 9), none⟩,
  ⟨(some 30), .ld none (.t 29), none⟩,
  ⟨(some 31), .bin .eql (.t 30) (.k (.int .i64 24)), none⟩] [4, 5, 6, 15, 16, 17, 23, 24, 25, 31]) (c72x4)
def c72x6 : AC := .seq (.reg [
  ⟨(some 27), .idx 4 none (.t 23) (.t 25), none⟩,
  ⟨(some 28), .ld (some 4) (.t 27), none⟩,
  ⟨(some 9), .zero [(.int .i64 0), (.int .i64 0), (.int .i64 0), (.int .i64 0)], none⟩,
  ⟨none, .st 4 (.t 9) (.t 28), none⟩] [4, 5, 6, 9, 15, 16, 17, 23, 24, 25]) (c72x5)
def c72x7 : AC := .block 3 (c72x6)
def c72x8 : AC := .seq (c72x7) (c72x2)
def c72x9 : AC := .cond (.t 26) (.skip) (.exit 2)
def c72x10 : AC := .seq (c72x9) (c72x8)
def c72x11 : AC := .seq (.reg [
  ⟨(some 26), .bin .lss (.t 25) (.t 24), none⟩] [4, 5, 6, 15, 16, 17, 23, 24, 25, 26]) (c72x10)
def c72x12 : AC := .loop (c72x11)
def c72x13 : AC := .block 2 (c72x12)
def c72x14 : AC := .seq (.reg [
  ⟨(some 22), .fad 3 (.t 7), none⟩,
  ⟨(some 23), .ld none (.t 22), none⟩,
  ⟨(some 24), .len (.t 23), none⟩,
  ⟨(some 25), .mv (.k (.int .i64 0)), none⟩] [4, 5, 6, 15, 16, 17, 23, 24, 25]) (c72x13)
def c72x15 : AC := .seq (.reg [
  ⟨(some 19), .mv (.t 17), none⟩,
  ⟨(some 20), .idx 4 none (.t 15) (.t 17), none⟩,
  ⟨(some 21), .ld (some 4) (.t 20), none⟩,
  ⟨(some 7), .zero [(.int .i64 0), (.int .i64 0), (.int .i64 0), (.slice none 0 0)], none⟩,
  ⟨(some 6), .mv (.t 19), none⟩,
  ⟨none, .st 4 (.t 7) (.t 21), none⟩] [4, 5, 6, 7, 15, 16, 17]) (c72x14)
def c72x16 : AC := .block 1 (c72x15)
def c72x17 : AC := .seq (c72x16) (c72x1)
def c72x18 : AC := .cond (.t 18) (.skip) (.exit 0)
def c72x19 : AC := .seq (c72x18) (c72x17)
def c72x20 : AC := .seq (.reg [
  ⟨(some 18), .bin .lss (.t 17) (.t 16), none⟩] [4, 5, 15, 16, 17, 18]) (c72x19)
def c72x21 : AC := .loop (c72x20)
def c72x22 : AC := .block 0 (c72x21)
def c72x23 : AC := .seq (.reg [
  ⟨(some 14), .fad 3 (.t 1), none⟩,
  ⟨(some 15), .ld none (.t 14), none⟩,
  ⟨(some 16), .len (.t 15), none⟩,
  ⟨(some 17), .mv (.k (.int .i64 0)), none⟩] [4, 5, 15, 16, 17]) (c72x22)
def c72x24 : AC := .seq (c72x23) (c72x0)
def c72x25 : AC := .seq (.reg [
  ⟨(some 13), .mv (.t 4), none⟩,
  ⟨(some 5), .mv (.t 13), none⟩] [1, 4, 5]) (c72x24)
def c72x26 : AC := .seq (.reg [
  ⟨(some 10), .fad 3 (.t 1), none⟩,
  ⟨(some 11), .ld none (.t 10), none⟩,
  ⟨(some 12), .len (.t 11), none⟩,
  ⟨(some 4), .mv (.t 12), none⟩] [1, 4]) (c72x25)
def c72 : AC := .seq (.reg [
  ⟨(some 1), .new 4 (.t 0), none⟩,
  ⟨(some 2), .mv (.k (.int .i64 0)), none⟩,
  ⟨(some 3), .mv (.k (.int .i64 0)), none⟩] [1]) (c72x26)
def v80 : List (Nat × List Nat) := [(0, [2, 3, 4, 6]), (1, [2, 3, 4, 6, 8]), (2, [2, 3, 4, 6, 8, 10]), (3, [2, 3, 4, 6, 8, 10, 11]), (4, [2, 3, 4, 6, 8, 9, 10]), (5, [2, 3, 4, 6, 8, 9, 10]), (6, [2, 3, 4, 6, 8, 10]), (7, [2, 3, 4, 6, 8, 10, 30]), (8, [2, 3, 4, 6, 8, 10]), (9, [6, 7])]
def r80 : List AR := [.cell (some 12) 6, .t 7]
def c80x0 : AC := .seq (.reg [
  ⟨(some 32), .ld (some 12) (.t 4), none⟩,
  ⟨(some 33), .mv (.t 8), none⟩,
  ⟨none, .st 12 (.t 6) (.t 32), none⟩,
  ⟨(some 7), .mv (.t 33), none⟩] [6, 7]) (.ret)
def c80x1 : AC := .reg [
  ⟨(some 31), .bin .add (.t 10) (.k (.int .i64 1)), none⟩,
  ⟨(some 10), .mv (.t 31), none⟩] [2, 3, 4, 6, 8, 10]
def c80x2 : AC := .cond (.t 30) (.exit 0) (.skip)
def c80x3 : AC := .seq (.reg [
  ⟨(some 23), .fad 9 (.t 4), none⟩,
  ⟨(some 24), .ld none (.t 23), none⟩,
  ⟨(some 25), .bin .eql (.t 24) (.k (.int .i64 (-1))), none⟩,
  ⟨(some 26), .mv (.t 25), none⟩,
  ⟨(some 27), .fad 9 (.t 4), (some (26, false))⟩,
  ⟨(some 28), .ld none (.t 27), (some (26, false))⟩,
  ⟨(some 29), .bin .eql (.t 28) (.k (.int .i64 259)), (some (26, false))⟩,
  ⟨(some 30), .pick (.t 26) (.k (.bool true)) (.t 29), none⟩] [2, 3, 4, 6, 8, 10, 30]) (c80x2)
def c80x4 : AC := .seq (.reg [
  ⟨(some 19), .mv (.t 8), none⟩,
  ⟨(some 20), .ld (some 3) (.t 9), none⟩,
  ⟨(some 21), .bsl [(.int .i64 0), (.int .i64 0), (.int .i64 0)] 1 [(0, (.t 20))], none⟩,
  ⟨(some 22), .app 3 24 (.t 19) (.t 21), none⟩,
  ⟨(some 8), .mv (.t 22), none⟩] [2, 3, 4, 6, 8, 10]) (c80x3)
def c80x5 : AC := .seq (.reg [
  ⟨(some 13), .ld (some 5) (.t 3), none⟩,
  ⟨(some 14), .ld (some 12) (.t 4), none⟩,
  ⟨(some 15), .mv (.t 2), none⟩,
  ⟨(some 16), .call 86 [(.t 13), (.t 14), (.k (.bool false)), (.t 15)], none⟩,
  ⟨(some 12), .mv (.t 16), none⟩,
  ⟨(some 17), .ext (.t 12) 0, none⟩,
  ⟨(some 18), .ext (.t 12) 1, none⟩,
  ⟨none, .st 12 (.t 4) (.t 17), none⟩,
  ⟨none, .st 3 (.t 9) (.t 18), none⟩] [2, 3, 4, 6, 8, 9, 10]) (c80x4)
def c80x6 : AC := .seq (.reg [
  ⟨(some 9), .zero [(.int .i64 0), (.int .i64 0), (.int .i64 0)], none⟩] [2, 3, 4, 6, 8, 9, 10]) (c80x5)
def c80x7 : AC := .block 1 (c80x6)
def c80x8 : AC := .seq (c80x7) (c80x1)
def c80x9 : AC := .cond (.t 11) (.skip) (.exit 0)
def c80x10 : AC := .seq (c80x9) (c80x8)
def c80x11 : AC := .seq (.reg [
  ⟨(some 11), .bin .lss (.t 10) (.k (.int .i64 20)), none⟩] [2, 3, 4, 6, 8, 10, 11]) (c80x10)
def c80x12 : AC := .loop (c80x11)
def c80x13 : AC := .block 0 (c80x12)
def c80x14 : AC := .seq (.reg [
  ⟨(some 10), .mv (.k (.int .i64 0)), none⟩] [2, 3, 4, 6, 8, 10]) (c80x13)
def c80x15 : AC := .seq (c80x14) (c80x0)
def c80x16 : AC := .seq (.reg [
  ⟨(some 8), .mv (.k (.slice none 0 0)), none⟩] [2, 3, 4, 6, 8]) (c80x15)
def c80 : AC := .seq (.reg [
  ⟨(some 3), .new 5 (.t 0), none⟩,
  ⟨(some 4), .new 12 (.t 1), none⟩,
  ⟨(some 6), .zero [(.int .i64 0), (.int .i64 0), (.int .i64 0), (.int .i64 0), (.int .i64 0), (.int .i64 0), (.int .i64 0), (.int .i64 0), (.int .i64 0), (.int .i64 0), (.int .i64 0), (.bool false)], none⟩,
  ⟨(some 7), .mv (.k (.slice none 0 0)), none⟩] [2, 3, 4, 6]) (c80x16)
def v86 : List (Nat × List Nat) := [(0, [2, 3, 4, 5, 8, 9]), (1, [3, 4, 5, 8, 9, 10]), (2, [3, 4, 5, 8, 9, 10, 19]), (3, [3, 4, 5, 8, 9, 10, 19, 20]), (4, [4, 5, 8, 9, 10]), (5, [3, 4, 5, 8, 9, 10, 28]), (6, [4, 5, 8, 9, 10]), (7, [8, 9])]
def r86 : List AR := [.cell (some 12) 8, .cell (some 3) 9]
def c86x0 : AC := .seq (.dreg [
  ⟨(some 36), .ld (some 5) (.t 4), none⟩,
  ⟨(some 37), .ld (some 12) (.t 5), none⟩,
  ⟨(some 38), .fad 2 (.t 10), none⟩,
  ⟨(some 39), .ld none (.t 38), none⟩,
  ⟨(some 40), .call 69 [(.t 36), (.t 37), (.t 39)], none⟩,
  ⟨(some 41), .ld (some 3) (.t 10), none⟩,
  ⟨none, .st 12 (.t 8) (.t 40), none⟩,
  ⟨none, .st 3 (.t 9) (.t 41), none⟩] [[], [], [], [2], [0, 1, 2, 3], [], [0, 1, 2, 3, 4], [0, 1, 2, 3, 4, 5, 6]] [8, 9]) (.ret)
def c86x1 : AC := .reg [
  ⟨(some 22), .mv (.t 3), none⟩,
  ⟨(some 23), .fad 1 (.t 10), none⟩,
  ⟨(some 24), .ld none (.t 23), none⟩,
  ⟨(some 25), .inv [(98, 213)] (.t 22) [(.t 24)], none⟩,
  ⟨(some 26), .call 35 [(.t 25), (.k (.int .i64 8))], none⟩,
  ⟨(some 27), .fad 2 (.t 10), none⟩,
  ⟨none, .st 1 (.t 27) (.t 26), none⟩] [4, 5, 8, 9, 10]
def c86x2 : AC := .reg [
  ⟨(some 30), .mv (.t 3), none⟩,
  ⟨(some 31), .fad 1 (.t 10), none⟩,
  ⟨(some 32), .ld none (.t 31), none⟩,
  ⟨(some 33), .fad 2 (.t 10), none⟩,
  ⟨(some 34), .ld none (.t 33), none⟩,
  ⟨(some 35), .inv [(98, 214)] (.t 30) [(.t 32), (.t 34)], none⟩] [4, 5, 8, 9, 10]
def c86x3 : AC := .cond (.t 28) (c86x2) (.skip)
def c86x4 : AC := .seq (.reg [
  ⟨(some 29), .bin .eql (.t 19) (.k (.int .i64 2)), none⟩,
  ⟨(some 28), .mv (.t 29), none⟩] [3, 4, 5, 8, 9, 10, 28]) (c86x3)
def c86x5 : AC := .cond (.t 20) (c86x1) (c86x4)
def c86x6 : AC := .seq (.reg [
  ⟨(some 21), .bin .eql (.t 19) (.k (.int .i64 1)), none⟩,
  ⟨(some 20), .mv (.t 21), none⟩] [3, 4, 5, 8, 9, 10, 19, 20]) (c86x5)
def c86x7 : AC := .block 0 (c86x6)
def c86x8 : AC := .seq (.reg [
  ⟨(some 18), .fad 0 (.t 10), none⟩,
  ⟨(some 19), .ld none (.t 18), none⟩] [3, 4, 5, 8, 9, 10, 19]) (c86x7)
def c86x9 : AC := .seq (c86x8) (c86x0)
def c86x10 : AC := .seq (.reg [
  ⟨(some 12), .ld (some 5) (.t 4), none⟩,
  ⟨(some 13), .ld (some 12) (.t 5), none⟩,
  ⟨(some 14), .mv (.t 2), none⟩,
  ⟨(some 15), .call 71 [(.t 12), (.t 13), (.t 14)], none⟩,
  ⟨(some 11), .mv (.t 15), none⟩,
  ⟨(some 16), .ext (.t 11) 0, none⟩,
  ⟨(some 17), .ext (.t 11) 1, none⟩,
  ⟨(some 10), .zero [(.int .i64 0), (.int .i64 0), (.int .i64 0)], none⟩,
  ⟨none, .st 12 (.t 5) (.t 16), none⟩,
  ⟨none, .st 3 (.t 10) (.t 17), none⟩] [3, 4, 5, 8, 9, 10]) (c86x9)
def c86 : AC := .seq (.reg [
  ⟨(some 4), .new 5 (.t 0), none⟩,
  ⟨(some 5), .new 12 (.t 1), none⟩,
  ⟨(some 8), .zero [(.int .i64 0), (.int .i64 0), (.int .i64 0), (.int .i64 0), (.int .i64 0), (.int .i64 0), (.int .i64 0), (.int .i64 0), (.int .i64 0), (.int .i64 0), (.int .i64 0), (.bool false)], none⟩,
  ⟨(some 9), .zero [(.int .i64 0), (.int .i64 0), (.int .i64 0)], none⟩] [2, 3, 4, 5, 8, 9]) (c86x10)
end Go.Proofs.Ytjmmompbmjhkpaa.Code

namespace Go.Proofs.Ytjmmompbmjhkpaa.Code
open Go Go.Proofs.Ytjmmompbmjhkpaa.Calc
set_option maxRecDepth 100000
def v19 : List (Nat × List Nat) := [(0, [0, 1, 2]), (1, [1, 2, 7]), (2, [1, 2, 7, 8]), (3, [1, 2, 7, 8, 9]), (4, [1, 7, 8, 9, 17, 18]), (5, [1, 7, 8, 9, 17, 18, 19]), (6, [1, 7, 8, 9, 10, 17, 18]), (7, [1, 7, 8, 9, 10, 17, 18]), (8, [1, 7, 8, 9, 17, 18, 29]), (9, [6]), (10, [1, 7, 8, 9, 17, 18]), (11, [1, 7, 8, 9, 17, 18]), (12, [6])]
def r19 : List AR := [.t 6]
def c19x0 : AC := .seq (.reg [
  ⟨(some 35), .call 70 [], none⟩,
  ⟨(some 36), .mv (.t 35), none⟩,
  ⟨(some 37), .fad 0 (.t 9), (some (36, true))⟩,
  ⟨(some 38), .ld (some 9) (.t 37), (some (36, true))⟩,
  ⟨(some 39), .fad 0 (.t 7), (some (36, true))⟩,
  ⟨(some 40), .ld (some 9) (.t 39), (some (36, true))⟩,
  ⟨(some 41), .eqs [.i .i64, .i .i64, .i .i64, .i .i64, .i .i64, .i .i64, .i .i64, .i .i64, .i .i64] false (.t 38) (.t 40), (some (36, true))⟩,
  ⟨(some 42), .pick (.t 36) (.t 41) (.k (.bool false)), none⟩,
  ⟨(some 43), .mv (.t 42), none⟩,
  ⟨(some 44), .fad 9 (.t 9), (some (43, true))⟩,
  ⟨(some 45), .ld none (.t 44), (some (43, true))⟩,
  ⟨(some 46), .bin .eql (.t 45) (.k (.int .i64 259)), (some (43, true))⟩,
  ⟨(some 47), .pick (.t 43) (.t 46) (.k (.bool false)), none⟩,
  ⟨(some 6), .mv (.t 47), none⟩] [6]) (.ret)
def c19x1 : AC := .reg [
  ⟨(some 34), .bin .add (.t 18) (.k (.int .i64 1)), none⟩,
  ⟨(some 18), .mv (.t 34), none⟩] [1, 7, 8, 9, 17, 18]
def c19x2 : AC := .reg [
  ⟨(some 30), .ld (some 5) (.t 8), none⟩,
  ⟨(some 31), .ld (some 12) (.t 9), none⟩,
  ⟨(some 32), .mv (.t 1), none⟩,
  ⟨(some 33), .call 69 [(.t 30), (.t 31), (.t 32)], none⟩,
  ⟨none, .st 12 (.t 9) (.t 33), none⟩] [1, 7, 8, 9, 17, 18]
def c19x3 : AC := .seq (.reg [
  ⟨(some 6), .mv (.k (.bool false)), none⟩] [6]) (.ret)
def c19x4 : AC := .cond (.t 29) (c19x3) (.skip)
def c19x5 : AC := .seq (.reg [
  ⟨(some 27), .ld (some 3) (.t 10), none⟩,
  ⟨(some 28), .build [(.int .i64 0), (.int .i64 0), (.int .i64 0)] [], none⟩,
  ⟨(some 29), .eqs [.i .i64, .i .i64, .i .i64] true (.t 27) (.t 28), none⟩] [1, 7, 8, 9, 17, 18, 29]) (c19x4)
def c19x6 : AC := .seq (c19x5) (c19x2)
def c19x7 : AC := .seq (.dreg [
  ⟨(some 21), .ld (some 5) (.t 8), none⟩,
  ⟨(some 22), .ld (some 12) (.t 9), none⟩,
  ⟨(some 23), .call 79 [(.t 22)], none⟩,
  ⟨(some 24), .call 71 [(.t 21), (.t 23), (.k (.bool true))], none⟩,
  ⟨(some 20), .mv (.t 24), none⟩,
  ⟨(some 25), .ext (.t 20) 0, none⟩,
  ⟨(some 26), .ext (.t 20) 1, none⟩,
  ⟨none, .st 12 (.t 9) (.t 25), none⟩,
  ⟨none, .st 3 (.t 10) (.t 26), none⟩] [[], [], [1], [0, 1, 2], [0, 1, 2, 3], [0, 1, 2, 3, 4], [0, 1, 2, 3, 4], [0, 1, 2, 3, 4, 5], [0, 1, 2, 3, 4, 5, 6, 7]] [1, 7, 8, 9, 10, 17, 18]) (c19x6)
def c19x8 : AC := .seq (.reg [
  ⟨(some 10), .zero [(.int .i64 0), (.int .i64 0), (.int .i64 0)], none⟩] [1, 7, 8, 9, 10, 17, 18]) (c19x7)
def c19x9 : AC := .block 1 (c19x8)
def c19x10 : AC := .seq (c19x9) (c19x1)
def c19x11 : AC := .cond (.t 19) (.skip) (.exit 0)
def c19x12 : AC := .seq (c19x11) (c19x10)
def c19x13 : AC := .seq (.reg [
  ⟨(some 19), .bin .lss (.t 18) (.t 17), none⟩] [1, 7, 8, 9, 17, 18, 19]) (c19x12)
def c19x14 : AC := .loop (c19x13)
def c19x15 : AC := .block 0 (c19x14)
def c19x16 : AC := .seq (.reg [
  ⟨(some 16), .mv (.t 2), none⟩,
  ⟨(some 17), .call 29 [(.t 16), (.k (.int .i64 20))], none⟩,
  ⟨(some 18), .mv (.k (.int .i64 0)), none⟩] [1, 7, 8, 9, 17, 18]) (c19x15)
def c19x17 : AC := .seq (c19x16) (c19x0)
def c19x18 : AC := .seq (.reg [
  ⟨(some 15), .ld (some 12) (.t 7), none⟩,
  ⟨(some 9), .zero [(.int .i64 0), (.int .i64 0), (.int .i64 0), (.int .i64 0), (.int .i64 0), (.int .i64 0), (.int .i64 0), (.int .i64 0), (.int .i64 0), (.int .i64 0), (.int .i64 0), (.bool false)], none⟩,
  ⟨none, .st 12 (.t 9) (.t 15), none⟩] [1, 2, 7, 8, 9]) (c19x17)
def c19x19 : AC := .seq (.reg [
  ⟨(some 14), .call 78 [], none⟩,
  ⟨(some 8), .zero [(.string ⟨#[]⟩), (.slice none 0 0), (.slice none 0 0), (.slice none 0 0), (.slice none 0 0)], none⟩,
  ⟨none, .st 5 (.t 8) (.t 14), none⟩] [1, 2, 7, 8]) (c19x18)
def c19x20 : AC := .seq (.reg [
  ⟨(some 11), .mv (.t 0), none⟩,
  ⟨(some 12), .call 53 [(.t 11)], none⟩,
  ⟨(some 13), .build [(.int .i64 0), (.int .i64 0), (.int .i64 0), (.int .i64 0), (.int .i64 0), (.int .i64 0), (.int .i64 0), (.int .i64 0), (.int .i64 0), (.int .i64 0), (.int .i64 0), (.bool false)] [(9, 1, (.k (.int .i64 259))), (0, 9, (.t 12))], none⟩,
  ⟨(some 7), .zero [(.int .i64 0), (.int .i64 0), (.int .i64 0), (.int .i64 0), (.int .i64 0), (.int .i64 0), (.int .i64 0), (.int .i64 0), (.int .i64 0), (.int .i64 0), (.int .i64 0), (.bool false)], none⟩,
  ⟨none, .st 12 (.t 7) (.t 13), none⟩] [1, 2, 7]) (c19x19)
def c19 : AC := .seq (.reg [
  ⟨(some 6), .mv (.k (.bool false)), none⟩] [0, 1, 2]) (c19x20)
def v70 : List (Nat × List Nat) := [(0, []), (1, [1]), (2, [0])]
def r70 : List AR := [.t 0]
def c70x0 : AC := .seq (.reg [
  ⟨(some 3), .fad 9 (.t 1), none⟩,
  ⟨(some 4), .ld none (.t 3), none⟩,
  ⟨(some 5), .bin .eql (.t 4) (.k (.int .i64 258)), none⟩,
  ⟨(some 6), .mv (.t 5), none⟩,
  ⟨(some 7), .fad 0 (.t 1), (some (6, true))⟩,
  ⟨(some 8), .idx 1 (some 9) (.t 7) (.k (.int .i64 4)), (some (6, true))⟩,
  ⟨(some 9), .ld none (.t 8), (some (6, true))⟩,
  ⟨(some 10), .bin .eql (.t 9) (.k (.int .i64 4)), (some (6, true))⟩,
  ⟨(some 11), .pick (.t 6) (.t 10) (.k (.bool false)), none⟩,
  ⟨(some 0), .mv (.t 11), none⟩] [0]) (.ret)
def c70x1 : AC := .seq (.reg [
  ⟨(some 2), .call 81 [], none⟩,
  ⟨(some 1), .zero [(.int .i64 0), (.int .i64 0), (.int .i64 0), (.int .i64 0), (.int .i64 0), (.int .i64 0), (.int .i64 0), (.int .i64 0), (.int .i64 0), (.int .i64 0), (.int .i64 0), (.bool false)], none⟩,
  ⟨none, .st 12 (.t 1) (.t 2), none⟩] [1]) (c70x0)
def c70 : AC := .seq (.reg [
  ⟨(some 0), .mv (.k (.bool false)), none⟩] []) (c70x1)
end Go.Proofs.Ytjmmompbmjhkpaa.Code

