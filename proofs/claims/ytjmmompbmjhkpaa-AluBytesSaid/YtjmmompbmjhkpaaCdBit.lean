/- The code of functions (Bit) over abstract values, printed by a program, and that it is what the program's form in Lean turns into. No condition. -/
import Derived.Test.YtjmmompbmjhkpaaProg
import Derived.Test.YtjmmompbmjhkpaaCalcJ
import Derived.KernelRfl
namespace Go.Proofs.Ytjmmompbmjhkpaa.Code
open Go Go.Proofs.Ytjmmompbmjhkpaa.Calc
set_option maxRecDepth 100000
/-- bakelite/bit.Low -/
def v35 : List (Nat × List Nat) := [(0, [0, 1]), (1, [4])]
def r35 : List AR := [.t 4]
def c35x0 : AC := .seq (.reg [
  ⟨(some 5), .mv (.t 0), none⟩,
  ⟨(some 6), .mv (.t 1), none⟩,
  ⟨(some 7), .call 92 [(.t 6)], none⟩,
  ⟨(some 8), .bin .shl (.k (.int .i64 1)) (.t 7), none⟩,
  ⟨(some 9), .bin .sub (.t 8) (.k (.int .i64 1)), none⟩,
  ⟨(some 10), .bin .and (.t 5) (.t 9), none⟩,
  ⟨(some 4), .mv (.t 10), none⟩] [4]) (.ret)
def c35 : AC := .seq (.reg [
  ⟨(some 4), .mv (.k (.int .i64 0)), none⟩] [0, 1]) (c35x0)
theorem k35 : Try.f35.body.bind (compC Try.prog Try.f35.ntmps v35) = some c35 := by kernel_rfl
theorem e35 : enters Try.prog 35 = true := by kernel_rfl
theorem q35 : Try.f35.results.toList.mapM (compRes Try.prog) = some r35 := by kernel_rfl
/-- bakelite/bit.width -/
def v92 : List (Nat × List Nat) := [(0, [0]), (1, [2])]
def r92 : List AR := [.t 2]
def c92x0 : AC := .seq (.reg [
  ⟨(some 3), .mv (.t 0), none⟩,
  ⟨(some 4), .mnx false [(.t 3), (.k (.int .i64 62))], none⟩,
  ⟨(some 5), .mnx true [(.k (.int .i64 0)), (.t 4)], none⟩,
  ⟨(some 2), .mv (.t 5), none⟩] [2]) (.ret)
def c92 : AC := .seq (.reg [
  ⟨(some 2), .mv (.k (.int .i64 0)), none⟩] [0]) (c92x0)
theorem k92 : Try.f92.body.bind (compC Try.prog Try.f92.ntmps v92) = some c92 := by kernel_rfl
theorem e92 : enters Try.prog 92 = true := by kernel_rfl
theorem q92 : Try.f92.results.toList.mapM (compRes Try.prog) = some r92 := by kernel_rfl
/-- bakelite/bit.Put -/
def v95 : List (Nat × List Nat) := [(0, [0, 1, 2, 3]), (1, [0, 1, 2, 3]), (2, [0, 1, 2, 3, 9]), (3, [8])]
def r95 : List AR := [.t 8]
def c95x0 : AC := .seq (.reg [
  ⟨(some 21), .mv (.t 0), none⟩,
  ⟨(some 22), .call 35 [(.t 21), (.k (.int .i64 62))], none⟩,
  ⟨(some 23), .mv (.t 9), none⟩,
  ⟨(some 24), .bin .andNot (.t 22) (.t 23), none⟩,
  ⟨(some 25), .mv (.t 3), none⟩,
  ⟨(some 26), .mv (.t 2), none⟩,
  ⟨(some 27), .call 35 [(.t 25), (.t 26)], none⟩,
  ⟨(some 28), .mv (.t 1), none⟩,
  ⟨(some 29), .bin .shl (.t 27) (.t 28), none⟩,
  ⟨(some 30), .bin .or (.t 24) (.t 29), none⟩,
  ⟨(some 8), .mv (.t 30), none⟩] [8]) (.ret)
def c95x1 : AC := .seq (.reg [
  ⟨(some 16), .mv (.t 2), none⟩,
  ⟨(some 17), .bin .shl (.k (.int .i64 1)) (.t 16), none⟩,
  ⟨(some 18), .bin .sub (.t 17) (.k (.int .i64 1)), none⟩,
  ⟨(some 19), .mv (.t 1), none⟩,
  ⟨(some 20), .bin .shl (.t 18) (.t 19), none⟩,
  ⟨(some 9), .mv (.t 20), none⟩] [0, 1, 2, 3, 9]) (c95x0)
def c95x2 : AC := .seq (.reg [
  ⟨(some 11), .mv (.t 1), none⟩,
  ⟨(some 12), .mv (.t 2), none⟩,
  ⟨(some 13), .call 155 [(.t 11), (.t 12)], none⟩,
  ⟨(some 10), .mv (.t 13), none⟩,
  ⟨(some 14), .ext (.t 10) 0, none⟩,
  ⟨(some 15), .ext (.t 10) 1, none⟩,
  ⟨(some 1), .mv (.t 14), none⟩,
  ⟨(some 2), .mv (.t 15), none⟩] [0, 1, 2, 3]) (c95x1)
def c95 : AC := .seq (.reg [
  ⟨(some 8), .mv (.k (.int .i64 0)), none⟩] [0, 1, 2, 3]) (c95x2)
theorem k95 : Try.f95.body.bind (compC Try.prog Try.f95.ntmps v95) = some c95 := by kernel_rfl
theorem e95 : enters Try.prog 95 = true := by kernel_rfl
theorem q95 : Try.f95.results.toList.mapM (compRes Try.prog) = some r95 := by kernel_rfl
/-- bakelite/bit.Get -/
def v99 : List (Nat × List Nat) := [(0, [0, 1, 2]), (1, [0, 1, 2]), (2, [6])]
def r99 : List AR := [.t 6]
def c99x0 : AC := .seq (.reg [
  ⟨(some 13), .mv (.t 0), none⟩,
  ⟨(some 14), .call 35 [(.t 13), (.k (.int .i64 62))], none⟩,
  ⟨(some 15), .mv (.t 1), none⟩,
  ⟨(some 16), .bin .shr (.t 14) (.t 15), none⟩,
  ⟨(some 17), .mv (.t 2), none⟩,
  ⟨(some 18), .call 35 [(.t 16), (.t 17)], none⟩,
  ⟨(some 6), .mv (.t 18), none⟩] [6]) (.ret)
def c99x1 : AC := .seq (.reg [
  ⟨(some 8), .mv (.t 1), none⟩,
  ⟨(some 9), .mv (.t 2), none⟩,
  ⟨(some 10), .call 155 [(.t 8), (.t 9)], none⟩,
  ⟨(some 7), .mv (.t 10), none⟩,
  ⟨(some 11), .ext (.t 7) 0, none⟩,
  ⟨(some 12), .ext (.t 7) 1, none⟩,
  ⟨(some 1), .mv (.t 11), none⟩,
  ⟨(some 2), .mv (.t 12), none⟩] [0, 1, 2]) (c99x0)
def c99 : AC := .seq (.reg [
  ⟨(some 6), .mv (.k (.int .i64 0)), none⟩] [0, 1, 2]) (c99x1)
theorem k99 : Try.f99.body.bind (compC Try.prog Try.f99.ntmps v99) = some c99 := by kernel_rfl
theorem e99 : enters Try.prog 99 = true := by kernel_rfl
theorem q99 : Try.f99.results.toList.mapM (compRes Try.prog) = some r99 := by kernel_rfl
/-- bakelite/bit.Signed -/
def v111 : List (Nat × List Nat) := [(0, [0, 1]), (1, [0, 1]), (2, [0, 1]), (3, [0, 1, 18]), (4, [0]), (5, [4])]
def r111 : List AR := [.t 4]
def c111x0 : AC := .seq (.reg [
  ⟨(some 23), .mv (.t 0), none⟩,
  ⟨(some 4), .mv (.t 23), none⟩] [4]) (.ret)
def c111x1 : AC := .reg [
  ⟨(some 19), .mv (.t 0), none⟩,
  ⟨(some 20), .mv (.t 1), none⟩,
  ⟨(some 21), .bin .shl (.k (.int .i64 1)) (.t 20), none⟩,
  ⟨(some 22), .bin .sub (.t 19) (.t 21), none⟩,
  ⟨(some 0), .mv (.t 22), none⟩] [0]
def c111x2 : AC := .cond (.t 18) (c111x1) (.skip)
def c111x3 : AC := .seq (.reg [
  ⟨(some 10), .mv (.t 1), none⟩,
  ⟨(some 11), .bin .gtr (.t 10) (.k (.int .i64 0)), none⟩,
  ⟨(some 12), .mv (.t 11), none⟩,
  ⟨(some 13), .mv (.t 0), (some (12, true))⟩,
  ⟨(some 14), .mv (.t 1), (some (12, true))⟩,
  ⟨(some 15), .bin .sub (.t 14) (.k (.int .i64 1)), (some (12, true))⟩,
  ⟨(some 16), .bin .shr (.t 13) (.t 15), (some (12, true))⟩,
  ⟨(some 17), .bin .eql (.t 16) (.k (.int .i64 1)), (some (12, true))⟩,
  ⟨(some 18), .pick (.t 12) (.t 17) (.k (.bool false)), none⟩] [0, 1, 18]) (c111x2)
def c111x4 : AC := .seq (c111x3) (c111x0)
def c111x5 : AC := .seq (.reg [
  ⟨(some 7), .mv (.t 0), none⟩,
  ⟨(some 8), .mv (.t 1), none⟩,
  ⟨(some 9), .call 35 [(.t 7), (.t 8)], none⟩,
  ⟨(some 0), .mv (.t 9), none⟩] [0, 1]) (c111x4)
def c111x6 : AC := .seq (.reg [
  ⟨(some 5), .mv (.t 1), none⟩,
  ⟨(some 6), .call 92 [(.t 5)], none⟩,
  ⟨(some 1), .mv (.t 6), none⟩] [0, 1]) (c111x5)
def c111 : AC := .seq (.reg [
  ⟨(some 4), .mv (.k (.int .i64 0)), none⟩] [0, 1]) (c111x6)
theorem k111 : Try.f111.body.bind (compC Try.prog Try.f111.ntmps v111) = some c111 := by kernel_rfl
theorem e111 : enters Try.prog 111 = true := by kernel_rfl
theorem q111 : Try.f111.results.toList.mapM (compRes Try.prog) = some r111 := by kernel_rfl
/-- bakelite/bit.place -/
def v155 : List (Nat × List Nat) := [(0, [0, 1]), (1, [0, 1]), (2, [4, 5])]
def r155 : List AR := [.t 4, .t 5]
def c155x0 : AC := .seq (.reg [
  ⟨(some 8), .mv (.t 0), none⟩,
  ⟨(some 9), .mv (.t 1), none⟩,
  ⟨(some 10), .mv (.t 0), none⟩,
  ⟨(some 11), .bin .sub (.k (.int .i64 62)) (.t 10), none⟩,
  ⟨(some 12), .mnx false [(.t 9), (.t 11)], none⟩,
  ⟨(some 13), .mnx true [(.k (.int .i64 0)), (.t 12)], none⟩,
  ⟨(some 4), .mv (.t 8), none⟩,
  ⟨(some 5), .mv (.t 13), none⟩] [4, 5]) (.ret)
def c155x1 : AC := .seq (.reg [
  ⟨(some 6), .mv (.t 0), none⟩,
  ⟨(some 7), .call 92 [(.t 6)], none⟩,
  ⟨(some 0), .mv (.t 7), none⟩] [0, 1]) (c155x0)
def c155 : AC := .seq (.reg [
  ⟨(some 4), .mv (.k (.int .i64 0)), none⟩,
  ⟨(some 5), .mv (.k (.int .i64 0)), none⟩] [0, 1]) (c155x1)
theorem k155 : Try.f155.body.bind (compC Try.prog Try.f155.ntmps v155) = some c155 := by kernel_rfl
theorem e155 : enters Try.prog 155 = true := by kernel_rfl
theorem q155 : Try.f155.results.toList.mapM (compRes Try.prog) = some r155 := by kernel_rfl
/-- bakelite/bit.Add -/
def v157 : List (Nat × List Nat) := [(0, [0, 1, 2, 3]), (1, [0, 1, 2, 3]), (2, [3, 10]), (3, [8, 9])]
def r157 : List AR := [.t 8, .t 9]
def c157x0 : AC := .seq (.dreg [
  ⟨(some 23), .mv (.t 10), none⟩,
  ⟨(some 24), .mv (.t 3), none⟩,
  ⟨(some 25), .call 35 [(.t 23), (.t 24)], none⟩,
  ⟨(some 26), .mv (.t 10), none⟩,
  ⟨(some 27), .mv (.t 3), none⟩,
  ⟨(some 28), .bin .shr (.t 26) (.t 27), none⟩,
  ⟨(some 8), .mv (.t 25), none⟩,
  ⟨(some 9), .mv (.t 28), none⟩] [[], [], [0, 1], [], [], [3, 4], [0, 1, 2], [0, 1, 2, 3, 4, 5, 6]] [8, 9]) (.ret)
def c157x1 : AC := .seq (.reg [
  ⟨(some 13), .mv (.t 0), none⟩,
  ⟨(some 14), .mv (.t 3), none⟩,
  ⟨(some 15), .call 35 [(.t 13), (.t 14)], none⟩,
  ⟨(some 16), .mv (.t 1), none⟩,
  ⟨(some 17), .mv (.t 3), none⟩,
  ⟨(some 18), .call 35 [(.t 16), (.t 17)], none⟩,
  ⟨(some 19), .bin .add (.t 15) (.t 18), none⟩,
  ⟨(some 20), .mv (.t 2), none⟩,
  ⟨(some 21), .bin .and (.t 20) (.k (.int .i64 1)), none⟩,
  ⟨(some 22), .bin .add (.t 19) (.t 21), none⟩,
  ⟨(some 10), .mv (.t 22), none⟩] [3, 10]) (c157x0)
def c157x2 : AC := .seq (.reg [
  ⟨(some 11), .mv (.t 3), none⟩,
  ⟨(some 12), .call 92 [(.t 11)], none⟩,
  ⟨(some 3), .mv (.t 12), none⟩] [0, 1, 2, 3]) (c157x1)
def c157 : AC := .seq (.reg [
  ⟨(some 8), .mv (.k (.int .i64 0)), none⟩,
  ⟨(some 9), .mv (.k (.int .i64 0)), none⟩] [0, 1, 2, 3]) (c157x2)
theorem k157 : Try.f157.body.bind (compC Try.prog Try.f157.ntmps v157) = some c157 := by kernel_rfl
theorem e157 : enters Try.prog 157 = true := by kernel_rfl
theorem q157 : Try.f157.results.toList.mapM (compRes Try.prog) = some r157 := by kernel_rfl
/-- bakelite/bit.Sub -/
def v160 : List (Nat × List Nat) := [(0, [0, 1, 2, 3]), (1, [0, 1, 2, 3]), (2, [3, 10]), (3, [3, 10, 24]), (4, [8, 9]), (5, [8, 9])]
def r160 : List AR := [.t 8, .t 9]
def c160x0 : AC := .seq (.reg [
  ⟨(some 29), .mv (.t 10), none⟩,
  ⟨(some 8), .mv (.t 29), none⟩,
  ⟨(some 9), .mv (.k (.int .i64 0)), none⟩] [8, 9]) (.ret)
def c160x1 : AC := .seq (.reg [
  ⟨(some 25), .mv (.t 10), none⟩,
  ⟨(some 26), .mv (.t 3), none⟩,
  ⟨(some 27), .bin .shl (.k (.int .i64 1)) (.t 26), none⟩,
  ⟨(some 28), .bin .add (.t 25) (.t 27), none⟩,
  ⟨(some 8), .mv (.t 28), none⟩,
  ⟨(some 9), .mv (.k (.int .i64 1)), none⟩] [8, 9]) (.ret)
def c160x2 : AC := .cond (.t 24) (c160x1) (.skip)
def c160x3 : AC := .seq (.reg [
  ⟨(some 23), .mv (.t 10), none⟩,
  ⟨(some 24), .bin .lss (.t 23) (.k (.int .i64 0)), none⟩] [3, 10, 24]) (c160x2)
def c160x4 : AC := .seq (c160x3) (c160x0)
def c160x5 : AC := .seq (.reg [
  ⟨(some 13), .mv (.t 0), none⟩,
  ⟨(some 14), .mv (.t 3), none⟩,
  ⟨(some 15), .call 35 [(.t 13), (.t 14)], none⟩,
  ⟨(some 16), .mv (.t 1), none⟩,
  ⟨(some 17), .mv (.t 3), none⟩,
  ⟨(some 18), .call 35 [(.t 16), (.t 17)], none⟩,
  ⟨(some 19), .bin .sub (.t 15) (.t 18), none⟩,
  ⟨(some 20), .mv (.t 2), none⟩,
  ⟨(some 21), .bin .and (.t 20) (.k (.int .i64 1)), none⟩,
  ⟨(some 22), .bin .sub (.t 19) (.t 21), none⟩,
  ⟨(some 10), .mv (.t 22), none⟩] [3, 10]) (c160x4)
def c160x6 : AC := .seq (.reg [
  ⟨(some 11), .mv (.t 3), none⟩,
  ⟨(some 12), .call 92 [(.t 11)], none⟩,
  ⟨(some 3), .mv (.t 12), none⟩] [0, 1, 2, 3]) (c160x5)
def c160 : AC := .seq (.reg [
  ⟨(some 8), .mv (.k (.int .i64 0)), none⟩,
  ⟨(some 9), .mv (.k (.int .i64 0)), none⟩] [0, 1, 2, 3]) (c160x6)
theorem k160 : Try.f160.body.bind (compC Try.prog Try.f160.ntmps v160) = some c160 := by kernel_rfl
theorem e160 : enters Try.prog 160 = true := by kernel_rfl
theorem q160 : Try.f160.results.toList.mapM (compRes Try.prog) = some r160 := by kernel_rfl
/-- bakelite/bit.Rol -/
def v161 : List (Nat × List Nat) := [(0, [0, 1, 2]), (1, [0, 1, 2]), (2, [0, 2]), (3, [6, 7])]
def r161 : List AR := [.t 6, .t 7]
def c161x0 : AC := .seq (.dreg [
  ⟨(some 17), .mv (.t 0), none⟩,
  ⟨(some 18), .mv (.t 2), none⟩,
  ⟨(some 19), .call 35 [(.t 17), (.t 18)], none⟩,
  ⟨(some 20), .mv (.t 0), none⟩,
  ⟨(some 21), .mv (.t 2), none⟩,
  ⟨(some 22), .bin .shr (.t 20) (.t 21), none⟩,
  ⟨(some 6), .mv (.t 19), none⟩,
  ⟨(some 7), .mv (.t 22), none⟩] [[], [], [0, 1], [], [], [3, 4], [0, 1, 2], [0, 1, 2, 3, 4, 5, 6]] [6, 7]) (.ret)
def c161x1 : AC := .seq (.reg [
  ⟨(some 10), .mv (.t 0), none⟩,
  ⟨(some 11), .mv (.t 2), none⟩,
  ⟨(some 12), .call 35 [(.t 10), (.t 11)], none⟩,
  ⟨(some 13), .bin .shl (.t 12) (.k (.int .u64 1)), none⟩,
  ⟨(some 14), .mv (.t 1), none⟩,
  ⟨(some 15), .bin .and (.t 14) (.k (.int .i64 1)), none⟩,
  ⟨(some 16), .bin .or (.t 13) (.t 15), none⟩,
  ⟨(some 0), .mv (.t 16), none⟩] [0, 2]) (c161x0)
def c161x2 : AC := .seq (.reg [
  ⟨(some 8), .mv (.t 2), none⟩,
  ⟨(some 9), .call 92 [(.t 8)], none⟩,
  ⟨(some 2), .mv (.t 9), none⟩] [0, 1, 2]) (c161x1)
def c161 : AC := .seq (.reg [
  ⟨(some 6), .mv (.k (.int .i64 0)), none⟩,
  ⟨(some 7), .mv (.k (.int .i64 0)), none⟩] [0, 1, 2]) (c161x2)
theorem k161 : Try.f161.body.bind (compC Try.prog Try.f161.ntmps v161) = some c161 := by kernel_rfl
theorem e161 : enters Try.prog 161 = true := by kernel_rfl
theorem q161 : Try.f161.results.toList.mapM (compRes Try.prog) = some r161 := by kernel_rfl
/-- bakelite/bit.Ror -/
def v162 : List (Nat × List Nat) := [(0, [0, 1, 2]), (1, [0, 1, 2]), (2, [0]), (3, [6, 7])]
def r162 : List AR := [.t 6, .t 7]
def c162x0 : AC := .seq (.reg [
  ⟨(some 18), .mv (.t 0), none⟩,
  ⟨(some 19), .bin .shr (.t 18) (.k (.int .u64 1)), none⟩,
  ⟨(some 20), .mv (.t 0), none⟩,
  ⟨(some 21), .bin .and (.t 20) (.k (.int .i64 1)), none⟩,
  ⟨(some 6), .mv (.t 19), none⟩,
  ⟨(some 7), .mv (.t 21), none⟩] [6, 7]) (.ret)
def c162x1 : AC := .seq (.dreg [
  ⟨(some 10), .mv (.t 0), none⟩,
  ⟨(some 11), .mv (.t 2), none⟩,
  ⟨(some 12), .call 35 [(.t 10), (.t 11)], none⟩,
  ⟨(some 13), .mv (.t 1), none⟩,
  ⟨(some 14), .bin .and (.t 13) (.k (.int .i64 1)), none⟩,
  ⟨(some 15), .mv (.t 2), none⟩,
  ⟨(some 16), .bin .shl (.t 14) (.t 15), none⟩,
  ⟨(some 17), .bin .or (.t 12) (.t 16), none⟩,
  ⟨(some 0), .mv (.t 17), none⟩] [[], [], [0, 1], [], [3], [], [3, 4, 5], [0, 1, 2, 3, 4, 5, 6], [0, 1, 2, 3, 4, 5, 6, 7]] [0]) (c162x0)
def c162x2 : AC := .seq (.reg [
  ⟨(some 8), .mv (.t 2), none⟩,
  ⟨(some 9), .call 92 [(.t 8)], none⟩,
  ⟨(some 2), .mv (.t 9), none⟩] [0, 1, 2]) (c162x1)
def c162 : AC := .seq (.reg [
  ⟨(some 6), .mv (.k (.int .i64 0)), none⟩,
  ⟨(some 7), .mv (.k (.int .i64 0)), none⟩] [0, 1, 2]) (c162x2)
theorem k162 : Try.f162.body.bind (compC Try.prog Try.f162.ntmps v162) = some c162 := by kernel_rfl
theorem e162 : enters Try.prog 162 = true := by kernel_rfl
theorem q162 : Try.f162.results.toList.mapM (compRes Try.prog) = some r162 := by kernel_rfl
end Go.Proofs.Ytjmmompbmjhkpaa.Code
