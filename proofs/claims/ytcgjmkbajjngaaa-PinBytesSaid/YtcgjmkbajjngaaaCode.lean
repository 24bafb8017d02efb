/- The code of this seat's functions over abstract values, printed by a program, and that it is what the program's form in Lean turns into. No condition. -/
import Derived.Test.YtcgjmkbajjngaaaProg
import Derived.Test.YtcgjmkbajjngaaaCalcJ
import Derived.KernelRfl
namespace Go.Proofs.Ytcgjmkbajjngaaa.Code
open Go Go.Proofs.Ytcgjmkbajjngaaa.Calc
set_option maxRecDepth 100000
/-- bakelite/bakekeep1.BitPlaces -/
def v3 : List Nat := [0, 1, 2, 3, 8, 9]
def r3 : List AR := [.t 8]
def c3 : AC :=
  .seq (.reg [
     ⟨(some 8), .mv (.k (.bool false)), none⟩] [0, 1, 2, 3, 8, 9]) (
  .seq (.reg [
     ⟨(some 10), .mv (.t 1), none⟩,
     ⟨(some 11), .call 15 [(.t 10), (.k (.int .i64 50))], none⟩,
     ⟨(some 1), .mv (.t 11), none⟩] [0, 1, 2, 3, 8, 9]) (
  .seq (.reg [
     ⟨(some 12), .mv (.t 2), none⟩,
     ⟨(some 13), .call 15 [(.t 12), (.k (.int .i64 12))], none⟩,
     ⟨(some 2), .mv (.t 13), none⟩] [0, 1, 2, 3, 8, 9]) (
  .seq (.reg [
     ⟨(some 14), .mv (.t 0), none⟩,
     ⟨(some 15), .mv (.t 1), none⟩,
     ⟨(some 16), .mv (.t 2), none⟩,
     ⟨(some 17), .mv (.t 3), none⟩,
     ⟨(some 18), .call 16 [(.t 14), (.t 15), (.t 16), (.t 17)], none⟩,
     ⟨(some 9), .mv (.t 18), none⟩] [0, 1, 2, 3, 8, 9]) (
  .seq (.reg [
     ⟨(some 19), .call 17 [], none⟩,
     ⟨(some 20), .mv (.t 19), none⟩,
     ⟨(some 21), .mv (.t 9), (some (20, true))⟩,
     ⟨(some 22), .mv (.t 1), (some (20, true))⟩,
     ⟨(some 23), .mv (.t 2), (some (20, true))⟩,
     ⟨(some 24), .call 18 [(.t 21), (.t 22), (.t 23)], (some (20, true))⟩,
     ⟨(some 25), .mv (.t 3), (some (20, true))⟩,
     ⟨(some 26), .mv (.t 2), (some (20, true))⟩,
     ⟨(some 27), .call 19 [(.t 25), (.t 26)], (some (20, true))⟩,
     ⟨(some 28), .bin .eql (.t 24) (.t 27), (some (20, true))⟩,
     ⟨(some 29), .pick (.t 20) (.t 28) (.k (.bool false)), none⟩,
     ⟨(some 30), .mv (.t 29), none⟩,
     ⟨(some 31), .mv (.t 9), (some (30, true))⟩,
     ⟨(some 32), .mv (.t 1), (some (30, true))⟩,
     ⟨(some 33), .call 18 [(.t 31), (.k (.int .i64 0)), (.t 32)], (some (30, true))⟩,
     ⟨(some 34), .mv (.t 0), (some (30, true))⟩,
     ⟨(some 35), .mv (.t 1), (some (30, true))⟩,
     ⟨(some 36), .call 18 [(.t 34), (.k (.int .i64 0)), (.t 35)], (some (30, true))⟩,
     ⟨(some 37), .bin .eql (.t 33) (.t 36), (some (30, true))⟩,
     ⟨(some 38), .pick (.t 30) (.t 37) (.k (.bool false)), none⟩,
     ⟨(some 39), .mv (.t 38), none⟩,
     ⟨(some 40), .mv (.t 9), (some (39, true))⟩,
     ⟨(some 41), .mv (.t 1), (some (39, true))⟩,
     ⟨(some 42), .mv (.t 2), (some (39, true))⟩,
     ⟨(some 43), .bin .add (.t 41) (.t 42), (some (39, true))⟩,
     ⟨(some 44), .call 18 [(.t 40), (.t 43), (.k (.int .i64 62))], (some (39, true))⟩,
     ⟨(some 45), .mv (.t 0), (some (39, true))⟩,
     ⟨(some 46), .mv (.t 1), (some (39, true))⟩,
     ⟨(some 47), .mv (.t 2), (some (39, true))⟩,
     ⟨(some 48), .bin .add (.t 46) (.t 47), (some (39, true))⟩,
     ⟨(some 49), .call 18 [(.t 45), (.t 48), (.k (.int .i64 62))], (some (39, true))⟩,
     ⟨(some 50), .bin .eql (.t 44) (.t 49), (some (39, true))⟩,
     ⟨(some 51), .pick (.t 39) (.t 50) (.k (.bool false)), none⟩,
     ⟨(some 8), .mv (.t 51), none⟩] [0, 1, 2, 3, 8, 9]) (
  .ret)))))
theorem k3 : Try.f3.body.bind (compC Try.prog Try.f3.ntmps v3) = some c3 := by kernel_rfl
theorem e3 : enters Try.prog 3 = true := by kernel_rfl
theorem q3 : Try.f3.results.toList.mapM (compRes Try.prog) = some r3 := by kernel_rfl
/-- bakelite/bakekeep1.BitBack -/
def v4 : List Nat := [0, 1, 2, 6, 7, 8, 9, 10]
def r4 : List AR := [.t 6]
def c4 : AC :=
  .seq (.reg [
     ⟨(some 6), .mv (.k (.bool false)), none⟩] [0, 1, 2, 6, 7, 8, 9, 10]) (
  .seq (.reg [
     ⟨(some 11), .mv (.t 2), none⟩,
     ⟨(some 12), .call 15 [(.t 11), (.k (.int .i64 63))], none⟩,
     ⟨(some 2), .mv (.t 12), none⟩] [0, 1, 2, 6, 7, 8, 9, 10]) (
  .seq (.reg [
     ⟨(some 14), .mv (.t 0), none⟩,
     ⟨(some 15), .mv (.t 1), none⟩,
     ⟨(some 16), .mv (.t 2), none⟩,
     ⟨(some 17), .call 20 [(.t 14), (.t 15), (.k (.int .i64 0)), (.t 16)], none⟩,
     ⟨(some 13), .mv (.t 17), none⟩,
     ⟨(some 18), .ext (.t 13) 0, none⟩,
     ⟨(some 19), .ext (.t 13) 1, none⟩,
     ⟨(some 7), .mv (.t 18), none⟩,
     ⟨(some 8), .mv (.t 19), none⟩] [0, 1, 2, 6, 7, 8, 9, 10]) (
  .seq (.reg [
     ⟨(some 21), .mv (.t 7), none⟩,
     ⟨(some 22), .mv (.t 1), none⟩,
     ⟨(some 23), .mv (.t 2), none⟩,
     ⟨(some 24), .call 21 [(.t 21), (.t 22), (.k (.int .i64 0)), (.t 23)], none⟩,
     ⟨(some 20), .mv (.t 24), none⟩,
     ⟨(some 25), .ext (.t 20) 0, none⟩,
     ⟨(some 26), .ext (.t 20) 1, none⟩,
     ⟨(some 9), .mv (.t 25), none⟩,
     ⟨(some 10), .mv (.t 26), none⟩] [0, 1, 2, 6, 7, 8, 9, 10]) (
  .seq (.reg [
     ⟨(some 27), .call 17 [], none⟩,
     ⟨(some 28), .mv (.t 27), none⟩,
     ⟨(some 29), .mv (.t 9), (some (28, true))⟩,
     ⟨(some 30), .mv (.t 0), (some (28, true))⟩,
     ⟨(some 31), .mv (.t 2), (some (28, true))⟩,
     ⟨(some 32), .call 19 [(.t 30), (.t 31)], (some (28, true))⟩,
     ⟨(some 33), .bin .eql (.t 29) (.t 32), (some (28, true))⟩,
     ⟨(some 34), .pick (.t 28) (.t 33) (.k (.bool false)), none⟩,
     ⟨(some 35), .mv (.t 34), none⟩,
     ⟨(some 36), .mv (.t 8), (some (35, true))⟩,
     ⟨(some 37), .mv (.t 10), (some (35, true))⟩,
     ⟨(some 38), .bin .eql (.t 36) (.t 37), (some (35, true))⟩,
     ⟨(some 39), .pick (.t 35) (.t 38) (.k (.bool false)), none⟩,
     ⟨(some 40), .mv (.t 39), none⟩,
     ⟨(some 41), .mv (.t 0), (some (40, true))⟩,
     ⟨(some 42), .mv (.t 2), (some (40, true))⟩,
     ⟨(some 43), .call 22 [(.t 41), (.t 42)], (some (40, true))⟩,
     ⟨(some 44), .mv (.t 2), (some (40, true))⟩,
     ⟨(some 45), .call 19 [(.t 43), (.t 44)], (some (40, true))⟩,
     ⟨(some 46), .mv (.t 0), (some (40, true))⟩,
     ⟨(some 47), .mv (.t 2), (some (40, true))⟩,
     ⟨(some 48), .call 19 [(.t 46), (.t 47)], (some (40, true))⟩,
     ⟨(some 49), .bin .eql (.t 45) (.t 48), (some (40, true))⟩,
     ⟨(some 50), .pick (.t 40) (.t 49) (.k (.bool false)), none⟩,
     ⟨(some 6), .mv (.t 50), none⟩] [0, 1, 2, 6, 7, 8, 9, 10]) (
  .ret)))))
theorem k4 : Try.f4.body.bind (compC Try.prog Try.f4.ntmps v4) = some c4 := by kernel_rfl
theorem e4 : enters Try.prog 4 = true := by kernel_rfl
theorem q4 : Try.f4.results.toList.mapM (compRes Try.prog) = some r4 := by kernel_rfl
/-- bakelite/bakekeep1.BitTurns -/
def v5 : List Nat := [0, 1, 2, 6, 7, 8, 9, 10]
def r5 : List AR := [.t 6]
def c5 : AC :=
  .seq (.reg [
     ⟨(some 6), .mv (.k (.bool false)), none⟩] [0, 1, 2, 6, 7, 8, 9, 10]) (
  .seq (.reg [
     ⟨(some 11), .mv (.t 2), none⟩,
     ⟨(some 12), .call 15 [(.t 11), (.k (.int .i64 63))], none⟩,
     ⟨(some 2), .mv (.t 12), none⟩] [0, 1, 2, 6, 7, 8, 9, 10]) (
  .seq (.reg [
     ⟨(some 14), .mv (.t 0), none⟩,
     ⟨(some 15), .mv (.t 1), none⟩,
     ⟨(some 16), .mv (.t 2), none⟩,
     ⟨(some 17), .call 23 [(.t 14), (.t 15), (.t 16)], none⟩,
     ⟨(some 13), .mv (.t 17), none⟩,
     ⟨(some 18), .ext (.t 13) 0, none⟩,
     ⟨(some 19), .ext (.t 13) 1, none⟩,
     ⟨(some 7), .mv (.t 18), none⟩,
     ⟨(some 8), .mv (.t 19), none⟩] [0, 1, 2, 6, 7, 8, 9, 10]) (
  .seq (.reg [
     ⟨(some 21), .mv (.t 7), none⟩,
     ⟨(some 22), .mv (.t 8), none⟩,
     ⟨(some 23), .mv (.t 2), none⟩,
     ⟨(some 24), .call 24 [(.t 21), (.t 22), (.t 23)], none⟩,
     ⟨(some 20), .mv (.t 24), none⟩,
     ⟨(some 25), .ext (.t 20) 0, none⟩,
     ⟨(some 26), .ext (.t 20) 1, none⟩,
     ⟨(some 9), .mv (.t 25), none⟩,
     ⟨(some 10), .mv (.t 26), none⟩] [0, 1, 2, 6, 7, 8, 9, 10]) (
  .seq (.reg [
     ⟨(some 27), .call 17 [], none⟩,
     ⟨(some 28), .mv (.t 27), none⟩,
     ⟨(some 29), .mv (.t 0), (some (28, true))⟩,
     ⟨(some 30), .mv (.t 2), (some (28, true))⟩,
     ⟨(some 31), .call 25 [(.t 29), (.t 30)], (some (28, true))⟩,
     ⟨(some 32), .mv (.t 2), (some (28, true))⟩,
     ⟨(some 33), .call 25 [(.t 31), (.t 32)], (some (28, true))⟩,
     ⟨(some 34), .mv (.t 0), (some (28, true))⟩,
     ⟨(some 35), .mv (.t 2), (some (28, true))⟩,
     ⟨(some 36), .call 19 [(.t 34), (.t 35)], (some (28, true))⟩,
     ⟨(some 37), .bin .eql (.t 33) (.t 36), (some (28, true))⟩,
     ⟨(some 38), .pick (.t 28) (.t 37) (.k (.bool false)), none⟩,
     ⟨(some 39), .mv (.t 38), none⟩,
     ⟨(some 40), .mv (.t 9), (some (39, true))⟩,
     ⟨(some 41), .mv (.t 0), (some (39, true))⟩,
     ⟨(some 42), .mv (.t 2), (some (39, true))⟩,
     ⟨(some 43), .call 19 [(.t 41), (.t 42)], (some (39, true))⟩,
     ⟨(some 44), .bin .eql (.t 40) (.t 43), (some (39, true))⟩,
     ⟨(some 45), .pick (.t 39) (.t 44) (.k (.bool false)), none⟩,
     ⟨(some 46), .mv (.t 45), none⟩,
     ⟨(some 47), .mv (.t 10), (some (46, true))⟩,
     ⟨(some 48), .mv (.t 1), (some (46, true))⟩,
     ⟨(some 49), .bin .and (.t 48) (.k (.int .i64 1)), (some (46, true))⟩,
     ⟨(some 50), .bin .eql (.t 47) (.t 49), (some (46, true))⟩,
     ⟨(some 51), .pick (.t 46) (.t 50) (.k (.bool false)), none⟩,
     ⟨(some 52), .mv (.t 51), none⟩,
     ⟨(some 53), .mv (.t 0), (some (52, true))⟩,
     ⟨(some 54), .mv (.t 2), (some (52, true))⟩,
     ⟨(some 55), .call 25 [(.t 53), (.t 54)], (some (52, true))⟩,
     ⟨(some 56), .call 26 [(.t 55)], (some (52, true))⟩,
     ⟨(some 57), .mv (.t 0), (some (52, true))⟩,
     ⟨(some 58), .mv (.t 2), (some (52, true))⟩,
     ⟨(some 59), .call 19 [(.t 57), (.t 58)], (some (52, true))⟩,
     ⟨(some 60), .call 26 [(.t 59)], (some (52, true))⟩,
     ⟨(some 61), .bin .eql (.t 56) (.t 60), (some (52, true))⟩,
     ⟨(some 62), .pick (.t 52) (.t 61) (.k (.bool false)), none⟩,
     ⟨(some 6), .mv (.t 62), none⟩] [0, 1, 2, 6, 7, 8, 9, 10]) (
  .ret)))))
theorem k5 : Try.f5.body.bind (compC Try.prog Try.f5.ntmps v5) = some c5 := by kernel_rfl
theorem e5 : enters Try.prog 5 = true := by kernel_rfl
theorem q5 : Try.f5.results.toList.mapM (compRes Try.prog) = some r5 := by kernel_rfl
/-- bakelite/bakekeep1.BitDecimals -/
def v6 : List Nat := [0, 2, 3, 4, 5, 6, 8]
def r6 : List AR := [.t 2]
def c6 : AC :=
  .seq (.reg [
     ⟨(some 2), .mv (.k (.bool false)), none⟩] [0, 2, 3, 4, 5, 6, 8]) (
  .seq (.reg [
     ⟨(some 9), .mv (.t 0), none⟩,
     ⟨(some 10), .call 15 [(.t 9), (.k (.int .i64 1000000))], none⟩,
     ⟨(some 0), .mv (.t 10), none⟩] [0, 2, 3, 4, 5, 6, 8]) (
  .seq (.reg [
     ⟨(some 12), .mv (.t 0), none⟩,
     ⟨(some 13), .call 27 [(.t 12), (.k (.int .i64 6))], none⟩,
     ⟨(some 11), .mv (.t 13), none⟩,
     ⟨(some 14), .ext (.t 11) 0, none⟩,
     ⟨(some 15), .ext (.t 11) 1, none⟩,
     ⟨(some 3), .mv (.t 14), none⟩,
     ⟨(some 4), .mv (.t 15), none⟩] [0, 2, 3, 4, 5, 6, 8]) (
  .seq (.reg [
     ⟨(some 17), .mv (.t 3), none⟩,
     ⟨(some 18), .call 28 [(.t 17), (.k (.int .i64 6))], none⟩,
     ⟨(some 16), .mv (.t 18), none⟩,
     ⟨(some 19), .ext (.t 16) 0, none⟩,
     ⟨(some 20), .ext (.t 16) 1, none⟩,
     ⟨(some 5), .mv (.t 19), none⟩,
     ⟨(some 6), .mv (.t 20), none⟩] [0, 2, 3, 4, 5, 6, 8]) (
  .seq (.reg [
     ⟨(some 22), .mv (.t 0), none⟩,
     ⟨(some 23), .call 27 [(.t 22), (.k (.int .i64 3))], none⟩,
     ⟨(some 21), .mv (.t 23), none⟩,
     ⟨(some 24), .ext (.t 21) 0, none⟩,
     ⟨(some 25), .ext (.t 21) 1, none⟩,
     ⟨(some 7), .mv (.t 24), none⟩,
     ⟨(some 8), .mv (.t 25), none⟩] [0, 2, 3, 4, 5, 6, 8]) (
  .seq (.reg [
     ⟨(some 26), .call 17 [], none⟩,
     ⟨(some 27), .mv (.t 26), none⟩,
     ⟨(some 28), .mv (.t 4), (some (27, true))⟩,
     ⟨(some 29), .pick (.t 27) (.t 28) (.k (.bool false)), none⟩,
     ⟨(some 30), .mv (.t 29), none⟩,
     ⟨(some 31), .mv (.t 6), (some (30, true))⟩,
     ⟨(some 32), .pick (.t 30) (.t 31) (.k (.bool false)), none⟩,
     ⟨(some 33), .mv (.t 32), none⟩,
     ⟨(some 34), .mv (.t 5), (some (33, true))⟩,
     ⟨(some 35), .mv (.t 0), (some (33, true))⟩,
     ⟨(some 36), .bin .eql (.t 34) (.t 35), (some (33, true))⟩,
     ⟨(some 37), .pick (.t 33) (.t 36) (.k (.bool false)), none⟩,
     ⟨(some 38), .mv (.t 37), none⟩,
     ⟨(some 39), .mv (.t 8), (some (38, true))⟩,
     ⟨(some 40), .mv (.t 0), (some (38, true))⟩,
     ⟨(some 41), .bin .lss (.t 40) (.k (.int .i64 1000)), (some (38, true))⟩,
     ⟨(some 42), .eqb false (.t 39) (.t 41), (some (38, true))⟩,
     ⟨(some 43), .pick (.t 38) (.t 42) (.k (.bool false)), none⟩,
     ⟨(some 2), .mv (.t 43), none⟩] [0, 2, 3, 4, 5, 6, 8]) (
  .ret))))))
theorem k6 : Try.f6.body.bind (compC Try.prog Try.f6.ntmps v6) = some c6 := by kernel_rfl
theorem e6 : enters Try.prog 6 = true := by kernel_rfl
theorem q6 : Try.f6.results.toList.mapM (compRes Try.prog) = some r6 := by kernel_rfl
/-- bakelite/bakekeep1.SerialHears -/
def v7 : List Nat := [0, 1, 4, 5, 6, 7, 8, 10]
def r7 : List AR := [.t 4]
def c7 : AC :=
  .seq (.reg [
     ⟨(some 4), .mv (.k (.bool false)), none⟩] [0, 1, 4, 5, 6, 7, 8, 10]) (
  .seq (.reg [
     ⟨(some 11), .call 30 [], none⟩,
     ⟨(some 12), .mv (.t 0), none⟩,
     ⟨(some 13), .call 29 [(.t 11), (.t 12)], none⟩,
     ⟨(some 14), .mv (.t 1), none⟩,
     ⟨(some 15), .call 29 [(.t 13), (.t 14)], none⟩,
     ⟨(some 5), .zero [(.slice none 0 0), (.slice none 0 0)], none⟩,
     ⟨none, .st 2 (.t 5) (.t 15), none⟩] [0, 1, 4, 5, 6, 7, 8, 10]) (
  .seq (.reg [
     ⟨(some 17), .ld (some 2) (.t 5), none⟩,
     ⟨(some 18), .call 31 [(.t 17), (.k (.int .i64 1))], none⟩,
     ⟨(some 16), .mv (.t 18), none⟩,
     ⟨(some 19), .ext (.t 16) 0, none⟩,
     ⟨(some 20), .ext (.t 16) 1, none⟩,
     ⟨none, .st 2 (.t 5) (.t 19), none⟩,
     ⟨(some 6), .mv (.t 20), none⟩] [0, 1, 4, 5, 6, 7, 8, 10]) (
  .seq (.reg [
     ⟨(some 22), .ld (some 2) (.t 5), none⟩,
     ⟨(some 23), .call 31 [(.t 22), (.k (.int .i64 1))], none⟩,
     ⟨(some 21), .mv (.t 23), none⟩,
     ⟨(some 24), .ext (.t 21) 0, none⟩,
     ⟨(some 25), .ext (.t 21) 1, none⟩,
     ⟨none, .st 2 (.t 5) (.t 24), none⟩,
     ⟨(some 7), .mv (.t 25), none⟩] [0, 1, 4, 5, 6, 7, 8, 10]) (
  .seq (.reg [
     ⟨(some 27), .ld (some 2) (.t 5), none⟩,
     ⟨(some 28), .call 31 [(.t 27), (.k (.int .i64 0))], none⟩,
     ⟨(some 26), .mv (.t 28), none⟩,
     ⟨(some 29), .ext (.t 26) 0, none⟩,
     ⟨(some 30), .ext (.t 26) 1, none⟩,
     ⟨none, .st 2 (.t 5) (.t 29), none⟩,
     ⟨(some 8), .mv (.t 30), none⟩] [0, 1, 4, 5, 6, 7, 8, 10]) (
  .seq (.reg [
     ⟨(some 32), .ld (some 2) (.t 5), none⟩,
     ⟨(some 33), .call 31 [(.t 32), (.k (.int .i64 1))], none⟩,
     ⟨(some 31), .mv (.t 33), none⟩,
     ⟨(some 34), .ext (.t 31) 0, none⟩,
     ⟨(some 35), .ext (.t 31) 1, none⟩,
     ⟨(some 9), .zero [(.slice none 0 0), (.slice none 0 0)], none⟩,
     ⟨none, .st 2 (.t 9) (.t 34), none⟩,
     ⟨(some 10), .mv (.t 35), none⟩] [0, 1, 4, 5, 6, 7, 8, 10]) (
  .seq (.reg [
     ⟨(some 36), .call 32 [], none⟩,
     ⟨(some 37), .mv (.t 36), none⟩,
     ⟨(some 38), .mv (.t 6), (some (37, true))⟩,
     ⟨(some 39), .bin .eql (.t 38) (.k (.int .i64 5)), (some (37, true))⟩,
     ⟨(some 40), .pick (.t 37) (.t 39) (.k (.bool false)), none⟩,
     ⟨(some 41), .mv (.t 40), none⟩,
     ⟨(some 42), .mv (.t 7), (some (41, true))⟩,
     ⟨(some 43), .bin .eql (.t 42) (.k (.int .i64 1)), (some (41, true))⟩,
     ⟨(some 44), .pick (.t 41) (.t 43) (.k (.bool false)), none⟩,
     ⟨(some 45), .mv (.t 44), none⟩,
     ⟨(some 46), .mv (.t 8), (some (45, true))⟩,
     ⟨(some 47), .mv (.t 0), (some (45, true))⟩,
     ⟨(some 48), .call 19 [(.t 47), (.k (.int .i64 8))], (some (45, true))⟩,
     ⟨(some 49), .bin .eql (.t 46) (.t 48), (some (45, true))⟩,
     ⟨(some 50), .pick (.t 45) (.t 49) (.k (.bool false)), none⟩,
     ⟨(some 51), .mv (.t 50), none⟩,
     ⟨(some 52), .mv (.t 10), (some (51, true))⟩,
     ⟨(some 53), .bin .eql (.t 52) (.k (.int .i64 0)), (some (51, true))⟩,
     ⟨(some 54), .pick (.t 51) (.t 53) (.k (.bool false)), none⟩,
     ⟨(some 4), .mv (.t 54), none⟩] [0, 1, 4, 5, 6, 7, 8, 10]) (
  .ret)))))))
theorem k7 : Try.f7.body.bind (compC Try.prog Try.f7.ntmps v7) = some c7 := by kernel_rfl
theorem e7 : enters Try.prog 7 = true := by kernel_rfl
theorem q7 : Try.f7.results.toList.mapM (compRes Try.prog) = some r7 := by kernel_rfl
/-- bakelite/bakekeep1.PinBytes -/
def v8 : List Nat := [0, 1, 4, 5, 6, 7, 8, 9, 10, 11]
def r8 : List AR := [.t 4]
def c8 : AC :=
  .seq (.reg [
     ⟨(some 4), .mv (.k (.bool false)), none⟩] [0, 1, 4, 5, 6, 7, 8, 9, 10, 11]) (
  .seq (.reg [
     ⟨(some 13), .mv (.t 0), none⟩,
     ⟨(some 14), .call 19 [(.t 13), (.k (.int .i64 8))], none⟩,
     ⟨(some 15), .mv (.t 1), none⟩,
     ⟨(some 16), .call 19 [(.t 15), (.k (.int .i64 8))], none⟩,
     ⟨(some 5), .mv (.t 14), none⟩,
     ⟨(some 6), .mv (.t 16), none⟩] [0, 1, 4, 5, 6, 7, 8, 9, 10, 11]) (
  .seq (.reg [
     ⟨(some 18), .mv (.t 0), none⟩,
     ⟨(some 19), .call 34 [(.t 18)], none⟩,
     ⟨(some 20), .mv (.t 1), none⟩,
     ⟨(some 21), .call 34 [(.t 20)], none⟩,
     ⟨(some 22), .bsl [(.int .i64 0), (.int .i64 0), (.int .i64 0), (.int .i64 0), (.int .i64 0), (.int .i64 0), (.int .i64 0), (.int .i64 0)] 2 [(0, (.t 19)), (1, (.t 21))], none⟩,
     ⟨(some 23), .call 33 [(.t 22)], none⟩,
     ⟨(some 17), .mv (.t 23), none⟩,
     ⟨(some 24), .ext (.t 17) 0, none⟩,
     ⟨(some 25), .ext (.t 17) 1, none⟩,
     ⟨(some 26), .ext (.t 17) 2, none⟩,
     ⟨(some 7), .mv (.t 24), none⟩,
     ⟨(some 8), .mv (.t 25), none⟩,
     ⟨(some 9), .mv (.t 26), none⟩] [0, 1, 4, 5, 6, 7, 8, 9, 10, 11]) (
  .seq (.reg [
     ⟨(some 28), .call 33 [(.k (.slice none 0 0))], none⟩,
     ⟨(some 27), .mv (.t 28), none⟩,
     ⟨(some 29), .ext (.t 27) 0, none⟩,
     ⟨(some 30), .ext (.t 27) 1, none⟩,
     ⟨(some 31), .ext (.t 27) 2, none⟩,
     ⟨(some 10), .mv (.t 29), none⟩,
     ⟨(some 11), .mv (.t 30), none⟩,
     ⟨(some 12), .mv (.t 31), none⟩] [0, 1, 4, 5, 6, 7, 8, 9, 10, 11]) (
  .seq (.reg [
     ⟨(some 32), .call 35 [], none⟩,
     ⟨(some 33), .mv (.t 32), none⟩,
     ⟨(some 34), .mv (.t 8), (some (33, true))⟩,
     ⟨(some 35), .bin .eql (.t 34) (.k (.int .i64 0)), (some (33, true))⟩,
     ⟨(some 36), .pick (.t 33) (.t 35) (.k (.bool false)), none⟩,
     ⟨(some 37), .mv (.t 36), none⟩,
     ⟨(some 38), .mv (.t 9), (some (37, true))⟩,
     ⟨(some 39), .mv (.t 5), (some (37, true))⟩,
     ⟨(some 40), .mv (.t 6), (some (37, true))⟩,
     ⟨(some 41), .bin .xor (.t 39) (.t 40), (some (37, true))⟩,
     ⟨(some 42), .bin .eql (.t 38) (.t 41), (some (37, true))⟩,
     ⟨(some 43), .pick (.t 37) (.t 42) (.k (.bool false)), none⟩,
     ⟨(some 44), .mv (.t 43), none⟩,
     ⟨(some 45), .mv (.t 7), (some (44, true))⟩,
     ⟨(some 46), .mv (.t 5), (some (44, true))⟩,
     ⟨(some 47), .mv (.t 6), (some (44, true))⟩,
     ⟨(some 48), .bin .or (.t 46) (.t 47), (some (44, true))⟩,
     ⟨(some 49), .bin .eql (.t 45) (.t 48), (some (44, true))⟩,
     ⟨(some 50), .pick (.t 44) (.t 49) (.k (.bool false)), none⟩,
     ⟨(some 51), .mv (.t 50), none⟩,
     ⟨(some 52), .mv (.t 10), (some (51, true))⟩,
     ⟨(some 53), .bin .eql (.t 52) (.k (.int .i64 255)), (some (51, true))⟩,
     ⟨(some 54), .pick (.t 51) (.t 53) (.k (.bool false)), none⟩,
     ⟨(some 55), .mv (.t 54), none⟩,
     ⟨(some 56), .mv (.t 11), (some (55, true))⟩,
     ⟨(some 57), .bin .eql (.t 56) (.k (.int .i64 255)), (some (55, true))⟩,
     ⟨(some 58), .pick (.t 55) (.t 57) (.k (.bool false)), none⟩,
     ⟨(some 4), .mv (.t 58), none⟩] [0, 1, 4, 5, 6, 7, 8, 9, 10, 11]) (
  .ret)))))
theorem k8 : Try.f8.body.bind (compC Try.prog Try.f8.ntmps v8) = some c8 := by kernel_rfl
theorem e8 : enters Try.prog 8 = true := by kernel_rfl
theorem q8 : Try.f8.results.toList.mapM (compRes Try.prog) = some r8 := by kernel_rfl
/-- bakelite/bakekeep1.PortMask -/
def v9 : List Nat := [0, 1, 2, 6, 7, 9, 10, 11, 12, 13, 28, 29, 37, 53]
def r9 : List AR := [.t 6]
def c9 : AC :=
  .seq (.reg [
     ⟨(some 6), .mv (.k (.bool false)), none⟩] [0, 1, 2, 6, 7, 9, 10, 11, 12, 13, 28, 29, 37, 53]) (
  .seq (.reg [
     ⟨(some 14), .call 38 [], none⟩,
     ⟨(some 15), .mv (.t 1), none⟩,
     ⟨(some 16), .call 37 [(.t 14), (.k (.int .i64 0)), (.t 15)], none⟩,
     ⟨(some 17), .mv (.t 2), none⟩,
     ⟨(some 18), .call 37 [(.t 16), (.k (.int .i64 1)), (.t 17)], none⟩,
     ⟨(some 19), .mv (.t 0), none⟩,
     ⟨(some 20), .call 36 [(.t 18), (.t 19)], none⟩,
     ⟨(some 7), .zero [(.slice none 0 0), (.slice none 0 0)], none⟩,
     ⟨none, .st 2 (.t 7) (.t 20), none⟩] [0, 1, 2, 6, 7, 9, 10, 11, 12, 13, 28, 29, 37, 53]) (
  .seq (.reg [
     ⟨(some 22), .ld (some 2) (.t 7), none⟩,
     ⟨(some 23), .call 39 [(.t 22), (.k (.int .i64 0))], none⟩,
     ⟨(some 21), .mv (.t 23), none⟩,
     ⟨(some 24), .ext (.t 21) 0, none⟩,
     ⟨(some 25), .ext (.t 21) 1, none⟩,
     ⟨(some 8), .zero [(.slice none 0 0), (.slice none 0 0)], none⟩,
     ⟨none, .st 2 (.t 8) (.t 24), none⟩,
     ⟨(some 9), .mv (.t 25), none⟩] [0, 1, 2, 6, 7, 9, 10, 11, 12, 13, 28, 29, 37, 53]) (
  .seq (.reg [
     ⟨(some 26), .ld (some 2) (.t 7), none⟩,
     ⟨(some 27), .call 40 [(.t 26)], none⟩,
     ⟨(some 10), .mv (.t 27), none⟩] [0, 1, 2, 6, 7, 9, 10, 11, 12, 13, 28, 29, 37, 53]) (
  .seq (.seq (.reg [
      ⟨(some 28), .mv (.k (.int .i64 0)), none⟩] [0, 1, 2, 6, 7, 9, 10, 11, 12, 13, 28, 29, 37, 53]) (
   .block 0 (.loop (.seq (.reg [
          ⟨(some 29), .bin .lss (.t 28) (.k (.int .i64 8)), none⟩] [0, 1, 2, 6, 7, 9, 10, 11, 12, 13, 28, 29, 37, 53]) (
       .seq (.cond (.t 29) (.skip) (
        .exit 0)) (
       .seq (.block 1 (.seq (.reg [
             ⟨(some 30), .mv (.t 28), none⟩,
             ⟨(some 11), .mv (.t 30), none⟩] [0, 1, 2, 6, 7, 9, 10, 11, 12, 13, 28, 29, 37, 53]) (
          .seq (.reg [
             ⟨(some 31), .mv (.t 0), none⟩,
             ⟨(some 32), .mv (.t 11), none⟩,
             ⟨(some 33), .call 18 [(.t 31), (.t 32), (.k (.int .i64 1))], none⟩,
             ⟨(some 12), .mv (.t 33), none⟩,
             ⟨(some 13), .mv (.k (.int .i64 0)), none⟩] [0, 1, 2, 6, 7, 9, 10, 11, 12, 13, 28, 29, 37, 53]) (
          .seq (.seq (.reg [
              ⟨(some 34), .mv (.t 2), none⟩,
              ⟨(some 35), .mv (.t 11), none⟩,
              ⟨(some 36), .call 18 [(.t 34), (.t 35), (.k (.int .i64 1))], none⟩,
              ⟨(some 37), .bin .eql (.t 36) (.k (.int .i64 1)), none⟩] [0, 1, 2, 6, 7, 9, 10, 11, 12, 13, 28, 29, 37, 53]) (
           .cond (.t 37) (.seq (.reg [
                ⟨(some 38), .mv (.t 1), none⟩,
                ⟨(some 39), .mv (.t 11), none⟩,
                ⟨(some 40), .call 18 [(.t 38), (.t 39), (.k (.int .i64 1))], none⟩,
                ⟨(some 12), .mv (.t 40), none⟩] [0, 1, 2, 6, 7, 9, 10, 11, 12, 13, 28, 29, 37, 53]) (
             .reg [
               ⟨(some 41), .mv (.t 12), none⟩,
               ⟨(some 13), .mv (.t 41), none⟩] [0, 1, 2, 6, 7, 9, 10, 11, 12, 13, 28, 29, 37, 53])) (
           .skip))) (
          .seq (.reg [
             ⟨(some 42), .mv (.t 9), none⟩,
             ⟨(some 43), .mv (.t 11), none⟩,
             ⟨(some 44), .call 18 [(.t 42), (.t 43), (.k (.int .i64 1))], none⟩,
             ⟨(some 45), .mv (.t 12), none⟩,
             ⟨(some 46), .bin .neq (.t 44) (.t 45), none⟩,
             ⟨(some 47), .mv (.t 46), none⟩,
             ⟨(some 48), .mv (.t 10), (some (47, false))⟩,
             ⟨(some 49), .mv (.t 11), (some (47, false))⟩,
             ⟨(some 50), .call 18 [(.t 48), (.t 49), (.k (.int .i64 1))], (some (47, false))⟩,
             ⟨(some 51), .mv (.t 13), (some (47, false))⟩,
             ⟨(some 52), .bin .neq (.t 50) (.t 51), (some (47, false))⟩,
             ⟨(some 53), .pick (.t 47) (.k (.bool true)) (.t 52), none⟩] [0, 1, 2, 6, 7, 9, 10, 11, 12, 13, 28, 29, 37, 53]) (
          .cond (.t 53) (.seq (.reg [
               ⟨(some 6), .mv (.k (.bool false)), none⟩] [0, 1, 2, 6, 7, 9, 10, 11, 12, 13, 28, 29, 37, 53]) (
            .ret)) (
          .skip))))))) (
       .reg [
         ⟨(some 54), .bin .add (.t 28) (.k (.int .i64 1)), none⟩,
         ⟨(some 28), .mv (.t 54), none⟩] [0, 1, 2, 6, 7, 9, 10, 11, 12, 13, 28, 29, 37, 53]))))))) (
  .seq (.reg [
     ⟨(some 55), .call 41 [], none⟩,
     ⟨(some 56), .mv (.t 55), none⟩,
     ⟨(some 57), .mv (.t 9), (some (56, true))⟩,
     ⟨(some 58), .bin .lss (.t 57) (.k (.int .i64 256)), (some (56, true))⟩,
     ⟨(some 59), .pick (.t 56) (.t 58) (.k (.bool false)), none⟩,
     ⟨(some 60), .mv (.t 59), none⟩,
     ⟨(some 61), .mv (.t 10), (some (60, true))⟩,
     ⟨(some 62), .bin .lss (.t 61) (.k (.int .i64 256)), (some (60, true))⟩,
     ⟨(some 63), .pick (.t 60) (.t 62) (.k (.bool false)), none⟩,
     ⟨(some 6), .mv (.t 63), none⟩] [0, 1, 2, 6, 7, 9, 10, 11, 12, 13, 28, 29, 37, 53]) (
  .ret))))))
theorem k9 : Try.f9.body.bind (compC Try.prog Try.f9.ntmps v9) = some c9 := by kernel_rfl
theorem e9 : enters Try.prog 9 = true := by kernel_rfl
theorem q9 : Try.f9.results.toList.mapM (compRes Try.prog) = some r9 := by kernel_rfl
/-- bakelite/bakekeep1.TimerFires -/
def v10 : List Nat := [0, 1, 4, 5, 6, 7, 9, 10, 21, 24, 25, 52]
def r10 : List AR := [.t 4]
def c10 : AC :=
  .seq (.reg [
     ⟨(some 4), .mv (.k (.bool false)), none⟩] [0, 1, 4, 5, 6, 7, 9, 10, 21, 24, 25, 52]) (
  .seq (.reg [
     ⟨(some 11), .mv (.t 0), none⟩,
     ⟨(some 12), .call 15 [(.t 11), (.k (.int .i64 500))], none⟩,
     ⟨(some 0), .mv (.t 12), none⟩] [0, 1, 4, 5, 6, 7, 9, 10, 21, 24, 25, 52]) (
  .seq (.reg [
     ⟨(some 13), .call 43 [], none⟩,
     ⟨(some 14), .mv (.t 0), none⟩,
     ⟨(some 15), .call 42 [(.t 13), (.k (.int .i64 0)), (.t 14)], none⟩,
     ⟨(some 16), .mv (.t 0), none⟩,
     ⟨(some 17), .bin .shr (.t 16) (.k (.int .u64 8)), none⟩,
     ⟨(some 18), .call 42 [(.t 15), (.k (.int .i64 1)), (.t 17)], none⟩,
     ⟨(some 5), .zero [(.slice none 0 0), (.slice none 0 0)], none⟩,
     ⟨none, .st 2 (.t 5) (.t 18), none⟩] [0, 1, 4, 5, 6, 7, 9, 10, 21, 24, 25, 52]) (
  .seq (.reg [
     ⟨(some 19), .ld (some 2) (.t 5), none⟩,
     ⟨(some 20), .call 42 [(.t 19), (.k (.int .i64 2)), (.k (.int .i64 129))], none⟩,
     ⟨none, .st 2 (.t 5) (.t 20), none⟩] [0, 1, 4, 5, 6, 7, 9, 10, 21, 24, 25, 52]) (
  .seq (.seq (.reg [
      ⟨(some 21), .mv (.t 1), none⟩] [0, 1, 4, 5, 6, 7, 9, 10, 21, 24, 25, 52]) (
   .cond (.t 21) (.reg [
       ⟨(some 22), .ld (some 2) (.t 5), none⟩,
       ⟨(some 23), .call 42 [(.t 22), (.k (.int .i64 2)), (.k (.int .i64 7))], none⟩,
       ⟨none, .st 2 (.t 5) (.t 23), none⟩] [0, 1, 4, 5, 6, 7, 9, 10, 21, 24, 25, 52]) (
   .skip))) (
  .seq (.seq (.reg [
      ⟨(some 24), .mv (.k (.int .i64 0)), none⟩] [0, 1, 4, 5, 6, 7, 9, 10, 21, 24, 25, 52]) (
   .block 0 (.loop (.seq (.reg [
          ⟨(some 25), .bin .lss (.t 24) (.k (.int .i64 3)), none⟩] [0, 1, 4, 5, 6, 7, 9, 10, 21, 24, 25, 52]) (
       .seq (.cond (.t 25) (.skip) (
        .exit 0)) (
       .seq (.block 1 (.seq (.reg [
             ⟨(some 26), .mv (.t 24), none⟩,
             ⟨(some 6), .mv (.t 26), none⟩] [0, 1, 4, 5, 6, 7, 9, 10, 21, 24, 25, 52]) (
          .seq (.reg [
             ⟨(some 27), .ld (some 2) (.t 5), none⟩,
             ⟨(some 28), .mv (.t 0), none⟩,
             ⟨(some 29), .call 44 [(.t 27), (.t 28)], none⟩,
             ⟨(some 7), .zero [(.slice none 0 0), (.slice none 0 0)], none⟩,
             ⟨none, .st 2 (.t 7) (.t 29), none⟩] [0, 1, 4, 5, 6, 7, 9, 10, 21, 24, 25, 52]) (
          .seq (.reg [
             ⟨(some 31), .ld (some 2) (.t 7), none⟩,
             ⟨(some 32), .call 45 [(.t 31), (.k (.int .i64 3))], none⟩,
             ⟨(some 30), .mv (.t 32), none⟩,
             ⟨(some 33), .ext (.t 30) 0, none⟩,
             ⟨(some 34), .ext (.t 30) 1, none⟩,
             ⟨(some 8), .zero [(.slice none 0 0), (.slice none 0 0)], none⟩,
             ⟨none, .st 2 (.t 8) (.t 33), none⟩,
             ⟨(some 9), .mv (.t 34), none⟩] [0, 1, 4, 5, 6, 7, 9, 10, 21, 24, 25, 52]) (
          .seq (.reg [
             ⟨(some 10), .mv (.k (.int .i64 0)), none⟩] [0, 1, 4, 5, 6, 7, 9, 10, 21, 24, 25, 52]) (
          .seq (.reg [
             ⟨(some 36), .ld (some 2) (.t 7), none⟩,
             ⟨(some 37), .call 46 [(.t 36)], none⟩,
             ⟨(some 38), .call 45 [(.t 37), (.k (.int .i64 3))], none⟩,
             ⟨(some 35), .mv (.t 38), none⟩,
             ⟨(some 39), .ext (.t 35) 0, none⟩,
             ⟨(some 40), .ext (.t 35) 1, none⟩,
             ⟨none, .st 2 (.t 5) (.t 39), none⟩,
             ⟨(some 10), .mv (.t 40), none⟩] [0, 1, 4, 5, 6, 7, 9, 10, 21, 24, 25, 52]) (
          .seq (.reg [
             ⟨(some 41), .mv (.t 9), none⟩,
             ⟨(some 42), .bin .neq (.t 41) (.k (.int .i64 0)), none⟩,
             ⟨(some 43), .mv (.t 42), none⟩,
             ⟨(some 44), .mv (.t 10), (some (43, false))⟩,
             ⟨(some 45), .bin .eql (.t 44) (.k (.int .i64 1)), (some (43, false))⟩,
             ⟨(some 46), .mv (.t 1), (some (43, false))⟩,
             ⟨(some 47), .mv (.t 46), (some (43, false))⟩,
             ⟨(some 48), .mv (.t 6), (some (47, false))⟩,
             ⟨(some 49), .bin .eql (.t 48) (.k (.int .i64 0)), (some (47, false))⟩,
             ⟨(some 50), .pick (.t 47) (.k (.bool true)) (.t 49), (some (43, false))⟩,
             ⟨(some 51), .eqb true (.t 45) (.t 50), (some (43, false))⟩,
             ⟨(some 52), .pick (.t 43) (.k (.bool true)) (.t 51), none⟩] [0, 1, 4, 5, 6, 7, 9, 10, 21, 24, 25, 52]) (
          .cond (.t 52) (.seq (.reg [
               ⟨(some 4), .mv (.k (.bool false)), none⟩] [0, 1, 4, 5, 6, 7, 9, 10, 21, 24, 25, 52]) (
            .ret)) (
          .skip))))))))) (
       .reg [
         ⟨(some 53), .bin .add (.t 24) (.k (.int .i64 1)), none⟩,
         ⟨(some 24), .mv (.t 53), none⟩] [0, 1, 4, 5, 6, 7, 9, 10, 21, 24, 25, 52]))))))) (
  .seq (.reg [
     ⟨(some 54), .call 47 [], none⟩,
     ⟨(some 4), .mv (.t 54), none⟩] [0, 1, 4, 5, 6, 7, 9, 10, 21, 24, 25, 52]) (
  .ret)))))))
theorem k10 : Try.f10.body.bind (compC Try.prog Try.f10.ntmps v10) = some c10 := by kernel_rfl
theorem e10 : enters Try.prog 10 = true := by kernel_rfl
theorem q10 : Try.f10.results.toList.mapM (compRes Try.prog) = some r10 := by kernel_rfl
/-- bakelite/bakekeep1.SerialSends -/
def v11 : List Nat := [0, 1, 2, 6, 7, 28]
def r11 : List AR := [.t 6]
def c11 : AC :=
  .seq (.reg [
     ⟨(some 6), .mv (.k (.bool false)), none⟩] [0, 1, 2, 6, 7, 28]) (
  .seq (.reg [
     ⟨(some 8), .mv (.t 2), none⟩,
     ⟨(some 9), .call 15 [(.t 8), (.k (.int .i64 40))], none⟩,
     ⟨(some 2), .mv (.t 9), none⟩] [0, 1, 2, 6, 7, 28]) (
  .seq (.reg [
     ⟨(some 10), .call 30 [], none⟩,
     ⟨(some 11), .mv (.t 0), none⟩,
     ⟨(some 12), .call 49 [(.t 10), (.k (.int .i64 0)), (.t 11)], none⟩,
     ⟨(some 13), .mv (.t 2), none⟩,
     ⟨(some 14), .call 48 [(.t 12), (.t 13)], none⟩,
     ⟨(some 7), .zero [(.slice none 0 0), (.slice none 0 0)], none⟩,
     ⟨none, .st 2 (.t 7) (.t 14), none⟩] [0, 1, 2, 6, 7, 28]) (
  .seq (.reg [
     ⟨(some 15), .ld (some 2) (.t 7), none⟩,
     ⟨(some 16), .mv (.t 1), none⟩,
     ⟨(some 17), .call 49 [(.t 15), (.k (.int .i64 0)), (.t 16)], none⟩,
     ⟨none, .st 2 (.t 7) (.t 17), none⟩] [0, 1, 2, 6, 7, 28]) (
  .seq (.seq (.reg [
      ⟨(some 18), .ld (some 2) (.t 7), none⟩,
      ⟨(some 19), .call 50 [(.t 18)], none⟩,
      ⟨(some 20), .bin .neq (.t 19) (.k (.int .i64 0)), none⟩,
      ⟨(some 21), .mv (.t 20), none⟩,
      ⟨(some 22), .ld (some 2) (.t 7), (some (21, false))⟩,
      ⟨(some 23), .mv (.t 2), (some (21, false))⟩,
      ⟨(some 24), .bin .sub (.k (.int .i64 39)) (.t 23), (some (21, false))⟩,
      ⟨(some 25), .call 48 [(.t 22), (.t 24)], (some (21, false))⟩,
      ⟨(some 26), .call 50 [(.t 25)], (some (21, false))⟩,
      ⟨(some 27), .bin .neq (.t 26) (.k (.int .i64 0)), (some (21, false))⟩,
      ⟨(some 28), .pick (.t 21) (.k (.bool true)) (.t 27), none⟩] [0, 1, 2, 6, 7, 28]) (
   .cond (.t 28) (.seq (.reg [
        ⟨(some 6), .mv (.k (.bool false)), none⟩] [0, 1, 2, 6, 7, 28]) (
     .ret)) (
   .skip))) (
  .seq (.reg [
     ⟨(some 29), .ld (some 2) (.t 7), none⟩,
     ⟨(some 30), .mv (.t 2), none⟩,
     ⟨(some 31), .bin .sub (.k (.int .i64 40)) (.t 30), none⟩,
     ⟨(some 32), .call 48 [(.t 29), (.t 31)], none⟩,
     ⟨none, .st 2 (.t 7) (.t 32), none⟩] [0, 1, 2, 6, 7, 28]) (
  .seq (.reg [
     ⟨(some 33), .call 32 [], none⟩,
     ⟨(some 34), .mv (.t 33), none⟩,
     ⟨(some 35), .ld (some 2) (.t 7), (some (34, true))⟩,
     ⟨(some 36), .call 50 [(.t 35)], (some (34, true))⟩,
     ⟨(some 37), .mv (.t 0), (some (34, true))⟩,
     ⟨(some 38), .call 19 [(.t 37), (.k (.int .i64 8))], (some (34, true))⟩,
     ⟨(some 39), .bin .add (.k (.int .i64 256)) (.t 38), (some (34, true))⟩,
     ⟨(some 40), .bin .eql (.t 36) (.t 39), (some (34, true))⟩,
     ⟨(some 41), .pick (.t 34) (.t 40) (.k (.bool false)), none⟩,
     ⟨(some 42), .mv (.t 41), none⟩,
     ⟨(some 43), .ld (some 2) (.t 7), (some (42, true))⟩,
     ⟨(some 44), .mv (.t 1), (some (42, true))⟩,
     ⟨(some 45), .call 49 [(.t 43), (.k (.int .i64 0)), (.t 44)], (some (42, true))⟩,
     ⟨(some 46), .call 48 [(.t 45), (.k (.int .i64 40))], (some (42, true))⟩,
     ⟨(some 47), .call 50 [(.t 46)], (some (42, true))⟩,
     ⟨(some 48), .mv (.t 1), (some (42, true))⟩,
     ⟨(some 49), .call 19 [(.t 48), (.k (.int .i64 8))], (some (42, true))⟩,
     ⟨(some 50), .bin .add (.k (.int .i64 512)) (.t 49), (some (42, true))⟩,
     ⟨(some 51), .bin .eql (.t 47) (.t 50), (some (42, true))⟩,
     ⟨(some 52), .pick (.t 42) (.t 51) (.k (.bool false)), none⟩,
     ⟨(some 6), .mv (.t 52), none⟩] [0, 1, 2, 6, 7, 28]) (
  .ret)))))))
theorem k11 : Try.f11.body.bind (compC Try.prog Try.f11.ntmps v11) = some c11 := by kernel_rfl
theorem e11 : enters Try.prog 11 = true := by kernel_rfl
theorem q11 : Try.f11.results.toList.mapM (compRes Try.prog) = some r11 := by kernel_rfl
/-- bakelite/bakekeep1.SerialAsks -/
def v12 : List Nat := [0, 1, 4, 5, 6, 7, 9, 30]
def r12 : List AR := [.t 4]
def c12 : AC :=
  .seq (.reg [
     ⟨(some 4), .mv (.k (.bool false)), none⟩] [0, 1, 4, 5, 6, 7, 9, 30]) (
  .seq (.reg [
     ⟨(some 10), .call 30 [], none⟩,
     ⟨(some 11), .call 49 [(.t 10), (.k (.int .i64 2)), (.k (.int .i64 1))], none⟩,
     ⟨(some 5), .zero [(.slice none 0 0), (.slice none 0 0)], none⟩,
     ⟨none, .st 2 (.t 5) (.t 11), none⟩] [0, 1, 4, 5, 6, 7, 9, 30]) (
  .seq (.reg [
     ⟨(some 12), .ld (some 2) (.t 5), none⟩,
     ⟨(some 13), .mv (.t 0), none⟩,
     ⟨(some 14), .call 29 [(.t 12), (.t 13)], none⟩,
     ⟨(some 6), .zero [(.slice none 0 0), (.slice none 0 0)], none⟩,
     ⟨none, .st 2 (.t 6) (.t 14), none⟩] [0, 1, 4, 5, 6, 7, 9, 30]) (
  .seq (.reg [
     ⟨(some 16), .ld (some 2) (.t 6), none⟩,
     ⟨(some 17), .call 31 [(.t 16), (.k (.int .i64 0))], none⟩,
     ⟨(some 15), .mv (.t 17), none⟩,
     ⟨(some 18), .ext (.t 15) 0, none⟩,
     ⟨(some 19), .ext (.t 15) 1, none⟩,
     ⟨(some 7), .zero [(.slice none 0 0), (.slice none 0 0)], none⟩,
     ⟨none, .st 2 (.t 7) (.t 18), none⟩,
     ⟨(some 8), .mv (.t 19), none⟩] [0, 1, 4, 5, 6, 7, 9, 30]) (
  .seq (.seq (.reg [
      ⟨(some 20), .ld (some 2) (.t 5), none⟩,
      ⟨(some 21), .call 51 [(.t 20)], none⟩,
      ⟨(some 22), .mv (.t 21), none⟩,
      ⟨(some 23), .ld (some 2) (.t 6), (some (22, false))⟩,
      ⟨(some 24), .call 51 [(.t 23)], (some (22, false))⟩,
      ⟨(some 25), .not (.t 24), (some (22, false))⟩,
      ⟨(some 26), .pick (.t 22) (.k (.bool true)) (.t 25), none⟩,
      ⟨(some 27), .mv (.t 26), none⟩,
      ⟨(some 28), .ld (some 2) (.t 7), (some (27, false))⟩,
      ⟨(some 29), .call 51 [(.t 28)], (some (27, false))⟩,
      ⟨(some 30), .pick (.t 27) (.k (.bool true)) (.t 29), none⟩] [0, 1, 4, 5, 6, 7, 9, 30]) (
   .cond (.t 30) (.seq (.reg [
        ⟨(some 4), .mv (.k (.bool false)), none⟩] [0, 1, 4, 5, 6, 7, 9, 30]) (
     .ret)) (
   .skip))) (
  .seq (.reg [
     ⟨(some 31), .mv (.t 1), none⟩,
     ⟨(some 32), .call 15 [(.t 31), (.k (.int .i64 80))], none⟩,
     ⟨(some 1), .mv (.t 32), none⟩] [0, 1, 4, 5, 6, 7, 9, 30]) (
  .seq (.reg [
     ⟨(some 33), .call 30 [], none⟩,
     ⟨(some 34), .call 49 [(.t 33), (.k (.int .i64 2)), (.k (.int .i64 2))], none⟩,
     ⟨(some 35), .mv (.t 0), none⟩,
     ⟨(some 36), .call 49 [(.t 34), (.k (.int .i64 0)), (.t 35)], none⟩,
     ⟨(some 37), .mv (.t 1), none⟩,
     ⟨(some 38), .call 48 [(.t 36), (.t 37)], none⟩,
     ⟨(some 9), .zero [(.slice none 0 0), (.slice none 0 0)], none⟩,
     ⟨none, .st 2 (.t 9) (.t 38), none⟩] [0, 1, 4, 5, 6, 7, 9, 30]) (
  .seq (.reg [
     ⟨(some 39), .call 32 [], none⟩,
     ⟨(some 40), .mv (.t 39), none⟩,
     ⟨(some 41), .ld (some 2) (.t 9), (some (40, true))⟩,
     ⟨(some 42), .call 51 [(.t 41)], (some (40, true))⟩,
     ⟨(some 43), .mv (.t 1), (some (40, true))⟩,
     ⟨(some 44), .bin .geq (.t 43) (.k (.int .i64 40)), (some (40, true))⟩,
     ⟨(some 45), .eqb false (.t 42) (.t 44), (some (40, true))⟩,
     ⟨(some 46), .pick (.t 40) (.t 45) (.k (.bool false)), none⟩,
     ⟨(some 4), .mv (.t 46), none⟩] [0, 1, 4, 5, 6, 7, 9, 30]) (
  .ret))))))))
theorem k12 : Try.f12.body.bind (compC Try.prog Try.f12.ntmps v12) = some c12 := by kernel_rfl
theorem e12 : enters Try.prog 12 = true := by kernel_rfl
theorem q12 : Try.f12.results.toList.mapM (compRes Try.prog) = some r12 := by kernel_rfl
/-- bakelite/bakekeep1.TimerWaits -/
def v13 : List Nat := [0, 1, 4, 5, 6, 7, 8, 9, 11]
def r13 : List AR := [.t 4]
def c13 : AC :=
  .seq (.reg [
     ⟨(some 4), .mv (.k (.bool false)), none⟩] [0, 1, 4, 5, 6, 7, 8, 9, 11]) (
  .seq (.reg [
     ⟨(some 12), .mv (.t 0), none⟩,
     ⟨(some 13), .build [(.slice none 0 0)] [(0, 1, (.t 12))], none⟩,
     ⟨(some 14), .new 1 (.t 13), none⟩,
     ⟨(some 5), .mv (.t 14), none⟩] [0, 1, 4, 5, 6, 7, 8, 9, 11]) (
  .seq (.reg [
     ⟨(some 15), .mv (.t 5), none⟩,
     ⟨(some 16), .call 52 [(.t 15), (.k (.int .i64 300))], none⟩,
     ⟨(some 17), .mv (.t 5), none⟩,
     ⟨(some 18), .call 52 [(.t 17), (.k (.int .i64 300))], none⟩,
     ⟨(some 19), .mv (.t 5), none⟩,
     ⟨(some 20), .call 52 [(.t 19), (.k (.int .i64 8))], none⟩,
     ⟨(some 21), .mv (.t 5), none⟩,
     ⟨(some 22), .call 52 [(.t 21), (.k (.int .i64 2))], none⟩,
     ⟨(some 23), .bsl [(.int .i64 0)] 4 [(0, (.t 16)), (1, (.t 18)), (2, (.t 20)), (3, (.t 22))], none⟩,
     ⟨(some 24), .build [(.slice none 0 0), (.slice none 0 0)] [(0, 1, (.t 23))], none⟩,
     ⟨(some 6), .zero [(.slice none 0 0), (.slice none 0 0)], none⟩,
     ⟨none, .st 2 (.t 6) (.t 24), none⟩] [0, 1, 4, 5, 6, 7, 8, 9, 11]) (
  .seq (.reg [
     ⟨(some 25), .ld (some 2) (.t 6), none⟩,
     ⟨(some 26), .call 53 [(.t 25)], none⟩,
     ⟨(some 7), .mv (.t 26), none⟩] [0, 1, 4, 5, 6, 7, 8, 9, 11]) (
  .seq (.reg [
     ⟨(some 27), .fad 0 (.t 6), none⟩,
     ⟨(some 28), .ld none (.t 27), none⟩,
     ⟨(some 29), .idx 1 none (.t 28) (.k (.int .i64 2)), none⟩,
     ⟨(some 30), .ld none (.t 29), none⟩,
     ⟨(some 31), .bin .and (.t 30) (.k (.int .i64 1)), none⟩,
     ⟨(some 32), .bin .neq (.t 31) (.k (.int .i64 0)), none⟩,
     ⟨(some 8), .mv (.t 32), none⟩] [0, 1, 4, 5, 6, 7, 8, 9, 11]) (
  .seq (.dreg [
     ⟨(some 33), .ld (some 2) (.t 6), none⟩,
     ⟨(some 34), .mv (.t 1), none⟩,
     ⟨(some 35), .mv (.t 7), none⟩,
     ⟨(some 36), .mnx false [(.t 35), (.k (.int .i64 1000))], none⟩,
     ⟨(some 37), .bin .add (.t 36) (.k (.int .i64 1)), none⟩,
     ⟨(some 38), .call 15 [(.t 34), (.t 37)], none⟩,
     ⟨(some 39), .call 44 [(.t 33), (.t 38)], none⟩,
     ⟨(some 9), .zero [(.slice none 0 0), (.slice none 0 0)], none⟩,
     ⟨none, .st 2 (.t 9) (.t 39), none⟩] [[], [], [], [2], [2, 3], [1, 2, 3, 4], [0, 1, 2, 3, 4, 5], [], [0, 1, 2, 3, 4, 5, 6, 7]] [0, 1, 4, 5, 6, 7, 8, 9, 11]) (
  .seq (.reg [
     ⟨(some 41), .ld (some 2) (.t 6), none⟩,
     ⟨(some 42), .mv (.t 7), none⟩,
     ⟨(some 43), .bin .add (.t 42) (.k (.int .i64 1)), none⟩,
     ⟨(some 44), .call 44 [(.t 41), (.t 43)], none⟩,
     ⟨(some 45), .call 45 [(.t 44), (.k (.int .i64 3))], none⟩,
     ⟨(some 40), .mv (.t 45), none⟩,
     ⟨(some 46), .ext (.t 40) 0, none⟩,
     ⟨(some 47), .ext (.t 40) 1, none⟩,
     ⟨(some 10), .zero [(.slice none 0 0), (.slice none 0 0)], none⟩,
     ⟨none, .st 2 (.t 10) (.t 46), none⟩,
     ⟨(some 11), .mv (.t 47), none⟩] [0, 1, 4, 5, 6, 7, 8, 9, 11]) (
  .seq (.dreg [
     ⟨(some 48), .call 47 [], none⟩,
     ⟨(some 49), .mv (.t 48), none⟩,
     ⟨(some 50), .ld (some 2) (.t 9), (some (49, true))⟩,
     ⟨(some 51), .call 54 [(.t 50)], (some (49, true))⟩,
     ⟨(some 52), .ld (some 2) (.t 6), (some (49, true))⟩,
     ⟨(some 53), .call 54 [(.t 52)], (some (49, true))⟩,
     ⟨(some 54), .eqb false (.t 51) (.t 53), (some (49, true))⟩,
     ⟨(some 55), .pick (.t 49) (.t 54) (.k (.bool false)), none⟩,
     ⟨(some 56), .mv (.t 55), none⟩,
     ⟨(some 57), .mv (.t 11), (some (56, true))⟩,
     ⟨(some 58), .bin .eql (.t 57) (.k (.int .i64 1)), (some (56, true))⟩,
     ⟨(some 59), .mv (.t 8), (some (56, true))⟩,
     ⟨(some 60), .mv (.t 59), (some (56, true))⟩,
     ⟨(some 61), .fad 0 (.t 6), (some (60, false))⟩,
     ⟨(some 62), .ld none (.t 61), (some (60, false))⟩,
     ⟨(some 63), .idx 1 none (.t 62) (.k (.int .i64 3)), (some (60, false))⟩,
     ⟨(some 64), .ld none (.t 63), (some (60, false))⟩,
     ⟨(some 65), .bin .eql (.t 64) (.k (.int .i64 1)), (some (60, false))⟩,
     ⟨(some 66), .pick (.t 60) (.k (.bool true)) (.t 65), (some (56, true))⟩,
     ⟨(some 67), .eqb false (.t 58) (.t 66), (some (56, true))⟩,
     ⟨(some 68), .pick (.t 56) (.t 67) (.k (.bool false)), none⟩,
     ⟨(some 4), .mv (.t 68), none⟩] [[], [0], [0, 1], [0, 1, 2], [0, 1], [0, 1, 2, 3, 4], [0, 1, 2, 3, 4, 5], [0, 1, 2, 3, 4, 5, 6], [0, 1, 2, 3, 4, 5, 6, 7], [0, 1, 2, 3, 4, 5, 6, 7, 8], [0, 1, 2, 3, 4, 5, 6, 7, 8, 9], [0, 1, 2, 3, 4, 5, 6, 7, 8], [0, 1, 2, 3, 4, 5, 6, 7, 8, 11], [0, 1, 2, 3, 4, 5, 6, 7, 8, 11, 12], [0, 1, 2, 3, 4, 5, 6, 7, 8, 11, 12, 13], [0, 1, 2, 3, 4, 5, 6, 7, 8, 11, 12, 13, 14], [0, 1, 2, 3, 4, 5, 6, 7, 8, 11, 12, 13, 14, 15], [0, 1, 2, 3, 4, 5, 6, 7, 8, 11, 12, 13, 14, 15, 16], [0, 1, 2, 3, 4, 5, 6, 7, 8, 11, 12, 13, 14, 15, 16, 17], [0, 1, 2, 3, 4, 5, 6, 7, 8, 9, 10, 11, 12, 13, 14, 15, 16, 17, 18], [0, 1, 2, 3, 4, 5, 6, 7, 8, 9, 10, 11, 12, 13, 14, 15, 16, 17, 18, 19], [0, 1, 2, 3, 4, 5, 6, 7, 8, 9, 10, 11, 12, 13, 14, 15, 16, 17, 18, 19, 20]] [0, 1, 4, 5, 6, 7, 8, 9, 11]) (
  .ret))))))))
theorem k13 : Try.f13.body.bind (compC Try.prog Try.f13.ntmps v13) = some c13 := by kernel_rfl
theorem e13 : enters Try.prog 13 = true := by kernel_rfl
theorem q13 : Try.f13.results.toList.mapM (compRes Try.prog) = some r13 := by kernel_rfl
/-- bakelite/bakekeep1.PinOrder -/
def v14 : List Nat := [0, 1, 2, 6, 7, 9, 10, 11, 12, 13, 14, 15]
def r14 : List AR := [.t 6]
def c14 : AC :=
  .seq (.reg [
     ⟨(some 6), .mv (.k (.bool false)), none⟩] [0, 1, 2, 6, 7, 9, 10, 11, 12, 13, 14, 15]) (
  .seq (.reg [
     ⟨(some 7), .mv (.k (.slice none 0 0)), none⟩] [0, 1, 2, 6, 7, 9, 10, 11, 12, 13, 14, 15]) (
  .seq (.seq (.reg [
      ⟨(some 12), .mv (.t 0), none⟩,
      ⟨(some 13), .len (.t 12), none⟩,
      ⟨(some 14), .mv (.k (.int .i64 0)), none⟩] [0, 1, 2, 6, 7, 9, 10, 11, 12, 13, 14, 15]) (
   .block 0 (.loop (.seq (.reg [
          ⟨(some 15), .bin .lss (.t 14) (.t 13), none⟩] [0, 1, 2, 6, 7, 9, 10, 11, 12, 13, 14, 15]) (
       .seq (.cond (.t 15) (.skip) (
        .exit 0)) (
       .seq (.block 1 (.seq (.reg [
             ⟨(some 16), .idx 1 none (.t 12) (.t 14), none⟩,
             ⟨(some 17), .ld none (.t 16), none⟩,
             ⟨(some 9), .mv (.t 17), none⟩] [0, 1, 2, 6, 7, 9, 10, 11, 12, 13, 14, 15]) (
          .reg [
            ⟨(some 18), .mv (.t 7), none⟩,
            ⟨(some 19), .mv (.t 9), none⟩,
            ⟨(some 20), .call 15 [(.t 19), (.k (.int .i64 4))], none⟩,
            ⟨(some 21), .bsl [(.int .i64 0)] 1 [(0, (.t 20))], none⟩,
            ⟨(some 22), .app 1 8 (.t 18) (.t 21), none⟩,
            ⟨(some 7), .mv (.t 22), none⟩] [0, 1, 2, 6, 7, 9, 10, 11, 12, 13, 14, 15]))) (
       .reg [
         ⟨(some 23), .bin .add (.t 14) (.k (.int .i64 1)), none⟩,
         ⟨(some 14), .mv (.t 23), none⟩] [0, 1, 2, 6, 7, 9, 10, 11, 12, 13, 14, 15]))))))) (
  .seq (.reg [
     ⟨(some 24), .mv (.t 2), none⟩,
     ⟨(some 25), .call 15 [(.t 24), (.k (.int .i64 4))], none⟩,
     ⟨(some 2), .mv (.t 25), none⟩] [0, 1, 2, 6, 7, 9, 10, 11, 12, 13, 14, 15]) (
  .seq (.reg [
     ⟨(some 26), .mv (.t 7), none⟩,
     ⟨(some 27), .call 55 [(.t 26)], none⟩,
     ⟨(some 10), .mv (.t 27), none⟩] [0, 1, 2, 6, 7, 9, 10, 11, 12, 13, 14, 15]) (
  .seq (.reg [
     ⟨(some 28), .mv (.t 10), none⟩,
     ⟨(some 29), .call 56 [(.t 28)], none⟩] [0, 1, 2, 6, 7, 9, 10, 11, 12, 13, 14, 15]) (
  .seq (.reg [
     ⟨(some 30), .mv (.t 10), none⟩,
     ⟨(some 31), .mv (.t 1), none⟩,
     ⟨(some 32), .mv (.t 10), none⟩,
     ⟨(some 33), .len (.t 32), none⟩,
     ⟨(some 34), .bin .add (.t 33) (.k (.int .i64 1)), none⟩,
     ⟨(some 35), .call 15 [(.t 31), (.t 34)], none⟩,
     ⟨(some 36), .bsl [(.int .i64 0)] 1 [(0, (.k (.int .i64 2)))], none⟩,
     ⟨(some 37), .call 57 [(.t 30), (.t 35), (.t 36)], none⟩,
     ⟨(some 10), .mv (.t 37), none⟩] [0, 1, 2, 6, 7, 9, 10, 11, 12, 13, 14, 15]) (
  .seq (.reg [
     ⟨(some 38), .mv (.t 7), none⟩,
     ⟨(some 39), .call 58 [(.t 38)], none⟩,
     ⟨(some 11), .mv (.t 39), none⟩] [0, 1, 2, 6, 7, 9, 10, 11, 12, 13, 14, 15]) (
  .seq (.reg [
     ⟨(some 40), .call 35 [], none⟩,
     ⟨(some 41), .mv (.t 40), none⟩,
     ⟨(some 42), .mv (.t 10), (some (41, true))⟩,
     ⟨(some 43), .call 58 [(.t 42)], (some (41, true))⟩,
     ⟨(some 44), .mv (.t 11), (some (41, true))⟩,
     ⟨(some 45), .bin .eql (.t 43) (.t 44), (some (41, true))⟩,
     ⟨(some 46), .pick (.t 41) (.t 45) (.k (.bool false)), none⟩,
     ⟨(some 47), .mv (.t 46), none⟩,
     ⟨(some 48), .mv (.t 11), (some (47, true))⟩,
     ⟨(some 49), .mv (.t 2), (some (47, true))⟩,
     ⟨(some 50), .call 59 [(.t 48), (.t 49)], (some (47, true))⟩,
     ⟨(some 51), .mv (.t 11), (some (47, true))⟩,
     ⟨(some 52), .bin .eql (.t 50) (.t 51), (some (47, true))⟩,
     ⟨(some 53), .mv (.t 11), (some (47, true))⟩,
     ⟨(some 54), .bin .neq (.t 53) (.k (.int .i64 2)), (some (47, true))⟩,
     ⟨(some 55), .mv (.t 54), (some (47, true))⟩,
     ⟨(some 56), .mv (.t 2), (some (55, false))⟩,
     ⟨(some 57), .bin .eql (.t 56) (.k (.int .i64 2)), (some (55, false))⟩,
     ⟨(some 58), .pick (.t 55) (.k (.bool true)) (.t 57), (some (47, true))⟩,
     ⟨(some 59), .eqb false (.t 52) (.t 58), (some (47, true))⟩,
     ⟨(some 60), .pick (.t 47) (.t 59) (.k (.bool false)), none⟩,
     ⟨(some 6), .mv (.t 60), none⟩] [0, 1, 2, 6, 7, 9, 10, 11, 12, 13, 14, 15]) (
  .ret)))))))))
theorem k14 : Try.f14.body.bind (compC Try.prog Try.f14.ntmps v14) = some c14 := by kernel_rfl
theorem e14 : enters Try.prog 14 = true := by kernel_rfl
theorem q14 : Try.f14.results.toList.mapM (compRes Try.prog) = some r14 := by kernel_rfl
/-- bakelite/bakemake.Below -/
def v15 : List Nat := [0, 1, 4, 9]
def r15 : List AR := [.t 4]
def c15 : AC :=
  .seq (.reg [
     ⟨(some 4), .mv (.k (.int .i64 0)), none⟩] [0, 1, 4, 9]) (
  .seq (.seq (.reg [
      ⟨(some 5), .mv (.t 0), none⟩,
      ⟨(some 6), .mv (.t 1), none⟩,
      ⟨(some 7), .bin .rem (.t 5) (.t 6), none⟩,
      ⟨(some 0), .mv (.t 7), none⟩] [0, 1, 4, 9]) (
   .seq (.reg [
      ⟨(some 8), .mv (.t 0), none⟩,
      ⟨(some 9), .bin .lss (.t 8) (.k (.int .i64 0)), none⟩] [0, 1, 4, 9]) (
   .cond (.t 9) (.reg [
       ⟨(some 10), .mv (.t 0), none⟩,
       ⟨(some 11), .mv (.t 1), none⟩,
       ⟨(some 12), .bin .add (.t 10) (.t 11), none⟩,
       ⟨(some 0), .mv (.t 12), none⟩] [0, 1, 4, 9]) (
   .skip)))) (
  .seq (.reg [
     ⟨(some 13), .mv (.t 0), none⟩,
     ⟨(some 4), .mv (.t 13), none⟩] [0, 1, 4, 9]) (
  .ret)))
theorem k15 : Try.f15.body.bind (compC Try.prog Try.f15.ntmps v15) = some c15 := by kernel_rfl
theorem e15 : enters Try.prog 15 = true := by kernel_rfl
theorem q15 : Try.f15.results.toList.mapM (compRes Try.prog) = some r15 := by kernel_rfl
/-- bakelite/bit.Put -/
def v16 : List Nat := [0, 1, 2, 3, 8, 9]
def r16 : List AR := [.t 8]
def c16 : AC :=
  .seq (.reg [
     ⟨(some 8), .mv (.k (.int .i64 0)), none⟩] [0, 1, 2, 3, 8, 9]) (
  .seq (.reg [
     ⟨(some 11), .mv (.t 1), none⟩,
     ⟨(some 12), .mv (.t 2), none⟩,
     ⟨(some 13), .call 60 [(.t 11), (.t 12)], none⟩,
     ⟨(some 10), .mv (.t 13), none⟩,
     ⟨(some 14), .ext (.t 10) 0, none⟩,
     ⟨(some 15), .ext (.t 10) 1, none⟩,
     ⟨(some 1), .mv (.t 14), none⟩,
     ⟨(some 2), .mv (.t 15), none⟩] [0, 1, 2, 3, 8, 9]) (
  .seq (.reg [
     ⟨(some 16), .mv (.t 2), none⟩,
     ⟨(some 17), .bin .shl (.k (.int .i64 1)) (.t 16), none⟩,
     ⟨(some 18), .bin .sub (.t 17) (.k (.int .i64 1)), none⟩,
     ⟨(some 19), .mv (.t 1), none⟩,
     ⟨(some 20), .bin .shl (.t 18) (.t 19), none⟩,
     ⟨(some 9), .mv (.t 20), none⟩] [0, 1, 2, 3, 8, 9]) (
  .seq (.reg [
     ⟨(some 21), .mv (.t 0), none⟩,
     ⟨(some 22), .call 19 [(.t 21), (.k (.int .i64 62))], none⟩,
     ⟨(some 23), .mv (.t 9), none⟩,
     ⟨(some 24), .bin .andNot (.t 22) (.t 23), none⟩,
     ⟨(some 25), .mv (.t 3), none⟩,
     ⟨(some 26), .mv (.t 2), none⟩,
     ⟨(some 27), .call 19 [(.t 25), (.t 26)], none⟩,
     ⟨(some 28), .mv (.t 1), none⟩,
     ⟨(some 29), .bin .shl (.t 27) (.t 28), none⟩,
     ⟨(some 30), .bin .or (.t 24) (.t 29), none⟩,
     ⟨(some 8), .mv (.t 30), none⟩] [0, 1, 2, 3, 8, 9]) (
  .ret))))
theorem k16 : Try.f16.body.bind (compC Try.prog Try.f16.ntmps v16) = some c16 := by kernel_rfl
theorem e16 : enters Try.prog 16 = true := by kernel_rfl
theorem q16 : Try.f16.results.toList.mapM (compRes Try.prog) = some r16 := by kernel_rfl
/-- bakelite/bakekeep1.bits -/
def v17 : List Nat := [0, 1, 2]
def r17 : List AR := [.t 0]
def c17 : AC :=
  .seq (.reg [
     ⟨(some 0), .mv (.k (.bool false)), none⟩] [0, 1, 2]) (
  .seq (.reg [
     ⟨(some 4), .call 20 [(.k (.int .i64 200)), (.k (.int .i64 100)), (.k (.int .i64 0)), (.k (.int .i64 8))], none⟩,
     ⟨(some 3), .mv (.t 4), none⟩,
     ⟨(some 5), .ext (.t 3) 0, none⟩,
     ⟨(some 6), .ext (.t 3) 1, none⟩,
     ⟨(some 1), .mv (.t 5), none⟩,
     ⟨(some 2), .mv (.t 6), none⟩] [0, 1, 2]) (
  .seq (.reg [
     ⟨(some 7), .mv (.t 1), none⟩,
     ⟨(some 8), .bin .eql (.t 7) (.k (.int .i64 44)), none⟩,
     ⟨(some 9), .mv (.t 8), none⟩,
     ⟨(some 10), .mv (.t 2), (some (9, true))⟩,
     ⟨(some 11), .bin .eql (.t 10) (.k (.int .i64 1)), (some (9, true))⟩,
     ⟨(some 12), .pick (.t 9) (.t 11) (.k (.bool false)), none⟩,
     ⟨(some 0), .mv (.t 12), none⟩] [0, 1, 2]) (
  .ret)))
theorem k17 : Try.f17.body.bind (compC Try.prog Try.f17.ntmps v17) = some c17 := by kernel_rfl
theorem e17 : enters Try.prog 17 = true := by kernel_rfl
theorem q17 : Try.f17.results.toList.mapM (compRes Try.prog) = some r17 := by kernel_rfl
/-- bakelite/bit.Get -/
def v18 : List Nat := [0, 1, 2, 6]
def r18 : List AR := [.t 6]
def c18 : AC :=
  .seq (.reg [
     ⟨(some 6), .mv (.k (.int .i64 0)), none⟩] [0, 1, 2, 6]) (
  .seq (.reg [
     ⟨(some 8), .mv (.t 1), none⟩,
     ⟨(some 9), .mv (.t 2), none⟩,
     ⟨(some 10), .call 60 [(.t 8), (.t 9)], none⟩,
     ⟨(some 7), .mv (.t 10), none⟩,
     ⟨(some 11), .ext (.t 7) 0, none⟩,
     ⟨(some 12), .ext (.t 7) 1, none⟩,
     ⟨(some 1), .mv (.t 11), none⟩,
     ⟨(some 2), .mv (.t 12), none⟩] [0, 1, 2, 6]) (
  .seq (.reg [
     ⟨(some 13), .mv (.t 0), none⟩,
     ⟨(some 14), .call 19 [(.t 13), (.k (.int .i64 62))], none⟩,
     ⟨(some 15), .mv (.t 1), none⟩,
     ⟨(some 16), .bin .shr (.t 14) (.t 15), none⟩,
     ⟨(some 17), .mv (.t 2), none⟩,
     ⟨(some 18), .call 19 [(.t 16), (.t 17)], none⟩,
     ⟨(some 6), .mv (.t 18), none⟩] [0, 1, 2, 6]) (
  .ret)))
theorem k18 : Try.f18.body.bind (compC Try.prog Try.f18.ntmps v18) = some c18 := by kernel_rfl
theorem e18 : enters Try.prog 18 = true := by kernel_rfl
theorem q18 : Try.f18.results.toList.mapM (compRes Try.prog) = some r18 := by kernel_rfl
/-- bakelite/bit.Low -/
def v19 : List Nat := [0, 1, 4]
def r19 : List AR := [.t 4]
def c19 : AC :=
  .seq (.reg [
     ⟨(some 4), .mv (.k (.int .i64 0)), none⟩] [0, 1, 4]) (
  .seq (.reg [
     ⟨(some 5), .mv (.t 0), none⟩,
     ⟨(some 6), .mv (.t 1), none⟩,
     ⟨(some 7), .call 61 [(.t 6)], none⟩,
     ⟨(some 8), .bin .shl (.k (.int .i64 1)) (.t 7), none⟩,
     ⟨(some 9), .bin .sub (.t 8) (.k (.int .i64 1)), none⟩,
     ⟨(some 10), .bin .and (.t 5) (.t 9), none⟩,
     ⟨(some 4), .mv (.t 10), none⟩] [0, 1, 4]) (
  .ret))
theorem k19 : Try.f19.body.bind (compC Try.prog Try.f19.ntmps v19) = some c19 := by kernel_rfl
theorem e19 : enters Try.prog 19 = true := by kernel_rfl
theorem q19 : Try.f19.results.toList.mapM (compRes Try.prog) = some r19 := by kernel_rfl
/-- bakelite/bit.Add -/
def v20 : List Nat := [0, 1, 2, 3, 8, 9, 10]
def r20 : List AR := [.t 8, .t 9]
def c20 : AC :=
  .seq (.reg [
     ⟨(some 8), .mv (.k (.int .i64 0)), none⟩,
     ⟨(some 9), .mv (.k (.int .i64 0)), none⟩] [0, 1, 2, 3, 8, 9, 10]) (
  .seq (.reg [
     ⟨(some 11), .mv (.t 3), none⟩,
     ⟨(some 12), .call 61 [(.t 11)], none⟩,
     ⟨(some 3), .mv (.t 12), none⟩] [0, 1, 2, 3, 8, 9, 10]) (
  .seq (.reg [
     ⟨(some 13), .mv (.t 0), none⟩,
     ⟨(some 14), .mv (.t 3), none⟩,
     ⟨(some 15), .call 19 [(.t 13), (.t 14)], none⟩,
     ⟨(some 16), .mv (.t 1), none⟩,
     ⟨(some 17), .mv (.t 3), none⟩,
     ⟨(some 18), .call 19 [(.t 16), (.t 17)], none⟩,
     ⟨(some 19), .bin .add (.t 15) (.t 18), none⟩,
     ⟨(some 20), .mv (.t 2), none⟩,
     ⟨(some 21), .bin .and (.t 20) (.k (.int .i64 1)), none⟩,
     ⟨(some 22), .bin .add (.t 19) (.t 21), none⟩,
     ⟨(some 10), .mv (.t 22), none⟩] [0, 1, 2, 3, 8, 9, 10]) (
  .seq (.dreg [
     ⟨(some 23), .mv (.t 10), none⟩,
     ⟨(some 24), .mv (.t 3), none⟩,
     ⟨(some 25), .call 19 [(.t 23), (.t 24)], none⟩,
     ⟨(some 26), .mv (.t 10), none⟩,
     ⟨(some 27), .mv (.t 3), none⟩,
     ⟨(some 28), .bin .shr (.t 26) (.t 27), none⟩,
     ⟨(some 8), .mv (.t 25), none⟩,
     ⟨(some 9), .mv (.t 28), none⟩] [[], [], [0, 1], [], [], [3, 4], [0, 1, 2], [0, 1, 2, 3, 4, 5, 6]] [0, 1, 2, 3, 8, 9, 10]) (
  .ret))))
theorem k20 : Try.f20.body.bind (compC Try.prog Try.f20.ntmps v20) = some c20 := by kernel_rfl
theorem e20 : enters Try.prog 20 = true := by kernel_rfl
theorem q20 : Try.f20.results.toList.mapM (compRes Try.prog) = some r20 := by kernel_rfl
/-- bakelite/bit.Sub -/
def v21 : List Nat := [0, 1, 2, 3, 8, 9, 10, 24]
def r21 : List AR := [.t 8, .t 9]
def c21 : AC :=
  .seq (.reg [
     ⟨(some 8), .mv (.k (.int .i64 0)), none⟩,
     ⟨(some 9), .mv (.k (.int .i64 0)), none⟩] [0, 1, 2, 3, 8, 9, 10, 24]) (
  .seq (.reg [
     ⟨(some 11), .mv (.t 3), none⟩,
     ⟨(some 12), .call 61 [(.t 11)], none⟩,
     ⟨(some 3), .mv (.t 12), none⟩] [0, 1, 2, 3, 8, 9, 10, 24]) (
  .seq (.reg [
     ⟨(some 13), .mv (.t 0), none⟩,
     ⟨(some 14), .mv (.t 3), none⟩,
     ⟨(some 15), .call 19 [(.t 13), (.t 14)], none⟩,
     ⟨(some 16), .mv (.t 1), none⟩,
     ⟨(some 17), .mv (.t 3), none⟩,
     ⟨(some 18), .call 19 [(.t 16), (.t 17)], none⟩,
     ⟨(some 19), .bin .sub (.t 15) (.t 18), none⟩,
     ⟨(some 20), .mv (.t 2), none⟩,
     ⟨(some 21), .bin .and (.t 20) (.k (.int .i64 1)), none⟩,
     ⟨(some 22), .bin .sub (.t 19) (.t 21), none⟩,
     ⟨(some 10), .mv (.t 22), none⟩] [0, 1, 2, 3, 8, 9, 10, 24]) (
  .seq (.seq (.reg [
      ⟨(some 23), .mv (.t 10), none⟩,
      ⟨(some 24), .bin .lss (.t 23) (.k (.int .i64 0)), none⟩] [0, 1, 2, 3, 8, 9, 10, 24]) (
   .cond (.t 24) (.seq (.reg [
        ⟨(some 25), .mv (.t 10), none⟩,
        ⟨(some 26), .mv (.t 3), none⟩,
        ⟨(some 27), .bin .shl (.k (.int .i64 1)) (.t 26), none⟩,
        ⟨(some 28), .bin .add (.t 25) (.t 27), none⟩,
        ⟨(some 8), .mv (.t 28), none⟩,
        ⟨(some 9), .mv (.k (.int .i64 1)), none⟩] [0, 1, 2, 3, 8, 9, 10, 24]) (
     .ret)) (
   .skip))) (
  .seq (.reg [
     ⟨(some 29), .mv (.t 10), none⟩,
     ⟨(some 8), .mv (.t 29), none⟩,
     ⟨(some 9), .mv (.k (.int .i64 0)), none⟩] [0, 1, 2, 3, 8, 9, 10, 24]) (
  .ret)))))
theorem k21 : Try.f21.body.bind (compC Try.prog Try.f21.ntmps v21) = some c21 := by kernel_rfl
theorem e21 : enters Try.prog 21 = true := by kernel_rfl
theorem q21 : Try.f21.results.toList.mapM (compRes Try.prog) = some r21 := by kernel_rfl
/-- bakelite/bit.Signed -/
def v22 : List Nat := [0, 1, 4, 18]
def r22 : List AR := [.t 4]
def c22 : AC :=
  .seq (.reg [
     ⟨(some 4), .mv (.k (.int .i64 0)), none⟩] [0, 1, 4, 18]) (
  .seq (.reg [
     ⟨(some 5), .mv (.t 1), none⟩,
     ⟨(some 6), .call 61 [(.t 5)], none⟩,
     ⟨(some 1), .mv (.t 6), none⟩] [0, 1, 4, 18]) (
  .seq (.reg [
     ⟨(some 7), .mv (.t 0), none⟩,
     ⟨(some 8), .mv (.t 1), none⟩,
     ⟨(some 9), .call 19 [(.t 7), (.t 8)], none⟩,
     ⟨(some 0), .mv (.t 9), none⟩] [0, 1, 4, 18]) (
  .seq (.seq (.reg [
      ⟨(some 10), .mv (.t 1), none⟩,
      ⟨(some 11), .bin .gtr (.t 10) (.k (.int .i64 0)), none⟩,
      ⟨(some 12), .mv (.t 11), none⟩,
      ⟨(some 13), .mv (.t 0), (some (12, true))⟩,
      ⟨(some 14), .mv (.t 1), (some (12, true))⟩,
      ⟨(some 15), .bin .sub (.t 14) (.k (.int .i64 1)), (some (12, true))⟩,
      ⟨(some 16), .bin .shr (.t 13) (.t 15), (some (12, true))⟩,
      ⟨(some 17), .bin .eql (.t 16) (.k (.int .i64 1)), (some (12, true))⟩,
      ⟨(some 18), .pick (.t 12) (.t 17) (.k (.bool false)), none⟩] [0, 1, 4, 18]) (
   .cond (.t 18) (.reg [
       ⟨(some 19), .mv (.t 0), none⟩,
       ⟨(some 20), .mv (.t 1), none⟩,
       ⟨(some 21), .bin .shl (.k (.int .i64 1)) (.t 20), none⟩,
       ⟨(some 22), .bin .sub (.t 19) (.t 21), none⟩,
       ⟨(some 0), .mv (.t 22), none⟩] [0, 1, 4, 18]) (
   .skip))) (
  .seq (.reg [
     ⟨(some 23), .mv (.t 0), none⟩,
     ⟨(some 4), .mv (.t 23), none⟩] [0, 1, 4, 18]) (
  .ret)))))
theorem k22 : Try.f22.body.bind (compC Try.prog Try.f22.ntmps v22) = some c22 := by kernel_rfl
theorem e22 : enters Try.prog 22 = true := by kernel_rfl
theorem q22 : Try.f22.results.toList.mapM (compRes Try.prog) = some r22 := by kernel_rfl
/-- bakelite/bit.Rol -/
def v23 : List Nat := [0, 1, 2, 6, 7]
def r23 : List AR := [.t 6, .t 7]
def c23 : AC :=
  .seq (.reg [
     ⟨(some 6), .mv (.k (.int .i64 0)), none⟩,
     ⟨(some 7), .mv (.k (.int .i64 0)), none⟩] [0, 1, 2, 6, 7]) (
  .seq (.reg [
     ⟨(some 8), .mv (.t 2), none⟩,
     ⟨(some 9), .call 61 [(.t 8)], none⟩,
     ⟨(some 2), .mv (.t 9), none⟩] [0, 1, 2, 6, 7]) (
  .seq (.reg [
     ⟨(some 10), .mv (.t 0), none⟩,
     ⟨(some 11), .mv (.t 2), none⟩,
     ⟨(some 12), .call 19 [(.t 10), (.t 11)], none⟩,
     ⟨(some 13), .bin .shl (.t 12) (.k (.int .u64 1)), none⟩,
     ⟨(some 14), .mv (.t 1), none⟩,
     ⟨(some 15), .bin .and (.t 14) (.k (.int .i64 1)), none⟩,
     ⟨(some 16), .bin .or (.t 13) (.t 15), none⟩,
     ⟨(some 0), .mv (.t 16), none⟩] [0, 1, 2, 6, 7]) (
  .seq (.dreg [
     ⟨(some 17), .mv (.t 0), none⟩,
     ⟨(some 18), .mv (.t 2), none⟩,
     ⟨(some 19), .call 19 [(.t 17), (.t 18)], none⟩,
     ⟨(some 20), .mv (.t 0), none⟩,
     ⟨(some 21), .mv (.t 2), none⟩,
     ⟨(some 22), .bin .shr (.t 20) (.t 21), none⟩,
     ⟨(some 6), .mv (.t 19), none⟩,
     ⟨(some 7), .mv (.t 22), none⟩] [[], [], [0, 1], [], [], [3, 4], [0, 1, 2], [0, 1, 2, 3, 4, 5, 6]] [0, 1, 2, 6, 7]) (
  .ret))))
theorem k23 : Try.f23.body.bind (compC Try.prog Try.f23.ntmps v23) = some c23 := by kernel_rfl
theorem e23 : enters Try.prog 23 = true := by kernel_rfl
theorem q23 : Try.f23.results.toList.mapM (compRes Try.prog) = some r23 := by kernel_rfl
/-- bakelite/bit.Ror -/
def v24 : List Nat := [0, 1, 2, 6, 7]
def r24 : List AR := [.t 6, .t 7]
def c24 : AC :=
  .seq (.reg [
     ⟨(some 6), .mv (.k (.int .i64 0)), none⟩,
     ⟨(some 7), .mv (.k (.int .i64 0)), none⟩] [0, 1, 2, 6, 7]) (
  .seq (.reg [
     ⟨(some 8), .mv (.t 2), none⟩,
     ⟨(some 9), .call 61 [(.t 8)], none⟩,
     ⟨(some 2), .mv (.t 9), none⟩] [0, 1, 2, 6, 7]) (
  .seq (.dreg [
     ⟨(some 10), .mv (.t 0), none⟩,
     ⟨(some 11), .mv (.t 2), none⟩,
     ⟨(some 12), .call 19 [(.t 10), (.t 11)], none⟩,
     ⟨(some 13), .mv (.t 1), none⟩,
     ⟨(some 14), .bin .and (.t 13) (.k (.int .i64 1)), none⟩,
     ⟨(some 15), .mv (.t 2), none⟩,
     ⟨(some 16), .bin .shl (.t 14) (.t 15), none⟩,
     ⟨(some 17), .bin .or (.t 12) (.t 16), none⟩,
     ⟨(some 0), .mv (.t 17), none⟩] [[], [], [0, 1], [], [3], [], [3, 4, 5], [0, 1, 2, 3, 4, 5, 6], [0, 1, 2, 3, 4, 5, 6, 7]] [0, 1, 2, 6, 7]) (
  .seq (.reg [
     ⟨(some 18), .mv (.t 0), none⟩,
     ⟨(some 19), .bin .shr (.t 18) (.k (.int .u64 1)), none⟩,
     ⟨(some 20), .mv (.t 0), none⟩,
     ⟨(some 21), .bin .and (.t 20) (.k (.int .i64 1)), none⟩,
     ⟨(some 6), .mv (.t 19), none⟩,
     ⟨(some 7), .mv (.t 21), none⟩] [0, 1, 2, 6, 7]) (
  .ret))))
theorem k24 : Try.f24.body.bind (compC Try.prog Try.f24.ntmps v24) = some c24 := by kernel_rfl
theorem e24 : enters Try.prog 24 = true := by kernel_rfl
theorem q24 : Try.f24.results.toList.mapM (compRes Try.prog) = some r24 := by kernel_rfl
/-- bakelite/bit.Turn -/
def v25 : List Nat := [0, 1, 4, 5, 6, 8, 9, 10]
def r25 : List AR := [.t 4]
def c25 : AC :=
  .seq (.reg [
     ⟨(some 4), .mv (.k (.int .i64 0)), none⟩] [0, 1, 4, 5, 6, 8, 9, 10]) (
  .seq (.reg [
     ⟨(some 5), .mv (.k (.int .i64 0)), none⟩] [0, 1, 4, 5, 6, 8, 9, 10]) (
  .seq (.seq (.reg [
      ⟨(some 7), .mv (.t 1), none⟩,
      ⟨(some 8), .call 61 [(.t 7)], none⟩,
      ⟨(some 9), .mv (.k (.int .i64 0)), none⟩] [0, 1, 4, 5, 6, 8, 9, 10]) (
   .block 0 (.loop (.seq (.reg [
          ⟨(some 10), .bin .lss (.t 9) (.t 8), none⟩] [0, 1, 4, 5, 6, 8, 9, 10]) (
       .seq (.cond (.t 10) (.skip) (
        .exit 0)) (
       .seq (.block 1 (.seq (.reg [
             ⟨(some 11), .mv (.t 9), none⟩,
             ⟨(some 6), .mv (.t 11), none⟩] [0, 1, 4, 5, 6, 8, 9, 10]) (
          .reg [
            ⟨(some 12), .mv (.t 5), none⟩,
            ⟨(some 13), .bin .shl (.t 12) (.k (.int .u64 1)), none⟩,
            ⟨(some 14), .mv (.t 0), none⟩,
            ⟨(some 15), .mv (.t 6), none⟩,
            ⟨(some 16), .bin .shr (.t 14) (.t 15), none⟩,
            ⟨(some 17), .bin .and (.t 16) (.k (.int .i64 1)), none⟩,
            ⟨(some 18), .bin .or (.t 13) (.t 17), none⟩,
            ⟨(some 5), .mv (.t 18), none⟩] [0, 1, 4, 5, 6, 8, 9, 10]))) (
       .reg [
         ⟨(some 19), .bin .add (.t 9) (.k (.int .i64 1)), none⟩,
         ⟨(some 9), .mv (.t 19), none⟩] [0, 1, 4, 5, 6, 8, 9, 10]))))))) (
  .seq (.reg [
     ⟨(some 20), .mv (.t 5), none⟩,
     ⟨(some 4), .mv (.t 20), none⟩] [0, 1, 4, 5, 6, 8, 9, 10]) (
  .ret))))
theorem k25 : Try.f25.body.bind (compC Try.prog Try.f25.ntmps v25) = some c25 := by kernel_rfl
theorem e25 : enters Try.prog 25 = true := by kernel_rfl
theorem q25 : Try.f25.results.toList.mapM (compRes Try.prog) = some r25 := by kernel_rfl
/-- bakelite/bit.Count -/
def v26 : List Nat := [0, 2, 3, 7]
def r26 : List AR := [.t 2]
def c26 : AC :=
  .seq (.reg [
     ⟨(some 2), .mv (.k (.int .i64 0)), none⟩] [0, 2, 3, 7]) (
  .seq (.reg [
     ⟨(some 3), .mv (.k (.int .i64 0)), none⟩] [0, 2, 3, 7]) (
  .seq (.seq (.reg [
      ⟨(some 4), .mv (.t 0), none⟩,
      ⟨(some 5), .call 19 [(.t 4), (.k (.int .i64 62))], none⟩,
      ⟨(some 0), .mv (.t 5), none⟩] [0, 2, 3, 7]) (
   .block 0 (.loop (.seq (.seq (.reg [
           ⟨(some 6), .mv (.t 0), none⟩,
           ⟨(some 7), .bin .gtr (.t 6) (.k (.int .i64 0)), none⟩] [0, 2, 3, 7]) (
        .cond (.t 7) (.skip) (
        .exit 0))) (
       .seq (.block 1 (.reg [
            ⟨(some 12), .mv (.t 3), none⟩,
            ⟨(some 13), .bin .add (.t 12) (.k (.int .i64 1)), none⟩,
            ⟨(some 3), .mv (.t 13), none⟩] [0, 2, 3, 7])) (
       .reg [
         ⟨(some 8), .mv (.t 0), none⟩,
         ⟨(some 9), .mv (.t 0), none⟩,
         ⟨(some 10), .bin .sub (.t 9) (.k (.int .i64 1)), none⟩,
         ⟨(some 11), .bin .and (.t 8) (.t 10), none⟩,
         ⟨(some 0), .mv (.t 11), none⟩] [0, 2, 3, 7])))))) (
  .seq (.reg [
     ⟨(some 14), .mv (.t 3), none⟩,
     ⟨(some 2), .mv (.t 14), none⟩] [0, 2, 3, 7]) (
  .ret))))
theorem k26 : Try.f26.body.bind (compC Try.prog Try.f26.ntmps v26) = some c26 := by kernel_rfl
theorem e26 : enters Try.prog 26 = true := by kernel_rfl
theorem q26 : Try.f26.results.toList.mapM (compRes Try.prog) = some r26 := by kernel_rfl
/-- bakelite/bit.Digits -/
def v27 : List Nat := [0, 1, 4, 5, 6, 7, 12, 13, 14, 15]
def r27 : List AR := [.t 4, .t 5]
def c27 : AC :=
  .seq (.reg [
     ⟨(some 4), .mv (.k (.int .i64 0)), none⟩,
     ⟨(some 5), .mv (.k (.bool false)), none⟩] [0, 1, 4, 5, 6, 7, 12, 13, 14, 15]) (
  .seq (.reg [
     ⟨(some 8), .mv (.t 1), none⟩,
     ⟨(some 9), .mnx false [(.t 8), (.k (.int .i64 15))], none⟩,
     ⟨(some 10), .mnx true [(.k (.int .i64 0)), (.t 9)], none⟩,
     ⟨(some 1), .mv (.t 10), none⟩] [0, 1, 4, 5, 6, 7, 12, 13, 14, 15]) (
  .seq (.seq (.reg [
      ⟨(some 11), .mv (.t 0), none⟩,
      ⟨(some 12), .bin .lss (.t 11) (.k (.int .i64 0)), none⟩] [0, 1, 4, 5, 6, 7, 12, 13, 14, 15]) (
   .cond (.t 12) (.seq (.reg [
        ⟨(some 4), .mv (.k (.int .i64 0)), none⟩,
        ⟨(some 5), .mv (.k (.bool false)), none⟩] [0, 1, 4, 5, 6, 7, 12, 13, 14, 15]) (
     .ret)) (
   .skip))) (
  .seq (.reg [
     ⟨(some 6), .mv (.k (.int .i64 0)), none⟩] [0, 1, 4, 5, 6, 7, 12, 13, 14, 15]) (
  .seq (.seq (.reg [
      ⟨(some 13), .mv (.t 1), none⟩,
      ⟨(some 14), .mv (.k (.int .i64 0)), none⟩] [0, 1, 4, 5, 6, 7, 12, 13, 14, 15]) (
   .block 0 (.loop (.seq (.reg [
          ⟨(some 15), .bin .lss (.t 14) (.t 13), none⟩] [0, 1, 4, 5, 6, 7, 12, 13, 14, 15]) (
       .seq (.cond (.t 15) (.skip) (
        .exit 0)) (
       .seq (.block 1 (.seq (.reg [
             ⟨(some 16), .mv (.t 14), none⟩,
             ⟨(some 7), .mv (.t 16), none⟩] [0, 1, 4, 5, 6, 7, 12, 13, 14, 15]) (
          .seq (.reg [
             ⟨(some 17), .mv (.t 6), none⟩,
             ⟨(some 18), .mv (.t 0), none⟩,
             ⟨(some 19), .bin .rem (.t 18) (.k (.int .i64 10)), none⟩,
             ⟨(some 20), .mv (.t 7), none⟩,
             ⟨(some 21), .bin .mul (.k (.int .i64 4)) (.t 20), none⟩,
             ⟨(some 22), .bin .shl (.t 19) (.t 21), none⟩,
             ⟨(some 23), .bin .or (.t 17) (.t 22), none⟩,
             ⟨(some 6), .mv (.t 23), none⟩] [0, 1, 4, 5, 6, 7, 12, 13, 14, 15]) (
          .reg [
            ⟨(some 24), .mv (.t 0), none⟩,
            ⟨(some 25), .bin .quo (.t 24) (.k (.int .i64 10)), none⟩,
            ⟨(some 0), .mv (.t 25), none⟩] [0, 1, 4, 5, 6, 7, 12, 13, 14, 15])))) (
       .reg [
         ⟨(some 26), .bin .add (.t 14) (.k (.int .i64 1)), none⟩,
         ⟨(some 14), .mv (.t 26), none⟩] [0, 1, 4, 5, 6, 7, 12, 13, 14, 15]))))))) (
  .seq (.reg [
     ⟨(some 27), .mv (.t 6), none⟩,
     ⟨(some 28), .mv (.t 0), none⟩,
     ⟨(some 29), .bin .eql (.t 28) (.k (.int .i64 0)), none⟩,
     ⟨(some 4), .mv (.t 27), none⟩,
     ⟨(some 5), .mv (.t 29), none⟩] [0, 1, 4, 5, 6, 7, 12, 13, 14, 15]) (
  .ret))))))
theorem k27 : Try.f27.body.bind (compC Try.prog Try.f27.ntmps v27) = some c27 := by kernel_rfl
theorem e27 : enters Try.prog 27 = true := by kernel_rfl
theorem q27 : Try.f27.results.toList.mapM (compRes Try.prog) = some r27 := by kernel_rfl
/-- bakelite/bit.Number -/
def v28 : List Nat := [0, 1, 4, 5, 6, 7, 8, 15, 23]
def r28 : List AR := [.t 4, .t 5]
def c28 : AC :=
  .seq (.reg [
     ⟨(some 4), .mv (.k (.int .i64 0)), none⟩,
     ⟨(some 5), .mv (.k (.bool false)), none⟩] [0, 1, 4, 5, 6, 7, 8, 15, 23]) (
  .seq (.reg [
     ⟨(some 9), .mv (.t 1), none⟩,
     ⟨(some 10), .mnx false [(.t 9), (.k (.int .i64 15))], none⟩,
     ⟨(some 11), .mnx true [(.k (.int .i64 0)), (.t 10)], none⟩,
     ⟨(some 1), .mv (.t 11), none⟩] [0, 1, 4, 5, 6, 7, 8, 15, 23]) (
  .seq (.reg [
     ⟨(some 6), .mv (.k (.int .i64 0)), none⟩] [0, 1, 4, 5, 6, 7, 8, 15, 23]) (
  .seq (.seq (.reg [
      ⟨(some 12), .mv (.t 1), none⟩,
      ⟨(some 13), .bin .sub (.t 12) (.k (.int .i64 1)), none⟩,
      ⟨(some 7), .mv (.t 13), none⟩] [0, 1, 4, 5, 6, 7, 8, 15, 23]) (
   .block 0 (.loop (.seq (.seq (.reg [
           ⟨(some 14), .mv (.t 7), none⟩,
           ⟨(some 15), .bin .geq (.t 14) (.k (.int .i64 0)), none⟩] [0, 1, 4, 5, 6, 7, 8, 15, 23]) (
        .cond (.t 15) (.skip) (
        .exit 0))) (
       .seq (.block 1 (.seq (.reg [
             ⟨(some 18), .mv (.t 0), none⟩,
             ⟨(some 19), .mv (.t 7), none⟩,
             ⟨(some 20), .bin .mul (.k (.int .i64 4)) (.t 19), none⟩,
             ⟨(some 21), .call 18 [(.t 18), (.t 20), (.k (.int .i64 4))], none⟩,
             ⟨(some 8), .mv (.t 21), none⟩] [0, 1, 4, 5, 6, 7, 8, 15, 23]) (
          .seq (.seq (.reg [
              ⟨(some 22), .mv (.t 8), none⟩,
              ⟨(some 23), .bin .gtr (.t 22) (.k (.int .i64 9)), none⟩] [0, 1, 4, 5, 6, 7, 8, 15, 23]) (
           .cond (.t 23) (.seq (.reg [
                ⟨(some 4), .mv (.k (.int .i64 0)), none⟩,
                ⟨(some 5), .mv (.k (.bool false)), none⟩] [0, 1, 4, 5, 6, 7, 8, 15, 23]) (
             .ret)) (
           .skip))) (
          .reg [
            ⟨(some 24), .mv (.t 6), none⟩,
            ⟨(some 25), .bin .mul (.t 24) (.k (.int .i64 10)), none⟩,
            ⟨(some 26), .mv (.t 8), none⟩,
            ⟨(some 27), .bin .add (.t 25) (.t 26), none⟩,
            ⟨(some 6), .mv (.t 27), none⟩] [0, 1, 4, 5, 6, 7, 8, 15, 23])))) (
       .reg [
         ⟨(some 16), .mv (.t 7), none⟩,
         ⟨(some 17), .bin .sub (.t 16) (.k (.int .i64 1)), none⟩,
         ⟨(some 7), .mv (.t 17), none⟩] [0, 1, 4, 5, 6, 7, 8, 15, 23])))))) (
  .seq (.reg [
     ⟨(some 28), .mv (.t 6), none⟩,
     ⟨(some 4), .mv (.t 28), none⟩,
     ⟨(some 5), .mv (.k (.bool true)), none⟩] [0, 1, 4, 5, 6, 7, 8, 15, 23]) (
  .ret)))))
theorem k28 : Try.f28.body.bind (compC Try.prog Try.f28.ntmps v28) = some c28 := by kernel_rfl
theorem e28 : enters Try.prog 28 = true := by kernel_rfl
theorem q28 : Try.f28.results.toList.mapM (compRes Try.prog) = some r28 := by kernel_rfl
/-- bakelite/serial.In -/
def v29 : List Nat := [0, 1, 2, 4, 5, 11]
def r29 : List AR := [.cell (some 2) 4]
def c29 : AC :=
  .seq (.reg [
     ⟨(some 2), .new 2 (.t 0), none⟩,
     ⟨(some 4), .zero [(.slice none 0 0), (.slice none 0 0)], none⟩] [0, 1, 2, 4, 5, 11]) (
  .seq (.reg [
     ⟨(some 6), .ld (some 2) (.t 2), none⟩,
     ⟨(some 7), .call 62 [(.t 6)], none⟩,
     ⟨(some 5), .mv (.t 7), none⟩] [0, 1, 2, 4, 5, 11]) (
  .seq (.seq (.reg [
      ⟨(some 8), .mv (.t 5), none⟩,
      ⟨(some 9), .idx 1 none (.t 8) (.k (.int .i64 3)), none⟩,
      ⟨(some 10), .ld none (.t 9), none⟩,
      ⟨(some 11), .bin .eql (.t 10) (.k (.int .i64 1)), none⟩] [0, 1, 2, 4, 5, 11]) (
   .cond (.t 11) (.reg [
       ⟨(some 12), .mv (.t 5), none⟩,
       ⟨(some 13), .idx 1 none (.t 12) (.k (.int .i64 4)), none⟩,
       ⟨none, .st 1 (.t 13) (.k (.int .i64 1)), none⟩] [0, 1, 2, 4, 5, 11]) (
   .reg [
       ⟨(some 14), .mv (.t 5), none⟩,
       ⟨(some 15), .mv (.t 5), none⟩,
       ⟨(some 16), .mv (.t 1), none⟩,
       ⟨(some 17), .call 19 [(.t 16), (.k (.int .i64 8))], none⟩,
       ⟨(some 18), .idx 1 none (.t 14) (.k (.int .i64 2)), none⟩,
       ⟨none, .st 1 (.t 18) (.t 17), none⟩,
       ⟨(some 19), .idx 1 none (.t 15) (.k (.int .i64 3)), none⟩,
       ⟨none, .st 1 (.t 19) (.k (.int .i64 1)), none⟩] [0, 1, 2, 4, 5, 11]))) (
  .seq (.reg [
     ⟨(some 20), .mv (.t 5), none⟩,
     ⟨(some 21), .build [(.slice none 0 0), (.slice none 0 0)] [(0, 1, (.t 20))], none⟩,
     ⟨none, .st 2 (.t 4) (.t 21), none⟩] [0, 1, 2, 4, 5, 11]) (
  .ret))))
theorem k29 : Try.f29.body.bind (compC Try.prog Try.f29.ntmps v29) = some c29 := by kernel_rfl
theorem e29 : enters Try.prog 29 = true := by kernel_rfl
theorem q29 : Try.f29.results.toList.mapM (compRes Try.prog) = some r29 := by kernel_rfl
/-- bakelite/serial.New -/
def v30 : List Nat := [0]
def r30 : List AR := [.cell (some 2) 0]
def c30 : AC :=
  .seq (.reg [
     ⟨(some 0), .zero [(.slice none 0 0), (.slice none 0 0)], none⟩] [0]) (
  .seq (.reg [
     ⟨(some 1), .mksl [(.int .i64 0)] 8 (.k (.int .i64 8)) (.k (.int .i64 8)), none⟩,
     ⟨(some 2), .build [(.slice none 0 0), (.slice none 0 0)] [(0, 1, (.t 1))], none⟩,
     ⟨none, .st 2 (.t 0) (.t 2), none⟩] [0]) (
  .ret))
theorem k30 : Try.f30.body.bind (compC Try.prog Try.f30.ntmps v30) = some c30 := by kernel_rfl
theorem e30 : enters Try.prog 30 = true := by kernel_rfl
theorem q30 : Try.f30.results.toList.mapM (compRes Try.prog) = some r30 := by kernel_rfl
/-- bakelite/serial.Read -/
def v31 : List Nat := [0, 1, 2, 4, 5, 6, 7, 10, 11, 18, 37]
def r31 : List AR := [.cell (some 2) 4, .t 5]
def c31 : AC :=
  .seq (.reg [
     ⟨(some 2), .new 2 (.t 0), none⟩,
     ⟨(some 4), .zero [(.slice none 0 0), (.slice none 0 0)], none⟩,
     ⟨(some 5), .mv (.k (.int .i64 0)), none⟩] [0, 1, 2, 4, 5, 6, 7, 10, 11, 18, 37]) (
  .seq (.reg [
     ⟨(some 8), .ld (some 2) (.t 2), none⟩,
     ⟨(some 9), .call 62 [(.t 8)], none⟩,
     ⟨(some 6), .mv (.t 9), none⟩] [0, 1, 2, 4, 5, 6, 7, 10, 11, 18, 37]) (
  .seq (.reg [
     ⟨(some 7), .mv (.k (.int .i64 0)), none⟩] [0, 1, 2, 4, 5, 6, 7, 10, 11, 18, 37]) (
  .seq (.seq (.reg [
      ⟨(some 10), .mv (.t 1), none⟩] [0, 1, 2, 4, 5, 6, 7, 10, 11, 18, 37]) (
   .block 0 (.seq (.reg [
        ⟨(some 12), .bin .eql (.t 10) (.k (.int .i64 0)), none⟩,
        ⟨(some 11), .mv (.t 12), none⟩] [0, 1, 2, 4, 5, 6, 7, 10, 11, 18, 37]) (
     .cond (.t 11) (.reg [
         ⟨(some 13), .mv (.t 6), none⟩,
         ⟨(some 14), .mv (.t 6), none⟩,
         ⟨(some 15), .idx 1 none (.t 14) (.k (.int .i64 2)), none⟩,
         ⟨(some 16), .ld none (.t 15), none⟩,
         ⟨(some 7), .mv (.t 16), none⟩,
         ⟨(some 17), .idx 1 none (.t 13) (.k (.int .i64 3)), none⟩,
         ⟨none, .st 1 (.t 17) (.k (.int .i64 0)), none⟩] [0, 1, 2, 4, 5, 6, 7, 10, 11, 18, 37]) (
     .seq (.reg [
          ⟨(some 19), .bin .eql (.t 10) (.k (.int .i64 1)), none⟩,
          ⟨(some 18), .mv (.t 19), none⟩] [0, 1, 2, 4, 5, 6, 7, 10, 11, 18, 37]) (
       .cond (.t 18) (.seq (.dreg [
            ⟨(some 20), .mv (.t 6), none⟩,
            ⟨(some 21), .idx 1 none (.t 20) (.k (.int .i64 3)), none⟩,
            ⟨(some 22), .ld none (.t 21), none⟩,
            ⟨(some 23), .mv (.t 6), none⟩,
            ⟨(some 24), .idx 1 none (.t 23) (.k (.int .i64 1)), none⟩,
            ⟨(some 25), .ld none (.t 24), none⟩,
            ⟨(some 26), .bin .gtr (.t 25) (.k (.int .i64 0)), none⟩,
            ⟨(some 27), .call 63 [(.t 26)], none⟩,
            ⟨(some 28), .bin .shl (.t 27) (.k (.int .u64 1)), none⟩,
            ⟨(some 29), .bin .or (.t 22) (.t 28), none⟩,
            ⟨(some 30), .mv (.t 6), none⟩,
            ⟨(some 31), .idx 1 none (.t 30) (.k (.int .i64 4)), none⟩,
            ⟨(some 32), .ld none (.t 31), none⟩,
            ⟨(some 33), .bin .shl (.t 32) (.k (.int .u64 2)), none⟩,
            ⟨(some 34), .bin .or (.t 29) (.t 33), none⟩,
            ⟨(some 7), .mv (.t 34), none⟩] [[], [0], [0, 1], [], [3], [3, 4], [3, 4, 5], [3, 4, 5, 6], [3, 4, 5, 6, 7], [0, 1, 2, 3, 4, 5, 6, 7, 8], [], [10], [10, 11], [10, 11, 12], [0, 1, 2, 3, 4, 5, 6, 7, 8, 9, 10, 11, 12, 13], [0, 1, 2, 3, 4, 5, 6, 7, 8, 9, 10, 11, 12, 13, 14]] [0, 1, 2, 4, 5, 6, 7, 10, 11, 18, 37]) (
         .reg [
           ⟨(some 35), .mv (.t 6), none⟩,
           ⟨(some 36), .idx 1 none (.t 35) (.k (.int .i64 4)), none⟩,
           ⟨none, .st 1 (.t 36) (.k (.int .i64 0)), none⟩] [0, 1, 2, 4, 5, 6, 7, 10, 11, 18, 37])) (
       .seq (.reg [
            ⟨(some 38), .bin .eql (.t 10) (.k (.int .i64 2)), none⟩,
            ⟨(some 37), .mv (.t 38), none⟩] [0, 1, 2, 4, 5, 6, 7, 10, 11, 18, 37]) (
         .cond (.t 37) (.reg [
             ⟨(some 39), .mv (.t 6), none⟩,
             ⟨(some 40), .idx 1 none (.t 39) (.k (.int .i64 5)), none⟩,
             ⟨(some 41), .ld none (.t 40), none⟩,
             ⟨(some 7), .mv (.t 41), none⟩] [0, 1, 2, 4, 5, 6, 7, 10, 11, 18, 37]) (
         .skip))))))))) (
  .seq (.reg [
     ⟨(some 42), .mv (.t 6), none⟩,
     ⟨(some 43), .build [(.slice none 0 0), (.slice none 0 0)] [(0, 1, (.t 42))], none⟩,
     ⟨(some 44), .mv (.t 7), none⟩,
     ⟨none, .st 2 (.t 4) (.t 43), none⟩,
     ⟨(some 5), .mv (.t 44), none⟩] [0, 1, 2, 4, 5, 6, 7, 10, 11, 18, 37]) (
  .ret)))))
theorem k31 : Try.f31.body.bind (compC Try.prog Try.f31.ntmps v31) = some c31 := by kernel_rfl
theorem e31 : enters Try.prog 31 = true := by kernel_rfl
theorem q31 : Try.f31.results.toList.mapM (compRes Try.prog) = some r31 := by kernel_rfl
/-- bakelite/bakekeep1.serials -/
def v32 : List Nat := [0, 2]
def r32 : List AR := [.t 0]
def c32 : AC :=
  .seq (.reg [
     ⟨(some 0), .mv (.k (.bool false)), none⟩] [0, 2]) (
  .seq (.reg [
     ⟨(some 4), .call 30 [], none⟩,
     ⟨(some 5), .call 29 [(.t 4), (.k (.int .i64 65))], none⟩,
     ⟨(some 6), .call 31 [(.t 5), (.k (.int .i64 0))], none⟩,
     ⟨(some 3), .mv (.t 6), none⟩,
     ⟨(some 7), .ext (.t 3) 0, none⟩,
     ⟨(some 8), .ext (.t 3) 1, none⟩,
     ⟨(some 1), .zero [(.slice none 0 0), (.slice none 0 0)], none⟩,
     ⟨none, .st 2 (.t 1) (.t 7), none⟩,
     ⟨(some 2), .mv (.t 8), none⟩] [0, 2]) (
  .seq (.reg [
     ⟨(some 9), .mv (.t 2), none⟩,
     ⟨(some 10), .bin .eql (.t 9) (.k (.int .i64 65)), none⟩,
     ⟨(some 0), .mv (.t 10), none⟩] [0, 2]) (
  .ret)))
theorem k32 : Try.f32.body.bind (compC Try.prog Try.f32.ntmps v32) = some c32 := by kernel_rfl
theorem e32 : enters Try.prog 32 = true := by kernel_rfl
theorem q32 : Try.f32.results.toList.mapM (compRes Try.prog) = some r32 := by kernel_rfl
/-- bakelite/pin.Bus -/
def v33 : List Nat := [0, 2, 3, 4, 5, 6, 7, 8, 9, 11, 12, 13, 15, 16, 17, 18, 27, 28, 34, 44]
def r33 : List AR := [.t 2, .t 3, .t 4]
def c33 : AC :=
  .seq (.reg [
     ⟨(some 2), .mv (.k (.int .i64 0)), none⟩,
     ⟨(some 3), .mv (.k (.int .i64 0)), none⟩,
     ⟨(some 4), .mv (.k (.int .i64 0)), none⟩] [0, 2, 3, 4, 5, 6, 7, 8, 9, 11, 12, 13, 15, 16, 17, 18, 27, 28, 34, 44]) (
  .seq (.reg [
     ⟨(some 5), .mv (.k (.int .i64 0)), none⟩,
     ⟨(some 6), .mv (.k (.int .i64 0)), none⟩,
     ⟨(some 7), .mv (.k (.int .i64 0)), none⟩] [0, 2, 3, 4, 5, 6, 7, 8, 9, 11, 12, 13, 15, 16, 17, 18, 27, 28, 34, 44]) (
  .seq (.seq (.reg [
      ⟨(some 12), .mv (.k (.int .i64 0)), none⟩] [0, 2, 3, 4, 5, 6, 7, 8, 9, 11, 12, 13, 15, 16, 17, 18, 27, 28, 34, 44]) (
   .block 0 (.loop (.seq (.reg [
          ⟨(some 13), .bin .lss (.t 12) (.k (.int .i64 8)), none⟩] [0, 2, 3, 4, 5, 6, 7, 8, 9, 11, 12, 13, 15, 16, 17, 18, 27, 28, 34, 44]) (
       .seq (.cond (.t 13) (.skip) (
        .exit 0)) (
       .seq (.block 1 (.seq (.reg [
             ⟨(some 14), .mv (.t 12), none⟩,
             ⟨(some 8), .mv (.t 14), none⟩] [0, 2, 3, 4, 5, 6, 7, 8, 9, 11, 12, 13, 15, 16, 17, 18, 27, 28, 34, 44]) (
          .seq (.reg [
             ⟨(some 9), .mv (.k (.int .i64 2)), none⟩] [0, 2, 3, 4, 5, 6, 7, 8, 9, 11, 12, 13, 15, 16, 17, 18, 27, 28, 34, 44]) (
          .seq (.seq (.reg [
              ⟨(some 15), .mv (.t 0), none⟩,
              ⟨(some 16), .len (.t 15), none⟩,
              ⟨(some 17), .mv (.k (.int .i64 0)), none⟩] [0, 2, 3, 4, 5, 6, 7, 8, 9, 11, 12, 13, 15, 16, 17, 18, 27, 28, 34, 44]) (
           .block 2 (.loop (.seq (.reg [
                  ⟨(some 18), .bin .lss (.t 17) (.t 16), none⟩] [0, 2, 3, 4, 5, 6, 7, 8, 9, 11, 12, 13, 15, 16, 17, 18, 27, 28, 34, 44]) (
               .seq (.cond (.t 18) (.skip) (
                .exit 2)) (
               .seq (.block 3 (.seq (.reg [
                     ⟨(some 19), .idx 8 none (.t 15) (.t 17), none⟩,
                     ⟨(some 20), .ld (some 8) (.t 19), none⟩,
                     ⟨(some 11), .zero [(.int .i64 0), (.int .i64 0), (.int .i64 0), (.int .i64 0), (.int .i64 0), (.int .i64 0), (.int .i64 0), (.int .i64 0)], none⟩,
                     ⟨none, .st 8 (.t 11) (.t 20), none⟩] [0, 2, 3, 4, 5, 6, 7, 8, 9, 11, 12, 13, 15, 16, 17, 18, 27, 28, 34, 44]) (
                  .reg [
                    ⟨(some 21), .mv (.t 9), none⟩,
                    ⟨(some 22), .mv (.t 8), none⟩,
                    ⟨(some 23), .idx 1 (some 8) (.t 11) (.t 22), none⟩,
                    ⟨(some 24), .ld none (.t 23), none⟩,
                    ⟨(some 25), .call 64 [(.t 21), (.t 24)], none⟩,
                    ⟨(some 9), .mv (.t 25), none⟩] [0, 2, 3, 4, 5, 6, 7, 8, 9, 11, 12, 13, 15, 16, 17, 18, 27, 28, 34, 44]))) (
               .reg [
                 ⟨(some 26), .bin .add (.t 17) (.k (.int .i64 1)), none⟩,
                 ⟨(some 17), .mv (.t 26), none⟩] [0, 2, 3, 4, 5, 6, 7, 8, 9, 11, 12, 13, 15, 16, 17, 18, 27, 28, 34, 44]))))))) (
          .seq (.reg [
             ⟨(some 27), .mv (.t 9), none⟩] [0, 2, 3, 4, 5, 6, 7, 8, 9, 11, 12, 13, 15, 16, 17, 18, 27, 28, 34, 44]) (
          .block 4 (.seq (.reg [
               ⟨(some 29), .bin .eql (.t 27) (.k (.int .i64 1)), none⟩,
               ⟨(some 28), .mv (.t 29), none⟩] [0, 2, 3, 4, 5, 6, 7, 8, 9, 11, 12, 13, 15, 16, 17, 18, 27, 28, 34, 44]) (
            .cond (.t 28) (.reg [
                ⟨(some 30), .mv (.t 5), none⟩,
                ⟨(some 31), .mv (.t 8), none⟩,
                ⟨(some 32), .bin .shl (.k (.int .i64 1)) (.t 31), none⟩,
                ⟨(some 33), .bin .or (.t 30) (.t 32), none⟩,
                ⟨(some 5), .mv (.t 33), none⟩] [0, 2, 3, 4, 5, 6, 7, 8, 9, 11, 12, 13, 15, 16, 17, 18, 27, 28, 34, 44]) (
            .seq (.reg [
                 ⟨(some 35), .bin .eql (.t 27) (.k (.int .i64 2)), none⟩,
                 ⟨(some 34), .mv (.t 35), none⟩] [0, 2, 3, 4, 5, 6, 7, 8, 9, 11, 12, 13, 15, 16, 17, 18, 27, 28, 34, 44]) (
              .cond (.t 34) (.dreg [
                  ⟨(some 36), .mv (.t 5), none⟩,
                  ⟨(some 37), .mv (.t 8), none⟩,
                  ⟨(some 38), .bin .shl (.k (.int .i64 1)) (.t 37), none⟩,
                  ⟨(some 39), .bin .or (.t 36) (.t 38), none⟩,
                  ⟨(some 40), .mv (.t 6), none⟩,
                  ⟨(some 41), .mv (.t 8), none⟩,
                  ⟨(some 42), .bin .shl (.k (.int .i64 1)) (.t 41), none⟩,
                  ⟨(some 43), .bin .or (.t 40) (.t 42), none⟩,
                  ⟨(some 5), .mv (.t 39), none⟩,
                  ⟨(some 6), .mv (.t 43), none⟩] [[], [], [1], [0, 1, 2], [], [], [5], [4, 5, 6], [0, 1, 2, 3], [0, 1, 2, 3, 4, 5, 6, 7, 8]] [0, 2, 3, 4, 5, 6, 7, 8, 9, 11, 12, 13, 15, 16, 17, 18, 27, 28, 34, 44]) (
              .seq (.reg [
                   ⟨(some 45), .bin .eql (.t 27) (.k (.int .i64 3)), none⟩,
                   ⟨(some 44), .mv (.t 45), none⟩] [0, 2, 3, 4, 5, 6, 7, 8, 9, 11, 12, 13, 15, 16, 17, 18, 27, 28, 34, 44]) (
                .cond (.t 44) (.dreg [
                    ⟨(some 46), .mv (.t 5), none⟩,
                    ⟨(some 47), .mv (.t 8), none⟩,
                    ⟨(some 48), .bin .shl (.k (.int .i64 1)) (.t 47), none⟩,
                    ⟨(some 49), .bin .or (.t 46) (.t 48), none⟩,
                    ⟨(some 50), .mv (.t 7), none⟩,
                    ⟨(some 51), .mv (.t 8), none⟩,
                    ⟨(some 52), .bin .shl (.k (.int .i64 1)) (.t 51), none⟩,
                    ⟨(some 53), .bin .or (.t 50) (.t 52), none⟩,
                    ⟨(some 5), .mv (.t 49), none⟩,
                    ⟨(some 7), .mv (.t 53), none⟩] [[], [], [1], [0, 1, 2], [], [], [5], [4, 5, 6], [0, 1, 2, 3], [0, 1, 2, 3, 4, 5, 6, 7, 8]] [0, 2, 3, 4, 5, 6, 7, 8, 9, 11, 12, 13, 15, 16, 17, 18, 27, 28, 34, 44]) (
                .skip))))))))))))) (
       .reg [
         ⟨(some 54), .bin .add (.t 12) (.k (.int .i64 1)), none⟩,
         ⟨(some 12), .mv (.t 54), none⟩] [0, 2, 3, 4, 5, 6, 7, 8, 9, 11, 12, 13, 15, 16, 17, 18, 27, 28, 34, 44]))))))) (
  .seq (.reg [
     ⟨(some 55), .mv (.t 5), none⟩,
     ⟨(some 56), .mv (.t 6), none⟩,
     ⟨(some 57), .mv (.t 7), none⟩,
     ⟨(some 2), .mv (.t 55), none⟩,
     ⟨(some 3), .mv (.t 56), none⟩,
     ⟨(some 4), .mv (.t 57), none⟩] [0, 2, 3, 4, 5, 6, 7, 8, 9, 11, 12, 13, 15, 16, 17, 18, 27, 28, 34, 44]) (
  .ret))))
theorem k33 : Try.f33.body.bind (compC Try.prog Try.f33.ntmps v33) = some c33 := by kernel_rfl
theorem e33 : enters Try.prog 33 = true := by kernel_rfl
theorem q33 : Try.f33.results.toList.mapM (compRes Try.prog) = some r33 := by kernel_rfl
/-- bakelite/pin.Drive -/
def v34 : List Nat := [0, 2, 3, 4, 5, 6]
def r34 : List AR := [.cell (some 8) 2]
def c34 : AC :=
  .seq (.reg [
     ⟨(some 2), .zero [(.int .i64 0), (.int .i64 0), (.int .i64 0), (.int .i64 0), (.int .i64 0), (.int .i64 0), (.int .i64 0), (.int .i64 0)], none⟩] [0, 2, 3, 4, 5, 6]) (
  .seq (.reg [
     ⟨(some 3), .zero [(.int .i64 0), (.int .i64 0), (.int .i64 0), (.int .i64 0), (.int .i64 0), (.int .i64 0), (.int .i64 0), (.int .i64 0)], none⟩] [0, 2, 3, 4, 5, 6]) (
  .seq (.seq (.reg [
      ⟨(some 5), .mv (.k (.int .i64 0)), none⟩] [0, 2, 3, 4, 5, 6]) (
   .block 0 (.loop (.seq (.reg [
          ⟨(some 6), .bin .lss (.t 5) (.k (.int .i64 8)), none⟩] [0, 2, 3, 4, 5, 6]) (
       .seq (.cond (.t 6) (.skip) (
        .exit 0)) (
       .seq (.block 1 (.seq (.reg [
             ⟨(some 7), .mv (.t 5), none⟩,
             ⟨(some 4), .mv (.t 7), none⟩] [0, 2, 3, 4, 5, 6]) (
          .reg [
            ⟨(some 8), .mv (.t 4), none⟩,
            ⟨(some 9), .mv (.t 0), none⟩,
            ⟨(some 10), .mv (.t 4), none⟩,
            ⟨(some 11), .bin .shr (.t 9) (.t 10), none⟩,
            ⟨(some 12), .bin .and (.t 11) (.k (.int .i64 1)), none⟩,
            ⟨(some 13), .idx 1 (some 8) (.t 3) (.t 8), none⟩,
            ⟨none, .st 1 (.t 13) (.t 12), none⟩] [0, 2, 3, 4, 5, 6]))) (
       .reg [
         ⟨(some 14), .bin .add (.t 5) (.k (.int .i64 1)), none⟩,
         ⟨(some 5), .mv (.t 14), none⟩] [0, 2, 3, 4, 5, 6]))))))) (
  .seq (.reg [
     ⟨(some 15), .ld (some 8) (.t 3), none⟩,
     ⟨none, .st 8 (.t 2) (.t 15), none⟩] [0, 2, 3, 4, 5, 6]) (
  .ret))))
theorem k34 : Try.f34.body.bind (compC Try.prog Try.f34.ntmps v34) = some c34 := by kernel_rfl
theorem e34 : enters Try.prog 34 = true := by kernel_rfl
theorem q34 : Try.f34.results.toList.mapM (compRes Try.prog) = some r34 := by kernel_rfl
/-- bakelite/bakekeep1.lines -/
def v35 : List Nat := [0]
def r35 : List AR := [.t 0]
def c35 : AC :=
  .seq (.reg [
     ⟨(some 0), .mv (.k (.bool false)), none⟩] [0]) (
  .seq (.reg [
     ⟨(some 1), .call 64 [(.k (.int .i64 0)), (.k (.int .i64 1))], none⟩,
     ⟨(some 2), .bin .eql (.t 1) (.k (.int .i64 3)), none⟩,
     ⟨(some 0), .mv (.t 2), none⟩] [0]) (
  .ret))
theorem k35 : Try.f35.body.bind (compC Try.prog Try.f35.ntmps v35) = some c35 := by kernel_rfl
theorem e35 : enters Try.prog 35 = true := by kernel_rfl
theorem q35 : Try.f35.results.toList.mapM (compRes Try.prog) = some r35 := by kernel_rfl
/-- bakelite/port.In -/
def v36 : List Nat := [0, 1, 2, 4, 5]
def r36 : List AR := [.cell (some 2) 4]
def c36 : AC :=
  .seq (.reg [
     ⟨(some 2), .new 2 (.t 0), none⟩,
     ⟨(some 4), .zero [(.slice none 0 0), (.slice none 0 0)], none⟩] [0, 1, 2, 4, 5]) (
  .seq (.reg [
     ⟨(some 6), .ld (some 2) (.t 2), none⟩,
     ⟨(some 7), .call 65 [(.t 6)], none⟩,
     ⟨(some 5), .mv (.t 7), none⟩] [0, 1, 2, 4, 5]) (
  .seq (.reg [
     ⟨(some 8), .mv (.t 5), none⟩,
     ⟨(some 9), .mv (.t 1), none⟩,
     ⟨(some 10), .call 19 [(.t 9), (.k (.int .i64 8))], none⟩,
     ⟨(some 11), .idx 1 none (.t 8) (.k (.int .i64 0)), none⟩,
     ⟨none, .st 1 (.t 11) (.t 10), none⟩] [0, 1, 2, 4, 5]) (
  .seq (.reg [
     ⟨(some 12), .mv (.t 5), none⟩,
     ⟨(some 13), .build [(.slice none 0 0), (.slice none 0 0)] [(0, 1, (.t 12))], none⟩,
     ⟨none, .st 2 (.t 4) (.t 13), none⟩] [0, 1, 2, 4, 5]) (
  .ret))))
theorem k36 : Try.f36.body.bind (compC Try.prog Try.f36.ntmps v36) = some c36 := by kernel_rfl
theorem e36 : enters Try.prog 36 = true := by kernel_rfl
theorem q36 : Try.f36.results.toList.mapM (compRes Try.prog) = some r36 := by kernel_rfl
/-- bakelite/port.Write -/
def v37 : List Nat := [0, 1, 2, 3, 6, 7, 15]
def r37 : List AR := [.cell (some 2) 6]
def c37 : AC :=
  .seq (.reg [
     ⟨(some 3), .new 2 (.t 0), none⟩,
     ⟨(some 6), .zero [(.slice none 0 0), (.slice none 0 0)], none⟩] [0, 1, 2, 3, 6, 7, 15]) (
  .seq (.reg [
     ⟨(some 8), .ld (some 2) (.t 3), none⟩,
     ⟨(some 9), .call 65 [(.t 8)], none⟩,
     ⟨(some 7), .mv (.t 9), none⟩] [0, 1, 2, 3, 6, 7, 15]) (
  .seq (.seq (.reg [
      ⟨(some 10), .mv (.t 1), none⟩,
      ⟨(some 11), .bin .eql (.t 10) (.k (.int .i64 0)), none⟩,
      ⟨(some 12), .mv (.t 11), none⟩,
      ⟨(some 13), .mv (.t 1), (some (12, false))⟩,
      ⟨(some 14), .bin .eql (.t 13) (.k (.int .i64 1)), (some (12, false))⟩,
      ⟨(some 15), .pick (.t 12) (.k (.bool true)) (.t 14), none⟩] [0, 1, 2, 3, 6, 7, 15]) (
   .cond (.t 15) (.reg [
       ⟨(some 16), .mv (.t 7), none⟩,
       ⟨(some 17), .mv (.t 1), none⟩,
       ⟨(some 18), .bin .add (.k (.int .i64 1)) (.t 17), none⟩,
       ⟨(some 19), .mv (.t 2), none⟩,
       ⟨(some 20), .call 19 [(.t 19), (.k (.int .i64 8))], none⟩,
       ⟨(some 21), .idx 1 none (.t 16) (.t 18), none⟩,
       ⟨none, .st 1 (.t 21) (.t 20), none⟩] [0, 1, 2, 3, 6, 7, 15]) (
   .skip))) (
  .seq (.reg [
     ⟨(some 22), .mv (.t 7), none⟩,
     ⟨(some 23), .build [(.slice none 0 0), (.slice none 0 0)] [(0, 1, (.t 22))], none⟩,
     ⟨none, .st 2 (.t 6) (.t 23), none⟩] [0, 1, 2, 3, 6, 7, 15]) (
  .ret))))
theorem k37 : Try.f37.body.bind (compC Try.prog Try.f37.ntmps v37) = some c37 := by kernel_rfl
theorem e37 : enters Try.prog 37 = true := by kernel_rfl
theorem q37 : Try.f37.results.toList.mapM (compRes Try.prog) = some r37 := by kernel_rfl
/-- bakelite/port.New -/
def v38 : List Nat := [0]
def r38 : List AR := [.cell (some 2) 0]
def c38 : AC :=
  .seq (.reg [
     ⟨(some 0), .zero [(.slice none 0 0), (.slice none 0 0)], none⟩] [0]) (
  .seq (.reg [
     ⟨(some 1), .bsl [(.int .i64 0)] 3 [(0, (.k (.int .i64 255))), (1, (.k (.int .i64 0))), (2, (.k (.int .i64 0)))], none⟩,
     ⟨(some 2), .build [(.slice none 0 0), (.slice none 0 0)] [(0, 1, (.t 1))], none⟩,
     ⟨none, .st 2 (.t 0) (.t 2), none⟩] [0]) (
  .ret))
theorem k38 : Try.f38.body.bind (compC Try.prog Try.f38.ntmps v38) = some c38 := by kernel_rfl
theorem e38 : enters Try.prog 38 = true := by kernel_rfl
theorem q38 : Try.f38.results.toList.mapM (compRes Try.prog) = some r38 := by kernel_rfl
/-- bakelite/port.Read -/
def v39 : List Nat := [0, 1, 2, 4, 5, 6, 7, 10, 11, 28]
def r39 : List AR := [.cell (some 2) 4, .t 5]
def c39 : AC :=
  .seq (.reg [
     ⟨(some 2), .new 2 (.t 0), none⟩,
     ⟨(some 4), .zero [(.slice none 0 0), (.slice none 0 0)], none⟩,
     ⟨(some 5), .mv (.k (.int .i64 0)), none⟩] [0, 1, 2, 4, 5, 6, 7, 10, 11, 28]) (
  .seq (.reg [
     ⟨(some 8), .ld (some 2) (.t 2), none⟩,
     ⟨(some 9), .call 65 [(.t 8)], none⟩,
     ⟨(some 6), .mv (.t 9), none⟩] [0, 1, 2, 4, 5, 6, 7, 10, 11, 28]) (
  .seq (.reg [
     ⟨(some 7), .mv (.k (.int .i64 0)), none⟩] [0, 1, 2, 4, 5, 6, 7, 10, 11, 28]) (
  .seq (.seq (.reg [
      ⟨(some 10), .mv (.t 1), none⟩] [0, 1, 2, 4, 5, 6, 7, 10, 11, 28]) (
   .block 0 (.seq (.reg [
        ⟨(some 12), .bin .eql (.t 10) (.k (.int .i64 0)), none⟩,
        ⟨(some 11), .mv (.t 12), none⟩] [0, 1, 2, 4, 5, 6, 7, 10, 11, 28]) (
     .cond (.t 11) (.dreg [
         ⟨(some 13), .mv (.t 6), none⟩,
         ⟨(some 14), .idx 1 none (.t 13) (.k (.int .i64 1)), none⟩,
         ⟨(some 15), .ld none (.t 14), none⟩,
         ⟨(some 16), .mv (.t 6), none⟩,
         ⟨(some 17), .idx 1 none (.t 16) (.k (.int .i64 2)), none⟩,
         ⟨(some 18), .ld none (.t 17), none⟩,
         ⟨(some 19), .bin .and (.t 15) (.t 18), none⟩,
         ⟨(some 20), .mv (.t 6), none⟩,
         ⟨(some 21), .idx 1 none (.t 20) (.k (.int .i64 0)), none⟩,
         ⟨(some 22), .ld none (.t 21), none⟩,
         ⟨(some 23), .mv (.t 6), none⟩,
         ⟨(some 24), .idx 1 none (.t 23) (.k (.int .i64 2)), none⟩,
         ⟨(some 25), .ld none (.t 24), none⟩,
         ⟨(some 26), .bin .andNot (.t 22) (.t 25), none⟩,
         ⟨(some 27), .bin .or (.t 19) (.t 26), none⟩,
         ⟨(some 7), .mv (.t 27), none⟩] [[], [0], [0, 1], [], [3], [3, 4], [0, 1, 2, 3, 4, 5], [], [7], [7, 8], [], [10], [10, 11], [7, 8, 9, 10, 11, 12], [0, 1, 2, 3, 4, 5, 6, 7, 8, 9, 10, 11, 12, 13], [0, 1, 2, 3, 4, 5, 6, 7, 8, 9, 10, 11, 12, 13, 14]] [0, 1, 2, 4, 5, 6, 7, 10, 11, 28]) (
     .seq (.reg [
          ⟨(some 29), .bin .eql (.t 10) (.k (.int .i64 1)), none⟩,
          ⟨(some 28), .mv (.t 29), none⟩] [0, 1, 2, 4, 5, 6, 7, 10, 11, 28]) (
       .cond (.t 28) (.reg [
           ⟨(some 30), .mv (.t 6), none⟩,
           ⟨(some 31), .idx 1 none (.t 30) (.k (.int .i64 2)), none⟩,
           ⟨(some 32), .ld none (.t 31), none⟩,
           ⟨(some 7), .mv (.t 32), none⟩] [0, 1, 2, 4, 5, 6, 7, 10, 11, 28]) (
       .skip))))))) (
  .seq (.reg [
     ⟨(some 33), .mv (.t 6), none⟩,
     ⟨(some 34), .build [(.slice none 0 0), (.slice none 0 0)] [(0, 1, (.t 33))], none⟩,
     ⟨(some 35), .mv (.t 7), none⟩,
     ⟨none, .st 2 (.t 4) (.t 34), none⟩,
     ⟨(some 5), .mv (.t 35), none⟩] [0, 1, 2, 4, 5, 6, 7, 10, 11, 28]) (
  .ret)))))
theorem k39 : Try.f39.body.bind (compC Try.prog Try.f39.ntmps v39) = some c39 := by kernel_rfl
theorem e39 : enters Try.prog 39 = true := by kernel_rfl
theorem q39 : Try.f39.results.toList.mapM (compRes Try.prog) = some r39 := by kernel_rfl
/-- bakelite/port.Out -/
def v40 : List Nat := [0, 1, 2, 3]
def r40 : List AR := [.t 2]
def c40 : AC :=
  .seq (.reg [
     ⟨(some 1), .new 2 (.t 0), none⟩,
     ⟨(some 2), .mv (.k (.int .i64 0)), none⟩] [0, 1, 2, 3]) (
  .seq (.reg [
     ⟨(some 4), .ld (some 2) (.t 1), none⟩,
     ⟨(some 5), .call 65 [(.t 4)], none⟩,
     ⟨(some 3), .mv (.t 5), none⟩] [0, 1, 2, 3]) (
  .seq (.dreg [
     ⟨(some 6), .mv (.t 3), none⟩,
     ⟨(some 7), .idx 1 none (.t 6) (.k (.int .i64 1)), none⟩,
     ⟨(some 8), .ld none (.t 7), none⟩,
     ⟨(some 9), .mv (.t 3), none⟩,
     ⟨(some 10), .idx 1 none (.t 9) (.k (.int .i64 2)), none⟩,
     ⟨(some 11), .ld none (.t 10), none⟩,
     ⟨(some 12), .bin .and (.t 8) (.t 11), none⟩,
     ⟨(some 2), .mv (.t 12), none⟩] [[], [0], [0, 1], [], [3], [3, 4], [0, 1, 2, 3, 4, 5], [0, 1, 2, 3, 4, 5, 6]] [0, 1, 2, 3]) (
  .ret)))
theorem k40 : Try.f40.body.bind (compC Try.prog Try.f40.ntmps v40) = some c40 := by kernel_rfl
theorem e40 : enters Try.prog 40 = true := by kernel_rfl
theorem q40 : Try.f40.results.toList.mapM (compRes Try.prog) = some r40 := by kernel_rfl
/-- bakelite/bakekeep1.ports -/
def v41 : List Nat := [0, 2]
def r41 : List AR := [.t 0]
def c41 : AC :=
  .seq (.reg [
     ⟨(some 0), .mv (.k (.bool false)), none⟩] [0, 2]) (
  .seq (.reg [
     ⟨(some 4), .call 38 [], none⟩,
     ⟨(some 5), .call 39 [(.t 4), (.k (.int .i64 0))], none⟩,
     ⟨(some 3), .mv (.t 5), none⟩,
     ⟨(some 6), .ext (.t 3) 0, none⟩,
     ⟨(some 7), .ext (.t 3) 1, none⟩,
     ⟨(some 1), .zero [(.slice none 0 0), (.slice none 0 0)], none⟩,
     ⟨none, .st 2 (.t 1) (.t 6), none⟩,
     ⟨(some 2), .mv (.t 7), none⟩] [0, 2]) (
  .seq (.reg [
     ⟨(some 8), .mv (.t 2), none⟩,
     ⟨(some 9), .bin .eql (.t 8) (.k (.int .i64 255)), none⟩,
     ⟨(some 0), .mv (.t 9), none⟩] [0, 2]) (
  .ret)))
theorem k41 : Try.f41.body.bind (compC Try.prog Try.f41.ntmps v41) = some c41 := by kernel_rfl
theorem e41 : enters Try.prog 41 = true := by kernel_rfl
theorem q41 : Try.f41.results.toList.mapM (compRes Try.prog) = some r41 := by kernel_rfl
/-- bakelite/timer.Write -/
def v42 : List Nat := [0, 1, 2, 3, 6, 7, 10, 11, 23, 31]
def r42 : List AR := [.cell (some 2) 6]
def c42 : AC :=
  .seq (.reg [
     ⟨(some 3), .new 2 (.t 0), none⟩,
     ⟨(some 6), .zero [(.slice none 0 0), (.slice none 0 0)], none⟩] [0, 1, 2, 3, 6, 7, 10, 11, 23, 31]) (
  .seq (.reg [
     ⟨(some 8), .ld (some 2) (.t 3), none⟩,
     ⟨(some 9), .call 66 [(.t 8)], none⟩,
     ⟨(some 7), .mv (.t 9), none⟩] [0, 1, 2, 3, 6, 7, 10, 11, 23, 31]) (
  .seq (.seq (.reg [
      ⟨(some 10), .mv (.t 1), none⟩] [0, 1, 2, 3, 6, 7, 10, 11, 23, 31]) (
   .block 0 (.seq (.seq (.reg [
         ⟨(some 12), .bin .eql (.t 10) (.k (.int .i64 0)), none⟩,
         ⟨(some 11), .mv (.t 12), none⟩] [0, 1, 2, 3, 6, 7, 10, 11, 23, 31]) (
      .cond (.t 11) (.skip) (
      .reg [
          ⟨(some 13), .bin .eql (.t 10) (.k (.int .i64 1)), none⟩,
          ⟨(some 11), .mv (.t 13), none⟩] [0, 1, 2, 3, 6, 7, 10, 11, 23, 31]))) (
     .cond (.t 11) (.reg [
         ⟨(some 14), .mv (.t 7), none⟩,
         ⟨(some 15), .mv (.t 7), none⟩,
         ⟨(some 16), .idx 1 none (.t 15) (.k (.int .i64 1)), none⟩,
         ⟨(some 17), .ld none (.t 16), none⟩,
         ⟨(some 18), .mv (.t 1), none⟩,
         ⟨(some 19), .bin .mul (.k (.int .i64 8)) (.t 18), none⟩,
         ⟨(some 20), .mv (.t 2), none⟩,
         ⟨(some 21), .call 16 [(.t 17), (.t 19), (.k (.int .i64 8)), (.t 20)], none⟩,
         ⟨(some 22), .idx 1 none (.t 14) (.k (.int .i64 1)), none⟩,
         ⟨none, .st 1 (.t 22) (.t 21), none⟩] [0, 1, 2, 3, 6, 7, 10, 11, 23, 31]) (
     .seq (.reg [
          ⟨(some 24), .bin .eql (.t 10) (.k (.int .i64 2)), none⟩,
          ⟨(some 23), .mv (.t 24), none⟩] [0, 1, 2, 3, 6, 7, 10, 11, 23, 31]) (
       .cond (.t 23) (.seq (.reg [
            ⟨(some 25), .mv (.t 7), none⟩,
            ⟨(some 26), .mv (.t 2), none⟩,
            ⟨(some 27), .call 19 [(.t 26), (.k (.int .i64 3))], none⟩,
            ⟨(some 28), .idx 1 none (.t 25) (.k (.int .i64 2)), none⟩,
            ⟨none, .st 1 (.t 28) (.t 27), none⟩] [0, 1, 2, 3, 6, 7, 10, 11, 23, 31]) (
         .seq (.reg [
            ⟨(some 29), .mv (.t 2), none⟩,
            ⟨(some 30), .bin .and (.t 29) (.k (.int .i64 128)), none⟩,
            ⟨(some 31), .bin .neq (.t 30) (.k (.int .i64 0)), none⟩] [0, 1, 2, 3, 6, 7, 10, 11, 23, 31]) (
         .cond (.t 31) (.reg [
             ⟨(some 32), .mv (.t 7), none⟩,
             ⟨(some 33), .mv (.t 7), none⟩,
             ⟨(some 34), .idx 1 none (.t 33) (.k (.int .i64 1)), none⟩,
             ⟨(some 35), .ld none (.t 34), none⟩,
             ⟨(some 36), .idx 1 none (.t 32) (.k (.int .i64 0)), none⟩,
             ⟨none, .st 1 (.t 36) (.t 35), none⟩] [0, 1, 2, 3, 6, 7, 10, 11, 23, 31]) (
         .skip)))) (
       .skip))))))) (
  .seq (.reg [
     ⟨(some 37), .mv (.t 7), none⟩,
     ⟨(some 38), .build [(.slice none 0 0), (.slice none 0 0)] [(0, 1, (.t 37))], none⟩,
     ⟨none, .st 2 (.t 6) (.t 38), none⟩] [0, 1, 2, 3, 6, 7, 10, 11, 23, 31]) (
  .ret))))
theorem k42 : Try.f42.body.bind (compC Try.prog Try.f42.ntmps v42) = some c42 := by kernel_rfl
theorem e42 : enters Try.prog 42 = true := by kernel_rfl
theorem q42 : Try.f42.results.toList.mapM (compRes Try.prog) = some r42 := by kernel_rfl
/-- bakelite/timer.New -/
def v43 : List Nat := [0]
def r43 : List AR := [.cell (some 2) 0]
def c43 : AC :=
  .seq (.reg [
     ⟨(some 0), .zero [(.slice none 0 0), (.slice none 0 0)], none⟩] [0]) (
  .seq (.reg [
     ⟨(some 1), .mksl [(.int .i64 0)] 8 (.k (.int .i64 4)) (.k (.int .i64 4)), none⟩,
     ⟨(some 2), .build [(.slice none 0 0), (.slice none 0 0)] [(0, 1, (.t 1))], none⟩,
     ⟨none, .st 2 (.t 0) (.t 2), none⟩] [0]) (
  .ret))
theorem k43 : Try.f43.body.bind (compC Try.prog Try.f43.ntmps v43) = some c43 := by kernel_rfl
theorem e43 : enters Try.prog 43 = true := by kernel_rfl
theorem q43 : Try.f43.results.toList.mapM (compRes Try.prog) = some r43 := by kernel_rfl
/-- bakelite/timer.Skip -/
def v44 : List Nat := [0, 1, 2, 4, 5, 6, 18, 28, 40]
def r44 : List AR := [.cell (some 2) 4]
def c44 : AC :=
  .seq (.reg [
     ⟨(some 2), .new 2 (.t 0), none⟩,
     ⟨(some 4), .zero [(.slice none 0 0), (.slice none 0 0)], none⟩] [0, 1, 2, 4, 5, 6, 18, 28, 40]) (
  .seq (.reg [
     ⟨(some 7), .ld (some 2) (.t 2), none⟩,
     ⟨(some 8), .call 66 [(.t 7)], none⟩,
     ⟨(some 5), .mv (.t 8), none⟩] [0, 1, 2, 4, 5, 6, 18, 28, 40]) (
  .seq (.block 0 (.seq (.reg [
        ⟨(some 19), .mv (.t 1), none⟩,
        ⟨(some 20), .bin .leq (.t 19) (.k (.int .i64 0)), none⟩,
        ⟨(some 21), .mv (.t 20), none⟩,
        ⟨(some 22), .mv (.t 5), (some (21, false))⟩,
        ⟨(some 23), .idx 1 none (.t 22) (.k (.int .i64 2)), (some (21, false))⟩,
        ⟨(some 24), .ld none (.t 23), (some (21, false))⟩,
        ⟨(some 25), .bin .and (.t 24) (.k (.int .i64 1)), (some (21, false))⟩,
        ⟨(some 26), .bin .eql (.t 25) (.k (.int .i64 0)), (some (21, false))⟩,
        ⟨(some 27), .pick (.t 21) (.k (.bool true)) (.t 26), none⟩,
        ⟨(some 18), .mv (.t 27), none⟩] [0, 1, 2, 4, 5, 6, 18, 28, 40]) (
     .cond (.t 18) (.skip) (
     .seq (.reg [
          ⟨(some 29), .mv (.t 1), none⟩,
          ⟨(some 30), .mv (.t 5), none⟩,
          ⟨(some 31), .idx 1 none (.t 30) (.k (.int .i64 0)), none⟩,
          ⟨(some 32), .ld none (.t 31), none⟩,
          ⟨(some 33), .bin .leq (.t 29) (.t 32), none⟩,
          ⟨(some 28), .mv (.t 33), none⟩] [0, 1, 2, 4, 5, 6, 18, 28, 40]) (
       .cond (.t 28) (.reg [
           ⟨(some 34), .mv (.t 5), none⟩,
           ⟨(some 35), .idx 1 none (.t 34) (.k (.int .i64 0)), none⟩,
           ⟨(some 36), .ld none (.t 35), none⟩,
           ⟨(some 37), .mv (.t 1), none⟩,
           ⟨(some 38), .bin .sub (.t 36) (.t 37), none⟩,
           ⟨(some 39), .idx 1 none (.t 34) (.k (.int .i64 0)), none⟩,
           ⟨none, .st 1 (.t 39) (.t 38), none⟩] [0, 1, 2, 4, 5, 6, 18, 28, 40]) (
       .seq (.reg [
            ⟨(some 41), .mv (.t 5), none⟩,
            ⟨(some 42), .idx 1 none (.t 41) (.k (.int .i64 2)), none⟩,
            ⟨(some 43), .ld none (.t 42), none⟩,
            ⟨(some 44), .bin .and (.t 43) (.k (.int .i64 2)), none⟩,
            ⟨(some 45), .bin .neq (.t 44) (.k (.int .i64 0)), none⟩,
            ⟨(some 40), .mv (.t 45), none⟩] [0, 1, 2, 4, 5, 6, 18, 28, 40]) (
         .cond (.t 40) (.seq (.dreg [
              ⟨(some 46), .mv (.t 1), none⟩,
              ⟨(some 47), .mv (.t 5), none⟩,
              ⟨(some 48), .idx 1 none (.t 47) (.k (.int .i64 0)), none⟩,
              ⟨(some 49), .ld none (.t 48), none⟩,
              ⟨(some 50), .bin .sub (.t 46) (.t 49), none⟩,
              ⟨(some 51), .bin .sub (.t 50) (.k (.int .i64 1)), none⟩,
              ⟨(some 52), .mv (.t 5), none⟩,
              ⟨(some 53), .idx 1 none (.t 52) (.k (.int .i64 1)), none⟩,
              ⟨(some 54), .ld none (.t 53), none⟩,
              ⟨(some 55), .bin .add (.t 54) (.k (.int .i64 1)), none⟩,
              ⟨(some 56), .bin .rem (.t 51) (.t 55), none⟩,
              ⟨(some 6), .mv (.t 56), none⟩] [[], [], [1], [1, 2], [0, 1, 2, 3], [0, 1, 2, 3, 4], [], [6], [6, 7], [6, 7, 8], [0, 1, 2, 3, 4, 5, 6, 7, 8, 9], [0, 1, 2, 3, 4, 5, 6, 7, 8, 9, 10]] [0, 1, 2, 4, 5, 6, 18, 28, 40]) (
           .reg [
             ⟨(some 57), .mv (.t 5), none⟩,
             ⟨(some 58), .mv (.t 5), none⟩,
             ⟨(some 59), .mv (.t 5), none⟩,
             ⟨(some 60), .idx 1 none (.t 59) (.k (.int .i64 1)), none⟩,
             ⟨(some 61), .ld none (.t 60), none⟩,
             ⟨(some 62), .mv (.t 6), none⟩,
             ⟨(some 63), .bin .sub (.t 61) (.t 62), none⟩,
             ⟨(some 64), .idx 1 none (.t 57) (.k (.int .i64 3)), none⟩,
             ⟨none, .st 1 (.t 64) (.k (.int .i64 1)), none⟩,
             ⟨(some 65), .idx 1 none (.t 58) (.k (.int .i64 0)), none⟩,
             ⟨none, .st 1 (.t 65) (.t 63), none⟩] [0, 1, 2, 4, 5, 6, 18, 28, 40])) (
         .seq (.reg [
              ⟨(some 9), .mv (.t 5), none⟩,
              ⟨(some 10), .mv (.t 5), none⟩,
              ⟨(some 11), .idx 1 none (.t 9) (.k (.int .i64 3)), none⟩,
              ⟨none, .st 1 (.t 11) (.k (.int .i64 1)), none⟩,
              ⟨(some 12), .idx 1 none (.t 10) (.k (.int .i64 0)), none⟩,
              ⟨none, .st 1 (.t 12) (.k (.int .i64 0)), none⟩] [0, 1, 2, 4, 5, 6, 18, 28, 40]) (
           .reg [
             ⟨(some 13), .mv (.t 5), none⟩,
             ⟨(some 14), .idx 1 none (.t 13) (.k (.int .i64 2)), none⟩,
             ⟨(some 15), .ld none (.t 14), none⟩,
             ⟨(some 16), .bin .andNot (.t 15) (.k (.int .i64 1)), none⟩,
             ⟨(some 17), .idx 1 none (.t 13) (.k (.int .i64 2)), none⟩,
             ⟨none, .st 1 (.t 17) (.t 16), none⟩] [0, 1, 2, 4, 5, 6, 18, 28, 40]))))))))) (
  .seq (.reg [
     ⟨(some 66), .mv (.t 5), none⟩,
     ⟨(some 67), .build [(.slice none 0 0), (.slice none 0 0)] [(0, 1, (.t 66))], none⟩,
     ⟨none, .st 2 (.t 4) (.t 67), none⟩] [0, 1, 2, 4, 5, 6, 18, 28, 40]) (
  .ret))))
theorem k44 : Try.f44.body.bind (compC Try.prog Try.f44.ntmps v44) = some c44 := by kernel_rfl
theorem e44 : enters Try.prog 44 = true := by kernel_rfl
theorem q44 : Try.f44.results.toList.mapM (compRes Try.prog) = some r44 := by kernel_rfl
/-- bakelite/timer.Read -/
def v45 : List Nat := [0, 1, 2, 4, 5, 6, 7, 10, 11, 20, 25]
def r45 : List AR := [.cell (some 2) 4, .t 5]
def c45 : AC :=
  .seq (.reg [
     ⟨(some 2), .new 2 (.t 0), none⟩,
     ⟨(some 4), .zero [(.slice none 0 0), (.slice none 0 0)], none⟩,
     ⟨(some 5), .mv (.k (.int .i64 0)), none⟩] [0, 1, 2, 4, 5, 6, 7, 10, 11, 20, 25]) (
  .seq (.reg [
     ⟨(some 8), .ld (some 2) (.t 2), none⟩,
     ⟨(some 9), .call 66 [(.t 8)], none⟩,
     ⟨(some 6), .mv (.t 9), none⟩] [0, 1, 2, 4, 5, 6, 7, 10, 11, 20, 25]) (
  .seq (.reg [
     ⟨(some 7), .mv (.k (.int .i64 0)), none⟩] [0, 1, 2, 4, 5, 6, 7, 10, 11, 20, 25]) (
  .seq (.seq (.reg [
      ⟨(some 10), .mv (.t 1), none⟩] [0, 1, 2, 4, 5, 6, 7, 10, 11, 20, 25]) (
   .block 0 (.seq (.seq (.reg [
         ⟨(some 12), .bin .eql (.t 10) (.k (.int .i64 0)), none⟩,
         ⟨(some 11), .mv (.t 12), none⟩] [0, 1, 2, 4, 5, 6, 7, 10, 11, 20, 25]) (
      .cond (.t 11) (.skip) (
      .reg [
          ⟨(some 13), .bin .eql (.t 10) (.k (.int .i64 1)), none⟩,
          ⟨(some 11), .mv (.t 13), none⟩] [0, 1, 2, 4, 5, 6, 7, 10, 11, 20, 25]))) (
     .cond (.t 11) (.reg [
         ⟨(some 14), .mv (.t 6), none⟩,
         ⟨(some 15), .idx 1 none (.t 14) (.k (.int .i64 0)), none⟩,
         ⟨(some 16), .ld none (.t 15), none⟩,
         ⟨(some 17), .mv (.t 1), none⟩,
         ⟨(some 18), .bin .mul (.k (.int .i64 8)) (.t 17), none⟩,
         ⟨(some 19), .call 18 [(.t 16), (.t 18), (.k (.int .i64 8))], none⟩,
         ⟨(some 7), .mv (.t 19), none⟩] [0, 1, 2, 4, 5, 6, 7, 10, 11, 20, 25]) (
     .seq (.reg [
          ⟨(some 21), .bin .eql (.t 10) (.k (.int .i64 2)), none⟩,
          ⟨(some 20), .mv (.t 21), none⟩] [0, 1, 2, 4, 5, 6, 7, 10, 11, 20, 25]) (
       .cond (.t 20) (.reg [
           ⟨(some 22), .mv (.t 6), none⟩,
           ⟨(some 23), .idx 1 none (.t 22) (.k (.int .i64 2)), none⟩,
           ⟨(some 24), .ld none (.t 23), none⟩,
           ⟨(some 7), .mv (.t 24), none⟩] [0, 1, 2, 4, 5, 6, 7, 10, 11, 20, 25]) (
       .seq (.reg [
            ⟨(some 26), .bin .eql (.t 10) (.k (.int .i64 3)), none⟩,
            ⟨(some 25), .mv (.t 26), none⟩] [0, 1, 2, 4, 5, 6, 7, 10, 11, 20, 25]) (
         .cond (.t 25) (.reg [
             ⟨(some 27), .mv (.t 6), none⟩,
             ⟨(some 28), .mv (.t 6), none⟩,
             ⟨(some 29), .idx 1 none (.t 28) (.k (.int .i64 3)), none⟩,
             ⟨(some 30), .ld none (.t 29), none⟩,
             ⟨(some 7), .mv (.t 30), none⟩,
             ⟨(some 31), .idx 1 none (.t 27) (.k (.int .i64 3)), none⟩,
             ⟨none, .st 1 (.t 31) (.k (.int .i64 0)), none⟩] [0, 1, 2, 4, 5, 6, 7, 10, 11, 20, 25]) (
         .skip))))))))) (
  .seq (.reg [
     ⟨(some 32), .mv (.t 6), none⟩,
     ⟨(some 33), .build [(.slice none 0 0), (.slice none 0 0)] [(0, 1, (.t 32))], none⟩,
     ⟨(some 34), .mv (.t 7), none⟩,
     ⟨none, .st 2 (.t 4) (.t 33), none⟩,
     ⟨(some 5), .mv (.t 34), none⟩] [0, 1, 2, 4, 5, 6, 7, 10, 11, 20, 25]) (
  .ret)))))
theorem k45 : Try.f45.body.bind (compC Try.prog Try.f45.ntmps v45) = some c45 := by kernel_rfl
theorem e45 : enters Try.prog 45 = true := by kernel_rfl
theorem q45 : Try.f45.results.toList.mapM (compRes Try.prog) = some r45 := by kernel_rfl
/-- bakelite/timer.Tick -/
def v46 : List Nat := [0, 1, 2]
def r46 : List AR := [.cell (some 2) 2]
def c46 : AC :=
  .seq (.reg [
     ⟨(some 1), .new 2 (.t 0), none⟩,
     ⟨(some 2), .zero [(.slice none 0 0), (.slice none 0 0)], none⟩] [0, 1, 2]) (
  .seq (.reg [
     ⟨(some 3), .ld (some 2) (.t 1), none⟩,
     ⟨(some 4), .call 44 [(.t 3), (.k (.int .i64 1))], none⟩,
     ⟨none, .st 2 (.t 2) (.t 4), none⟩] [0, 1, 2]) (
  .ret))
theorem k46 : Try.f46.body.bind (compC Try.prog Try.f46.ntmps v46) = some c46 := by kernel_rfl
theorem e46 : enters Try.prog 46 = true := by kernel_rfl
theorem q46 : Try.f46.results.toList.mapM (compRes Try.prog) = some r46 := by kernel_rfl
/-- bakelite/bakekeep1.timers -/
def v47 : List Nat := [0, 1]
def r47 : List AR := [.t 0]
def c47 : AC :=
  .seq (.reg [
     ⟨(some 0), .mv (.k (.bool false)), none⟩] [0, 1]) (
  .seq (.reg [
     ⟨(some 2), .call 43 [], none⟩,
     ⟨(some 3), .call 42 [(.t 2), (.k (.int .i64 0)), (.k (.int .i64 5))], none⟩,
     ⟨(some 1), .zero [(.slice none 0 0), (.slice none 0 0)], none⟩,
     ⟨none, .st 2 (.t 1) (.t 3), none⟩] [0, 1]) (
  .seq (.reg [
     ⟨(some 4), .fad 0 (.t 1), none⟩,
     ⟨(some 5), .ld none (.t 4), none⟩,
     ⟨(some 6), .len (.t 5), none⟩,
     ⟨(some 7), .bin .eql (.t 6) (.k (.int .i64 4)), none⟩,
     ⟨(some 8), .mv (.t 7), none⟩,
     ⟨(some 9), .fad 0 (.t 1), (some (8, true))⟩,
     ⟨(some 10), .ld none (.t 9), (some (8, true))⟩,
     ⟨(some 11), .idx 1 none (.t 10) (.k (.int .i64 1)), (some (8, true))⟩,
     ⟨(some 12), .ld none (.t 11), (some (8, true))⟩,
     ⟨(some 13), .bin .eql (.t 12) (.k (.int .i64 5)), (some (8, true))⟩,
     ⟨(some 14), .pick (.t 8) (.t 13) (.k (.bool false)), none⟩,
     ⟨(some 0), .mv (.t 14), none⟩] [0, 1]) (
  .ret)))
theorem k47 : Try.f47.body.bind (compC Try.prog Try.f47.ntmps v47) = some c47 := by kernel_rfl
theorem e47 : enters Try.prog 47 = true := by kernel_rfl
theorem q47 : Try.f47.results.toList.mapM (compRes Try.prog) = some r47 := by kernel_rfl
/-- bakelite/serial.Skip -/
def v48 : List Nat := [0, 1, 2, 4, 5, 22, 31]
def r48 : List AR := [.cell (some 2) 4]
def c48 : AC :=
  .seq (.reg [
     ⟨(some 2), .new 2 (.t 0), none⟩,
     ⟨(some 4), .zero [(.slice none 0 0), (.slice none 0 0)], none⟩] [0, 1, 2, 4, 5, 22, 31]) (
  .seq (.reg [
     ⟨(some 6), .ld (some 2) (.t 2), none⟩,
     ⟨(some 7), .call 62 [(.t 6)], none⟩,
     ⟨(some 5), .mv (.t 7), none⟩] [0, 1, 2, 4, 5, 22, 31]) (
  .seq (.block 0 (.seq (.reg [
        ⟨(some 23), .mv (.t 1), none⟩,
        ⟨(some 24), .bin .leq (.t 23) (.k (.int .i64 0)), none⟩,
        ⟨(some 25), .mv (.t 24), none⟩,
        ⟨(some 26), .mv (.t 5), (some (25, false))⟩,
        ⟨(some 27), .idx 1 none (.t 26) (.k (.int .i64 1)), (some (25, false))⟩,
        ⟨(some 28), .ld none (.t 27), (some (25, false))⟩,
        ⟨(some 29), .bin .eql (.t 28) (.k (.int .i64 0)), (some (25, false))⟩,
        ⟨(some 30), .pick (.t 25) (.k (.bool true)) (.t 29), none⟩,
        ⟨(some 22), .mv (.t 30), none⟩] [0, 1, 2, 4, 5, 22, 31]) (
     .cond (.t 22) (.skip) (
     .seq (.reg [
          ⟨(some 32), .mv (.t 1), none⟩,
          ⟨(some 33), .mv (.t 5), none⟩,
          ⟨(some 34), .idx 1 none (.t 33) (.k (.int .i64 1)), none⟩,
          ⟨(some 35), .ld none (.t 34), none⟩,
          ⟨(some 36), .bin .lss (.t 32) (.t 35), none⟩,
          ⟨(some 31), .mv (.t 36), none⟩] [0, 1, 2, 4, 5, 22, 31]) (
       .cond (.t 31) (.reg [
           ⟨(some 37), .mv (.t 5), none⟩,
           ⟨(some 38), .idx 1 none (.t 37) (.k (.int .i64 1)), none⟩,
           ⟨(some 39), .ld none (.t 38), none⟩,
           ⟨(some 40), .mv (.t 1), none⟩,
           ⟨(some 41), .bin .sub (.t 39) (.t 40), none⟩,
           ⟨(some 42), .idx 1 none (.t 37) (.k (.int .i64 1)), none⟩,
           ⟨none, .st 1 (.t 42) (.t 41), none⟩] [0, 1, 2, 4, 5, 22, 31]) (
       .dreg [
           ⟨(some 8), .mv (.t 5), none⟩,
           ⟨(some 9), .mv (.t 5), none⟩,
           ⟨(some 10), .mv (.t 5), none⟩,
           ⟨(some 11), .mv (.t 5), none⟩,
           ⟨(some 12), .idx 1 none (.t 11) (.k (.int .i64 0)), none⟩,
           ⟨(some 13), .ld none (.t 12), none⟩,
           ⟨(some 14), .mv (.t 5), none⟩,
           ⟨(some 15), .idx 1 none (.t 14) (.k (.int .i64 6)), none⟩,
           ⟨(some 16), .ld none (.t 15), none⟩,
           ⟨(some 17), .bin .add (.t 16) (.k (.int .i64 1)), none⟩,
           ⟨(some 18), .call 19 [(.t 17), (.k (.int .i64 20))], none⟩,
           ⟨(some 19), .idx 1 none (.t 8) (.k (.int .i64 1)), none⟩,
           ⟨none, .st 1 (.t 19) (.k (.int .i64 0)), none⟩,
           ⟨(some 20), .idx 1 none (.t 9) (.k (.int .i64 7)), none⟩,
           ⟨none, .st 1 (.t 20) (.t 13), none⟩,
           ⟨(some 21), .idx 1 none (.t 10) (.k (.int .i64 6)), none⟩,
           ⟨none, .st 1 (.t 21) (.t 18), none⟩] [[], [], [], [], [3], [3, 4], [], [6], [6, 7], [6, 7, 8], [6, 7, 8, 9], [0, 3, 4, 5, 6, 7, 8, 9, 10], [0, 3, 4, 5, 6, 7, 8, 9, 10, 11], [0, 1, 3, 4, 5, 6, 7, 8, 9, 10, 11, 12], [0, 1, 3, 4, 5, 6, 7, 8, 9, 10, 11, 12, 13], [0, 1, 2, 3, 4, 5, 6, 7, 8, 9, 10, 11, 12, 13, 14], [0, 1, 2, 3, 4, 5, 6, 7, 8, 9, 10, 11, 12, 13, 14, 15]] [0, 1, 2, 4, 5, 22, 31])))))) (
  .seq (.reg [
     ⟨(some 43), .mv (.t 5), none⟩,
     ⟨(some 44), .build [(.slice none 0 0), (.slice none 0 0)] [(0, 1, (.t 43))], none⟩,
     ⟨none, .st 2 (.t 4) (.t 44), none⟩] [0, 1, 2, 4, 5, 22, 31]) (
  .ret))))
theorem k48 : Try.f48.body.bind (compC Try.prog Try.f48.ntmps v48) = some c48 := by kernel_rfl
theorem e48 : enters Try.prog 48 = true := by kernel_rfl
theorem q48 : Try.f48.results.toList.mapM (compRes Try.prog) = some r48 := by kernel_rfl
/-- bakelite/serial.Write -/
def v49 : List Nat := [0, 1, 2, 3, 6, 7, 10, 25]
def r49 : List AR := [.cell (some 2) 6]
def c49 : AC :=
  .seq (.reg [
     ⟨(some 3), .new 2 (.t 0), none⟩,
     ⟨(some 6), .zero [(.slice none 0 0), (.slice none 0 0)], none⟩] [0, 1, 2, 3, 6, 7, 10, 25]) (
  .seq (.reg [
     ⟨(some 8), .ld (some 2) (.t 3), none⟩,
     ⟨(some 9), .call 62 [(.t 8)], none⟩,
     ⟨(some 7), .mv (.t 9), none⟩] [0, 1, 2, 3, 6, 7, 10, 25]) (
  .seq (.block 0 (.seq (.reg [
        ⟨(some 11), .mv (.t 1), none⟩,
        ⟨(some 12), .bin .eql (.t 11) (.k (.int .i64 0)), none⟩,
        ⟨(some 13), .mv (.t 12), none⟩,
        ⟨(some 14), .mv (.t 7), (some (13, true))⟩,
        ⟨(some 15), .idx 1 none (.t 14) (.k (.int .i64 1)), (some (13, true))⟩,
        ⟨(some 16), .ld none (.t 15), (some (13, true))⟩,
        ⟨(some 17), .bin .eql (.t 16) (.k (.int .i64 0)), (some (13, true))⟩,
        ⟨(some 18), .pick (.t 13) (.t 17) (.k (.bool false)), none⟩,
        ⟨(some 10), .mv (.t 18), none⟩] [0, 1, 2, 3, 6, 7, 10, 25]) (
     .cond (.t 10) (.reg [
         ⟨(some 19), .mv (.t 7), none⟩,
         ⟨(some 20), .mv (.t 7), none⟩,
         ⟨(some 21), .mv (.t 2), none⟩,
         ⟨(some 22), .call 19 [(.t 21), (.k (.int .i64 8))], none⟩,
         ⟨(some 23), .idx 1 none (.t 19) (.k (.int .i64 0)), none⟩,
         ⟨none, .st 1 (.t 23) (.t 22), none⟩,
         ⟨(some 24), .idx 1 none (.t 20) (.k (.int .i64 1)), none⟩,
         ⟨none, .st 1 (.t 24) (.k (.int .i64 40)), none⟩] [0, 1, 2, 3, 6, 7, 10, 25]) (
     .seq (.reg [
          ⟨(some 26), .mv (.t 1), none⟩,
          ⟨(some 27), .bin .eql (.t 26) (.k (.int .i64 2)), none⟩,
          ⟨(some 25), .mv (.t 27), none⟩] [0, 1, 2, 3, 6, 7, 10, 25]) (
       .cond (.t 25) (.reg [
           ⟨(some 28), .mv (.t 7), none⟩,
           ⟨(some 29), .mv (.t 2), none⟩,
           ⟨(some 30), .call 19 [(.t 29), (.k (.int .i64 2))], none⟩,
           ⟨(some 31), .idx 1 none (.t 28) (.k (.int .i64 5)), none⟩,
           ⟨none, .st 1 (.t 31) (.t 30), none⟩] [0, 1, 2, 3, 6, 7, 10, 25]) (
       .skip)))))) (
  .seq (.reg [
     ⟨(some 32), .mv (.t 7), none⟩,
     ⟨(some 33), .build [(.slice none 0 0), (.slice none 0 0)] [(0, 1, (.t 32))], none⟩,
     ⟨none, .st 2 (.t 6) (.t 33), none⟩] [0, 1, 2, 3, 6, 7, 10, 25]) (
  .ret))))
theorem k49 : Try.f49.body.bind (compC Try.prog Try.f49.ntmps v49) = some c49 := by kernel_rfl
theorem e49 : enters Try.prog 49 = true := by kernel_rfl
theorem q49 : Try.f49.results.toList.mapM (compRes Try.prog) = some r49 := by kernel_rfl
/-- bakelite/serial.Out -/
def v50 : List Nat := [0, 1, 2, 3]
def r50 : List AR := [.t 2]
def c50 : AC :=
  .seq (.reg [
     ⟨(some 1), .new 2 (.t 0), none⟩,
     ⟨(some 2), .mv (.k (.int .i64 0)), none⟩] [0, 1, 2, 3]) (
  .seq (.reg [
     ⟨(some 4), .ld (some 2) (.t 1), none⟩,
     ⟨(some 5), .call 62 [(.t 4)], none⟩,
     ⟨(some 3), .mv (.t 5), none⟩] [0, 1, 2, 3]) (
  .seq (.dreg [
     ⟨(some 6), .mv (.t 3), none⟩,
     ⟨(some 7), .idx 1 none (.t 6) (.k (.int .i64 6)), none⟩,
     ⟨(some 8), .ld none (.t 7), none⟩,
     ⟨(some 9), .bin .mul (.k (.int .i64 256)) (.t 8), none⟩,
     ⟨(some 10), .mv (.t 3), none⟩,
     ⟨(some 11), .idx 1 none (.t 10) (.k (.int .i64 7)), none⟩,
     ⟨(some 12), .ld none (.t 11), none⟩,
     ⟨(some 13), .bin .add (.t 9) (.t 12), none⟩,
     ⟨(some 2), .mv (.t 13), none⟩] [[], [0], [0, 1], [0, 1, 2], [], [4], [4, 5], [0, 1, 2, 3, 4, 5, 6], [0, 1, 2, 3, 4, 5, 6, 7]] [0, 1, 2, 3]) (
  .ret)))
theorem k50 : Try.f50.body.bind (compC Try.prog Try.f50.ntmps v50) = some c50 := by kernel_rfl
theorem e50 : enters Try.prog 50 = true := by kernel_rfl
theorem q50 : Try.f50.results.toList.mapM (compRes Try.prog) = some r50 := by kernel_rfl
/-- bakelite/serial.Irq -/
def v51 : List Nat := [0, 1, 2, 3]
def r51 : List AR := [.t 2]
def c51 : AC :=
  .seq (.reg [
     ⟨(some 1), .new 2 (.t 0), none⟩,
     ⟨(some 2), .mv (.k (.bool false)), none⟩] [0, 1, 2, 3]) (
  .seq (.reg [
     ⟨(some 4), .ld (some 2) (.t 1), none⟩,
     ⟨(some 5), .call 62 [(.t 4)], none⟩,
     ⟨(some 3), .mv (.t 5), none⟩] [0, 1, 2, 3]) (
  .seq (.reg [
     ⟨(some 6), .mv (.t 3), none⟩,
     ⟨(some 7), .idx 1 none (.t 6) (.k (.int .i64 5)), none⟩,
     ⟨(some 8), .ld none (.t 7), none⟩,
     ⟨(some 9), .bin .and (.t 8) (.k (.int .i64 1)), none⟩,
     ⟨(some 10), .bin .neq (.t 9) (.k (.int .i64 0)), none⟩,
     ⟨(some 11), .mv (.t 10), none⟩,
     ⟨(some 12), .mv (.t 3), (some (11, true))⟩,
     ⟨(some 13), .idx 1 none (.t 12) (.k (.int .i64 3)), (some (11, true))⟩,
     ⟨(some 14), .ld none (.t 13), (some (11, true))⟩,
     ⟨(some 15), .bin .eql (.t 14) (.k (.int .i64 1)), (some (11, true))⟩,
     ⟨(some 16), .pick (.t 11) (.t 15) (.k (.bool false)), none⟩,
     ⟨(some 17), .mv (.t 16), none⟩,
     ⟨(some 18), .mv (.t 3), (some (17, false))⟩,
     ⟨(some 19), .idx 1 none (.t 18) (.k (.int .i64 5)), (some (17, false))⟩,
     ⟨(some 20), .ld none (.t 19), (some (17, false))⟩,
     ⟨(some 21), .bin .and (.t 20) (.k (.int .i64 2)), (some (17, false))⟩,
     ⟨(some 22), .bin .neq (.t 21) (.k (.int .i64 0)), (some (17, false))⟩,
     ⟨(some 23), .mv (.t 22), (some (17, false))⟩,
     ⟨(some 24), .mv (.t 3), (some (23, true))⟩,
     ⟨(some 25), .idx 1 none (.t 24) (.k (.int .i64 1)), (some (23, true))⟩,
     ⟨(some 26), .ld none (.t 25), (some (23, true))⟩,
     ⟨(some 27), .bin .eql (.t 26) (.k (.int .i64 0)), (some (23, true))⟩,
     ⟨(some 28), .pick (.t 23) (.t 27) (.k (.bool false)), (some (17, false))⟩,
     ⟨(some 29), .pick (.t 17) (.k (.bool true)) (.t 28), none⟩,
     ⟨(some 2), .mv (.t 29), none⟩] [0, 1, 2, 3]) (
  .ret)))
theorem k51 : Try.f51.body.bind (compC Try.prog Try.f51.ntmps v51) = some c51 := by kernel_rfl
theorem e51 : enters Try.prog 51 = true := by kernel_rfl
theorem q51 : Try.f51.results.toList.mapM (compRes Try.prog) = some r51 := by kernel_rfl
/-- (*bakelite/bakemake.Stream).Next -/
def v52 : List Nat := [0, 1, 4, 5, 15]
def r52 : List AR := [.t 4]
def c52 : AC :=
  .seq (.reg [
     ⟨(some 4), .mv (.k (.int .i64 0)), none⟩] [0, 1, 4, 5, 15]) (
  .seq (.seq (.reg [
      ⟨(some 6), .mv (.t 1), none⟩,
      ⟨(some 7), .bin .lss (.t 6) (.k (.int .i64 1)), none⟩,
      ⟨(some 8), .mv (.t 7), none⟩,
      ⟨(some 9), .mv (.t 0), (some (8, false))⟩,
      ⟨(some 10), .nilc (.t 9), (some (8, false))⟩,
      ⟨(some 11), .fad 0 (.t 10), (some (8, false))⟩,
      ⟨(some 12), .ld none (.t 11), (some (8, false))⟩,
      ⟨(some 13), .len (.t 12), (some (8, false))⟩,
      ⟨(some 14), .bin .eql (.t 13) (.k (.int .i64 0)), (some (8, false))⟩,
      ⟨(some 15), .pick (.t 8) (.k (.bool true)) (.t 14), none⟩] [0, 1, 4, 5, 15]) (
   .cond (.t 15) (.seq (.reg [
        ⟨(some 4), .mv (.k (.int .i64 0)), none⟩] [0, 1, 4, 5, 15]) (
     .ret)) (
   .skip))) (
  .seq (.reg [
     ⟨(some 16), .mv (.t 0), none⟩,
     ⟨(some 17), .nilc (.t 16), none⟩,
     ⟨(some 18), .fad 0 (.t 17), none⟩,
     ⟨(some 19), .ld none (.t 18), none⟩,
     ⟨(some 20), .idx 1 none (.t 19) (.k (.int .i64 0)), none⟩,
     ⟨(some 21), .ld none (.t 20), none⟩,
     ⟨(some 5), .mv (.t 21), none⟩] [0, 1, 4, 5, 15]) (
  .seq (.reg [
     ⟨(some 22), .mv (.t 0), none⟩,
     ⟨(some 23), .mv (.t 0), none⟩,
     ⟨(some 24), .nilc (.t 23), none⟩,
     ⟨(some 25), .fad 0 (.t 24), none⟩,
     ⟨(some 26), .ld none (.t 25), none⟩,
     ⟨(some 27), .slc 1 (.t 26) (some (.k (.int .i64 1))) none, none⟩,
     ⟨(some 28), .nilc (.t 22), none⟩,
     ⟨(some 29), .fad 0 (.t 28), none⟩,
     ⟨none, .st 1 (.t 29) (.t 27), none⟩] [0, 1, 4, 5, 15]) (
  .seq (.reg [
     ⟨(some 30), .mv (.t 5), none⟩,
     ⟨(some 31), .mv (.t 1), none⟩,
     ⟨(some 32), .call 15 [(.t 30), (.t 31)], none⟩,
     ⟨(some 4), .mv (.t 32), none⟩] [0, 1, 4, 5, 15]) (
  .ret)))))
theorem k52 : Try.f52.body.bind (compC Try.prog Try.f52.ntmps v52) = some c52 := by kernel_rfl
theorem e52 : enters Try.prog 52 = true := by kernel_rfl
theorem q52 : Try.f52.results.toList.mapM (compRes Try.prog) = some r52 := by kernel_rfl
/-- bakelite/timer.Next -/
def v53 : List Nat := [0, 1, 2, 3, 10]
def r53 : List AR := [.t 2]
def c53 : AC :=
  .seq (.reg [
     ⟨(some 1), .new 2 (.t 0), none⟩,
     ⟨(some 2), .mv (.k (.int .i64 0)), none⟩] [0, 1, 2, 3, 10]) (
  .seq (.reg [
     ⟨(some 4), .ld (some 2) (.t 1), none⟩,
     ⟨(some 5), .call 66 [(.t 4)], none⟩,
     ⟨(some 3), .mv (.t 5), none⟩] [0, 1, 2, 3, 10]) (
  .seq (.seq (.reg [
      ⟨(some 6), .mv (.t 3), none⟩,
      ⟨(some 7), .idx 1 none (.t 6) (.k (.int .i64 2)), none⟩,
      ⟨(some 8), .ld none (.t 7), none⟩,
      ⟨(some 9), .bin .and (.t 8) (.k (.int .i64 1)), none⟩,
      ⟨(some 10), .bin .eql (.t 9) (.k (.int .i64 0)), none⟩] [0, 1, 2, 3, 10]) (
   .cond (.t 10) (.seq (.reg [
        ⟨(some 2), .mv (.k (.int .i64 100000)), none⟩] [0, 1, 2, 3, 10]) (
     .ret)) (
   .skip))) (
  .seq (.reg [
     ⟨(some 11), .mv (.t 3), none⟩,
     ⟨(some 12), .idx 1 none (.t 11) (.k (.int .i64 0)), none⟩,
     ⟨(some 13), .ld none (.t 12), none⟩,
     ⟨(some 2), .mv (.t 13), none⟩] [0, 1, 2, 3, 10]) (
  .ret))))
theorem k53 : Try.f53.body.bind (compC Try.prog Try.f53.ntmps v53) = some c53 := by kernel_rfl
theorem e53 : enters Try.prog 53 = true := by kernel_rfl
theorem q53 : Try.f53.results.toList.mapM (compRes Try.prog) = some r53 := by kernel_rfl
/-- bakelite/timer.Irq -/
def v54 : List Nat := [0, 1, 2, 3]
def r54 : List AR := [.t 2]
def c54 : AC :=
  .seq (.reg [
     ⟨(some 1), .new 2 (.t 0), none⟩,
     ⟨(some 2), .mv (.k (.bool false)), none⟩] [0, 1, 2, 3]) (
  .seq (.reg [
     ⟨(some 4), .ld (some 2) (.t 1), none⟩,
     ⟨(some 5), .call 66 [(.t 4)], none⟩,
     ⟨(some 3), .mv (.t 5), none⟩] [0, 1, 2, 3]) (
  .seq (.reg [
     ⟨(some 6), .mv (.t 3), none⟩,
     ⟨(some 7), .idx 1 none (.t 6) (.k (.int .i64 3)), none⟩,
     ⟨(some 8), .ld none (.t 7), none⟩,
     ⟨(some 9), .bin .eql (.t 8) (.k (.int .i64 1)), none⟩,
     ⟨(some 10), .mv (.t 9), none⟩,
     ⟨(some 11), .mv (.t 3), (some (10, true))⟩,
     ⟨(some 12), .idx 1 none (.t 11) (.k (.int .i64 2)), (some (10, true))⟩,
     ⟨(some 13), .ld none (.t 12), (some (10, true))⟩,
     ⟨(some 14), .bin .and (.t 13) (.k (.int .i64 4)), (some (10, true))⟩,
     ⟨(some 15), .bin .neq (.t 14) (.k (.int .i64 0)), (some (10, true))⟩,
     ⟨(some 16), .pick (.t 10) (.t 15) (.k (.bool false)), none⟩,
     ⟨(some 2), .mv (.t 16), none⟩] [0, 1, 2, 3]) (
  .ret)))
theorem k54 : Try.f54.body.bind (compC Try.prog Try.f54.ntmps v54) = some c54 := by kernel_rfl
theorem e54 : enters Try.prog 54 = true := by kernel_rfl
theorem q54 : Try.f54.results.toList.mapM (compRes Try.prog) = some r54 := by kernel_rfl
/-- slices.Clone[[]int,int] -/
def v55 : List Nat := [0, 2, 4]
def r55 : List AR := [.t 2]
def c55 : AC :=
  .seq (.reg [
     ⟨(some 2), .mv (.k (.slice none 0 0)), none⟩] [0, 2, 4]) (
  .seq (.seq (.reg [
      ⟨(some 3), .mv (.t 0), none⟩,
      ⟨(some 4), .eqn false (.t 3), none⟩] [0, 2, 4]) (
   .cond (.t 4) (.seq (.reg [
        ⟨(some 2), .mv (.k (.slice none 0 0)), none⟩] [0, 2, 4]) (
     .ret)) (
   .skip))) (
  .seq (.reg [
     ⟨(some 5), .bsl [(.int .i64 0)] 0 [], none⟩,
     ⟨(some 6), .mv (.t 0), none⟩,
     ⟨(some 7), .app 1 8 (.t 5) (.t 6), none⟩,
     ⟨(some 2), .mv (.t 7), none⟩] [0, 2, 4]) (
  .ret)))
theorem k55 : Try.f55.body.bind (compC Try.prog Try.f55.ntmps v55) = some c55 := by kernel_rfl
theorem e55 : enters Try.prog 55 = true := by kernel_rfl
theorem q55 : Try.f55.results.toList.mapM (compRes Try.prog) = some r55 := by kernel_rfl
/-- slices.Reverse[[]int,int] -/
def v56 : List Nat := [0, 2, 3, 9]
def r56 : List AR := []
def c56 : AC :=
  .seq (.reg [
     ⟨(some 4), .mv (.t 0), none⟩,
     ⟨(some 5), .len (.t 4), none⟩,
     ⟨(some 6), .bin .sub (.t 5) (.k (.int .i64 1)), none⟩,
     ⟨(some 2), .mv (.k (.int .i64 0)), none⟩,
     ⟨(some 3), .mv (.t 6), none⟩] [0, 2, 3, 9]) (
  .block 0 (.loop (.seq (.seq (.reg [
          ⟨(some 7), .mv (.t 2), none⟩,
          ⟨(some 8), .mv (.t 3), none⟩,
          ⟨(some 9), .bin .lss (.t 7) (.t 8), none⟩] [0, 2, 3, 9]) (
       .cond (.t 9) (.skip) (
       .exit 0))) (
      .seq (.block 1 (.dreg [
           ⟨(some 14), .mv (.t 0), none⟩,
           ⟨(some 15), .mv (.t 2), none⟩,
           ⟨(some 16), .mv (.t 0), none⟩,
           ⟨(some 17), .mv (.t 3), none⟩,
           ⟨(some 18), .mv (.t 0), none⟩,
           ⟨(some 19), .mv (.t 3), none⟩,
           ⟨(some 20), .idx 1 none (.t 18) (.t 19), none⟩,
           ⟨(some 21), .ld none (.t 20), none⟩,
           ⟨(some 22), .mv (.t 0), none⟩,
           ⟨(some 23), .mv (.t 2), none⟩,
           ⟨(some 24), .idx 1 none (.t 22) (.t 23), none⟩,
           ⟨(some 25), .ld none (.t 24), none⟩,
           ⟨(some 26), .idx 1 none (.t 14) (.t 15), none⟩,
           ⟨none, .st 1 (.t 26) (.t 21), none⟩,
           ⟨(some 27), .idx 1 none (.t 16) (.t 17), none⟩,
           ⟨none, .st 1 (.t 27) (.t 25), none⟩] [[], [], [], [], [], [], [4, 5], [4, 5, 6], [], [], [8, 9], [8, 9, 10], [0, 1, 4, 5, 6, 7, 8, 9, 10, 11], [0, 1, 4, 5, 6, 7, 8, 9, 10, 11, 12], [0, 1, 2, 3, 4, 5, 6, 7, 8, 9, 10, 11, 12, 13], [0, 1, 2, 3, 4, 5, 6, 7, 8, 9, 10, 11, 12, 13, 14]] [0, 2, 3, 9])) (
      .reg [
        ⟨(some 10), .mv (.t 2), none⟩,
        ⟨(some 11), .bin .add (.t 10) (.k (.int .i64 1)), none⟩,
        ⟨(some 12), .mv (.t 3), none⟩,
        ⟨(some 13), .bin .sub (.t 12) (.k (.int .i64 1)), none⟩,
        ⟨(some 2), .mv (.t 11), none⟩,
        ⟨(some 3), .mv (.t 13), none⟩] [0, 2, 3, 9])))))
theorem k56 : Try.f56.body.bind (compC Try.prog Try.f56.ntmps v56) = some c56 := by kernel_rfl
theorem e56 : enters Try.prog 56 = true := by kernel_rfl
theorem q56 : Try.f56.results.toList.mapM (compRes Try.prog) = some r56 := by kernel_rfl
/-- bakelite/pin.All -/
def v58 : List Nat := [0, 2, 3, 5, 6, 7, 8, 9]
def r58 : List AR := [.t 2]
def c58 : AC :=
  .seq (.reg [
     ⟨(some 2), .mv (.k (.int .i64 0)), none⟩] [0, 2, 3, 5, 6, 7, 8, 9]) (
  .seq (.reg [
     ⟨(some 3), .mv (.k (.int .i64 2)), none⟩] [0, 2, 3, 5, 6, 7, 8, 9]) (
  .seq (.seq (.reg [
      ⟨(some 6), .mv (.t 0), none⟩,
      ⟨(some 7), .len (.t 6), none⟩,
      ⟨(some 8), .mv (.k (.int .i64 0)), none⟩] [0, 2, 3, 5, 6, 7, 8, 9]) (
   .block 0 (.loop (.seq (.reg [
          ⟨(some 9), .bin .lss (.t 8) (.t 7), none⟩] [0, 2, 3, 5, 6, 7, 8, 9]) (
       .seq (.cond (.t 9) (.skip) (
        .exit 0)) (
       .seq (.block 1 (.seq (.reg [
             ⟨(some 10), .idx 1 none (.t 6) (.t 8), none⟩,
             ⟨(some 11), .ld none (.t 10), none⟩,
             ⟨(some 5), .mv (.t 11), none⟩] [0, 2, 3, 5, 6, 7, 8, 9]) (
          .reg [
            ⟨(some 12), .mv (.t 3), none⟩,
            ⟨(some 13), .mv (.t 5), none⟩,
            ⟨(some 14), .call 64 [(.t 12), (.t 13)], none⟩,
            ⟨(some 3), .mv (.t 14), none⟩] [0, 2, 3, 5, 6, 7, 8, 9]))) (
       .reg [
         ⟨(some 15), .bin .add (.t 8) (.k (.int .i64 1)), none⟩,
         ⟨(some 8), .mv (.t 15), none⟩] [0, 2, 3, 5, 6, 7, 8, 9]))))))) (
  .seq (.reg [
     ⟨(some 16), .mv (.t 3), none⟩,
     ⟨(some 2), .mv (.t 16), none⟩] [0, 2, 3, 5, 6, 7, 8, 9]) (
  .ret))))
theorem k58 : Try.f58.body.bind (compC Try.prog Try.f58.ntmps v58) = some c58 := by kernel_rfl
theorem e58 : enters Try.prog 58 = true := by kernel_rfl
theorem q58 : Try.f58.results.toList.mapM (compRes Try.prog) = some r58 := by kernel_rfl
/-- bakelite/pin.Pull -/
def v59 : List Nat := [0, 1, 4, 7]
def r59 : List AR := [.t 4]
def c59 : AC :=
  .seq (.reg [
     ⟨(some 4), .mv (.k (.int .i64 0)), none⟩] [0, 1, 4, 7]) (
  .seq (.seq (.reg [
      ⟨(some 5), .mv (.t 0), none⟩,
      ⟨(some 6), .call 69 [(.t 5)], none⟩,
      ⟨(some 7), .bin .eql (.t 6) (.k (.int .i64 2)), none⟩] [0, 1, 4, 7]) (
   .cond (.t 7) (.seq (.reg [
        ⟨(some 8), .mv (.t 1), none⟩,
        ⟨(some 9), .call 69 [(.t 8)], none⟩,
        ⟨(some 4), .mv (.t 9), none⟩] [0, 1, 4, 7]) (
     .ret)) (
   .skip))) (
  .seq (.reg [
     ⟨(some 10), .mv (.t 0), none⟩,
     ⟨(some 11), .call 69 [(.t 10)], none⟩,
     ⟨(some 4), .mv (.t 11), none⟩] [0, 1, 4, 7]) (
  .ret)))
theorem k59 : Try.f59.body.bind (compC Try.prog Try.f59.ntmps v59) = some c59 := by kernel_rfl
theorem e59 : enters Try.prog 59 = true := by kernel_rfl
theorem q59 : Try.f59.results.toList.mapM (compRes Try.prog) = some r59 := by kernel_rfl
/-- bakelite/bit.place -/
def v60 : List Nat := [0, 1, 4, 5]
def r60 : List AR := [.t 4, .t 5]
def c60 : AC :=
  .seq (.reg [
     ⟨(some 4), .mv (.k (.int .i64 0)), none⟩,
     ⟨(some 5), .mv (.k (.int .i64 0)), none⟩] [0, 1, 4, 5]) (
  .seq (.reg [
     ⟨(some 6), .mv (.t 0), none⟩,
     ⟨(some 7), .call 61 [(.t 6)], none⟩,
     ⟨(some 0), .mv (.t 7), none⟩] [0, 1, 4, 5]) (
  .seq (.reg [
     ⟨(some 8), .mv (.t 0), none⟩,
     ⟨(some 9), .mv (.t 1), none⟩,
     ⟨(some 10), .mv (.t 0), none⟩,
     ⟨(some 11), .bin .sub (.k (.int .i64 62)) (.t 10), none⟩,
     ⟨(some 12), .mnx false [(.t 9), (.t 11)], none⟩,
     ⟨(some 13), .mnx true [(.k (.int .i64 0)), (.t 12)], none⟩,
     ⟨(some 4), .mv (.t 8), none⟩,
     ⟨(some 5), .mv (.t 13), none⟩] [0, 1, 4, 5]) (
  .ret)))
theorem k60 : Try.f60.body.bind (compC Try.prog Try.f60.ntmps v60) = some c60 := by kernel_rfl
theorem e60 : enters Try.prog 60 = true := by kernel_rfl
theorem q60 : Try.f60.results.toList.mapM (compRes Try.prog) = some r60 := by kernel_rfl
/-- bakelite/bit.width -/
def v61 : List Nat := [0, 2]
def r61 : List AR := [.t 2]
def c61 : AC :=
  .seq (.reg [
     ⟨(some 2), .mv (.k (.int .i64 0)), none⟩] [0, 2]) (
  .seq (.reg [
     ⟨(some 3), .mv (.t 0), none⟩,
     ⟨(some 4), .mnx false [(.t 3), (.k (.int .i64 62))], none⟩,
     ⟨(some 5), .mnx true [(.k (.int .i64 0)), (.t 4)], none⟩,
     ⟨(some 2), .mv (.t 5), none⟩] [0, 2]) (
  .ret))
theorem k61 : Try.f61.body.bind (compC Try.prog Try.f61.ntmps v61) = some c61 := by kernel_rfl
theorem e61 : enters Try.prog 61 = true := by kernel_rfl
theorem q61 : Try.f61.results.toList.mapM (compRes Try.prog) = some r61 := by kernel_rfl
/-- bakelite/serial.fit -/
def v62 : List Nat := [0, 1, 2, 3, 4, 5, 11, 12, 13]
def r62 : List AR := [.t 2]
def c62 : AC :=
  .seq (.reg [
     ⟨(some 1), .new 2 (.t 0), none⟩,
     ⟨(some 2), .mv (.k (.slice none 0 0)), none⟩] [0, 1, 2, 3, 4, 5, 11, 12, 13]) (
  .seq (.reg [
     ⟨(some 6), .mksl [(.int .i64 0)] 8 (.k (.int .i64 8)) (.k (.int .i64 8)), none⟩,
     ⟨(some 3), .mv (.t 6), none⟩] [0, 1, 2, 3, 4, 5, 11, 12, 13]) (
  .seq (.reg [
     ⟨(some 7), .mv (.t 3), none⟩,
     ⟨(some 8), .fad 0 (.t 1), none⟩,
     ⟨(some 9), .ld none (.t 8), none⟩,
     ⟨(some 10), .copy 1 (.t 7) (.t 9), none⟩] [0, 1, 2, 3, 4, 5, 11, 12, 13]) (
  .seq (.seq (.reg [
      ⟨(some 11), .build [(.int .i64 0), (.int .i64 0), (.int .i64 0), (.int .i64 0), (.int .i64 0), (.int .i64 0), (.int .i64 0), (.int .i64 0)] [(0, 1, (.k (.int .i64 8))), (1, 1, (.k (.int .i64 6))), (2, 1, (.k (.int .i64 8))), (3, 1, (.k (.int .i64 1))), (4, 1, (.k (.int .i64 1))), (5, 1, (.k (.int .i64 2))), (6, 1, (.k (.int .i64 20))), (7, 1, (.k (.int .i64 8)))], none⟩,
      ⟨(some 12), .mv (.k (.int .i64 0)), none⟩] [0, 1, 2, 3, 4, 5, 11, 12, 13]) (
   .block 0 (.loop (.seq (.reg [
          ⟨(some 13), .bin .lss (.t 12) (.k (.int .i64 8)), none⟩] [0, 1, 2, 3, 4, 5, 11, 12, 13]) (
       .seq (.cond (.t 13) (.skip) (
        .exit 0)) (
       .seq (.block 1 (.seq (.reg [
             ⟨(some 14), .mv (.t 12), none⟩,
             ⟨(some 15), .ixa 8 1 none (.t 11) (.t 12), none⟩,
             ⟨(some 4), .mv (.t 14), none⟩,
             ⟨(some 5), .mv (.t 15), none⟩] [0, 1, 2, 3, 4, 5, 11, 12, 13]) (
          .reg [
            ⟨(some 16), .mv (.t 3), none⟩,
            ⟨(some 17), .mv (.t 4), none⟩,
            ⟨(some 18), .mv (.t 3), none⟩,
            ⟨(some 19), .mv (.t 4), none⟩,
            ⟨(some 20), .idx 1 none (.t 18) (.t 19), none⟩,
            ⟨(some 21), .ld none (.t 20), none⟩,
            ⟨(some 22), .mv (.t 5), none⟩,
            ⟨(some 23), .call 19 [(.t 21), (.t 22)], none⟩,
            ⟨(some 24), .idx 1 none (.t 16) (.t 17), none⟩,
            ⟨none, .st 1 (.t 24) (.t 23), none⟩] [0, 1, 2, 3, 4, 5, 11, 12, 13]))) (
       .reg [
         ⟨(some 25), .bin .add (.t 12) (.k (.int .i64 1)), none⟩,
         ⟨(some 12), .mv (.t 25), none⟩] [0, 1, 2, 3, 4, 5, 11, 12, 13]))))))) (
  .seq (.reg [
     ⟨(some 26), .mv (.t 3), none⟩,
     ⟨(some 2), .mv (.t 26), none⟩] [0, 1, 2, 3, 4, 5, 11, 12, 13]) (
  .ret)))))
theorem k62 : Try.f62.body.bind (compC Try.prog Try.f62.ntmps v62) = some c62 := by kernel_rfl
theorem e62 : enters Try.prog 62 = true := by kernel_rfl
theorem q62 : Try.f62.results.toList.mapM (compRes Try.prog) = some r62 := by kernel_rfl
/-- bakelite/serial.truth -/
def v63 : List Nat := [0, 2, 3]
def r63 : List AR := [.t 2]
def c63 : AC :=
  .seq (.reg [
     ⟨(some 2), .mv (.k (.int .i64 0)), none⟩] [0, 2, 3]) (
  .seq (.seq (.reg [
      ⟨(some 3), .mv (.t 0), none⟩] [0, 2, 3]) (
   .cond (.t 3) (.seq (.reg [
        ⟨(some 2), .mv (.k (.int .i64 1)), none⟩] [0, 2, 3]) (
     .ret)) (
   .skip))) (
  .seq (.reg [
     ⟨(some 2), .mv (.k (.int .i64 0)), none⟩] [0, 2, 3]) (
  .ret)))
theorem k63 : Try.f63.body.bind (compC Try.prog Try.f63.ntmps v63) = some c63 := by kernel_rfl
theorem e63 : enters Try.prog 63 = true := by kernel_rfl
theorem q63 : Try.f63.results.toList.mapM (compRes Try.prog) = some r63 := by kernel_rfl
/-- bakelite/pin.Join -/
def v64 : List Nat := [0, 1, 4, 9, 13]
def r64 : List AR := [.t 4]
def c64 : AC :=
  .seq (.reg [
     ⟨(some 4), .mv (.k (.int .i64 0)), none⟩] [0, 1, 4, 9, 13]) (
  .seq (.reg [
     ⟨(some 5), .mv (.t 0), none⟩,
     ⟨(some 6), .call 69 [(.t 5)], none⟩,
     ⟨(some 7), .mv (.t 1), none⟩,
     ⟨(some 8), .call 69 [(.t 7)], none⟩,
     ⟨(some 0), .mv (.t 6), none⟩,
     ⟨(some 1), .mv (.t 8), none⟩] [0, 1, 4, 9, 13]) (
  .seq (.block 0 (.seq (.reg [
        ⟨(some 10), .mv (.t 0), none⟩,
        ⟨(some 11), .bin .eql (.t 10) (.k (.int .i64 2)), none⟩,
        ⟨(some 9), .mv (.t 11), none⟩] [0, 1, 4, 9, 13]) (
     .cond (.t 9) (.seq (.reg [
          ⟨(some 12), .mv (.t 1), none⟩,
          ⟨(some 4), .mv (.t 12), none⟩] [0, 1, 4, 9, 13]) (
       .ret)) (
     .seq (.reg [
          ⟨(some 14), .mv (.t 1), none⟩,
          ⟨(some 15), .bin .eql (.t 14) (.k (.int .i64 2)), none⟩,
          ⟨(some 16), .mv (.t 15), none⟩,
          ⟨(some 17), .mv (.t 0), (some (16, false))⟩,
          ⟨(some 18), .mv (.t 1), (some (16, false))⟩,
          ⟨(some 19), .bin .eql (.t 17) (.t 18), (some (16, false))⟩,
          ⟨(some 20), .pick (.t 16) (.k (.bool true)) (.t 19), none⟩,
          ⟨(some 13), .mv (.t 20), none⟩] [0, 1, 4, 9, 13]) (
       .cond (.t 13) (.seq (.reg [
            ⟨(some 21), .mv (.t 0), none⟩,
            ⟨(some 4), .mv (.t 21), none⟩] [0, 1, 4, 9, 13]) (
         .ret)) (
       .skip)))))) (
  .seq (.reg [
     ⟨(some 4), .mv (.k (.int .i64 3)), none⟩] [0, 1, 4, 9, 13]) (
  .ret))))
theorem k64 : Try.f64.body.bind (compC Try.prog Try.f64.ntmps v64) = some c64 := by kernel_rfl
theorem e64 : enters Try.prog 64 = true := by kernel_rfl
theorem q64 : Try.f64.results.toList.mapM (compRes Try.prog) = some r64 := by kernel_rfl
/-- bakelite/port.fit -/
def v65 : List Nat := [0, 1, 2, 3, 4, 11, 12, 13]
def r65 : List AR := [.t 2]
def c65 : AC :=
  .seq (.reg [
     ⟨(some 1), .new 2 (.t 0), none⟩,
     ⟨(some 2), .mv (.k (.slice none 0 0)), none⟩] [0, 1, 2, 3, 4, 11, 12, 13]) (
  .seq (.reg [
     ⟨(some 5), .mksl [(.int .i64 0)] 8 (.k (.int .i64 3)) (.k (.int .i64 3)), none⟩,
     ⟨(some 3), .mv (.t 5), none⟩] [0, 1, 2, 3, 4, 11, 12, 13]) (
  .seq (.reg [
     ⟨(some 6), .mv (.t 3), none⟩,
     ⟨(some 7), .fad 0 (.t 1), none⟩,
     ⟨(some 8), .ld none (.t 7), none⟩,
     ⟨(some 9), .copy 1 (.t 6) (.t 8), none⟩] [0, 1, 2, 3, 4, 11, 12, 13]) (
  .seq (.seq (.reg [
      ⟨(some 10), .mv (.t 3), none⟩,
      ⟨(some 11), .len (.t 10), none⟩,
      ⟨(some 12), .mv (.k (.int .i64 0)), none⟩] [0, 1, 2, 3, 4, 11, 12, 13]) (
   .block 0 (.loop (.seq (.reg [
          ⟨(some 13), .bin .lss (.t 12) (.t 11), none⟩] [0, 1, 2, 3, 4, 11, 12, 13]) (
       .seq (.cond (.t 13) (.skip) (
        .exit 0)) (
       .seq (.block 1 (.seq (.reg [
             ⟨(some 14), .mv (.t 12), none⟩,
             ⟨(some 4), .mv (.t 14), none⟩] [0, 1, 2, 3, 4, 11, 12, 13]) (
          .reg [
            ⟨(some 15), .mv (.t 3), none⟩,
            ⟨(some 16), .mv (.t 4), none⟩,
            ⟨(some 17), .mv (.t 3), none⟩,
            ⟨(some 18), .mv (.t 4), none⟩,
            ⟨(some 19), .idx 1 none (.t 17) (.t 18), none⟩,
            ⟨(some 20), .ld none (.t 19), none⟩,
            ⟨(some 21), .call 19 [(.t 20), (.k (.int .i64 8))], none⟩,
            ⟨(some 22), .idx 1 none (.t 15) (.t 16), none⟩,
            ⟨none, .st 1 (.t 22) (.t 21), none⟩] [0, 1, 2, 3, 4, 11, 12, 13]))) (
       .reg [
         ⟨(some 23), .bin .add (.t 12) (.k (.int .i64 1)), none⟩,
         ⟨(some 12), .mv (.t 23), none⟩] [0, 1, 2, 3, 4, 11, 12, 13]))))))) (
  .seq (.reg [
     ⟨(some 24), .mv (.t 3), none⟩,
     ⟨(some 2), .mv (.t 24), none⟩] [0, 1, 2, 3, 4, 11, 12, 13]) (
  .ret)))))
theorem k65 : Try.f65.body.bind (compC Try.prog Try.f65.ntmps v65) = some c65 := by kernel_rfl
theorem e65 : enters Try.prog 65 = true := by kernel_rfl
theorem q65 : Try.f65.results.toList.mapM (compRes Try.prog) = some r65 := by kernel_rfl
/-- bakelite/timer.fit -/
def v66 : List Nat := [0, 1, 2, 3]
def r66 : List AR := [.t 2]
def c66 : AC :=
  .seq (.reg [
     ⟨(some 1), .new 2 (.t 0), none⟩,
     ⟨(some 2), .mv (.k (.slice none 0 0)), none⟩] [0, 1, 2, 3]) (
  .seq (.reg [
     ⟨(some 4), .mksl [(.int .i64 0)] 8 (.k (.int .i64 4)) (.k (.int .i64 4)), none⟩,
     ⟨(some 3), .mv (.t 4), none⟩] [0, 1, 2, 3]) (
  .seq (.reg [
     ⟨(some 5), .mv (.t 3), none⟩,
     ⟨(some 6), .fad 0 (.t 1), none⟩,
     ⟨(some 7), .ld none (.t 6), none⟩,
     ⟨(some 8), .copy 1 (.t 5) (.t 7), none⟩] [0, 1, 2, 3]) (
  .seq (.dreg [
     ⟨(some 9), .mv (.t 3), none⟩,
     ⟨(some 10), .mv (.t 3), none⟩,
     ⟨(some 11), .mv (.t 3), none⟩,
     ⟨(some 12), .mv (.t 3), none⟩,
     ⟨(some 13), .mv (.t 3), none⟩,
     ⟨(some 14), .idx 1 none (.t 13) (.k (.int .i64 0)), none⟩,
     ⟨(some 15), .ld none (.t 14), none⟩,
     ⟨(some 16), .call 19 [(.t 15), (.k (.int .i64 16))], none⟩,
     ⟨(some 17), .mv (.t 3), none⟩,
     ⟨(some 18), .idx 1 none (.t 17) (.k (.int .i64 1)), none⟩,
     ⟨(some 19), .ld none (.t 18), none⟩,
     ⟨(some 20), .call 19 [(.t 19), (.k (.int .i64 16))], none⟩,
     ⟨(some 21), .mv (.t 3), none⟩,
     ⟨(some 22), .idx 1 none (.t 21) (.k (.int .i64 2)), none⟩,
     ⟨(some 23), .ld none (.t 22), none⟩,
     ⟨(some 24), .call 19 [(.t 23), (.k (.int .i64 3))], none⟩,
     ⟨(some 25), .mv (.t 3), none⟩,
     ⟨(some 26), .idx 1 none (.t 25) (.k (.int .i64 3)), none⟩,
     ⟨(some 27), .ld none (.t 26), none⟩,
     ⟨(some 28), .call 19 [(.t 27), (.k (.int .i64 1))], none⟩,
     ⟨(some 29), .idx 1 none (.t 9) (.k (.int .i64 0)), none⟩,
     ⟨none, .st 1 (.t 29) (.t 16), none⟩,
     ⟨(some 30), .idx 1 none (.t 10) (.k (.int .i64 1)), none⟩,
     ⟨none, .st 1 (.t 30) (.t 20), none⟩,
     ⟨(some 31), .idx 1 none (.t 11) (.k (.int .i64 2)), none⟩,
     ⟨none, .st 1 (.t 31) (.t 24), none⟩,
     ⟨(some 32), .idx 1 none (.t 12) (.k (.int .i64 3)), none⟩,
     ⟨none, .st 1 (.t 32) (.t 28), none⟩] [[], [], [], [], [], [4], [4, 5], [4, 5, 6], [], [8], [8, 9], [4, 5, 6, 7, 8, 9, 10], [], [12], [12, 13], [4, 5, 6, 7, 8, 9, 10, 11, 12, 13, 14], [], [16], [16, 17], [4, 5, 6, 7, 8, 9, 10, 11, 12, 13, 14, 15, 16, 17, 18], [0, 4, 5, 6, 7, 8, 9, 10, 11, 12, 13, 14, 15, 16, 17, 18, 19], [0, 4, 5, 6, 7, 8, 9, 10, 11, 12, 13, 14, 15, 16, 17, 18, 19, 20], [0, 1, 4, 5, 6, 7, 8, 9, 10, 11, 12, 13, 14, 15, 16, 17, 18, 19, 20, 21], [0, 1, 4, 5, 6, 7, 8, 9, 10, 11, 12, 13, 14, 15, 16, 17, 18, 19, 20, 21, 22], [0, 1, 2, 4, 5, 6, 7, 8, 9, 10, 11, 12, 13, 14, 15, 16, 17, 18, 19, 20, 21, 22, 23], [0, 1, 2, 4, 5, 6, 7, 8, 9, 10, 11, 12, 13, 14, 15, 16, 17, 18, 19, 20, 21, 22, 23, 24], [0, 1, 2, 3, 4, 5, 6, 7, 8, 9, 10, 11, 12, 13, 14, 15, 16, 17, 18, 19, 20, 21, 22, 23, 24, 25], [0, 1, 2, 3, 4, 5, 6, 7, 8, 9, 10, 11, 12, 13, 14, 15, 16, 17, 18, 19, 20, 21, 22, 23, 24, 25, 26]] [0, 1, 2, 3]) (
  .seq (.reg [
     ⟨(some 33), .mv (.t 3), none⟩,
     ⟨(some 2), .mv (.t 33), none⟩] [0, 1, 2, 3]) (
  .ret)))))
theorem k66 : Try.f66.body.bind (compC Try.prog Try.f66.ntmps v66) = some c66 := by kernel_rfl
theorem e66 : enters Try.prog 66 = true := by kernel_rfl
theorem q66 : Try.f66.results.toList.mapM (compRes Try.prog) = some r66 := by kernel_rfl
/-- slices.rotateRight[int] -/
def v68 : List Nat := [0, 1]
def r68 : List AR := []
def c68 : AC :=
  .reg [
    ⟨(some 4), .mv (.t 0), none⟩,
    ⟨(some 5), .mv (.t 0), none⟩,
    ⟨(some 6), .len (.t 5), none⟩,
    ⟨(some 7), .mv (.t 1), none⟩,
    ⟨(some 8), .bin .sub (.t 6) (.t 7), none⟩,
    ⟨(some 9), .call 70 [(.t 4), (.t 8)], none⟩] [0, 1]
theorem k68 : Try.f68.body.bind (compC Try.prog Try.f68.ntmps v68) = some c68 := by kernel_rfl
theorem e68 : enters Try.prog 68 = true := by kernel_rfl
theorem q68 : Try.f68.results.toList.mapM (compRes Try.prog) = some r68 := by kernel_rfl
/-- bakelite/pin.fit -/
def v69 : List Nat := [0, 2, 8]
def r69 : List AR := [.t 2]
def c69 : AC :=
  .seq (.reg [
     ⟨(some 2), .mv (.k (.int .i64 0)), none⟩] [0, 2, 8]) (
  .seq (.seq (.reg [
      ⟨(some 3), .mv (.t 0), none⟩,
      ⟨(some 4), .bin .lss (.t 3) (.k (.int .i64 0)), none⟩,
      ⟨(some 5), .mv (.t 4), none⟩,
      ⟨(some 6), .mv (.t 0), (some (5, false))⟩,
      ⟨(some 7), .bin .gtr (.t 6) (.k (.int .i64 3)), (some (5, false))⟩,
      ⟨(some 8), .pick (.t 5) (.k (.bool true)) (.t 7), none⟩] [0, 2, 8]) (
   .cond (.t 8) (.seq (.reg [
        ⟨(some 2), .mv (.k (.int .i64 3)), none⟩] [0, 2, 8]) (
     .ret)) (
   .skip))) (
  .seq (.reg [
     ⟨(some 9), .mv (.t 0), none⟩,
     ⟨(some 2), .mv (.t 9), none⟩] [0, 2, 8]) (
  .ret)))
theorem k69 : Try.f69.body.bind (compC Try.prog Try.f69.ntmps v69) = some c69 := by kernel_rfl
theorem e69 : enters Try.prog 69 = true := by kernel_rfl
theorem q69 : Try.f69.results.toList.mapM (compRes Try.prog) = some r69 := by kernel_rfl
/-- slices.rotateLeft[int] -/
def v70 : List Nat := [0, 1]
def r70 : List AR := []
def c70 : AC :=
  .seq (.reg [
     ⟨(some 4), .mv (.t 0), none⟩,
     ⟨(some 5), .mv (.t 1), none⟩,
     ⟨(some 6), .slc 1 (.t 4) none (some (.t 5)), none⟩,
     ⟨(some 7), .call 56 [(.t 6)], none⟩] [0, 1]) (
  .seq (.reg [
     ⟨(some 8), .mv (.t 0), none⟩,
     ⟨(some 9), .mv (.t 1), none⟩,
     ⟨(some 10), .slc 1 (.t 8) (some (.t 9)) none, none⟩,
     ⟨(some 11), .call 56 [(.t 10)], none⟩] [0, 1]) (
  .reg [
    ⟨(some 12), .mv (.t 0), none⟩,
    ⟨(some 13), .call 56 [(.t 12)], none⟩] [0, 1]))
theorem k70 : Try.f70.body.bind (compC Try.prog Try.f70.ntmps v70) = some c70 := by kernel_rfl
theorem e70 : enters Try.prog 70 = true := by kernel_rfl
theorem q70 : Try.f70.results.toList.mapM (compRes Try.prog) = some r70 := by kernel_rfl
end Go.Proofs.Ytcgjmkbajjngaaa.Code
