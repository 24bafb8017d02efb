/- Several texts in one (CdBit, CdBakemake, CdTable, CdSlices, CdStd, CdDrive, CdChip, CdTimer, CdSerial, CdVideo, CdSound, CdPort, CdKChip), for the proof of LawChipQuiet. No condition beyond those in each lemma. -/
import Derived.Test.YtolmklnijjfppaaGreatProg
import Derived.Test.YtolmklnijjfppaaGreatPLawChipQuietC
import Derived.KernelRfl
namespace Go.Proofs.YtolmklnijjfppaaGreat.Code
open Go Go.Proofs.YtolmklnijjfppaaGreat.Calc
set_option maxRecDepth 100000
def v50 : List (Nat × List Nat) := [(0, [0, 1]), (1, [4])]
def r50 : List AR := [.t 4]
def c50x0 : AC := .seq (.reg [m' 5 0, m' 6 1, o' 7 (.call 104 [.t 6]), o' 8 (.bin .shl (i' 1) (.t 7)), o' 9 (.bin .sub (.t 8) (i' 1)), o' 10 (.bin .and (.t 5) (.t 9)), m' 4 10] [4]) (.ret)
def c50 : AC := .seq (.reg [o' 4 (.mv (i' 0))] [0, 1]) (c50x0)
theorem k50 : Tryz.f50.body.bind (compC Tryz.prog Tryz.f50.ntmps v50) = some c50 := by kernel_rfl
theorem e50 : enters Tryz.prog 50 = true := by kernel_rfl
theorem q50 : Tryz.f50.results.toList.mapM (compRes Tryz.prog) = some r50 := by kernel_rfl
def v104 : List (Nat × List Nat) := [(0, [0]), (1, [2])]
def r104 : List AR := [.t 2]
def c104x0 : AC := .seq (.reg [m' 3 0, o' 4 (.mnx false [.t 3, i' 62]), o' 5 (.mnx true [i' 0, .t 4]), m' 2 5] [2]) (.ret)
def c104 : AC := .seq (.reg [o' 2 (.mv (i' 0))] [0]) (c104x0)
theorem k104 : Tryz.f104.body.bind (compC Tryz.prog Tryz.f104.ntmps v104) = some c104 := by kernel_rfl
theorem e104 : enters Tryz.prog 104 = true := by kernel_rfl
theorem q104 : Tryz.f104.results.toList.mapM (compRes Tryz.prog) = some r104 := by kernel_rfl
def v111 : List (Nat × List Nat) := [(0, [0, 1, 2, 3]), (1, [0, 1, 2, 3]), (2, [0, 1, 2, 3, 9]), (3, [8])]
def r111 : List AR := [.t 8]
def c111x0 : AC := .seq (.reg [m' 21 0, o' 22 (.call 50 [.t 21, i' 62]), m' 23 9, o' 24 (.bin .andNot (.t 22) (.t 23)), m' 25 3, m' 26 2, o' 27 (.call 50 [.t 25, .t 26]), m' 28 1, o' 29 (.bin .shl (.t 27) (.t 28)), o' 30 (.bin .or (.t 24) (.t 29)), m' 8 30] [8]) (.ret)
def c111x1 : AC := .seq (.reg [m' 16 2, o' 17 (.bin .shl (i' 1) (.t 16)), o' 18 (.bin .sub (.t 17) (i' 1)), m' 19 1, o' 20 (.bin .shl (.t 18) (.t 19)), m' 9 20] [0, 1, 2, 3, 9]) (c111x0)
def c111x2 : AC := .seq (.reg [m' 11 1, m' 12 2, o' 13 (.call 140 [.t 11, .t 12]), m' 10 13, o' 14 (.ext (.t 10) 0), o' 15 (.ext (.t 10) 1), m' 1 14, m' 2 15] [0, 1, 2, 3]) (c111x1)
def c111 : AC := .seq (.reg [o' 8 (.mv (i' 0))] [0, 1, 2, 3]) (c111x2)
theorem k111 : Tryz.f111.body.bind (compC Tryz.prog Tryz.f111.ntmps v111) = some c111 := by kernel_rfl
theorem e111 : enters Tryz.prog 111 = true := by kernel_rfl
theorem q111 : Tryz.f111.results.toList.mapM (compRes Tryz.prog) = some r111 := by kernel_rfl
def v118 : List (Nat × List Nat) := [(0, [0, 1, 2]), (1, [0, 1, 2]), (2, [6])]
def r118 : List AR := [.t 6]
def c118x0 : AC := .seq (.reg [m' 13 0, o' 14 (.call 50 [.t 13, i' 62]), m' 15 1, o' 16 (.bin .shr (.t 14) (.t 15)), m' 17 2, o' 18 (.call 50 [.t 16, .t 17]), m' 6 18] [6]) (.ret)
def c118x1 : AC := .seq (.reg [m' 8 1, m' 9 2, o' 10 (.call 140 [.t 8, .t 9]), m' 7 10, o' 11 (.ext (.t 7) 0), o' 12 (.ext (.t 7) 1), m' 1 11, m' 2 12] [0, 1, 2]) (c118x0)
def c118 : AC := .seq (.reg [o' 6 (.mv (i' 0))] [0, 1, 2]) (c118x1)
def v140 : List (Nat × List Nat) := [(0, [0, 1]), (1, [0, 1]), (2, [4, 5])]
def r140 : List AR := [.t 4, .t 5]
def c140x0 : AC := .seq (.reg [m' 8 0, m' 9 1, m' 10 0, o' 11 (.bin .sub (i' 62) (.t 10)), o' 12 (.mnx false [.t 9, .t 11]), o' 13 (.mnx true [i' 0, .t 12]), m' 4 8, m' 5 13] [4, 5]) (.ret)
def c140x1 : AC := .seq (.reg [m' 6 0, o' 7 (.call 104 [.t 6]), m' 0 7] [0, 1]) (c140x0)
def c140 : AC := .seq (.reg [o' 4 (.mv (i' 0)), o' 5 (.mv (i' 0))] [0, 1]) (c140x1)
theorem k140 : Tryz.f140.body.bind (compC Tryz.prog Tryz.f140.ntmps v140) = some c140 := by kernel_rfl
theorem e140 : enters Tryz.prog 140 = true := by kernel_rfl
theorem q140 : Tryz.f140.results.toList.mapM (compRes Tryz.prog) = some r140 := by kernel_rfl
end Go.Proofs.YtolmklnijjfppaaGreat.Code

namespace Go.Proofs.YtolmklnijjfppaaGreat.Code
open Go Go.Proofs.YtolmklnijjfppaaGreat.Calc
set_option maxRecDepth 100000
def v7 : List (Nat × List Nat) := [(0, [0, 1]), (1, [0, 1]), (2, [0, 1, 9]), (3, [0]), (4, [4])]
def r7 : List AR := [.t 4]
def c7x0 : AC := .seq (.reg [m' 13 0, m' 4 13] [4]) (.ret)
def c7x1 : AC := .reg [m' 10 0, m' 11 1, o' 12 (.bin .add (.t 10) (.t 11)), m' 0 12] [0]
def c7x2 : AC := .cond (.t 9) (c7x1) (.skip)
def c7x3 : AC := .seq (.reg [m' 8 0, o' 9 (.bin .lss (.t 8) (i' 0))] [0, 1, 9]) (c7x2)
def c7x4 : AC := .seq (.reg [m' 5 0, m' 6 1, o' 7 (.bin .rem (.t 5) (.t 6)), m' 0 7] [0, 1]) (c7x3)
def c7x5 : AC := .seq (c7x4) (c7x0)
def c7 : AC := .seq (.reg [o' 4 (.mv (i' 0))] [0, 1]) (c7x5)
theorem k7 : Tryz.f7.body.bind (compC Tryz.prog Tryz.f7.ntmps v7) = some c7 := by kernel_rfl
theorem e7 : enters Tryz.prog 7 = true := by kernel_rfl
theorem q7 : Tryz.f7.results.toList.mapM (compRes Tryz.prog) = some r7 := by kernel_rfl
def v12 : List (Nat × List Nat) := [(0, [0, 2]), (1, [2, 3]), (2, [2, 3, 4]), (3, [2, 3, 4]), (4, [2, 3, 4, 5]), (5, [2, 3, 4, 5, 22, 23]), (6, [2, 3, 4, 5, 22, 23, 24]), (7, [2, 3, 4, 5, 6, 22, 23]), (8, [2, 3, 4, 5, 6, 7, 22, 23]), (9, [2, 3, 4, 5, 6, 7, 8, 22, 23]), (10, [2, 3, 4, 5, 6, 7, 8, 22, 23, 44]), (11, [2, 3, 4, 5, 6, 7, 8, 22, 23]), (12, [2, 3, 4, 5, 6, 7, 8, 22, 23, 53, 54]), (13, [2, 3, 4, 5, 6, 7, 8, 22, 23, 53, 54, 55]), (14, [2, 3, 4, 5, 6, 7, 8, 9, 22, 23, 53, 54]), (15, [2, 3, 4, 5, 6, 7, 8, 22, 23, 53, 54]), (16, [2, 3, 4, 5, 6, 7, 8, 22, 23, 53, 54]), (17, [2, 3, 4, 5, 7, 8, 22, 23, 68]), (18, [2, 3, 4, 5, 7, 8, 22, 23]), (19, [2, 3, 4, 5, 7, 8, 22, 23]), (20, [2, 3, 4, 5, 7, 8, 22, 23]), (21, [2, 3, 4, 5, 8, 22, 23, 107]), (22, [2, 3, 4, 5, 22, 23]), (23, [2, 3, 4, 5, 22, 23]), (24, [2, 4]), (25, [2])]
def r12 : List AR := [.cell (some 8) 2]
def c12x0 : AC := .seq (.reg [o' 129 (.ld (some 8) (.t 4)), n' (.st 8 (.t 2) (.t 129))] [2]) (.ret)
def c12x1 : AC := .seq (.dreg [o' 118 (.fad 6 (.t 4)), o' 119 (.ld none (.t 118)), m' 120 3, o' 121 (.nilc (.t 120)), o' 122 (.fad 0 (.t 121)), o' 123 (.ld none (.t 122)), o' 124 (.call 45 [.t 123]), o' 125 (.build [(.string ⟨#[]⟩), (.int .i64 0), (.int .i64 0), (.int .i64 0), (.slice none 0 0)] [(0, 1, (.k (.string ⟨#[114, 111, 109]⟩))), (1, 1, (i' 1)), (2, 1, (i' 65280)), (3, 1, (i' 256)), (4, 1, (.t 124))]), o' 126 (.bsl [(.string ⟨#[]⟩), (.int .i64 0), (.int .i64 0), (.int .i64 0), (.slice none 0 0)] 1 [(0, (.t 125))]), o' 127 (.app 5 64 (.t 119) (.t 126)), o' 128 (.fad 6 (.t 4)), n' (.st 1 (.t 128) (.t 127))] [[], [0], [], [2], [2, 3], [2, 3, 4], [2, 3, 4, 5], [2, 3, 4, 5, 6], [2, 3, 4, 5, 6, 7], [0, 1, 2, 3, 4, 5, 6, 7, 8], [0, 1, 2, 3, 4, 5, 6, 7, 8, 9], [0, 1, 2, 3, 4, 5, 6, 7, 8, 9, 10]] [2, 4]) (c12x0)
def c12x2 : AC := .reg [o' 117 (.bin .add (.t 23) (i' 1)), m' 23 117] [2, 3, 4, 5, 22, 23]
def c12x3 : AC := .reg [o' 108 (.fad 7 (.t 4)), o' 109 (.ld none (.t 108)), o' 110 (.fad 0 (.t 8)), o' 111 (.ld none (.t 110)), o' 112 (.bin .add (.t 111) (.k (.string ⟨#[46, 105, 114, 113]⟩))), o' 113 (.build [(.string ⟨#[]⟩), (.string ⟨#[]⟩)] [(0, 1, (.t 112)), (1, 1, (.k (.string ⟨#[99, 112, 117, 46, 105, 114, 113]⟩)))]), o' 114 (.bsl [(.string ⟨#[]⟩), (.string ⟨#[]⟩)] 1 [(0, (.t 113))]), o' 115 (.app 2 32 (.t 109) (.t 114)), o' 116 (.fad 7 (.t 4)), n' (.st 1 (.t 116) (.t 115))] [2, 3, 4, 5, 22, 23]
def c12x4 : AC := .cond (.t 107) (c12x3) (.skip)
def c12x5 : AC := .seq (.reg [m' 93 7, o' 94 (.bin .eql (.t 93) (i' 3)), m' 95 94, ⟨(some 96), .mv (.t 7), (some (95, false))⟩, ⟨(some 97), .bin .eql (.t 96) (i' 5), (some (95, false))⟩, o' 98 (.pick (.t 95) (.k (.bool true)) (.t 97)), m' 99 98, ⟨(some 100), .mv (.t 7), (some (99, false))⟩, ⟨(some 101), .bin .eql (.t 100) (i' 8), (some (99, false))⟩, o' 102 (.pick (.t 99) (.k (.bool true)) (.t 101)), m' 103 102, ⟨(some 104), .mv (.t 3), (some (103, true))⟩, ⟨(some 105), .call 19 [.t 104, i' 3], (some (103, true))⟩, ⟨(some 106), .bin .gtr (.t 105) (i' 0), (some (103, true))⟩, o' 107 (.pick (.t 103) (.t 106) (.k (.bool false)))] [2, 3, 4, 5, 8, 22, 23, 107]) (c12x4)
def c12x6 : AC := .seq (.reg [m' 86 5, o' 87 (.fad 3 (.t 8)), o' 88 (.ld none (.t 87)), o' 89 (.bin .add (.t 88) (i' 15)), o' 90 (.bin .quo (.t 89) (i' 16)), o' 91 (.bin .mul (.t 90) (i' 16)), o' 92 (.bin .add (.t 86) (.t 91)), m' 5 92] [2, 3, 4, 5, 7, 8, 22, 23]) (c12x5)
def c12x7 : AC := .seq (.reg [o' 80 (.fad 6 (.t 4)), o' 81 (.ld none (.t 80)), o' 82 (.ld (some 5) (.t 8)), o' 83 (.bsl [(.string ⟨#[]⟩), (.int .i64 0), (.int .i64 0), (.int .i64 0), (.slice none 0 0)] 1 [(0, (.t 82))]), o' 84 (.app 5 64 (.t 81) (.t 83)), o' 85 (.fad 6 (.t 4)), n' (.st 1 (.t 85) (.t 84))] [2, 3, 4, 5, 7, 8, 22, 23]) (c12x6)
def c12x8 : AC := .reg [m' 69 3, o' 70 (.call 19 [.t 69, i' 256]), m' 71 3, o' 72 (.call 19 [.t 71, i' 256]), o' 73 (.bsl [(.int .i64 0)] 2 [(0, (.t 70)), (1, (.t 72))]), m' 74 3, o' 75 (.call 19 [.t 74, i' 3]), o' 76 (.bin .mul (i' 8) (.t 75)), o' 77 (.bin .add (i' 8) (.t 76)), o' 78 (.call 44 [.t 73, .t 77]), o' 79 (.fad 4 (.t 8)), n' (.st 1 (.t 79) (.t 78))] [2, 3, 4, 5, 7, 8, 22, 23]
def c12x9 : AC := .cond (.t 68) (c12x8) (.skip)
def c12x10 : AC := .seq (.reg [m' 67 7, o' 68 (.bin .eql (.t 67) (i' 2))] [2, 3, 4, 5, 7, 8, 22, 23, 68]) (c12x9)
def c12x11 : AC := .seq (c12x10) (c12x7)
def c12x12 : AC := .reg [o' 66 (.bin .add (.t 54) (i' 1)), m' 54 66] [2, 3, 4, 5, 6, 7, 8, 22, 23, 53, 54]
def c12x13 : AC := .reg [o' 57 (.fad 4 (.t 8)), o' 58 (.ld none (.t 57)), m' 59 9, m' 60 9, o' 61 (.bin .mul (.t 60) (i' 7)), m' 62 6, o' 63 (.bin .add (.t 61) (.t 62)), o' 64 (.cvt .u8 (.t 63)), o' 65 (.idx 1 none (.t 58) (.t 59)), n' (.st 1 (.t 65) (.t 64))] [2, 3, 4, 5, 6, 7, 8, 22, 23, 53, 54]
def c12x14 : AC := .seq (.reg [m' 56 54, m' 9 56] [2, 3, 4, 5, 6, 7, 8, 9, 22, 23, 53, 54]) (c12x13)
def c12x15 : AC := .block 3 (c12x14)
def c12x16 : AC := .seq (c12x15) (c12x12)
def c12x17 : AC := .cond (.t 55) (.skip) (.exit 2)
def c12x18 : AC := .seq (c12x17) (c12x16)
def c12x19 : AC := .seq (.reg [o' 55 (.bin .lss (.t 54) (.t 53))] [2, 3, 4, 5, 6, 7, 8, 22, 23, 53, 54, 55]) (c12x18)
def c12x20 : AC := .loop (c12x19)
def c12x21 : AC := .block 2 (c12x20)
def c12x22 : AC := .seq (.reg [o' 51 (.fad 4 (.t 8)), o' 52 (.ld none (.t 51)), o' 53 (.len (.t 52)), o' 54 (.mv (i' 0))] [2, 3, 4, 5, 6, 7, 8, 22, 23, 53, 54]) (c12x21)
def c12x23 : AC := .seq (.reg [m' 45 3, o' 46 (.call 19 [.t 45, i' 2]), o' 47 (.bin .add (i' 1) (.t 46)), o' 48 (.bin .mul (i' 256) (.t 47)), o' 49 (.mksl [(.int .u8 0)] 1 (.t 48) (.t 48)), o' 50 (.fad 4 (.t 8)), n' (.st 1 (.t 50) (.t 49))] [2, 3, 4, 5, 6, 7, 8, 22, 23]) (c12x22)
def c12x24 : AC := .cond (.t 44) (c12x23) (.skip)
def c12x25 : AC := .seq (.reg [m' 43 7, o' 44 (.bin .eql (.t 43) (i' 8))] [2, 3, 4, 5, 6, 7, 8, 22, 23, 44]) (c12x24)
def c12x26 : AC := .seq (c12x25) (c12x11)
def c12x27 : AC := .seq (.reg [m' 31 6, o' 32 (.bin .add (i' 97) (.t 31)), o' 33 (.cvt .i32 (.t 32)), o' 34 (.i2s (.t 33)), o' 35 (.bin .add (.k (.string ⟨#[99, 104, 105, 112, 45]⟩)) (.t 34)), m' 36 7, m' 37 5, o' 38 (.bsl [(.int .i64 0)] 9 [(0, (i' 0)), (1, (i' 0)), (2, (i' 9)), (3, (i' 4)), (4, (i' 2)), (5, (i' 3)), (6, (i' 32)), (7, (i' 8)), (8, (i' 4))]), m' 39 7, o' 40 (.idx 1 none (.t 38) (.t 39)), o' 41 (.ld none (.t 40)), o' 42 (.build [(.string ⟨#[]⟩), (.int .i64 0), (.int .i64 0), (.int .i64 0), (.slice none 0 0)] [(0, 1, (.t 35)), (1, 1, (.t 36)), (2, 1, (.t 37)), (3, 1, (.t 41))]), o' 8 (.zero [(.string ⟨#[]⟩), (.int .i64 0), (.int .i64 0), (.int .i64 0), (.slice none 0 0)]), n' (.st 5 (.t 8) (.t 42))] [2, 3, 4, 5, 6, 7, 8, 22, 23]) (c12x26)
def c12x28 : AC := .seq (.reg [o' 26 (.bsl [(.int .i64 0)] 8 [(0, (i' 3)), (1, (i' 5)), (2, (i' 4)), (3, (i' 6)), (4, (i' 7)), (5, (i' 8)), (6, (i' 2)), (7, (i' 3))]), m' 27 3, o' 28 (.call 19 [.t 27, i' 8]), o' 29 (.idx 1 none (.t 26) (.t 28)), o' 30 (.ld none (.t 29)), m' 7 30] [2, 3, 4, 5, 6, 7, 22, 23]) (c12x27)
def c12x29 : AC := .seq (.reg [m' 25 23, m' 6 25] [2, 3, 4, 5, 6, 22, 23]) (c12x28)
def c12x30 : AC := .block 1 (c12x29)
def c12x31 : AC := .seq (c12x30) (c12x2)
def c12x32 : AC := .cond (.t 24) (.skip) (.exit 0)
def c12x33 : AC := .seq (c12x32) (c12x31)
def c12x34 : AC := .seq (.reg [o' 24 (.bin .lss (.t 23) (.t 22))] [2, 3, 4, 5, 22, 23, 24]) (c12x33)
def c12x35 : AC := .loop (c12x34)
def c12x36 : AC := .block 0 (c12x35)
def c12x37 : AC := .seq (.reg [m' 21 3, o' 22 (.call 19 [.t 21, i' 5]), o' 23 (.mv (i' 0))] [2, 3, 4, 5, 22, 23]) (c12x36)
def c12x38 : AC := .seq (c12x37) (c12x1)
def c12x39 : AC := .seq (.reg [o' 5 (.mv (i' 57344))] [2, 3, 4, 5]) (c12x38)
def c12x40 : AC := .seq (.reg [o' 15 (.fad 6 (.t 4)), o' 16 (.ld none (.t 15)), o' 17 (.build [(.string ⟨#[]⟩), (.int .i64 0), (.int .i64 0), (.int .i64 0), (.slice none 0 0)] [(0, 1, (.k (.string ⟨#[114, 97, 109]⟩))), (1, 1, (i' 0)), (3, 1, (i' 768))]), o' 18 (.bsl [(.string ⟨#[]⟩), (.int .i64 0), (.int .i64 0), (.int .i64 0), (.slice none 0 0)] 1 [(0, (.t 17))]), o' 19 (.app 5 64 (.t 16) (.t 18)), o' 20 (.fad 6 (.t 4)), n' (.st 1 (.t 20) (.t 19))] [2, 3, 4]) (c12x39)
def c12x41 : AC := .seq (.reg [o' 13 (.call 43 []), o' 14 (.build [(.string ⟨#[]⟩), (.string ⟨#[]⟩), (.slice none 0 0), (.slice none 0 0), (.slice none 0 0), (.slice none 0 0), (.slice none 0 0), (.slice none 0 0)] [(0, 1, (.k (.string ⟨#[98, 111, 97, 114, 100]⟩))), (1, 5, (.t 13))]), o' 4 (.zero [(.string ⟨#[]⟩), (.string ⟨#[]⟩), (.slice none 0 0), (.slice none 0 0), (.slice none 0 0), (.slice none 0 0), (.slice none 0 0), (.slice none 0 0)]), n' (.st 8 (.t 4) (.t 14))] [2, 3, 4]) (c12x40)
def c12x42 : AC := .seq (.reg [m' 10 0, o' 11 (.build [(.slice none 0 0)] [(0, 1, (.t 10))]), o' 12 (.new 1 (.t 11)), m' 3 12] [2, 3]) (c12x41)
def c12 : AC := .seq (.reg [o' 2 (.zero [(.string ⟨#[]⟩), (.string ⟨#[]⟩), (.slice none 0 0), (.slice none 0 0), (.slice none 0 0), (.slice none 0 0), (.slice none 0 0), (.slice none 0 0)])] [0, 2]) (c12x42)
theorem k12 : Tryz.f12.body.bind (compC Tryz.prog Tryz.f12.ntmps v12) = some c12 := by kernel_rfl
theorem e12 : enters Tryz.prog 12 = true := by kernel_rfl
theorem q12 : Tryz.f12.results.toList.mapM (compRes Tryz.prog) = some r12 := by kernel_rfl
def v19 : List (Nat × List Nat) := [(0, [0, 1]), (1, [0, 1, 15]), (2, [4]), (3, [0, 1, 5]), (4, [1, 5]), (5, [4])]
def r19 : List AR := [.t 4]
def c19x0 : AC := .seq (.reg [m' 30 5, m' 31 1, o' 32 (.call 7 [.t 30, .t 31]), m' 4 32] [4]) (.ret)
def c19x1 : AC := .seq (.reg [m' 22 0, m' 23 0, o' 24 (.nilc (.t 23)), o' 25 (.fad 0 (.t 24)), o' 26 (.ld none (.t 25)), o' 27 (.slc 1 (.t 26) (some (i' 1)) none), o' 28 (.nilc (.t 22)), o' 29 (.fad 0 (.t 28)), n' (.st 1 (.t 29) (.t 27))] [1, 5]) (c19x0)
def c19x2 : AC := .seq (.reg [m' 16 0, o' 17 (.nilc (.t 16)), o' 18 (.fad 0 (.t 17)), o' 19 (.ld none (.t 18)), o' 20 (.idx 1 none (.t 19) (i' 0)), o' 21 (.ld none (.t 20)), m' 5 21] [0, 1, 5]) (c19x1)
def c19x3 : AC := .seq (.reg [o' 4 (.mv (i' 0))] [4]) (.ret)
def c19x4 : AC := .cond (.t 15) (c19x3) (.skip)
def c19x5 : AC := .seq (.reg [m' 6 1, o' 7 (.bin .lss (.t 6) (i' 1)), m' 8 7, ⟨(some 9), .mv (.t 0), (some (8, false))⟩, ⟨(some 10), .nilc (.t 9), (some (8, false))⟩, ⟨(some 11), .fad 0 (.t 10), (some (8, false))⟩, ⟨(some 12), .ld none (.t 11), (some (8, false))⟩, ⟨(some 13), .len (.t 12), (some (8, false))⟩, ⟨(some 14), .bin .eql (.t 13) (i' 0), (some (8, false))⟩, o' 15 (.pick (.t 8) (.k (.bool true)) (.t 14))] [0, 1, 15]) (c19x4)
def c19x6 : AC := .seq (c19x5) (c19x2)
def c19 : AC := .seq (.reg [o' 4 (.mv (i' 0))] [0, 1]) (c19x6)
theorem k19 : Tryz.f19.body.bind (compC Tryz.prog Tryz.f19.ntmps v19) = some c19 := by kernel_rfl
theorem e19 : enters Tryz.prog 19 = true := by kernel_rfl
theorem q19 : Tryz.f19.results.toList.mapM (compRes Tryz.prog) = some r19 := by kernel_rfl
def v44 : List (Nat × List Nat) := [(0, [0, 1]), (1, [1, 5]), (2, [5, 6]), (3, [5, 6, 15, 16]), (4, [5, 6, 15, 16, 17]), (5, [5, 6, 7, 15, 16]), (6, [5, 6, 15, 16]), (7, [5, 6, 15, 16]), (8, [4])]
def r44 : List AR := [.t 4]
def c44x0 : AC := .seq (.reg [m' 26 6, m' 4 26] [4]) (.ret)
def c44x1 : AC := .reg [o' 25 (.bin .add (.t 16) (i' 1)), m' 16 25] [5, 6, 15, 16]
def c44x2 : AC := .reg [m' 19 6, m' 20 7, m' 21 5, o' 22 (.call 19 [.t 21, i' 256]), o' 23 (.cvt .u8 (.t 22)), o' 24 (.idx 1 none (.t 19) (.t 20)), n' (.st 1 (.t 24) (.t 23))] [5, 6, 15, 16]
def c44x3 : AC := .seq (.reg [m' 18 16, m' 7 18] [5, 6, 7, 15, 16]) (c44x2)
def c44x4 : AC := .block 1 (c44x3)
def c44x5 : AC := .seq (c44x4) (c44x1)
def c44x6 : AC := .cond (.t 17) (.skip) (.exit 0)
def c44x7 : AC := .seq (c44x6) (c44x5)
def c44x8 : AC := .seq (.reg [o' 17 (.bin .lss (.t 16) (.t 15))] [5, 6, 15, 16, 17]) (c44x7)
def c44x9 : AC := .loop (c44x8)
def c44x10 : AC := .block 0 (c44x9)
def c44x11 : AC := .seq (.reg [m' 14 6, o' 15 (.len (.t 14)), o' 16 (.mv (i' 0))] [5, 6, 15, 16]) (c44x10)
def c44x12 : AC := .seq (c44x11) (c44x0)
def c44x13 : AC := .seq (.reg [m' 11 1, o' 12 (.mnx true [i' 0, .t 11]), o' 13 (.mksl [(.int .u8 0)] 1 (.t 12) (.t 12)), m' 6 13] [5, 6]) (c44x12)
def c44x14 : AC := .seq (.reg [m' 8 0, o' 9 (.build [(.slice none 0 0)] [(0, 1, (.t 8))]), o' 10 (.new 1 (.t 9)), m' 5 10] [1, 5]) (c44x13)
def c44 : AC := .seq (.reg [o' 4 (.mv (.k (.slice none 0 0)))] [0, 1]) (c44x14)
theorem k44 : Tryz.f44.body.bind (compC Tryz.prog Tryz.f44.ntmps v44) = some c44 := by kernel_rfl
theorem e44 : enters Tryz.prog 44 = true := by kernel_rfl
theorem q44 : Tryz.f44.results.toList.mapM (compRes Tryz.prog) = some r44 := by kernel_rfl
def v45 : List (Nat × List Nat) := [(0, [0]), (1, [3]), (2, [3, 4]), (3, [3, 4, 5]), (4, [4, 5, 18]), (5, [4, 5]), (6, [4, 6]), (7, [4]), (8, [4, 7]), (9, [4]), (10, [4, 51, 52, 53]), (11, [4, 51, 52, 53, 54]), (12, [4, 9, 51, 52, 53]), (13, [4, 51, 52, 53]), (14, [4, 51, 52, 53]), (15, [4]), (16, [2])]
def r45 : List AR := [.t 2]
def c45x0 : AC := .seq (.reg [m' 69 4, m' 2 69] [2]) (.ret)
def c45x1 : AC := .seq (.reg [m' 65 4, m' 66 4, o' 67 (.idx 1 none (.t 65) (i' 252)), n' (.st 1 (.t 67) (.k (.int .u8 0))), o' 68 (.idx 1 none (.t 66) (i' 253)), n' (.st 1 (.t 68) (.k (.int .u8 255)))] [4]) (c45x0)
def c45x2 : AC := .reg [o' 64 (.bin .add (.t 53) (i' 1)), m' 53 64] [4, 51, 52, 53]
def c45x3 : AC := .reg [m' 57 4, m' 58 9, m' 59 4, m' 60 9, o' 61 (.bin .add (.t 60) (i' 1)), o' 62 (.idx 1 none (.t 57) (.t 58)), n' (.st 1 (.t 62) (.k (.int .u8 180))), o' 63 (.idx 1 none (.t 59) (.t 61)), n' (.st 1 (.t 63) (.k (.int .u8 255)))] [4, 51, 52, 53]
def c45x4 : AC := .seq (.reg [o' 55 (.idx 1 none (.t 51) (.t 53)), o' 56 (.ld none (.t 55)), m' 9 56] [4, 9, 51, 52, 53]) (c45x3)
def c45x5 : AC := .block 1 (c45x4)
def c45x6 : AC := .seq (c45x5) (c45x2)
def c45x7 : AC := .cond (.t 54) (.skip) (.exit 0)
def c45x8 : AC := .seq (c45x7) (c45x6)
def c45x9 : AC := .seq (.reg [o' 54 (.bin .lss (.t 53) (.t 52))] [4, 51, 52, 53, 54]) (c45x8)
def c45x10 : AC := .loop (c45x9)
def c45x11 : AC := .block 0 (c45x10)
def c45x12 : AC := .seq (.reg [o' 51 (.bsl [(.int .i64 0)] 2 [(0, (i' 250)), (1, (i' 254))]), o' 52 (.len (.t 51)), o' 53 (.mv (i' 0))] [4, 51, 52, 53]) (c45x11)
def c45x13 : AC := .seq (c45x12) (c45x1)
def c45x14 : AC := .seq (.reg [m' 47 4, o' 48 (.slc 1 (.t 47) (some (i' 180)) none), m' 49 7, o' 50 (.copy 1 (.t 48) (.t 49))] [4]) (c45x13)
def c45x15 : AC := .seq (.reg [o' 38 (.call 96 [(.k (.string ⟨#[112, 104, 112]⟩))]), o' 39 (.call 96 [(.k (.string ⟨#[112, 104, 97]⟩))]), o' 40 (.call 97 [(.k (.string ⟨#[105, 110, 99]⟩)), (i' 2)]), o' 41 (.call 97 [(.k (.string ⟨#[108, 100, 97]⟩)), (i' 4)]), o' 42 (.call 97 [(.k (.string ⟨#[108, 100, 97]⟩)), (i' 4)]), o' 43 (.call 96 [(.k (.string ⟨#[112, 108, 97]⟩))]), o' 44 (.call 96 [(.k (.string ⟨#[112, 108, 112]⟩))]), o' 45 (.call 96 [(.k (.string ⟨#[114, 116, 105]⟩))]), o' 46 (.bsl [(.int .u8 0)] 13 [(0, (.t 38)), (1, (.t 39)), (2, (.t 40)), (3, (.k (.int .u8 9))), (4, (.t 41)), (5, (.k (.int .u8 3))), (6, (.k (.int .u8 224))), (7, (.t 42)), (8, (.k (.int .u8 16))), (9, (.k (.int .u8 224))), (10, (.t 43)), (11, (.t 44)), (12, (.t 45))]), m' 7 46] [4, 7]) (c45x14)
def c45x16 : AC := .seq (.reg [m' 26 4, m' 27 6, m' 28 4, m' 29 6, o' 30 (.bin .add (.t 29) (i' 1)), m' 31 4, m' 32 6, o' 33 (.bin .add (.t 32) (i' 2)), o' 34 (.call 96 [(.k (.string ⟨#[106, 109, 112]⟩))]), o' 35 (.idx 1 none (.t 26) (.t 27)), n' (.st 1 (.t 35) (.t 34)), o' 36 (.idx 1 none (.t 28) (.t 30)), n' (.st 1 (.t 36) (.k (.int .u8 0))), o' 37 (.idx 1 none (.t 31) (.t 33)), n' (.st 1 (.t 37) (.k (.int .u8 255)))] [4]) (c45x15)
def c45x17 : AC := .seq (.reg [m' 23 4, m' 24 5, o' 25 (.copy 1 (.t 23) (.t 24)), m' 6 25] [4, 6]) (c45x16)
def c45x18 : AC := .reg [o' 19 (.call 96 [(.k (.string ⟨#[99, 108, 105]⟩))]), o' 20 (.bsl [(.int .u8 0)] 1 [(0, (.t 19))]), m' 21 5, o' 22 (.app 1 1 (.t 20) (.t 21)), m' 5 22] [4, 5]
def c45x19 : AC := .cond (.t 18) (c45x18) (.skip)
def c45x20 : AC := .seq (.reg [m' 16 3, o' 17 (.call 19 [.t 16, i' 3]), o' 18 (.bin .gtr (.t 17) (i' 0))] [4, 5, 18]) (c45x19)
def c45x21 : AC := .seq (c45x20) (c45x17)
def c45x22 : AC := .seq (.reg [m' 14 3, o' 15 (.call 95 [.t 14, i' 160]), m' 5 15] [3, 4, 5]) (c45x21)
def c45x23 : AC := .seq (.reg [o' 13 (.mksl [(.int .u8 0)] 1 (i' 256) (i' 256)), m' 4 13] [3, 4]) (c45x22)
def c45x24 : AC := .seq (.reg [m' 10 0, o' 11 (.build [(.slice none 0 0)] [(0, 1, (.t 10))]), o' 12 (.new 1 (.t 11)), m' 3 12] [3]) (c45x23)
def c45 : AC := .seq (.reg [o' 2 (.mv (.k (.slice none 0 0)))] [0]) (c45x24)
theorem k45 : Tryz.f45.body.bind (compC Tryz.prog Tryz.f45.ntmps v45) = some c45 := by kernel_rfl
theorem e45 : enters Tryz.prog 45 = true := by kernel_rfl
theorem q45 : Tryz.f45.results.toList.mapM (compRes Tryz.prog) = some r45 := by kernel_rfl
def v95 : List (Nat × List Nat) := [(0, [0, 1]), (1, [0, 1, 5]), (2, [0, 1, 5, 6]), (3, [0, 1, 5, 6, 21]), (4, [0, 1, 5, 6, 7]), (5, [0, 1, 5, 6, 8]), (6, [0, 1, 5, 6, 8, 45]), (7, [0, 1, 5, 6]), (8, [4])]
def r95 : List AR := [.t 4]
def c95x0 : AC := .seq (.reg [m' 49 6, m' 4 49] [4]) (.ret)
def c95x1 : AC := .reg [m' 46 6, m' 47 8, o' 48 (.app 1 1 (.t 46) (.t 47)), m' 6 48] [0, 1, 5, 6]
def c95x2 : AC := .cond (.t 45) (.exit 0) (.skip)
def c95x3 : AC := .seq (.reg [m' 39 6, o' 40 (.len (.t 39)), m' 41 8, o' 42 (.len (.t 41)), o' 43 (.bin .add (.t 40) (.t 42)), m' 44 1, o' 45 (.bin .gtr (.t 43) (.t 44))] [0, 1, 5, 6, 8, 45]) (c95x2)
def c95x4 : AC := .seq (c95x3) (c95x1)
def c95x5 : AC := .seq (.dreg [o' 31 (.fad 0 (.t 7)), o' 32 (.ld none (.t 31)), o' 33 (.cvt .u8 (.t 32)), o' 34 (.bsl [(.int .u8 0)] 1 [(0, (.t 33))]), m' 35 0, o' 36 (.ld (some 4) (.t 7)), o' 37 (.call 130 [.t 35, .t 36]), o' 38 (.app 1 1 (.t 34) (.t 37)), m' 8 38] [[], [0], [0, 1], [0, 1, 2], [], [], [4, 5], [0, 1, 2, 3, 4, 5, 6], [0, 1, 2, 3, 4, 5, 6, 7]] [0, 1, 5, 6, 8]) (c95x4)
def c95x6 : AC := .seq (.dreg [o' 22 (.fad 1 (.t 5)), o' 23 (.ld none (.t 22)), m' 24 0, o' 25 (.fad 1 (.t 5)), o' 26 (.ld none (.t 25)), o' 27 (.len (.t 26)), o' 28 (.call 19 [.t 24, .t 27]), o' 29 (.idx 4 none (.t 23) (.t 28)), o' 30 (.ld (some 4) (.t 29)), o' 7 (.zero [(.int .i64 0), (.string ⟨#[]⟩), (.int .i64 0), (.slice none 0 0)]), n' (.st 4 (.t 7) (.t 30))] [[], [0], [], [], [3], [3, 4], [2, 3, 4, 5], [0, 1, 2, 3, 4, 5, 6], [0, 1, 2, 3, 4, 5, 6, 7], [], [0, 1, 2, 3, 4, 5, 6, 7, 8, 9]] [0, 1, 5, 6, 7]) (c95x5)
def c95x7 : AC := .block 1 (c95x6)
def c95x8 : AC := .cond (.t 21) (.skip) (.exit 0)
def c95x9 : AC := .seq (.reg [m' 10 0, o' 11 (.nilc (.t 10)), o' 12 (.fad 0 (.t 11)), o' 13 (.ld none (.t 12)), o' 14 (.len (.t 13)), o' 15 (.bin .gtr (.t 14) (i' 0)), m' 16 15, ⟨(some 17), .fad 1 (.t 5), (some (16, true))⟩, ⟨(some 18), .ld none (.t 17), (some (16, true))⟩, ⟨(some 19), .len (.t 18), (some (16, true))⟩, ⟨(some 20), .bin .gtr (.t 19) (i' 0), (some (16, true))⟩, o' 21 (.pick (.t 16) (.t 20) (.k (.bool false)))] [0, 1, 5, 6, 21]) (c95x8)
def c95x10 : AC := .seq (c95x9) (c95x7)
def c95x11 : AC := .loop (c95x10)
def c95x12 : AC := .block 0 (c95x11)
def c95x13 : AC := .seq (c95x12) (c95x0)
def c95x14 : AC := .seq (.reg [o' 6 (.mv (.k (.slice none 0 0)))] [0, 1, 5, 6]) (c95x13)
def c95x15 : AC := .seq (.reg [o' 9 (.call 43 []), o' 5 (.zero [(.string ⟨#[]⟩), (.slice none 0 0), (.slice none 0 0), (.slice none 0 0), (.slice none 0 0)]), n' (.st 5 (.t 5) (.t 9))] [0, 1, 5]) (c95x14)
def c95 : AC := .seq (.reg [o' 4 (.mv (.k (.slice none 0 0)))] [0, 1]) (c95x15)
theorem k95 : Tryz.f95.body.bind (compC Tryz.prog Tryz.f95.ntmps v95) = some c95 := by kernel_rfl
theorem e95 : enters Tryz.prog 95 = true := by kernel_rfl
theorem q95 : Tryz.f95.results.toList.mapM (compRes Tryz.prog) = some r95 := by kernel_rfl
def v96 : List (Nat × List Nat) := [(0, [0]), (1, [2])]
def r96 : List AR := [.t 2]
def c96x0 : AC := .seq (.reg [m' 3 0, o' 4 (.call 97 [.t 3, i' 0]), m' 5 0, o' 6 (.call 97 [.t 5, i' 4]), o' 7 (.mnx true [.t 4, .t 6]), m' 2 7] [2]) (.ret)
def c96 : AC := .seq (.reg [o' 2 (.mv (.k (.int .u8 0)))] [0]) (c96x0)
theorem k96 : Tryz.f96.body.bind (compC Tryz.prog Tryz.f96.ntmps v96) = some c96 := by kernel_rfl
theorem e96 : enters Tryz.prog 96 = true := by kernel_rfl
theorem q96 : Tryz.f96.results.toList.mapM (compRes Tryz.prog) = some r96 := by kernel_rfl
def v97 : List (Nat × List Nat) := [(0, [0, 1]), (1, [0, 1, 8, 9, 10]), (2, [0, 1, 8, 9, 10, 11]), (3, [0, 1, 6, 8, 9, 10]), (4, [0, 1, 6, 8, 9, 10, 23]), (5, [4]), (6, [0, 1, 8, 9, 10]), (7, [4])]
def r97 : List AR := [.t 4]
def c97x0 : AC := .seq (.reg [o' 4 (.mv (.k (.int .u8 0)))] [4]) (.ret)
def c97x1 : AC := .reg [o' 27 (.bin .add (.t 10) (i' 1)), m' 10 27] [0, 1, 8, 9, 10]
def c97x2 : AC := .seq (.reg [o' 24 (.fad 0 (.t 6)), o' 25 (.ld none (.t 24)), o' 26 (.cvt .u8 (.t 25)), m' 4 26] [4]) (.ret)
def c97x3 : AC := .cond (.t 23) (c97x2) (.skip)
def c97x4 : AC := .seq (.reg [o' 14 (.fad 1 (.t 6)), o' 15 (.ld none (.t 14)), m' 16 0, o' 17 (.bin .eql (.t 15) (.t 16)), m' 18 17, ⟨(some 19), .fad 2 (.t 6), (some (18, true))⟩, ⟨(some 20), .ld none (.t 19), (some (18, true))⟩, ⟨(some 21), .mv (.t 1), (some (18, true))⟩, ⟨(some 22), .bin .eql (.t 20) (.t 21), (some (18, true))⟩, o' 23 (.pick (.t 18) (.t 22) (.k (.bool false)))] [0, 1, 6, 8, 9, 10, 23]) (c97x3)
def c97x5 : AC := .seq (.reg [o' 12 (.idx 4 none (.t 8) (.t 10)), o' 13 (.ld (some 4) (.t 12)), o' 6 (.zero [(.int .i64 0), (.string ⟨#[]⟩), (.int .i64 0), (.slice none 0 0)]), n' (.st 4 (.t 6) (.t 13))] [0, 1, 6, 8, 9, 10]) (c97x4)
def c97x6 : AC := .block 1 (c97x5)
def c97x7 : AC := .seq (c97x6) (c97x1)
def c97x8 : AC := .cond (.t 11) (.skip) (.exit 0)
def c97x9 : AC := .seq (c97x8) (c97x7)
def c97x10 : AC := .seq (.reg [o' 11 (.bin .lss (.t 10) (.t 9))] [0, 1, 8, 9, 10, 11]) (c97x9)
def c97x11 : AC := .loop (c97x10)
def c97x12 : AC := .block 0 (c97x11)
def c97x13 : AC := .seq (.reg [o' 7 (.call 43 []), o' 8 (.fld 1 none (.t 7)), o' 9 (.len (.t 8)), o' 10 (.mv (i' 0))] [0, 1, 8, 9, 10]) (c97x12)
def c97x14 : AC := .seq (c97x13) (c97x0)
def c97 : AC := .seq (.reg [o' 4 (.mv (.k (.int .u8 0)))] [0, 1]) (c97x14)
theorem k97 : Tryz.f97.body.bind (compC Tryz.prog Tryz.f97.ntmps v97) = some c97 := by kernel_rfl
theorem e97 : enters Tryz.prog 97 = true := by kernel_rfl
theorem q97 : Tryz.f97.results.toList.mapM (compRes Tryz.prog) = some r97 := by kernel_rfl
def v130 : List (Nat × List Nat) := [(0, [0, 3]), (1, [0, 3, 7]), (2, [0, 3, 7, 8]), (3, [4]), (4, [0, 3, 7, 14]), (5, [0, 3, 7, 14]), (6, [0, 3, 7, 14]), (7, [4]), (8, [0, 3, 7, 22]), (9, [4]), (10, [0, 3, 7, 29]), (11, [0, 3, 7, 29]), (12, [0, 3, 29]), (13, [0, 3, 5]), (14, [0, 5, 43]), (15, [5]), (16, [0, 5, 49]), (17, [5]), (18, [4]), (19, [4])]
def r130 : List AR := [.t 4]
def c130x0 : AC := .seq (.reg [o' 4 (.mv (.k (.slice none 0 0)))] [4]) (.ret)
def c130x1 : AC := .seq (.reg [m' 10 0, o' 11 (.call 19 [.t 10, i' 256]), o' 12 (.cvt .u8 (.t 11)), o' 13 (.bsl [(.int .u8 0)] 1 [(0, (.t 12))]), m' 4 13] [4]) (.ret)
def c130x2 : AC := .seq (.reg [m' 18 0, o' 19 (.call 19 [.t 18, i' 16]), o' 20 (.cvt .u8 (.t 19)), o' 21 (.bsl [(.int .u8 0)] 1 [(0, (.t 20))]), m' 4 21] [4]) (.ret)
def c130x3 : AC := .seq (.reg [m' 24 0, o' 25 (.call 19 [.t 24, i' 8]), o' 26 (.bin .sub (.t 25) (i' 3)), o' 27 (.cvt .u8 (.t 26)), o' 28 (.bsl [(.int .u8 0)] 1 [(0, (.t 27))]), m' 4 28] [4]) (.ret)
def c130x4 : AC := .seq (.reg [m' 53 5, o' 54 (.cvt .u8 (.t 53)), m' 55 5, o' 56 (.bin .shr (.t 55) (.k (.int .u64 8))), o' 57 (.cvt .u8 (.t 56)), o' 58 (.bsl [(.int .u8 0)] 2 [(0, (.t 54)), (1, (.t 57))]), m' 4 58] [4]) (.ret)
def c130x5 : AC := .reg [m' 44 0, o' 45 (.call 19 [.t 44, i' 64]), o' 46 (.bin .add (i' 65280) (.t 45)), m' 5 46] [5]
def c130x6 : AC := .reg [m' 50 0, o' 51 (.call 19 [.t 50, i' 64]), o' 52 (.bin .add (i' 512) (.t 51)), m' 5 52] [5]
def c130x7 : AC := .cond (.t 49) (c130x6) (.skip)
def c130x8 : AC := .seq (.reg [m' 47 0, o' 48 (.call 19 [.t 47, i' 3]), o' 49 (.bin .eql (.t 48) (i' 0))] [0, 5, 49]) (c130x7)
def c130x9 : AC := .cond (.t 43) (c130x5) (c130x8)
def c130x10 : AC := .seq (.reg [o' 36 (.fad 1 (.t 3)), o' 37 (.ld none (.t 36)), o' 38 (.bin .eql (.t 37) (.k (.string ⟨#[106, 109, 112]⟩))), m' 39 38, ⟨(some 40), .fad 1 (.t 3), (some (39, false))⟩, ⟨(some 41), .ld none (.t 40), (some (39, false))⟩, ⟨(some 42), .bin .eql (.t 41) (.k (.string ⟨#[106, 115, 114]⟩)), (some (39, false))⟩, o' 43 (.pick (.t 39) (.k (.bool true)) (.t 42))] [0, 5, 43]) (c130x9)
def c130x11 : AC := .seq (c130x10) (c130x4)
def c130x12 : AC := .seq (.reg [m' 33 0, o' 34 (.call 19 [.t 33, i' 48]), o' 35 (.bin .add (i' 57344) (.t 34)), m' 5 35] [0, 3, 5]) (c130x11)
def c130x13 : AC := .cond (.t 29) (c130x12) (.skip)
def c130x14 : AC := .reg [o' 32 (.bin .eql (.t 7) (i' 6)), m' 29 32] [0, 3, 29]
def c130x15 : AC := .cond (.t 29) (.skip) (c130x14)
def c130x16 : AC := .seq (.reg [o' 31 (.bin .eql (.t 7) (i' 5)), m' 29 31] [0, 3, 7, 29]) (c130x15)
def c130x17 : AC := .cond (.t 29) (.skip) (c130x16)
def c130x18 : AC := .seq (.reg [o' 30 (.bin .eql (.t 7) (i' 4)), m' 29 30] [0, 3, 7, 29]) (c130x17)
def c130x19 : AC := .seq (c130x18) (c130x13)
def c130x20 : AC := .cond (.t 22) (c130x3) (c130x19)
def c130x21 : AC := .seq (.reg [o' 23 (.bin .eql (.t 7) (i' 7)), m' 22 23] [0, 3, 7, 22]) (c130x20)
def c130x22 : AC := .cond (.t 14) (c130x2) (c130x21)
def c130x23 : AC := .reg [o' 17 (.bin .eql (.t 7) (i' 8)), m' 14 17] [0, 3, 7, 14]
def c130x24 : AC := .cond (.t 14) (.skip) (c130x23)
def c130x25 : AC := .seq (.reg [o' 16 (.bin .eql (.t 7) (i' 3)), m' 14 16] [0, 3, 7, 14]) (c130x24)
def c130x26 : AC := .cond (.t 14) (.skip) (c130x25)
def c130x27 : AC := .seq (.reg [o' 15 (.bin .eql (.t 7) (i' 2)), m' 14 15] [0, 3, 7, 14]) (c130x26)
def c130x28 : AC := .seq (c130x27) (c130x22)
def c130x29 : AC := .cond (.t 8) (c130x1) (c130x28)
def c130x30 : AC := .seq (.reg [o' 9 (.bin .eql (.t 7) (i' 1)), m' 8 9] [0, 3, 7, 8]) (c130x29)
def c130x31 : AC := .block 0 (c130x30)
def c130x32 : AC := .seq (.reg [o' 6 (.fad 2 (.t 3)), o' 7 (.ld none (.t 6))] [0, 3, 7]) (c130x31)
def c130x33 : AC := .seq (c130x32) (c130x0)
def c130 : AC := .seq (.reg [o' 3 (.new 4 (.t 1)), o' 4 (.mv (.k (.slice none 0 0)))] [0, 3]) (c130x33)
theorem k130 : Tryz.f130.body.bind (compC Tryz.prog Tryz.f130.ntmps v130) = some c130 := by kernel_rfl
theorem e130 : enters Tryz.prog 130 = true := by kernel_rfl
theorem q130 : Tryz.f130.results.toList.mapM (compRes Tryz.prog) = some r130 := by kernel_rfl
end Go.Proofs.YtolmklnijjfppaaGreat.Code

namespace Go.Proofs.YtolmklnijjfppaaGreat.Code
open Go Go.Proofs.YtolmklnijjfppaaGreat.Calc
set_option maxRecDepth 100000
def v86 : List (Nat × List Nat) := [(0, [0]), (1, [0, 21]), (2, [2]), (3, [23, 24, 25]), (4, [23, 24, 25, 26]), (5, [4, 23, 24, 25]), (6, [23, 24, 25, 47]), (7, [2]), (8, [23, 24, 25]), (9, [2])]
def r86 : List AR := [.t 2]
def c86x0 : AC := .seq (.reg [o' 2 (.mv (.k (.bool true)))] [2]) (.ret)
def c86x1 : AC := .reg [o' 48 (.bin .add (.t 25) (i' 1)), m' 25 48] [23, 24, 25]
def c86x2 : AC := .seq (.reg [o' 2 (.mv (.k (.bool false)))] [2]) (.ret)
def c86x3 : AC := .cond (.t 47) (c86x2) (.skip)
def c86x4 : AC := .seq (.reg [m' 29 4, o' 30 (.bin .geq (.t 29) (.k (.int .u8 97))), m' 31 30, ⟨(some 32), .mv (.t 4), (some (31, true))⟩, ⟨(some 33), .bin .leq (.t 32) (.k (.int .u8 122)), (some (31, true))⟩, o' 34 (.pick (.t 31) (.t 33) (.k (.bool false))), m' 35 34, ⟨(some 36), .mv (.t 4), (some (35, false))⟩, ⟨(some 37), .bin .geq (.t 36) (.k (.int .u8 48)), (some (35, false))⟩, ⟨(some 38), .mv (.t 37), (some (35, false))⟩, ⟨(some 39), .mv (.t 4), (some (38, true))⟩, ⟨(some 40), .bin .leq (.t 39) (.k (.int .u8 57)), (some (38, true))⟩, ⟨(some 41), .pick (.t 38) (.t 40) (.k (.bool false)), (some (35, false))⟩, o' 42 (.pick (.t 35) (.k (.bool true)) (.t 41)), m' 43 42, ⟨(some 44), .mv (.t 4), (some (43, false))⟩, ⟨(some 45), .bin .eql (.t 44) (.k (.int .u8 45)), (some (43, false))⟩, o' 46 (.pick (.t 43) (.k (.bool true)) (.t 45)), o' 47 (.not (.t 46))] [23, 24, 25, 47]) (c86x3)
def c86x5 : AC := .seq (.reg [o' 27 (.idx 1 none (.t 23) (.t 25)), o' 28 (.ld none (.t 27)), m' 4 28] [4, 23, 24, 25]) (c86x4)
def c86x6 : AC := .block 1 (c86x5)
def c86x7 : AC := .seq (c86x6) (c86x1)
def c86x8 : AC := .cond (.t 26) (.skip) (.exit 0)
def c86x9 : AC := .seq (c86x8) (c86x7)
def c86x10 : AC := .seq (.reg [o' 26 (.bin .lss (.t 25) (.t 24))] [23, 24, 25, 26]) (c86x9)
def c86x11 : AC := .loop (c86x10)
def c86x12 : AC := .block 0 (c86x11)
def c86x13 : AC := .seq (.reg [m' 22 0, o' 23 (.s2b (.t 22)), o' 24 (.len (.t 23)), o' 25 (.mv (i' 0))] [23, 24, 25]) (c86x12)
def c86x14 : AC := .seq (c86x13) (c86x0)
def c86x15 : AC := .seq (.reg [o' 2 (.mv (.k (.bool false)))] [2]) (.ret)
def c86x16 : AC := .cond (.t 21) (c86x15) (.skip)
def c86x17 : AC := .seq (.reg [m' 5 0, o' 6 (.bin .eql (.t 5) (.k (.string ⟨#[]⟩))), m' 7 6, ⟨(some 8), .mv (.t 0), (some (7, false))⟩, ⟨(some 9), .lens (.t 8), (some (7, false))⟩, ⟨(some 10), .bin .gtr (.t 9) (i' 20), (some (7, false))⟩, o' 11 (.pick (.t 7) (.k (.bool true)) (.t 10)), m' 12 11, ⟨(some 13), .mv (.t 0), (some (12, false))⟩, ⟨(some 14), .ixs (.t 13) (i' 0), (some (12, false))⟩, ⟨(some 15), .bin .lss (.t 14) (.k (.int .u8 97)), (some (12, false))⟩, o' 16 (.pick (.t 12) (.k (.bool true)) (.t 15)), m' 17 16, ⟨(some 18), .mv (.t 0), (some (17, false))⟩, ⟨(some 19), .ixs (.t 18) (i' 0), (some (17, false))⟩, ⟨(some 20), .bin .gtr (.t 19) (.k (.int .u8 122)), (some (17, false))⟩, o' 21 (.pick (.t 17) (.k (.bool true)) (.t 20))] [0, 21]) (c86x16)
def c86x18 : AC := .seq (c86x17) (c86x14)
def c86 : AC := .seq (.reg [o' 2 (.mv (.k (.bool false)))] [0]) (c86x18)
theorem k86 : Tryz.f86.body.bind (compC Tryz.prog Tryz.f86.ntmps v86) = some c86 := by kernel_rfl
theorem e86 : enters Tryz.prog 86 = true := by kernel_rfl
theorem q86 : Tryz.f86.results.toList.mapM (compRes Tryz.prog) = some r86 := by kernel_rfl
def v131 : List (Nat × List Nat) := [(0, [0]), (1, [3]), (2, [3, 4]), (3, [2]), (4, [3, 6]), (5, [3, 6]), (6, [3, 6]), (7, [2]), (8, [3, 10]), (9, [3, 10]), (10, [3, 10]), (11, [3, 10]), (12, [10]), (13, [2]), (14, [2])]
def r131 : List AR := [.t 2]
def c131x0 : AC := .seq (.reg [o' 2 (.mv (.k (.int .i64 (-1))))] [2]) (.ret)
def c131x1 : AC := .seq (.reg [o' 2 (.mv (i' 0))] [2]) (.ret)
def c131x2 : AC := .seq (.reg [o' 2 (.mv (i' 2))] [2]) (.ret)
def c131x3 : AC := .seq (.reg [o' 2 (.mv (i' 1))] [2]) (.ret)
def c131x4 : AC := .cond (.t 10) (c131x3) (.skip)
def c131x5 : AC := .reg [o' 15 (.bin .eql (.t 3) (i' 8)), m' 10 15] [10]
def c131x6 : AC := .cond (.t 10) (.skip) (c131x5)
def c131x7 : AC := .seq (.reg [o' 14 (.bin .eql (.t 3) (i' 7)), m' 10 14] [3, 10]) (c131x6)
def c131x8 : AC := .cond (.t 10) (.skip) (c131x7)
def c131x9 : AC := .seq (.reg [o' 13 (.bin .eql (.t 3) (i' 3)), m' 10 13] [3, 10]) (c131x8)
def c131x10 : AC := .cond (.t 10) (.skip) (c131x9)
def c131x11 : AC := .seq (.reg [o' 12 (.bin .eql (.t 3) (i' 2)), m' 10 12] [3, 10]) (c131x10)
def c131x12 : AC := .cond (.t 10) (.skip) (c131x11)
def c131x13 : AC := .seq (.reg [o' 11 (.bin .eql (.t 3) (i' 1)), m' 10 11] [3, 10]) (c131x12)
def c131x14 : AC := .seq (c131x13) (c131x4)
def c131x15 : AC := .cond (.t 6) (c131x2) (c131x14)
def c131x16 : AC := .reg [o' 9 (.bin .eql (.t 3) (i' 6)), m' 6 9] [3, 6]
def c131x17 : AC := .cond (.t 6) (.skip) (c131x16)
def c131x18 : AC := .seq (.reg [o' 8 (.bin .eql (.t 3) (i' 5)), m' 6 8] [3, 6]) (c131x17)
def c131x19 : AC := .cond (.t 6) (.skip) (c131x18)
def c131x20 : AC := .seq (.reg [o' 7 (.bin .eql (.t 3) (i' 4)), m' 6 7] [3, 6]) (c131x19)
def c131x21 : AC := .seq (c131x20) (c131x15)
def c131x22 : AC := .cond (.t 4) (c131x1) (c131x21)
def c131x23 : AC := .seq (.reg [o' 5 (.bin .eql (.t 3) (i' 0)), m' 4 5] [3, 4]) (c131x22)
def c131x24 : AC := .block 0 (c131x23)
def c131x25 : AC := .seq (.reg [m' 3 0] [3]) (c131x24)
def c131x26 : AC := .seq (c131x25) (c131x0)
def c131 : AC := .seq (.reg [o' 2 (.mv (i' 0))] [0]) (c131x26)
def v133 : List (Nat × List Nat) := [(0, [1, 2]), (1, [3])]
def r133 : List AR := [.t 3]
def c133x0 : AC := .seq (.reg [o' 4 (.fad 1 (.t 2)), o' 5 (.ld none (.t 4)), o' 6 (.fad 1 (.t 1)), o' 7 (.ld none (.t 6)), o' 8 (.bin .eql (.t 5) (.t 7)), m' 9 8, ⟨(some 10), .fad 2 (.t 2), (some (9, true))⟩, ⟨(some 11), .ld none (.t 10), (some (9, true))⟩, ⟨(some 12), .fad 2 (.t 1), (some (9, true))⟩, ⟨(some 13), .ld none (.t 12), (some (9, true))⟩, ⟨(some 14), .bin .eql (.t 11) (.t 13), (some (9, true))⟩, o' 15 (.pick (.t 9) (.t 14) (.k (.bool false))), m' 3 15] [3]) (.ret)
def c133 : AC := .seq (.reg [o' 2 (.new 4 (.t 0)), o' 3 (.mv (.k (.bool false)))] [1, 2]) (c133x0)
def v134 : List (Nat × List Nat) := [(0, [0]), (1, [0, 8]), (2, [2]), (3, [9, 10, 11]), (4, [9, 10, 11, 12]), (5, [4, 9, 10, 11]), (6, [5, 9, 10, 11]), (7, [5, 9, 10, 11, 18]), (8, [2]), (9, [9, 10, 11]), (10, [2])]
def r134 : List AR := [.t 2]
def c134x0 : AC := .seq (.reg [o' 2 (.mv (i' 0))] [2]) (.ret)
def c134x1 : AC := .reg [o' 20 (.bin .add (.t 11) (i' 1)), m' 11 20] [9, 10, 11]
def c134x2 : AC := .seq (.reg [m' 19 5, m' 2 19] [2]) (.ret)
def c134x3 : AC := .cond (.t 18) (c134x2) (.skip)
def c134x4 : AC := .seq (.reg [m' 17 5, o' 18 (.bin .neq (.t 17) (i' 0))] [5, 9, 10, 11, 18]) (c134x3)
def c134x5 : AC := .seq (.reg [o' 15 (.ld (some 4) (.t 4)), o' 16 (.call 144 [.t 15]), m' 5 16] [5, 9, 10, 11]) (c134x4)
def c134x6 : AC := .seq (.reg [o' 13 (.idx 4 none (.t 9) (.t 11)), o' 14 (.ld (some 4) (.t 13)), o' 4 (.zero [(.int .i64 0), (.int .i64 0), (.int .i64 0), (.slice none 0 0)]), n' (.st 4 (.t 4) (.t 14))] [4, 9, 10, 11]) (c134x5)
def c134x7 : AC := .block 1 (c134x6)
def c134x8 : AC := .seq (c134x7) (c134x1)
def c134x9 : AC := .cond (.t 12) (.skip) (.exit 0)
def c134x10 : AC := .seq (c134x9) (c134x8)
def c134x11 : AC := .seq (.reg [o' 12 (.bin .lss (.t 11) (.t 10))] [9, 10, 11, 12]) (c134x10)
def c134x12 : AC := .loop (c134x11)
def c134x13 : AC := .block 0 (c134x12)
def c134x14 : AC := .seq (.reg [m' 9 0, o' 10 (.len (.t 9)), o' 11 (.mv (i' 0))] [9, 10, 11]) (c134x13)
def c134x15 : AC := .seq (c134x14) (c134x0)
def c134x16 : AC := .seq (.reg [o' 2 (.mv (i' 2))] [2]) (.ret)
def c134x17 : AC := .cond (.t 8) (c134x16) (.skip)
def c134x18 : AC := .seq (.reg [m' 6 0, o' 7 (.len (.t 6)), o' 8 (.bin .gtr (.t 7) (i' 8))] [0, 8]) (c134x17)
def c134x19 : AC := .seq (c134x18) (c134x15)
def c134 : AC := .seq (.reg [o' 2 (.mv (i' 0))] [0]) (c134x19)
def v135 : List (Nat × List Nat) := [(0, [0]), (1, [0, 3]), (2, [3, 6, 7, 8]), (3, [3, 6, 7, 8, 9]), (4, [3, 5, 6, 7, 8]), (5, [3, 6, 7, 8, 19]), (6, [3, 6, 7, 8]), (7, [3, 6, 7, 8]), (8, [2])]
def r135 : List AR := [.t 2]
def c135x0 : AC := .seq (.reg [m' 23 3, m' 2 23] [2]) (.ret)
def c135x1 : AC := .reg [o' 22 (.bin .add (.t 8) (i' 1)), m' 8 22] [3, 6, 7, 8]
def c135x2 : AC := .reg [m' 20 3, o' 21 (.bin .add (.t 20) (i' 1)), m' 3 21] [3, 6, 7, 8]
def c135x3 : AC := .cond (.t 19) (c135x2) (.skip)
def c135x4 : AC := .seq (.reg [o' 12 (.fad 0 (.t 5)), o' 13 (.ld none (.t 12)), o' 14 (.bin .eql (.t 13) (i' 1)), m' 15 14, ⟨(some 16), .fad 1 (.t 5), (some (15, true))⟩, ⟨(some 17), .ld none (.t 16), (some (15, true))⟩, ⟨(some 18), .bin .eql (.t 17) (i' 0), (some (15, true))⟩, o' 19 (.pick (.t 15) (.t 18) (.k (.bool false)))] [3, 6, 7, 8, 19]) (c135x3)
def c135x5 : AC := .seq (.reg [o' 10 (.idx 4 none (.t 6) (.t 8)), o' 11 (.ld (some 4) (.t 10)), o' 5 (.zero [(.int .i64 0), (.int .i64 0), (.int .i64 0), (.slice none 0 0)]), n' (.st 4 (.t 5) (.t 11))] [3, 5, 6, 7, 8]) (c135x4)
def c135x6 : AC := .block 1 (c135x5)
def c135x7 : AC := .seq (c135x6) (c135x1)
def c135x8 : AC := .cond (.t 9) (.skip) (.exit 0)
def c135x9 : AC := .seq (c135x8) (c135x7)
def c135x10 : AC := .seq (.reg [o' 9 (.bin .lss (.t 8) (.t 7))] [3, 6, 7, 8, 9]) (c135x9)
def c135x11 : AC := .loop (c135x10)
def c135x12 : AC := .block 0 (c135x11)
def c135x13 : AC := .seq (.reg [m' 6 0, o' 7 (.len (.t 6)), o' 8 (.mv (i' 0))] [3, 6, 7, 8]) (c135x12)
def c135x14 : AC := .seq (c135x13) (c135x0)
def c135x15 : AC := .seq (.reg [o' 3 (.mv (i' 0))] [0, 3]) (c135x14)
def c135 : AC := .seq (.reg [o' 2 (.mv (i' 0))] [0]) (c135x15)
def v144 : List (Nat × List Nat) := [(0, [1]), (1, [1, 6]), (2, [2]), (3, [1, 15]), (4, [2]), (5, [1, 29]), (6, [2]), (7, [1, 49]), (8, [2]), (9, [55, 56, 57]), (10, [55, 56, 57, 58]), (11, [4, 55, 56, 57]), (12, [5, 55, 56, 57]), (13, [5, 55, 56, 57, 64]), (14, [2]), (15, [55, 56, 57]), (16, [2])]
def r144 : List AR := [.t 2]
def c144x0 : AC := .seq (.reg [o' 2 (.mv (i' 0))] [2]) (.ret)
def c144x1 : AC := .reg [o' 66 (.bin .add (.t 57) (i' 1)), m' 57 66] [55, 56, 57]
def c144x2 : AC := .seq (.reg [m' 65 5, m' 2 65] [2]) (.ret)
def c144x3 : AC := .cond (.t 64) (c144x2) (.skip)
def c144x4 : AC := .seq (.reg [m' 63 5, o' 64 (.bin .neq (.t 63) (i' 0))] [5, 55, 56, 57, 64]) (c144x3)
def c144x5 : AC := .seq (.reg [o' 61 (.ld (some 4) (.t 4)), o' 62 (.call 151 [.t 61]), m' 5 62] [5, 55, 56, 57]) (c144x4)
def c144x6 : AC := .seq (.reg [o' 59 (.idx 4 none (.t 55) (.t 57)), o' 60 (.ld (some 4) (.t 59)), o' 4 (.zero [(.int .i64 0), (.int .i64 0), (.int .i64 0), (.int .i64 0)]), n' (.st 4 (.t 4) (.t 60))] [4, 55, 56, 57]) (c144x5)
def c144x7 : AC := .block 2 (c144x6)
def c144x8 : AC := .seq (c144x7) (c144x1)
def c144x9 : AC := .cond (.t 58) (.skip) (.exit 1)
def c144x10 : AC := .seq (c144x9) (c144x8)
def c144x11 : AC := .seq (.reg [o' 58 (.bin .lss (.t 57) (.t 56))] [55, 56, 57, 58]) (c144x10)
def c144x12 : AC := .loop (c144x11)
def c144x13 : AC := .block 1 (c144x12)
def c144x14 : AC := .seq (.reg [o' 54 (.fad 3 (.t 1)), o' 55 (.ld none (.t 54)), o' 56 (.len (.t 55)), o' 57 (.mv (i' 0))] [55, 56, 57]) (c144x13)
def c144x15 : AC := .seq (c144x14) (c144x0)
def c144x16 : AC := .seq (.reg [o' 2 (.mv (i' 8))] [2]) (.ret)
def c144x17 : AC := .seq (.reg [o' 2 (.mv (i' 3))] [2]) (.ret)
def c144x18 : AC := .seq (.reg [o' 2 (.mv (i' 1))] [2]) (.ret)
def c144x19 : AC := .seq (.reg [o' 2 (.mv (i' 2))] [2]) (.ret)
def c144x20 : AC := .cond (.t 49) (c144x19) (.skip)
def c144x21 : AC := .seq (.reg [o' 50 (.fad 3 (.t 1)), o' 51 (.ld none (.t 50)), o' 52 (.len (.t 51)), o' 53 (.bin .gtr (.t 52) (i' 6)), m' 49 53] [1, 49]) (c144x20)
def c144x22 : AC := .cond (.t 29) (c144x18) (c144x21)
def c144x23 : AC := .seq (.reg [o' 30 (.fad 1 (.t 1)), o' 31 (.ld none (.t 30)), o' 32 (.bin .lss (.t 31) (i' 0)), m' 33 32, ⟨(some 34), .fad 1 (.t 1), (some (33, false))⟩, ⟨(some 35), .ld none (.t 34), (some (33, false))⟩, ⟨(some 36), .bin .geq (.t 35) (i' 12), (some (33, false))⟩, o' 37 (.pick (.t 33) (.k (.bool true)) (.t 36)), m' 38 37, ⟨(some 39), .fad 2 (.t 1), (some (38, false))⟩, ⟨(some 40), .ld none (.t 39), (some (38, false))⟩, ⟨(some 41), .call 149 [.t 40], (some (38, false))⟩, ⟨(some 42), .not (.t 41), (some (38, false))⟩, o' 43 (.pick (.t 38) (.k (.bool true)) (.t 42)), m' 44 43, ⟨(some 45), .fad 2 (.t 1), (some (44, false))⟩, ⟨(some 46), .ld none (.t 45), (some (44, false))⟩, ⟨(some 47), .call 150 [.t 46], (some (44, false))⟩, o' 48 (.pick (.t 44) (.k (.bool true)) (.t 47)), m' 29 48] [1, 29]) (c144x22)
def c144x24 : AC := .cond (.t 15) (c144x17) (c144x23)
def c144x25 : AC := .seq (.reg [o' 16 (.fad 0 (.t 1)), o' 17 (.ld none (.t 16)), o' 18 (.bin .eql (.t 17) (i' 0)), m' 19 18, ⟨(some 20), .fad 1 (.t 1), (some (19, true))⟩, ⟨(some 21), .ld none (.t 20), (some (19, true))⟩, ⟨(some 22), .bin .neq (.t 21) (i' 0), (some (19, true))⟩, ⟨(some 23), .mv (.t 22), (some (19, true))⟩, ⟨(some 24), .fad 2 (.t 1), (some (23, false))⟩, ⟨(some 25), .ld none (.t 24), (some (23, false))⟩, ⟨(some 26), .bin .neq (.t 25) (i' 0), (some (23, false))⟩, ⟨(some 27), .pick (.t 23) (.k (.bool true)) (.t 26), (some (19, true))⟩, o' 28 (.pick (.t 19) (.t 27) (.k (.bool false))), m' 15 28] [1, 15]) (c144x24)
def c144x26 : AC := .cond (.t 6) (c144x16) (c144x25)
def c144x27 : AC := .seq (.reg [o' 7 (.fad 0 (.t 1)), o' 8 (.ld none (.t 7)), o' 9 (.bin .lss (.t 8) (i' 0)), m' 10 9, ⟨(some 11), .fad 0 (.t 1), (some (10, false))⟩, ⟨(some 12), .ld none (.t 11), (some (10, false))⟩, ⟨(some 13), .bin .gtr (.t 12) (i' 2), (some (10, false))⟩, o' 14 (.pick (.t 10) (.k (.bool true)) (.t 13)), m' 6 14] [1, 6]) (c144x26)
def c144x28 : AC := .block 0 (c144x27)
def c144x29 : AC := .seq (c144x28) (c144x15)
def c144 : AC := .seq (.reg [o' 1 (.new 4 (.t 0)), o' 2 (.mv (i' 0))] [1]) (c144x29)
def v149 : List (Nat × List Nat) := [(0, [0]), (1, [2])]
def r149 : List AR := [.t 2]
def c149x0 : AC := .seq (.reg [m' 3 0, o' 4 (.bin .geq (.t 3) (i' 0)), m' 5 4, ⟨(some 6), .mv (.t 0), (some (5, true))⟩, ⟨(some 7), .bin .lss (.t 6) (i' 9), (some (5, true))⟩, o' 8 (.pick (.t 5) (.t 7) (.k (.bool false))), m' 2 8] [2]) (.ret)
def c149 : AC := .seq (.reg [o' 2 (.mv (.k (.bool false)))] [0]) (c149x0)
def v150 : List (Nat × List Nat) := [(0, [0]), (1, [2])]
def r150 : List AR := [.t 2]
def c150x0 : AC := .seq (.reg [m' 3 0, o' 4 (.bin .eql (.t 3) (i' 7)), m' 5 4, ⟨(some 6), .mv (.t 0), (some (5, false))⟩, ⟨(some 7), .bin .eql (.t 6) (i' 8), (some (5, false))⟩, o' 8 (.pick (.t 5) (.k (.bool true)) (.t 7)), m' 2 8] [2]) (.ret)
def c150 : AC := .seq (.reg [o' 2 (.mv (.k (.bool false)))] [0]) (c150x0)
def v151 : List (Nat × List Nat) := [(0, [1]), (1, [1, 14]), (2, [2]), (3, [1, 17]), (4, [40]), (5, [2]), (6, [2]), (7, [1, 3, 4, 5]), (8, [1, 3, 4, 5, 6]), (9, [1, 3, 4, 5, 6, 60]), (10, [1, 3, 4, 5, 6]), (11, [1, 3, 4, 6, 62]), (12, [1, 3, 4, 6]), (13, [98]), (14, [2]), (15, [2])]
def r151 : List AR := [.t 2]
def c151x0 : AC := .seq (.reg [o' 2 (.mv (i' 0))] [2]) (.ret)
def c151x1 : AC := .seq (.reg [o' 2 (.mv (i' 1))] [2]) (.ret)
def c151x2 : AC := .cond (.t 98) (c151x1) (.skip)
def c151x3 : AC := .seq (.dreg [o' 63 (.fad 1 (.t 1)), o' 64 (.ld none (.t 63)), m' 65 3, o' 66 (.call 154 [.t 64, .t 65]), o' 67 (.not (.t 66)), m' 68 67, ⟨(some 69), .fad 2 (.t 1), (some (68, false))⟩, ⟨(some 70), .ld none (.t 69), (some (68, false))⟩, ⟨(some 71), .mv (.t 4), (some (68, false))⟩, ⟨(some 72), .call 154 [.t 70, .t 71], (some (68, false))⟩, ⟨(some 73), .not (.t 72), (some (68, false))⟩, o' 74 (.pick (.t 68) (.k (.bool true)) (.t 73)), m' 75 74, ⟨(some 76), .mv (.t 3), (some (75, false))⟩, ⟨(some 77), .bin .eql (.t 76) (.k (.int .u8 115)), (some (75, false))⟩, ⟨(some 78), .mv (.t 77), (some (75, false))⟩, ⟨(some 79), .fad 1 (.t 1), (some (78, true))⟩, ⟨(some 80), .ld none (.t 79), (some (78, true))⟩, ⟨(some 81), .call 150 [.t 80], (some (78, true))⟩, ⟨(some 82), .fad 2 (.t 1), (some (78, true))⟩, ⟨(some 83), .ld none (.t 82), (some (78, true))⟩, ⟨(some 84), .call 150 [.t 83], (some (78, true))⟩, ⟨(some 85), .eqb true (.t 81) (.t 84), (some (78, true))⟩, ⟨(some 86), .pick (.t 78) (.t 85) (.k (.bool false)), (some (75, false))⟩, o' 87 (.pick (.t 75) (.k (.bool true)) (.t 86)), m' 88 87, ⟨(some 89), .fad 3 (.t 1), (some (88, false))⟩, ⟨(some 90), .ld none (.t 89), (some (88, false))⟩, ⟨(some 91), .bin .lss (.t 90) (i' 0), (some (88, false))⟩, o' 92 (.pick (.t 88) (.k (.bool true)) (.t 91)), m' 93 92, ⟨(some 94), .fad 3 (.t 1), (some (93, false))⟩, ⟨(some 95), .ld none (.t 94), (some (93, false))⟩, ⟨(some 96), .mv (.t 6), (some (93, false))⟩, ⟨(some 97), .bin .gtr (.t 95) (.t 96), (some (93, false))⟩, o' 98 (.pick (.t 93) (.k (.bool true)) (.t 97))] [[], [0], [], [0, 1, 2], [0, 1, 2, 3], [0, 1, 2, 3, 4], [0, 1, 2, 3, 4, 5], [0, 1, 2, 3, 4, 5, 6], [0, 1, 2, 3, 4, 5], [0, 1, 2, 3, 4, 5, 6, 7, 8], [0, 1, 2, 3, 4, 5, 6, 7, 8, 9], [0, 1, 2, 3, 4, 5, 6, 7, 8, 9, 10], [0, 1, 2, 3, 4, 5, 6, 7, 8, 9, 10, 11], [0, 1, 2, 3, 4, 5, 6, 7, 8, 9, 10, 11, 12], [0, 1, 2, 3, 4, 5, 6, 7, 8, 9, 10, 11, 12, 13], [0, 1, 2, 3, 4, 5, 6, 7, 8, 9, 10, 11, 12, 13, 14], [0, 1, 2, 3, 4, 5, 6, 7, 8, 9, 10, 11, 12, 13, 14, 15], [0, 1, 2, 3, 4, 5, 6, 7, 8, 9, 10, 11, 12, 13, 14, 15, 16], [0, 1, 2, 3, 4, 5, 6, 7, 8, 9, 10, 11, 12, 13, 14, 15, 16, 17], [0, 1, 2, 3, 4, 5, 6, 7, 8, 9, 10, 11, 12, 13, 14, 15], [0, 1, 2, 3, 4, 5, 6, 7, 8, 9, 10, 11, 12, 13, 14, 15, 19], [0, 1, 2, 3, 4, 5, 6, 7, 8, 9, 10, 11, 12, 13, 14, 15, 16, 17, 18, 19, 20], [0, 1, 2, 3, 4, 5, 6, 7, 8, 9, 10, 11, 12, 13, 14, 15, 16, 17, 18, 19, 20, 21], [0, 1, 2, 3, 4, 5, 6, 7, 8, 9, 10, 11, 12, 13, 14, 15, 16, 17, 18, 19, 20, 21, 22], [0, 1, 2, 3, 4, 5, 6, 7, 8, 9, 10, 11, 12, 13, 14, 15, 16, 17, 18, 19, 20, 21, 22, 23], [0, 1, 2, 3, 4, 5, 6, 7, 8, 9, 10, 11, 12, 13, 14, 15, 16, 17, 18, 19, 20, 21, 22, 23, 24], [0, 1, 2, 3, 4, 5, 6, 7, 8, 9, 10, 11, 12, 13, 14, 15, 16, 17, 18, 19, 20, 21, 22, 23, 24, 25], [0, 1, 2, 3, 4, 5, 6, 7, 8, 9, 10, 11, 12, 13, 14, 15, 16, 17, 18, 19, 20, 21, 22, 23, 24, 25, 26], [0, 1, 2, 3, 4, 5, 6, 7, 8, 9, 10, 11, 12, 13, 14, 15, 16, 17, 18, 19, 20, 21, 22, 23, 24, 25, 26, 27], [0, 1, 2, 3, 4, 5, 6, 7, 8, 9, 10, 11, 12, 13, 14, 15, 16, 17, 18, 19, 20, 21, 22, 23, 24, 25, 26, 27, 28], [0, 1, 2, 3, 4, 5, 6, 7, 8, 9, 10, 11, 12, 13, 14, 15, 16, 17, 18, 19, 20, 21, 22, 23, 24, 25, 26, 27, 28, 29], [0, 1, 2, 3, 4, 5, 6, 7, 8, 9, 10, 11, 12, 13, 14, 15, 16, 17, 18, 19, 20, 21, 22, 23, 24, 25, 26, 27, 28, 29, 30], [0, 1, 2, 3, 4, 5, 6, 7, 8, 9, 10, 11, 12, 13, 14, 15, 16, 17, 18, 19, 20, 21, 22, 23, 24, 25, 26, 27, 28, 29, 30, 31], [0, 1, 2, 3, 4, 5, 6, 7, 8, 9, 10, 11, 12, 13, 14, 15, 16, 17, 18, 19, 20, 21, 22, 23, 24, 25, 26, 27, 28, 29, 30], [0, 1, 2, 3, 4, 5, 6, 7, 8, 9, 10, 11, 12, 13, 14, 15, 16, 17, 18, 19, 20, 21, 22, 23, 24, 25, 26, 27, 28, 29, 30, 31, 32, 33], [0, 1, 2, 3, 4, 5, 6, 7, 8, 9, 10, 11, 12, 13, 14, 15, 16, 17, 18, 19, 20, 21, 22, 23, 24, 25, 26, 27, 28, 29, 30, 31, 32, 33, 34]] [98]) (c151x2)
def c151x4 : AC := .seq (c151x3) (c151x0)
def c151x5 : AC := .reg [o' 6 (.mv (i' 0))] [1, 3, 4, 6]
def c151x6 : AC := .cond (.t 62) (c151x5) (.skip)
def c151x7 : AC := .seq (.reg [m' 61 5, o' 62 (.not (.t 61))] [1, 3, 4, 6, 62]) (c151x6)
def c151x8 : AC := .seq (c151x7) (c151x4)
def c151x9 : AC := .reg [o' 6 (.mv (i' 65535))] [1, 3, 4, 5, 6]
def c151x10 : AC := .cond (.t 60) (c151x9) (.skip)
def c151x11 : AC := .seq (.reg [o' 48 (.fad 0 (.t 1)), o' 49 (.ld none (.t 48)), o' 50 (.bin .eql (.t 49) (i' 2)), m' 51 50, ⟨(some 52), .fad 1 (.t 1), (some (51, true))⟩, ⟨(some 53), .ld none (.t 52), (some (51, true))⟩, ⟨(some 54), .call 149 [.t 53], (some (51, true))⟩, o' 55 (.pick (.t 51) (.t 54) (.k (.bool false))), m' 56 55, ⟨(some 57), .fad 1 (.t 1), (some (56, true))⟩, ⟨(some 58), .ld none (.t 57), (some (56, true))⟩, ⟨(some 59), .call 150 [.t 58], (some (56, true))⟩, o' 60 (.pick (.t 56) (.t 59) (.k (.bool false)))] [1, 3, 4, 5, 6, 60]) (c151x10)
def c151x12 : AC := .seq (c151x11) (c151x8)
def c151x13 : AC := .seq (.reg [o' 6 (.mv (i' 255))] [1, 3, 4, 5, 6]) (c151x12)
def c151x14 : AC := .seq (.reg [o' 42 (.fad 0 (.t 1)), o' 43 (.ld none (.t 42)), o' 44 (.call 153 [.t 43]), m' 41 44, o' 45 (.ext (.t 41) 0), o' 46 (.ext (.t 41) 1), o' 47 (.ext (.t 41) 2), m' 3 45, m' 4 46, m' 5 47] [1, 3, 4, 5]) (c151x13)
def c151x15 : AC := .seq (.reg [o' 2 (.mv (i' 0))] [2]) (.ret)
def c151x16 : AC := .seq (.reg [o' 2 (.mv (i' 1))] [2]) (.ret)
def c151x17 : AC := .cond (.t 40) (c151x16) (.skip)
def c151x18 : AC := .seq (.reg [o' 18 (.fad 1 (.t 1)), o' 19 (.ld none (.t 18)), o' 20 (.bin .neq (.t 19) (i' 0)), m' 21 20, ⟨(some 22), .fad 2 (.t 1), (some (21, false))⟩, ⟨(some 23), .ld none (.t 22), (some (21, false))⟩, ⟨(some 24), .bin .lss (.t 23) (i' 0), (some (21, false))⟩, o' 25 (.pick (.t 21) (.k (.bool true)) (.t 24)), m' 26 25, ⟨(some 27), .fad 2 (.t 1), (some (26, false))⟩, ⟨(some 28), .ld none (.t 27), (some (26, false))⟩, ⟨(some 29), .bin .gtr (.t 28) (i' 1), (some (26, false))⟩, o' 30 (.pick (.t 26) (.k (.bool true)) (.t 29)), m' 31 30, ⟨(some 32), .fad 3 (.t 1), (some (31, false))⟩, ⟨(some 33), .ld none (.t 32), (some (31, false))⟩, ⟨(some 34), .bin .lss (.t 33) (i' 0), (some (31, false))⟩, o' 35 (.pick (.t 31) (.k (.bool true)) (.t 34)), m' 36 35, ⟨(some 37), .fad 3 (.t 1), (some (36, false))⟩, ⟨(some 38), .ld none (.t 37), (some (36, false))⟩, ⟨(some 39), .bin .gtr (.t 38) (i' 255), (some (36, false))⟩, o' 40 (.pick (.t 36) (.k (.bool true)) (.t 39))] [40]) (c151x17)
def c151x19 : AC := .seq (c151x18) (c151x15)
def c151x20 : AC := .cond (.t 17) (c151x19) (.skip)
def c151x21 : AC := .seq (.reg [o' 15 (.fad 0 (.t 1)), o' 16 (.ld none (.t 15)), o' 17 (.bin .eql (.t 16) (i' 24))] [1, 17]) (c151x20)
def c151x22 : AC := .seq (c151x21) (c151x14)
def c151x23 : AC := .seq (.reg [o' 2 (.mv (i' 8))] [2]) (.ret)
def c151x24 : AC := .cond (.t 14) (c151x23) (.skip)
def c151x25 : AC := .seq (.reg [o' 7 (.fad 0 (.t 1)), o' 8 (.ld none (.t 7)), o' 9 (.bin .lss (.t 8) (i' 0)), m' 10 9, ⟨(some 11), .fad 0 (.t 1), (some (10, false))⟩, ⟨(some 12), .ld none (.t 11), (some (10, false))⟩, ⟨(some 13), .bin .geq (.t 12) (i' 25), (some (10, false))⟩, o' 14 (.pick (.t 10) (.k (.bool true)) (.t 13))] [1, 14]) (c151x24)
def c151x26 : AC := .seq (c151x25) (c151x22)
def c151 : AC := .seq (.reg [o' 1 (.new 4 (.t 0)), o' 2 (.mv (i' 0))] [1]) (c151x26)
def v153 : List (Nat × List Nat) := [(0, [0]), (1, [5]), (2, [5, 6]), (3, [2, 3, 4]), (4, [5, 8]), (5, [2, 3, 4]), (6, [5, 10]), (7, [5, 10]), (8, [5, 10]), (9, [5, 10]), (10, [5, 10]), (11, [2, 3, 4]), (12, [5, 16]), (13, [5, 16]), (14, [5, 16]), (15, [5, 16]), (16, [5, 16]), (17, [5, 16]), (18, [2, 3, 4]), (19, [5, 23]), (20, [5, 23]), (21, [2, 3, 4]), (22, [5, 26]), (23, [5, 26]), (24, [2, 3, 4]), (25, [5, 29]), (26, [5, 29]), (27, [5, 29]), (28, [5, 29]), (29, [2, 3, 4]), (30, [5, 34]), (31, [34]), (32, [2, 3, 4]), (33, [2, 3, 4])]
def r153 : List AR := [.t 2, .t 3, .t 4]
def c153x0 : AC := .seq (.reg [o' 2 (.mv (.k (.int .u8 0))), o' 3 (.mv (.k (.int .u8 0))), o' 4 (.mv (.k (.bool false)))] [2, 3, 4]) (.ret)
def c153x1 : AC := .seq (.reg [o' 2 (.mv (.k (.int .u8 115))), o' 3 (.mv (.k (.int .u8 115))), o' 4 (.mv (.k (.bool false)))] [2, 3, 4]) (.ret)
def c153x2 : AC := .seq (.reg [o' 2 (.mv (.k (.int .u8 97))), o' 3 (.mv (.k (.int .u8 0))), o' 4 (.mv (.k (.bool true)))] [2, 3, 4]) (.ret)
def c153x3 : AC := .seq (.reg [o' 2 (.mv (.k (.int .u8 98))), o' 3 (.mv (.k (.int .u8 0))), o' 4 (.mv (.k (.bool false)))] [2, 3, 4]) (.ret)
def c153x4 : AC := .seq (.reg [o' 2 (.mv (.k (.int .u8 98))), o' 3 (.mv (.k (.int .u8 98))), o' 4 (.mv (.k (.bool false)))] [2, 3, 4]) (.ret)
def c153x5 : AC := .seq (.reg [o' 2 (.mv (.k (.int .u8 97))), o' 3 (.mv (.k (.int .u8 0))), o' 4 (.mv (.k (.bool false)))] [2, 3, 4]) (.ret)
def c153x6 : AC := .seq (.reg [o' 2 (.mv (.k (.int .u8 0))), o' 3 (.mv (.k (.int .u8 0))), o' 4 (.mv (.k (.bool true)))] [2, 3, 4]) (.ret)
def c153x7 : AC := .seq (.reg [o' 2 (.mv (.k (.int .u8 119))), o' 3 (.mv (.k (.int .u8 98))), o' 4 (.mv (.k (.bool false)))] [2, 3, 4]) (.ret)
def c153x8 : AC := .seq (.reg [o' 2 (.mv (.k (.int .u8 98))), o' 3 (.mv (.k (.int .u8 119))), o' 4 (.mv (.k (.bool false)))] [2, 3, 4]) (.ret)
def c153x9 : AC := .cond (.t 34) (c153x8) (.skip)
def c153x10 : AC := .reg [o' 36 (.bin .eql (.t 5) (i' 21)), m' 34 36] [34]
def c153x11 : AC := .cond (.t 34) (.skip) (c153x10)
def c153x12 : AC := .seq (.reg [o' 35 (.bin .eql (.t 5) (i' 20)), m' 34 35] [5, 34]) (c153x11)
def c153x13 : AC := .seq (c153x12) (c153x9)
def c153x14 : AC := .cond (.t 29) (c153x7) (c153x13)
def c153x15 : AC := .reg [o' 33 (.bin .eql (.t 5) (i' 23)), m' 29 33] [5, 29]
def c153x16 : AC := .cond (.t 29) (.skip) (c153x15)
def c153x17 : AC := .seq (.reg [o' 32 (.bin .eql (.t 5) (i' 22)), m' 29 32] [5, 29]) (c153x16)
def c153x18 : AC := .cond (.t 29) (.skip) (c153x17)
def c153x19 : AC := .seq (.reg [o' 31 (.bin .eql (.t 5) (i' 19)), m' 29 31] [5, 29]) (c153x18)
def c153x20 : AC := .cond (.t 29) (.skip) (c153x19)
def c153x21 : AC := .seq (.reg [o' 30 (.bin .eql (.t 5) (i' 18)), m' 29 30] [5, 29]) (c153x20)
def c153x22 : AC := .seq (c153x21) (c153x14)
def c153x23 : AC := .cond (.t 26) (c153x6) (c153x22)
def c153x24 : AC := .reg [o' 28 (.bin .eql (.t 5) (i' 17)), m' 26 28] [5, 26]
def c153x25 : AC := .cond (.t 26) (.skip) (c153x24)
def c153x26 : AC := .seq (.reg [o' 27 (.bin .eql (.t 5) (i' 16)), m' 26 27] [5, 26]) (c153x25)
def c153x27 : AC := .seq (c153x26) (c153x23)
def c153x28 : AC := .cond (.t 23) (c153x5) (c153x27)
def c153x29 : AC := .reg [o' 25 (.bin .eql (.t 5) (i' 11)), m' 23 25] [5, 23]
def c153x30 : AC := .cond (.t 23) (.skip) (c153x29)
def c153x31 : AC := .seq (.reg [o' 24 (.bin .eql (.t 5) (i' 10)), m' 23 24] [5, 23]) (c153x30)
def c153x32 : AC := .seq (c153x31) (c153x28)
def c153x33 : AC := .cond (.t 16) (c153x4) (c153x32)
def c153x34 : AC := .reg [o' 22 (.bin .eql (.t 5) (i' 9)), m' 16 22] [5, 16]
def c153x35 : AC := .cond (.t 16) (.skip) (c153x34)
def c153x36 : AC := .seq (.reg [o' 21 (.bin .eql (.t 5) (i' 8)), m' 16 21] [5, 16]) (c153x35)
def c153x37 : AC := .cond (.t 16) (.skip) (c153x36)
def c153x38 : AC := .seq (.reg [o' 20 (.bin .eql (.t 5) (i' 7)), m' 16 20] [5, 16]) (c153x37)
def c153x39 : AC := .cond (.t 16) (.skip) (c153x38)
def c153x40 : AC := .seq (.reg [o' 19 (.bin .eql (.t 5) (i' 6)), m' 16 19] [5, 16]) (c153x39)
def c153x41 : AC := .cond (.t 16) (.skip) (c153x40)
def c153x42 : AC := .seq (.reg [o' 18 (.bin .eql (.t 5) (i' 5)), m' 16 18] [5, 16]) (c153x41)
def c153x43 : AC := .cond (.t 16) (.skip) (c153x42)
def c153x44 : AC := .seq (.reg [o' 17 (.bin .eql (.t 5) (i' 4)), m' 16 17] [5, 16]) (c153x43)
def c153x45 : AC := .seq (c153x44) (c153x33)
def c153x46 : AC := .cond (.t 10) (c153x3) (c153x45)
def c153x47 : AC := .reg [o' 15 (.bin .eql (.t 5) (i' 15)), m' 10 15] [5, 10]
def c153x48 : AC := .cond (.t 10) (.skip) (c153x47)
def c153x49 : AC := .seq (.reg [o' 14 (.bin .eql (.t 5) (i' 14)), m' 10 14] [5, 10]) (c153x48)
def c153x50 : AC := .cond (.t 10) (.skip) (c153x49)
def c153x51 : AC := .seq (.reg [o' 13 (.bin .eql (.t 5) (i' 13)), m' 10 13] [5, 10]) (c153x50)
def c153x52 : AC := .cond (.t 10) (.skip) (c153x51)
def c153x53 : AC := .seq (.reg [o' 12 (.bin .eql (.t 5) (i' 12)), m' 10 12] [5, 10]) (c153x52)
def c153x54 : AC := .cond (.t 10) (.skip) (c153x53)
def c153x55 : AC := .seq (.reg [o' 11 (.bin .eql (.t 5) (i' 3)), m' 10 11] [5, 10]) (c153x54)
def c153x56 : AC := .seq (c153x55) (c153x46)
def c153x57 : AC := .cond (.t 8) (c153x2) (c153x56)
def c153x58 : AC := .seq (.reg [o' 9 (.bin .eql (.t 5) (i' 2)), m' 8 9] [5, 8]) (c153x57)
def c153x59 : AC := .cond (.t 6) (c153x1) (c153x58)
def c153x60 : AC := .seq (.reg [o' 7 (.bin .eql (.t 5) (i' 1)), m' 6 7] [5, 6]) (c153x59)
def c153x61 : AC := .block 0 (c153x60)
def c153x62 : AC := .seq (.reg [m' 5 0] [5]) (c153x61)
def c153x63 : AC := .seq (c153x62) (c153x0)
def c153 : AC := .seq (.reg [o' 2 (.mv (.k (.int .u8 0))), o' 3 (.mv (.k (.int .u8 0))), o' 4 (.mv (.k (.bool false)))] [0]) (c153x63)
def v154 : List (Nat × List Nat) := [(0, [0, 1]), (1, [0, 5]), (2, [0, 5, 6]), (3, [4]), (4, [0, 5, 10]), (5, [4]), (6, [0, 18]), (7, [4]), (8, [4])]
def r154 : List AR := [.t 4]
def c154x0 : AC := .seq (.reg [m' 27 0, o' 28 (.call 149 [.t 27]), m' 4 28] [4]) (.ret)
def c154x1 : AC := .seq (.reg [m' 8 0, o' 9 (.bin .eql (.t 8) (i' 0)), m' 4 9] [4]) (.ret)
def c154x2 : AC := .seq (.reg [m' 12 0, o' 13 (.call 149 [.t 12]), m' 14 13, ⟨(some 15), .mv (.t 0), (some (14, true))⟩, ⟨(some 16), .call 150 [.t 15], (some (14, true))⟩, o' 17 (.pick (.t 14) (.t 16) (.k (.bool false))), m' 4 17] [4]) (.ret)
def c154x3 : AC := .seq (.reg [m' 20 0, o' 21 (.call 149 [.t 20]), m' 22 21, ⟨(some 23), .mv (.t 0), (some (22, true))⟩, ⟨(some 24), .call 150 [.t 23], (some (22, true))⟩, ⟨(some 25), .not (.t 24), (some (22, true))⟩, o' 26 (.pick (.t 22) (.t 25) (.k (.bool false))), m' 4 26] [4]) (.ret)
def c154x4 : AC := .cond (.t 18) (c154x3) (.skip)
def c154x5 : AC := .seq (.reg [o' 19 (.bin .eql (.t 5) (.k (.int .u8 98))), m' 18 19] [0, 18]) (c154x4)
def c154x6 : AC := .cond (.t 10) (c154x2) (c154x5)
def c154x7 : AC := .seq (.reg [o' 11 (.bin .eql (.t 5) (.k (.int .u8 119))), m' 10 11] [0, 5, 10]) (c154x6)
def c154x8 : AC := .cond (.t 6) (c154x1) (c154x7)
def c154x9 : AC := .seq (.reg [o' 7 (.bin .eql (.t 5) (.k (.int .u8 0))), m' 6 7] [0, 5, 6]) (c154x8)
def c154x10 : AC := .block 0 (c154x9)
def c154x11 : AC := .seq (.reg [m' 5 1] [0, 5]) (c154x10)
def c154x12 : AC := .seq (c154x11) (c154x0)
def c154 : AC := .seq (.reg [o' 4 (.mv (.k (.bool false)))] [0, 1]) (c154x12)
end Go.Proofs.YtolmklnijjfppaaGreat.Code

namespace Go.Proofs.YtolmklnijjfppaaGreat.Code
open Go Go.Proofs.YtolmklnijjfppaaGreat.Calc
set_option maxRecDepth 100000
def v107 : List (Nat × List Nat) := [(0, [0, 1]), (1, [0, 1, 10]), (2, [4]), (3, [0, 1, 12, 13]), (4, [0, 1, 12, 13, 14]), (5, [0, 1, 5, 12, 13]), (6, [0, 1, 12, 13, 24]), (7, [4]), (8, [0, 1, 12, 13]), (9, [4])]
def r107 : List AR := [.t 4]
def c107x0 : AC := .seq (.reg [o' 4 (.mv (.k (.bool true)))] [4]) (.ret)
def c107x1 : AC := .reg [o' 25 (.bin .add (.t 13) (i' 1)), m' 13 25] [0, 1, 12, 13]
def c107x2 : AC := .seq (.reg [o' 4 (.mv (.k (.bool false)))] [4]) (.ret)
def c107x3 : AC := .cond (.t 24) (c107x2) (.skip)
def c107x4 : AC := .seq (.dreg [m' 16 0, m' 17 5, o' 18 (.idx 1 none (.t 16) (.t 17)), o' 19 (.ld none (.t 18)), m' 20 1, m' 21 5, o' 22 (.idx 1 none (.t 20) (.t 21)), o' 23 (.ld none (.t 22)), o' 24 (.bin .neq (.t 19) (.t 23))] [[], [], [0, 1], [0, 1, 2], [], [], [4, 5], [4, 5, 6], [0, 1, 2, 3, 4, 5, 6, 7]] [0, 1, 12, 13, 24]) (c107x3)
def c107x5 : AC := .seq (.reg [m' 15 13, m' 5 15] [0, 1, 5, 12, 13]) (c107x4)
def c107x6 : AC := .block 1 (c107x5)
def c107x7 : AC := .seq (c107x6) (c107x1)
def c107x8 : AC := .cond (.t 14) (.skip) (.exit 0)
def c107x9 : AC := .seq (c107x8) (c107x7)
def c107x10 : AC := .seq (.reg [o' 14 (.bin .lss (.t 13) (.t 12))] [0, 1, 12, 13, 14]) (c107x9)
def c107x11 : AC := .loop (c107x10)
def c107x12 : AC := .block 0 (c107x11)
def c107x13 : AC := .seq (.reg [m' 11 0, o' 12 (.len (.t 11)), o' 13 (.mv (i' 0))] [0, 1, 12, 13]) (c107x12)
def c107x14 : AC := .seq (c107x13) (c107x0)
def c107x15 : AC := .seq (.reg [o' 4 (.mv (.k (.bool false)))] [4]) (.ret)
def c107x16 : AC := .cond (.t 10) (c107x15) (.skip)
def c107x17 : AC := .seq (.reg [m' 6 0, o' 7 (.len (.t 6)), m' 8 1, o' 9 (.len (.t 8)), o' 10 (.bin .neq (.t 7) (.t 9))] [0, 1, 10]) (c107x16)
def c107x18 : AC := .seq (c107x17) (c107x14)
def c107 : AC := .seq (.reg [o' 4 (.mv (.k (.bool false)))] [0, 1]) (c107x18)
def v108 : List (Nat × List Nat) := [(0, [0, 1]), (1, [0, 1, 10]), (2, [4]), (3, [0, 1, 12, 13]), (4, [0, 1, 12, 13, 14]), (5, [0, 1, 5, 12, 13]), (6, [0, 1, 12, 13, 24]), (7, [4]), (8, [0, 1, 12, 13]), (9, [4])]
def r108 : List AR := [.t 4]
def c108x0 : AC := .seq (.reg [o' 4 (.mv (.k (.bool true)))] [4]) (.ret)
def c108x1 : AC := .reg [o' 25 (.bin .add (.t 13) (i' 1)), m' 13 25] [0, 1, 12, 13]
def c108x2 : AC := .seq (.reg [o' 4 (.mv (.k (.bool false)))] [4]) (.ret)
def c108x3 : AC := .cond (.t 24) (c108x2) (.skip)
def c108x4 : AC := .seq (.dreg [m' 16 0, m' 17 5, o' 18 (.idx 1 none (.t 16) (.t 17)), o' 19 (.ld none (.t 18)), m' 20 1, m' 21 5, o' 22 (.idx 1 none (.t 20) (.t 21)), o' 23 (.ld none (.t 22)), o' 24 (.bin .neq (.t 19) (.t 23))] [[], [], [0, 1], [0, 1, 2], [], [], [4, 5], [4, 5, 6], [0, 1, 2, 3, 4, 5, 6, 7]] [0, 1, 12, 13, 24]) (c108x3)
def c108x5 : AC := .seq (.reg [m' 15 13, m' 5 15] [0, 1, 5, 12, 13]) (c108x4)
def c108x6 : AC := .block 1 (c108x5)
def c108x7 : AC := .seq (c108x6) (c108x1)
def c108x8 : AC := .cond (.t 14) (.skip) (.exit 0)
def c108x9 : AC := .seq (c108x8) (c108x7)
def c108x10 : AC := .seq (.reg [o' 14 (.bin .lss (.t 13) (.t 12))] [0, 1, 12, 13, 14]) (c108x9)
def c108x11 : AC := .loop (c108x10)
def c108x12 : AC := .block 0 (c108x11)
def c108x13 : AC := .seq (.reg [m' 11 0, o' 12 (.len (.t 11)), o' 13 (.mv (i' 0))] [0, 1, 12, 13]) (c108x12)
def c108x14 : AC := .seq (c108x13) (c108x0)
def c108x15 : AC := .seq (.reg [o' 4 (.mv (.k (.bool false)))] [4]) (.ret)
def c108x16 : AC := .cond (.t 10) (c108x15) (.skip)
def c108x17 : AC := .seq (.reg [m' 6 0, o' 7 (.len (.t 6)), m' 8 1, o' 9 (.len (.t 8)), o' 10 (.bin .neq (.t 7) (.t 9))] [0, 1, 10]) (c108x16)
def c108x18 : AC := .seq (c108x17) (c108x14)
def c108 : AC := .seq (.reg [o' 4 (.mv (.k (.bool false)))] [0, 1]) (c108x18)
def v132 : List (Nat × List Nat) := [(0, [0, 1]), (1, [4])]
def r132 : List AR := [.t 4]
def c132x0 : AC := .seq (.reg [m' 5 0, m' 6 1, o' 7 (.call 143 [.t 5, .t 6]), o' 8 (.bin .geq (.t 7) (i' 0)), m' 4 8] [4]) (.ret)
def c132 : AC := .seq (.reg [o' 4 (.mv (.k (.bool false)))] [0, 1]) (c132x0)
def v143 : List (Nat × List Nat) := [(0, [0, 1]), (1, [0, 1, 7, 8]), (2, [0, 1, 7, 8, 9]), (3, [0, 1, 5, 7, 8]), (4, [0, 1, 5, 7, 8, 16]), (5, [4]), (6, [0, 1, 7, 8]), (7, [4])]
def r143 : List AR := [.t 4]
def c143x0 : AC := .seq (.reg [o' 4 (.mv (.k (.int .i64 (-1))))] [4]) (.ret)
def c143x1 : AC := .reg [o' 18 (.bin .add (.t 8) (i' 1)), m' 8 18] [0, 1, 7, 8]
def c143x2 : AC := .seq (.reg [m' 17 5, m' 4 17] [4]) (.ret)
def c143x3 : AC := .cond (.t 16) (c143x2) (.skip)
def c143x4 : AC := .seq (.reg [m' 11 1, m' 12 0, m' 13 5, o' 14 (.idx 4 none (.t 12) (.t 13)), o' 15 (.ld (some 4) (.t 14)), o' 16 (.callc (.t 11) [.t 15])] [0, 1, 5, 7, 8, 16]) (c143x3)
def c143x5 : AC := .seq (.reg [m' 10 8, m' 5 10] [0, 1, 5, 7, 8]) (c143x4)
def c143x6 : AC := .block 1 (c143x5)
def c143x7 : AC := .seq (c143x6) (c143x1)
def c143x8 : AC := .cond (.t 9) (.skip) (.exit 0)
def c143x9 : AC := .seq (c143x8) (c143x7)
def c143x10 : AC := .seq (.reg [o' 9 (.bin .lss (.t 8) (.t 7))] [0, 1, 7, 8, 9]) (c143x9)
def c143x11 : AC := .loop (c143x10)
def c143x12 : AC := .block 0 (c143x11)
def c143x13 : AC := .seq (.reg [m' 6 0, o' 7 (.len (.t 6)), o' 8 (.mv (i' 0))] [0, 1, 7, 8]) (c143x12)
def c143x14 : AC := .seq (c143x13) (c143x0)
def c143 : AC := .seq (.reg [o' 4 (.mv (i' 0))] [0, 1]) (c143x14)
end Go.Proofs.YtolmklnijjfppaaGreat.Code

namespace Go.Proofs.YtolmklnijjfppaaGreat.Code
open Go Go.Proofs.YtolmklnijjfppaaGreat.Calc
set_option maxRecDepth 100000
def v43 : List (Nat × List Nat) := [(0, [0]), (1, [0, 1]), (2, [0, 1]), (3, [0, 1]), (4, [0, 1]), (5, [0, 1, 2]), (6, [0])]
def r43 : List AR := [.cell (some 5) 0]
def c43x0 : AC := .seq (.dreg [m' 18 1, o' 19 (.nilc (.t 18)), o' 20 (.fad 0 (.t 19)), o' 21 (.ld none (.t 20)), m' 22 2, o' 23 (.call 94 [i' 6, i' 7]), o' 24 (.call 94 [i' 8, i' 9]), o' 25 (.build [(.string ⟨#[]⟩), (.slice none 0 0), (.slice none 0 0), (.slice none 0 0), (.slice none 0 0)] [(0, 1, (.k (.string ⟨#[115, 116, 100]⟩))), (1, 1, (.t 21)), (2, 1, (.t 22)), (3, 1, (.t 23)), (4, 1, (.t 24))]), n' (.st 5 (.t 0) (.t 25))] [[], [0], [0, 1], [0, 1, 2], [], [], [5], [0, 1, 2, 3, 4, 5, 6], [0, 1, 2, 3, 4, 5, 6, 7]] [0]) (.ret)
def c43x1 : AC := .seq (.reg [o' 11 (.call 92 [i' 10, i' 5, (.k (.slice none 0 0))]), o' 12 (.call 93 [i' 7]), o' 13 (.build [(.int .i64 0), (.int .i64 0), (.int .i64 0), (.int .i64 0)] [(0, 1, (i' 2)), (1, 1, (i' 3)), (3, 1, (i' 255))]), o' 14 (.bsl [(.int .i64 0), (.int .i64 0), (.int .i64 0), (.int .i64 0)] 1 [(0, (.t 13))]), o' 15 (.app 4 32 (.t 12) (.t 14)), o' 16 (.call 92 [i' 11, i' 6, .t 15]), o' 17 (.bsl [(.int .i64 0), (.int .i64 0), (.int .i64 0), (.slice none 0 0)] 2 [(0, (.t 11)), (1, (.t 16))]), m' 2 17] [0, 1, 2]) (c43x0)
def c43x2 : AC := .seq (.reg [m' 9 1, o' 10 (.call 91 [.t 9])] [0, 1]) (c43x1)
def c43x3 : AC := .seq (.reg [m' 7 1, o' 8 (.call 90 [.t 7])] [0, 1]) (c43x2)
def c43x4 : AC := .seq (.reg [m' 5 1, o' 6 (.call 89 [.t 5])] [0, 1]) (c43x3)
def c43x5 : AC := .seq (.reg [o' 3 (.build [(.slice none 0 0)] []), o' 4 (.new 1 (.t 3)), m' 1 4] [0, 1]) (c43x4)
def c43 : AC := .seq (.reg [o' 0 (.zero [(.string ⟨#[]⟩), (.slice none 0 0), (.slice none 0 0), (.slice none 0 0), (.slice none 0 0)])] [0]) (c43x5)
theorem k43 : Tryz.f43.body.bind (compC Tryz.prog Tryz.f43.ntmps v43) = some c43 := by kernel_rfl
theorem e43 : enters Tryz.prog 43 = true := by kernel_rfl
theorem q43 : Tryz.f43.results.toList.mapM (compRes Tryz.prog) = some r43 := by kernel_rfl
def v89 : List (Nat × List Nat) := [(0, [0]), (1, [0]), (2, [0]), (3, [0]), (4, [0]), (5, [0]), (6, [0, 28, 29, 30]), (7, [0, 28, 29, 30, 31]), (8, [0, 3, 28, 29, 30]), (9, [0, 28, 29, 30]), (10, [0, 28, 29, 30]), (11, [0]), (12, [0]), (13, [0]), (14, [0]), (15, [0]), (16, [0]), (17, [0]), (18, [])]
def r89 : List AR := []
def c89x0 : AC := .reg [m' 63 0, o' 64 (.bsl [(.int .i64 0)] 2 [(0, (i' 0)), (1, (i' 2))]), o' 65 (.call 124 [.t 63, (.k (.string ⟨#[114, 111, 114]⟩)), (i' 15), (.t 64)])] []
def c89x1 : AC := .seq (.reg [m' 60 0, o' 61 (.bsl [(.int .i64 0)] 2 [(0, (i' 0)), (1, (i' 2))]), o' 62 (.call 124 [.t 60, (.k (.string ⟨#[114, 111, 108]⟩)), (i' 14), (.t 61)])] [0]) (c89x0)
def c89x2 : AC := .seq (.reg [m' 57 0, o' 58 (.bsl [(.int .i64 0)] 2 [(0, (i' 0)), (1, (i' 2))]), o' 59 (.call 124 [.t 57, (.k (.string ⟨#[108, 115, 114]⟩)), (i' 13), (.t 58)])] [0]) (c89x1)
def c89x3 : AC := .seq (.reg [m' 54 0, o' 55 (.bsl [(.int .i64 0)] 2 [(0, (i' 0)), (1, (i' 2))]), o' 56 (.call 124 [.t 54, (.k (.string ⟨#[97, 115, 108]⟩)), (i' 12), (.t 55)])] [0]) (c89x2)
def c89x4 : AC := .seq (.reg [m' 51 0, o' 52 (.bsl [(.int .i64 0)] 2 [(0, (i' 2)), (1, (i' 4))]), o' 53 (.call 124 [.t 51, (.k (.string ⟨#[100, 101, 99]⟩)), (i' 11), (.t 52)])] [0]) (c89x3)
def c89x5 : AC := .seq (.reg [m' 48 0, o' 49 (.bsl [(.int .i64 0)] 2 [(0, (i' 2)), (1, (i' 4))]), o' 50 (.call 124 [.t 48, (.k (.string ⟨#[105, 110, 99]⟩)), (i' 10), (.t 49)])] [0]) (c89x4)
def c89x6 : AC := .seq (.reg [m' 45 0, o' 46 (.bsl [(.int .i64 0)] 2 [(0, (i' 1)), (1, (i' 2))]), o' 47 (.call 123 [.t 45, (.k (.string ⟨#[99, 112, 121]⟩)), (i' 6), (i' 2), (.t 46)])] [0]) (c89x5)
def c89x7 : AC := .seq (.reg [m' 42 0, o' 43 (.bsl [(.int .i64 0)] 2 [(0, (i' 1)), (1, (i' 2))]), o' 44 (.call 123 [.t 42, (.k (.string ⟨#[99, 112, 120]⟩)), (i' 6), (i' 1), (.t 43)])] [0]) (c89x6)
def c89x8 : AC := .reg [o' 41 (.bin .add (.t 30) (i' 1)), m' 30 41] [0, 28, 29, 30]
def c89x9 : AC := .reg [m' 34 0, o' 35 (.fad 0 (.t 3)), o' 36 (.ld none (.t 35)), o' 37 (.fad 1 (.t 3)), o' 38 (.ld none (.t 37)), o' 39 (.bsl [(.int .i64 0)] 4 [(0, (i' 1)), (1, (i' 2)), (2, (i' 4)), (3, (i' 5))]), o' 40 (.call 123 [.t 34, .t 36, .t 38, i' 0, .t 39])] [0, 28, 29, 30]
def c89x10 : AC := .seq (.reg [o' 32 (.idx 2 none (.t 28) (.t 30)), o' 33 (.ld (some 2) (.t 32)), o' 3 (.zero [(.string ⟨#[]⟩), (.int .i64 0)]), n' (.st 2 (.t 3) (.t 33))] [0, 3, 28, 29, 30]) (c89x9)
def c89x11 : AC := .block 1 (c89x10)
def c89x12 : AC := .seq (c89x11) (c89x8)
def c89x13 : AC := .cond (.t 31) (.skip) (.exit 0)
def c89x14 : AC := .seq (c89x13) (c89x12)
def c89x15 : AC := .seq (.reg [o' 31 (.bin .lss (.t 30) (.t 29))] [0, 28, 29, 30, 31]) (c89x14)
def c89x16 : AC := .loop (c89x15)
def c89x17 : AC := .block 0 (c89x16)
def c89x18 : AC := .seq (.reg [o' 22 (.build [(.string ⟨#[]⟩), (.int .i64 0)] [(0, 1, (.k (.string ⟨#[97, 100, 99]⟩))), (1, 1, (i' 4))]), o' 23 (.build [(.string ⟨#[]⟩), (.int .i64 0)] [(0, 1, (.k (.string ⟨#[115, 98, 99]⟩))), (1, 1, (i' 5))]), o' 24 (.build [(.string ⟨#[]⟩), (.int .i64 0)] [(0, 1, (.k (.string ⟨#[97, 110, 100]⟩))), (1, 1, (i' 7))]), o' 25 (.build [(.string ⟨#[]⟩), (.int .i64 0)] [(0, 1, (.k (.string ⟨#[111, 114, 97]⟩))), (1, 1, (i' 8))]), o' 26 (.build [(.string ⟨#[]⟩), (.int .i64 0)] [(0, 1, (.k (.string ⟨#[101, 111, 114]⟩))), (1, 1, (i' 9))]), o' 27 (.build [(.string ⟨#[]⟩), (.int .i64 0)] [(0, 1, (.k (.string ⟨#[99, 109, 112]⟩))), (1, 1, (i' 6))]), o' 28 (.bsl [(.string ⟨#[]⟩), (.int .i64 0)] 6 [(0, (.t 22)), (1, (.t 23)), (2, (.t 24)), (3, (.t 25)), (4, (.t 26)), (5, (.t 27))]), o' 29 (.len (.t 28)), o' 30 (.mv (i' 0))] [0, 28, 29, 30]) (c89x17)
def c89x19 : AC := .seq (c89x18) (c89x7)
def c89x20 : AC := .seq (.reg [m' 19 0, o' 20 (.bsl [(.int .i64 0)] 2 [(0, (i' 2)), (1, (i' 4))]), o' 21 (.call 122 [.t 19, (.k (.string ⟨#[115, 116, 121]⟩)), (i' 2), (.t 20)])] [0]) (c89x19)
def c89x21 : AC := .seq (.reg [m' 16 0, o' 17 (.bsl [(.int .i64 0)] 2 [(0, (i' 2)), (1, (i' 4))]), o' 18 (.call 122 [.t 16, (.k (.string ⟨#[115, 116, 120]⟩)), (i' 1), (.t 17)])] [0]) (c89x20)
def c89x22 : AC := .seq (.reg [m' 13 0, o' 14 (.bsl [(.int .i64 0)] 6 [(0, (i' 2)), (1, (i' 3)), (2, (i' 4)), (3, (i' 5)), (4, (i' 6)), (5, (i' 8))]), o' 15 (.call 122 [.t 13, (.k (.string ⟨#[115, 116, 97]⟩)), (i' 0), (.t 14)])] [0]) (c89x21)
def c89x23 : AC := .seq (.reg [m' 10 0, o' 11 (.bsl [(.int .i64 0)] 3 [(0, (i' 1)), (1, (i' 2)), (2, (i' 4))]), o' 12 (.call 121 [.t 10, (.k (.string ⟨#[108, 100, 121]⟩)), (i' 2), (.t 11)])] [0]) (c89x22)
def c89x24 : AC := .seq (.reg [m' 7 0, o' 8 (.bsl [(.int .i64 0)] 3 [(0, (i' 1)), (1, (i' 2)), (2, (i' 4))]), o' 9 (.call 121 [.t 7, (.k (.string ⟨#[108, 100, 120]⟩)), (i' 1), (.t 8)])] [0]) (c89x23)
def c89 : AC := .seq (.reg [m' 4 0, o' 5 (.bsl [(.int .i64 0)] 7 [(0, (i' 1)), (1, (i' 2)), (2, (i' 3)), (3, (i' 4)), (4, (i' 5)), (5, (i' 6)), (6, (i' 8))]), o' 6 (.call 121 [.t 4, (.k (.string ⟨#[108, 100, 97]⟩)), (i' 0), (.t 5)])] [0]) (c89x24)
theorem k89 : Tryz.f89.body.bind (compC Tryz.prog Tryz.f89.ntmps v89) = some c89 := by kernel_rfl
theorem e89 : enters Tryz.prog 89 = true := by kernel_rfl
theorem q89 : Tryz.f89.results.toList.mapM (compRes Tryz.prog) = some r89 := by kernel_rfl
def v90 : List (Nat × List Nat) := [(0, [0, 9, 10, 11]), (1, [0, 9, 10, 11, 12]), (2, [0, 3, 9, 10, 11]), (3, [0, 9, 10, 11]), (4, [0, 9, 10, 11]), (5, [0]), (6, [0]), (7, [0]), (8, [0]), (9, [0]), (10, [0]), (11, [0]), (12, [0]), (13, [0]), (14, [0]), (15, [0]), (16, [0]), (17, [0]), (18, [])]
def r90 : List AR := []
def c90x0 : AC := .reg [m' 103 0, o' 104 (.call 92 [i' 5, i' 4, (.k (.slice none 0 0))]), o' 105 (.bsl [(.int .i64 0), (.int .i64 0), (.int .i64 0), (.slice none 0 0)] 1 [(0, (.t 104))]), o' 106 (.call 125 [.t 103, (.k (.string ⟨#[112, 108, 112]⟩)), (i' 0), (.t 105)])] []
def c90x1 : AC := .seq (.reg [m' 99 0, o' 100 (.call 129 [i' 4, i' 4, (.k (.slice none 0 0))]), o' 101 (.bsl [(.int .i64 0), (.int .i64 0), (.int .i64 0), (.slice none 0 0)] 1 [(0, (.t 100))]), o' 102 (.call 125 [.t 99, (.k (.string ⟨#[112, 104, 112]⟩)), (i' 0), (.t 101)])] [0]) (c90x0)
def c90x2 : AC := .seq (.reg [m' 93 0, o' 94 (.call 128 [i' 3, i' 0]), o' 95 (.bsl [(.int .i64 0), (.int .i64 0), (.int .i64 0), (.int .i64 0)] 1 [(0, (.t 94))]), o' 96 (.call 92 [i' 5, i' 0, .t 95]), o' 97 (.bsl [(.int .i64 0), (.int .i64 0), (.int .i64 0), (.slice none 0 0)] 1 [(0, (.t 96))]), o' 98 (.call 125 [.t 93, (.k (.string ⟨#[112, 108, 97]⟩)), (i' 0), (.t 97)])] [0]) (c90x1)
def c90x3 : AC := .seq (.reg [m' 89 0, o' 90 (.call 129 [i' 4, i' 0, (.k (.slice none 0 0))]), o' 91 (.bsl [(.int .i64 0), (.int .i64 0), (.int .i64 0), (.slice none 0 0)] 1 [(0, (.t 90))]), o' 92 (.call 125 [.t 89, (.k (.string ⟨#[112, 104, 97]⟩)), (i' 0), (.t 91)])] [0]) (c90x2)
def c90x4 : AC := .seq (.reg [m' 85 0, o' 86 (.call 126 [(.k (.slice none 0 0))]), o' 87 (.bsl [(.int .i64 0), (.int .i64 0), (.int .i64 0), (.slice none 0 0)] 1 [(0, (.t 86))]), o' 88 (.call 125 [.t 85, (.k (.string ⟨#[110, 111, 112]⟩)), (i' 0), (.t 87)])] [0]) (c90x3)
def c90x5 : AC := .seq (.reg [m' 79 0, o' 80 (.build [(.int .i64 0), (.int .i64 0), (.int .i64 0), (.int .i64 0)] [(0, 1, (i' 16)), (3, 1, (i' 4))]), o' 81 (.bsl [(.int .i64 0), (.int .i64 0), (.int .i64 0), (.int .i64 0)] 1 [(0, (.t 80))]), o' 82 (.call 126 [.t 81]), o' 83 (.bsl [(.int .i64 0), (.int .i64 0), (.int .i64 0), (.slice none 0 0)] 1 [(0, (.t 82))]), o' 84 (.call 125 [.t 79, (.k (.string ⟨#[115, 101, 105]⟩)), (i' 0), (.t 83)])] [0]) (c90x4)
def c90x6 : AC := .seq (.reg [m' 73 0, o' 74 (.build [(.int .i64 0), (.int .i64 0), (.int .i64 0), (.int .i64 0)] [(0, 1, (i' 17)), (3, 1, (i' 4))]), o' 75 (.bsl [(.int .i64 0), (.int .i64 0), (.int .i64 0), (.int .i64 0)] 1 [(0, (.t 74))]), o' 76 (.call 126 [.t 75]), o' 77 (.bsl [(.int .i64 0), (.int .i64 0), (.int .i64 0), (.slice none 0 0)] 1 [(0, (.t 76))]), o' 78 (.call 125 [.t 73, (.k (.string ⟨#[99, 108, 105]⟩)), (i' 0), (.t 77)])] [0]) (c90x5)
def c90x7 : AC := .seq (.reg [m' 67 0, o' 68 (.build [(.int .i64 0), (.int .i64 0), (.int .i64 0), (.int .i64 0)] [(0, 1, (i' 16)), (3, 1, (i' 1))]), o' 69 (.bsl [(.int .i64 0), (.int .i64 0), (.int .i64 0), (.int .i64 0)] 1 [(0, (.t 68))]), o' 70 (.call 126 [.t 69]), o' 71 (.bsl [(.int .i64 0), (.int .i64 0), (.int .i64 0), (.slice none 0 0)] 1 [(0, (.t 70))]), o' 72 (.call 125 [.t 67, (.k (.string ⟨#[115, 101, 99]⟩)), (i' 0), (.t 71)])] [0]) (c90x6)
def c90x8 : AC := .seq (.reg [m' 61 0, o' 62 (.build [(.int .i64 0), (.int .i64 0), (.int .i64 0), (.int .i64 0)] [(0, 1, (i' 17)), (3, 1, (i' 1))]), o' 63 (.bsl [(.int .i64 0), (.int .i64 0), (.int .i64 0), (.int .i64 0)] 1 [(0, (.t 62))]), o' 64 (.call 126 [.t 63]), o' 65 (.bsl [(.int .i64 0), (.int .i64 0), (.int .i64 0), (.slice none 0 0)] 1 [(0, (.t 64))]), o' 66 (.call 125 [.t 61, (.k (.string ⟨#[99, 108, 99]⟩)), (i' 0), (.t 65)])] [0]) (c90x7)
def c90x9 : AC := .seq (.reg [m' 55 0, o' 56 (.call 128 [i' 11, i' 2]), o' 57 (.bsl [(.int .i64 0), (.int .i64 0), (.int .i64 0), (.int .i64 0)] 1 [(0, (.t 56))]), o' 58 (.call 126 [.t 57]), o' 59 (.bsl [(.int .i64 0), (.int .i64 0), (.int .i64 0), (.slice none 0 0)] 1 [(0, (.t 58))]), o' 60 (.call 125 [.t 55, (.k (.string ⟨#[100, 101, 121]⟩)), (i' 0), (.t 59)])] [0]) (c90x8)
def c90x10 : AC := .seq (.reg [m' 49 0, o' 50 (.call 128 [i' 11, i' 1]), o' 51 (.bsl [(.int .i64 0), (.int .i64 0), (.int .i64 0), (.int .i64 0)] 1 [(0, (.t 50))]), o' 52 (.call 126 [.t 51]), o' 53 (.bsl [(.int .i64 0), (.int .i64 0), (.int .i64 0), (.slice none 0 0)] 1 [(0, (.t 52))]), o' 54 (.call 125 [.t 49, (.k (.string ⟨#[100, 101, 120]⟩)), (i' 0), (.t 53)])] [0]) (c90x9)
def c90x11 : AC := .seq (.reg [m' 43 0, o' 44 (.call 128 [i' 10, i' 2]), o' 45 (.bsl [(.int .i64 0), (.int .i64 0), (.int .i64 0), (.int .i64 0)] 1 [(0, (.t 44))]), o' 46 (.call 126 [.t 45]), o' 47 (.bsl [(.int .i64 0), (.int .i64 0), (.int .i64 0), (.slice none 0 0)] 1 [(0, (.t 46))]), o' 48 (.call 125 [.t 43, (.k (.string ⟨#[105, 110, 121]⟩)), (i' 0), (.t 47)])] [0]) (c90x10)
def c90x12 : AC := .seq (.reg [m' 37 0, o' 38 (.call 128 [i' 10, i' 1]), o' 39 (.bsl [(.int .i64 0), (.int .i64 0), (.int .i64 0), (.int .i64 0)] 1 [(0, (.t 38))]), o' 40 (.call 126 [.t 39]), o' 41 (.bsl [(.int .i64 0), (.int .i64 0), (.int .i64 0), (.slice none 0 0)] 1 [(0, (.t 40))]), o' 42 (.call 125 [.t 37, (.k (.string ⟨#[105, 110, 120]⟩)), (i' 0), (.t 41)])] [0]) (c90x11)
def c90x13 : AC := .seq (.reg [m' 31 0, o' 32 (.call 127 [i' 1, i' 3, i' 1]), o' 33 (.bsl [(.int .i64 0), (.int .i64 0), (.int .i64 0), (.int .i64 0)] 1 [(0, (.t 32))]), o' 34 (.call 126 [.t 33]), o' 35 (.bsl [(.int .i64 0), (.int .i64 0), (.int .i64 0), (.slice none 0 0)] 1 [(0, (.t 34))]), o' 36 (.call 125 [.t 31, (.k (.string ⟨#[116, 120, 115]⟩)), (i' 0), (.t 35)])] [0]) (c90x12)
def c90x14 : AC := .reg [o' 30 (.bin .add (.t 11) (i' 1)), m' 11 30] [0, 9, 10, 11]
def c90x15 : AC := .dreg [m' 15 0, o' 16 (.fad 0 (.t 3)), o' 17 (.ld none (.t 16)), o' 18 (.fad 1 (.t 3)), o' 19 (.ld none (.t 18)), o' 20 (.fad 2 (.t 3)), o' 21 (.ld none (.t 20)), o' 22 (.call 127 [i' 1, .t 19, .t 21]), o' 23 (.fad 1 (.t 3)), o' 24 (.ld none (.t 23)), o' 25 (.call 128 [i' 3, .t 24]), o' 26 (.bsl [(.int .i64 0), (.int .i64 0), (.int .i64 0), (.int .i64 0)] 2 [(0, (.t 22)), (1, (.t 25))]), o' 27 (.call 126 [.t 26]), o' 28 (.bsl [(.int .i64 0), (.int .i64 0), (.int .i64 0), (.slice none 0 0)] 1 [(0, (.t 27))]), o' 29 (.call 125 [.t 15, .t 17, i' 0, .t 28])] [[], [], [1], [], [3], [], [5], [3, 4, 5, 6], [], [8], [3, 4, 5, 6, 7, 8, 9], [3, 4, 5, 6, 7, 8, 9, 10], [3, 4, 5, 6, 7, 8, 9, 10, 11], [3, 4, 5, 6, 7, 8, 9, 10, 11, 12], [0, 1, 2, 3, 4, 5, 6, 7, 8, 9, 10, 11, 12, 13]] [0, 9, 10, 11]
def c90x16 : AC := .seq (.reg [o' 13 (.idx 3 none (.t 9) (.t 11)), o' 14 (.ld (some 3) (.t 13)), o' 3 (.zero [(.string ⟨#[]⟩), (.int .i64 0), (.int .i64 0)]), n' (.st 3 (.t 3) (.t 14))] [0, 3, 9, 10, 11]) (c90x15)
def c90x17 : AC := .block 1 (c90x16)
def c90x18 : AC := .seq (c90x17) (c90x14)
def c90x19 : AC := .cond (.t 12) (.skip) (.exit 0)
def c90x20 : AC := .seq (c90x19) (c90x18)
def c90x21 : AC := .seq (.reg [o' 12 (.bin .lss (.t 11) (.t 10))] [0, 9, 10, 11, 12]) (c90x20)
def c90x22 : AC := .loop (c90x21)
def c90x23 : AC := .block 0 (c90x22)
def c90x24 : AC := .seq (.reg [o' 4 (.build [(.string ⟨#[]⟩), (.int .i64 0), (.int .i64 0)] [(0, 1, (.k (.string ⟨#[116, 97, 120]⟩))), (1, 1, (i' 1)), (2, 1, (i' 0))]), o' 5 (.build [(.string ⟨#[]⟩), (.int .i64 0), (.int .i64 0)] [(0, 1, (.k (.string ⟨#[116, 97, 121]⟩))), (1, 1, (i' 2)), (2, 1, (i' 0))]), o' 6 (.build [(.string ⟨#[]⟩), (.int .i64 0), (.int .i64 0)] [(0, 1, (.k (.string ⟨#[116, 120, 97]⟩))), (1, 1, (i' 0)), (2, 1, (i' 1))]), o' 7 (.build [(.string ⟨#[]⟩), (.int .i64 0), (.int .i64 0)] [(0, 1, (.k (.string ⟨#[116, 121, 97]⟩))), (1, 1, (i' 0)), (2, 1, (i' 2))]), o' 8 (.build [(.string ⟨#[]⟩), (.int .i64 0), (.int .i64 0)] [(0, 1, (.k (.string ⟨#[116, 115, 120]⟩))), (1, 1, (i' 1)), (2, 1, (i' 3))]), o' 9 (.bsl [(.string ⟨#[]⟩), (.int .i64 0), (.int .i64 0)] 5 [(0, (.t 4)), (1, (.t 5)), (2, (.t 6)), (3, (.t 7)), (4, (.t 8))]), o' 10 (.len (.t 9)), o' 11 (.mv (i' 0))] [0, 9, 10, 11]) (c90x23)
def c90 : AC := .seq (c90x24) (c90x13)
theorem k90 : Tryz.f90.body.bind (compC Tryz.prog Tryz.f90.ntmps v90) = some c90 := by kernel_rfl
theorem e90 : enters Tryz.prog 90 = true := by kernel_rfl
theorem q90 : Tryz.f90.results.toList.mapM (compRes Tryz.prog) = some r90 := by kernel_rfl
def v91 : List (Nat × List Nat) := [(0, [0]), (1, [0]), (2, [0]), (3, [0]), (4, [0, 45, 46, 47]), (5, [0, 45, 46, 47, 48]), (6, [0, 3, 45, 46, 47]), (7, [0, 45, 46, 47]), (8, [0, 45, 46, 47])]
def r91 : List AR := []
def c91x0 : AC := .reg [o' 66 (.bin .add (.t 47) (i' 1)), m' 47 66] [0, 45, 46, 47]
def c91x1 : AC := .dreg [m' 51 0, o' 52 (.fad 0 (.t 3)), o' 53 (.ld none (.t 52)), o' 54 (.fad 2 (.t 3)), o' 55 (.ld none (.t 54)), o' 56 (.fad 1 (.t 3)), o' 57 (.ld none (.t 56)), o' 58 (.build [(.int .i64 0), (.int .i64 0), (.int .i64 0), (.int .i64 0)] [(0, 1, (i' 24)), (2, 1, (.t 55)), (3, 1, (.t 57))]), o' 59 (.bsl [(.int .i64 0), (.int .i64 0), (.int .i64 0), (.int .i64 0)] 1 [(0, (.t 58))]), o' 60 (.call 92 [i' 0, i' 5, .t 59]), o' 61 (.call 127 [i' 23, i' 7, i' 5]), o' 62 (.bsl [(.int .i64 0), (.int .i64 0), (.int .i64 0), (.int .i64 0)] 1 [(0, (.t 61))]), o' 63 (.call 126 [.t 62]), o' 64 (.bsl [(.int .i64 0), (.int .i64 0), (.int .i64 0), (.slice none 0 0)] 2 [(0, (.t 60)), (1, (.t 63))]), o' 65 (.call 125 [.t 51, .t 53, i' 7, .t 64])] [[], [], [1], [], [3], [], [5], [3, 4, 5, 6], [3, 4, 5, 6, 7], [3, 4, 5, 6, 7, 8], [3, 4, 5, 6, 7, 8, 9], [3, 4, 5, 6, 7, 8, 9, 10], [3, 4, 5, 6, 7, 8, 9, 10, 11], [3, 4, 5, 6, 7, 8, 9, 10, 11, 12], [0, 1, 2, 3, 4, 5, 6, 7, 8, 9, 10, 11, 12, 13]] [0, 45, 46, 47]
def c91x2 : AC := .seq (.reg [o' 49 (.idx 3 none (.t 45) (.t 47)), o' 50 (.ld (some 3) (.t 49)), o' 3 (.zero [(.string ⟨#[]⟩), (.int .i64 0), (.int .i64 0)]), n' (.st 3 (.t 3) (.t 50))] [0, 3, 45, 46, 47]) (c91x1)
def c91x3 : AC := .block 1 (c91x2)
def c91x4 : AC := .seq (c91x3) (c91x0)
def c91x5 : AC := .cond (.t 48) (.skip) (.exit 0)
def c91x6 : AC := .seq (c91x5) (c91x4)
def c91x7 : AC := .seq (.reg [o' 48 (.bin .lss (.t 47) (.t 46))] [0, 45, 46, 47, 48]) (c91x6)
def c91x8 : AC := .loop (c91x7)
def c91x9 : AC := .block 0 (c91x8)
def c91x10 : AC := .seq (.reg [o' 39 (.build [(.string ⟨#[]⟩), (.int .i64 0), (.int .i64 0)] [(0, 1, (.k (.string ⟨#[98, 101, 113]⟩))), (1, 1, (i' 2)), (2, 1, (i' 1))]), o' 40 (.build [(.string ⟨#[]⟩), (.int .i64 0), (.int .i64 0)] [(0, 1, (.k (.string ⟨#[98, 110, 101]⟩))), (1, 1, (i' 2)), (2, 1, (i' 0))]), o' 41 (.build [(.string ⟨#[]⟩), (.int .i64 0), (.int .i64 0)] [(0, 1, (.k (.string ⟨#[98, 99, 115]⟩))), (1, 1, (i' 1)), (2, 1, (i' 1))]), o' 42 (.build [(.string ⟨#[]⟩), (.int .i64 0), (.int .i64 0)] [(0, 1, (.k (.string ⟨#[98, 99, 99]⟩))), (1, 1, (i' 1)), (2, 1, (i' 0))]), o' 43 (.build [(.string ⟨#[]⟩), (.int .i64 0), (.int .i64 0)] [(0, 1, (.k (.string ⟨#[98, 109, 105]⟩))), (1, 1, (i' 128)), (2, 1, (i' 1))]), o' 44 (.build [(.string ⟨#[]⟩), (.int .i64 0), (.int .i64 0)] [(0, 1, (.k (.string ⟨#[98, 112, 108]⟩))), (1, 1, (i' 128)), (2, 1, (i' 0))]), o' 45 (.bsl [(.string ⟨#[]⟩), (.int .i64 0), (.int .i64 0)] 6 [(0, (.t 39)), (1, (.t 40)), (2, (.t 41)), (3, (.t 42)), (4, (.t 43)), (5, (.t 44))]), o' 46 (.len (.t 45)), o' 47 (.mv (i' 0))] [0, 45, 46, 47]) (c91x9)
def c91x11 : AC := .seq (.reg [m' 32 0, o' 33 (.call 92 [i' 5, i' 4, (.k (.slice none 0 0))]), o' 34 (.call 92 [i' 5, i' 5, (.k (.slice none 0 0))]), o' 35 (.call 93 [i' 7]), o' 36 (.call 92 [i' 5, i' 6, .t 35]), o' 37 (.bsl [(.int .i64 0), (.int .i64 0), (.int .i64 0), (.slice none 0 0)] 3 [(0, (.t 33)), (1, (.t 34)), (2, (.t 36))]), o' 38 (.call 125 [.t 32, (.k (.string ⟨#[114, 116, 105]⟩)), (i' 0), (.t 37)])] [0]) (c91x10)
def c91x12 : AC := .seq (.reg [m' 26 0, o' 27 (.call 92 [i' 5, i' 5, (.k (.slice none 0 0))]), o' 28 (.call 93 [i' 7]), o' 29 (.call 92 [i' 5, i' 6, .t 28]), o' 30 (.bsl [(.int .i64 0), (.int .i64 0), (.int .i64 0), (.slice none 0 0)] 2 [(0, (.t 27)), (1, (.t 29))]), o' 31 (.call 125 [.t 26, (.k (.string ⟨#[114, 116, 115]⟩)), (i' 0), (.t 30)])] [0]) (c91x11)
def c91x13 : AC := .seq (.reg [m' 10 0, o' 11 (.call 127 [i' 18, i' 8, i' 5]), o' 12 (.bsl [(.int .i64 0), (.int .i64 0), (.int .i64 0), (.int .i64 0)] 1 [(0, (.t 11))]), o' 13 (.call 92 [i' 0, i' 5, .t 12]), o' 14 (.call 127 [i' 19, i' 8, i' 5]), o' 15 (.call 127 [i' 21, i' 5, i' 7]), o' 16 (.bsl [(.int .i64 0), (.int .i64 0), (.int .i64 0), (.int .i64 0)] 2 [(0, (.t 14)), (1, (.t 15))]), o' 17 (.call 92 [i' 0, i' 5, .t 16]), o' 18 (.call 127 [i' 20, i' 5, i' 7]), o' 19 (.bsl [(.int .i64 0), (.int .i64 0), (.int .i64 0), (.int .i64 0)] 1 [(0, (.t 18))]), o' 20 (.call 129 [i' 4, i' 5, .t 19]), o' 21 (.call 127 [i' 1, i' 7, i' 8]), o' 22 (.bsl [(.int .i64 0), (.int .i64 0), (.int .i64 0), (.int .i64 0)] 1 [(0, (.t 21))]), o' 23 (.call 129 [i' 4, i' 5, .t 22]), o' 24 (.bsl [(.int .i64 0), (.int .i64 0), (.int .i64 0), (.slice none 0 0)] 4 [(0, (.t 13)), (1, (.t 17)), (2, (.t 20)), (3, (.t 23))]), o' 25 (.call 125 [.t 10, (.k (.string ⟨#[106, 115, 114]⟩)), (i' 4), (.t 24)])] [0]) (c91x12)
def c91 : AC := .seq (.reg [m' 4 0, o' 5 (.call 92 [i' 0, i' 5, (.k (.slice none 0 0))]), o' 6 (.call 93 [i' 7]), o' 7 (.call 92 [i' 0, i' 6, .t 6]), o' 8 (.bsl [(.int .i64 0), (.int .i64 0), (.int .i64 0), (.slice none 0 0)] 2 [(0, (.t 5)), (1, (.t 7))]), o' 9 (.call 125 [.t 4, (.k (.string ⟨#[106, 109, 112]⟩)), (i' 4), (.t 8)])] [0]) (c91x13)
theorem k91 : Tryz.f91.body.bind (compC Tryz.prog Tryz.f91.ntmps v91) = some c91 := by kernel_rfl
theorem e91 : enters Tryz.prog 91 = true := by kernel_rfl
theorem q91 : Tryz.f91.results.toList.mapM (compRes Tryz.prog) = some r91 := by kernel_rfl
def v92 : List (Nat × List Nat) := [(0, [0, 1, 2, 6]), (1, [6])]
def r92 : List AR := [.cell (some 4) 6]
def c92x0 : AC := .seq (.reg [m' 7 0, m' 8 1, m' 9 2, o' 10 (.build [(.int .i64 0), (.int .i64 0), (.int .i64 0), (.slice none 0 0)] [(0, 1, (i' 1)), (1, 1, (.t 7)), (2, 1, (.t 8)), (3, 1, (.t 9))]), n' (.st 4 (.t 6) (.t 10))] [6]) (.ret)
def c92 : AC := .seq (.reg [o' 6 (.zero [(.int .i64 0), (.int .i64 0), (.int .i64 0), (.slice none 0 0)])] [0, 1, 2, 6]) (c92x0)
theorem k92 : Tryz.f92.body.bind (compC Tryz.prog Tryz.f92.ntmps v92) = some c92 := by kernel_rfl
theorem e92 : enters Tryz.prog 92 = true := by kernel_rfl
theorem q92 : Tryz.f92.results.toList.mapM (compRes Tryz.prog) = some r92 := by kernel_rfl
def v93 : List (Nat × List Nat) := [(0, [0]), (1, [2])]
def r93 : List AR := [.t 2]
def c93x0 : AC := .seq (.reg [m' 3 0, o' 4 (.call 127 [i' 18, .t 3, i' 5]), m' 5 0, o' 6 (.call 127 [i' 19, .t 5, i' 6]), o' 7 (.bsl [(.int .i64 0), (.int .i64 0), (.int .i64 0), (.int .i64 0)] 2 [(0, (.t 4)), (1, (.t 6))]), m' 2 7] [2]) (.ret)
def c93 : AC := .seq (.reg [o' 2 (.mv (.k (.slice none 0 0)))] [0]) (c93x0)
theorem k93 : Tryz.f93.body.bind (compC Tryz.prog Tryz.f93.ntmps v93) = some c93 := by kernel_rfl
theorem e93 : enters Tryz.prog 93 = true := by kernel_rfl
theorem q93 : Tryz.f93.results.toList.mapM (compRes Tryz.prog) = some r93 := by kernel_rfl
def v94 : List (Nat × List Nat) := [(0, [0, 1]), (1, [4])]
def r94 : List AR := [.t 4]
def c94x0 : AC := .seq (.reg [o' 5 (.call 127 [i' 21, i' 5, i' 7]), o' 6 (.bsl [(.int .i64 0), (.int .i64 0), (.int .i64 0), (.int .i64 0)] 1 [(0, (.t 5))]), o' 7 (.call 126 [.t 6]), o' 8 (.call 127 [i' 20, i' 5, i' 7]), o' 9 (.bsl [(.int .i64 0), (.int .i64 0), (.int .i64 0), (.int .i64 0)] 1 [(0, (.t 8))]), o' 10 (.call 129 [i' 4, i' 5, .t 9]), o' 11 (.call 129 [i' 4, i' 5, (.k (.slice none 0 0))]), o' 12 (.build [(.int .i64 0), (.int .i64 0), (.int .i64 0), (.int .i64 0)] [(0, 1, (i' 16)), (3, 1, (i' 4))]), o' 13 (.bsl [(.int .i64 0), (.int .i64 0), (.int .i64 0), (.int .i64 0)] 1 [(0, (.t 12))]), o' 14 (.call 129 [i' 4, i' 4, .t 13]), m' 15 0, o' 16 (.call 92 [.t 15, i' 5, (.k (.slice none 0 0))]), m' 17 1, o' 18 (.call 93 [i' 7]), o' 19 (.call 92 [.t 17, i' 6, .t 18]), o' 20 (.bsl [(.int .i64 0), (.int .i64 0), (.int .i64 0), (.slice none 0 0)] 6 [(0, (.t 7)), (1, (.t 10)), (2, (.t 11)), (3, (.t 14)), (4, (.t 16)), (5, (.t 19))]), m' 4 20] [4]) (.ret)
def c94 : AC := .seq (.reg [o' 4 (.mv (.k (.slice none 0 0)))] [0, 1]) (c94x0)
theorem k94 : Tryz.f94.body.bind (compC Tryz.prog Tryz.f94.ntmps v94) = some c94 := by kernel_rfl
theorem e94 : enters Tryz.prog 94 = true := by kernel_rfl
theorem q94 : Tryz.f94.results.toList.mapM (compRes Tryz.prog) = some r94 := by kernel_rfl
def v121 : List (Nat × List Nat) := [(0, [0, 1, 2, 10, 11, 12]), (1, [0, 1, 2, 10, 11, 12, 13]), (2, [0, 1, 2, 9, 10, 11, 12]), (3, [0, 1, 2, 10, 11, 12]), (4, [0, 1, 2, 10, 11, 12])]
def r121 : List AR := []
def c121x0 : AC := .reg [o' 27 (.bin .add (.t 12) (i' 1)), m' 12 27] [0, 1, 2, 10, 11, 12]
def c121x1 : AC := .reg [m' 16 0, m' 17 1, m' 18 9, m' 19 9, m' 20 2, o' 21 (.call 127 [i' 1, .t 20, i' 5]), m' 22 2, o' 23 (.call 128 [i' 3, .t 22]), o' 24 (.bsl [(.int .i64 0), (.int .i64 0), (.int .i64 0), (.int .i64 0)] 2 [(0, (.t 21)), (1, (.t 23))]), o' 25 (.call 141 [.t 19, .t 24]), o' 26 (.call 125 [.t 16, .t 17, .t 18, .t 25])] [0, 1, 2, 10, 11, 12]
def c121x2 : AC := .seq (.reg [o' 14 (.idx 1 none (.t 10) (.t 12)), o' 15 (.ld none (.t 14)), m' 9 15] [0, 1, 2, 9, 10, 11, 12]) (c121x1)
def c121x3 : AC := .block 1 (c121x2)
def c121x4 : AC := .seq (c121x3) (c121x0)
def c121x5 : AC := .cond (.t 13) (.skip) (.exit 0)
def c121x6 : AC := .seq (c121x5) (c121x4)
def c121x7 : AC := .seq (.reg [o' 13 (.bin .lss (.t 12) (.t 11))] [0, 1, 2, 10, 11, 12, 13]) (c121x6)
def c121x8 : AC := .loop (c121x7)
def c121x9 : AC := .block 0 (c121x8)
def c121 : AC := .seq (.reg [m' 10 3, o' 11 (.len (.t 10)), o' 12 (.mv (i' 0))] [0, 1, 2, 10, 11, 12]) (c121x9)
theorem k121 : Tryz.f121.body.bind (compC Tryz.prog Tryz.f121.ntmps v121) = some c121 := by kernel_rfl
theorem e121 : enters Tryz.prog 121 = true := by kernel_rfl
theorem q121 : Tryz.f121.results.toList.mapM (compRes Tryz.prog) = some r121 := by kernel_rfl
def v122 : List (Nat × List Nat) := [(0, [0, 1, 2, 10, 11, 12]), (1, [0, 1, 2, 10, 11, 12, 13]), (2, [0, 1, 2, 9, 10, 11, 12]), (3, [0, 1, 2, 10, 11, 12]), (4, [0, 1, 2, 10, 11, 12])]
def r122 : List AR := []
def c122x0 : AC := .reg [o' 26 (.bin .add (.t 12) (i' 1)), m' 12 26] [0, 1, 2, 10, 11, 12]
def c122x1 : AC := .reg [m' 16 0, m' 17 1, m' 18 9, m' 19 9, o' 20 (.call 142 [.t 19]), m' 21 2, o' 22 (.call 129 [i' 2, .t 21, (.k (.slice none 0 0))]), o' 23 (.bsl [(.int .i64 0), (.int .i64 0), (.int .i64 0), (.slice none 0 0)] 1 [(0, (.t 22))]), o' 24 (.app 4 48 (.t 20) (.t 23)), o' 25 (.call 125 [.t 16, .t 17, .t 18, .t 24])] [0, 1, 2, 10, 11, 12]
def c122x2 : AC := .seq (.reg [o' 14 (.idx 1 none (.t 10) (.t 12)), o' 15 (.ld none (.t 14)), m' 9 15] [0, 1, 2, 9, 10, 11, 12]) (c122x1)
def c122x3 : AC := .block 1 (c122x2)
def c122x4 : AC := .seq (c122x3) (c122x0)
def c122x5 : AC := .cond (.t 13) (.skip) (.exit 0)
def c122x6 : AC := .seq (c122x5) (c122x4)
def c122x7 : AC := .seq (.reg [o' 13 (.bin .lss (.t 12) (.t 11))] [0, 1, 2, 10, 11, 12, 13]) (c122x6)
def c122x8 : AC := .loop (c122x7)
def c122x9 : AC := .block 0 (c122x8)
def c122 : AC := .seq (.reg [m' 10 3, o' 11 (.len (.t 10)), o' 12 (.mv (i' 0))] [0, 1, 2, 10, 11, 12]) (c122x9)
theorem k122 : Tryz.f122.body.bind (compC Tryz.prog Tryz.f122.ntmps v122) = some c122 := by kernel_rfl
theorem e122 : enters Tryz.prog 122 = true := by kernel_rfl
theorem q122 : Tryz.f122.results.toList.mapM (compRes Tryz.prog) = some r122 := by kernel_rfl
def v123 : List (Nat × List Nat) := [(0, [0, 1, 2, 3, 12, 13, 14]), (1, [0, 1, 2, 3, 12, 13, 14, 15]), (2, [0, 1, 2, 3, 11, 12, 13, 14]), (3, [0, 1, 2, 3, 12, 13, 14]), (4, [0, 1, 2, 3, 12, 13, 14])]
def r123 : List AR := []
def c123x0 : AC := .reg [o' 28 (.bin .add (.t 14) (i' 1)), m' 14 28] [0, 1, 2, 3, 12, 13, 14]
def c123x1 : AC := .reg [m' 18 0, m' 19 1, m' 20 11, m' 21 11, m' 22 2, m' 23 3, o' 24 (.call 127 [.t 22, .t 23, i' 5]), o' 25 (.bsl [(.int .i64 0), (.int .i64 0), (.int .i64 0), (.int .i64 0)] 1 [(0, (.t 24))]), o' 26 (.call 141 [.t 21, .t 25]), o' 27 (.call 125 [.t 18, .t 19, .t 20, .t 26])] [0, 1, 2, 3, 12, 13, 14]
def c123x2 : AC := .seq (.reg [o' 16 (.idx 1 none (.t 12) (.t 14)), o' 17 (.ld none (.t 16)), m' 11 17] [0, 1, 2, 3, 11, 12, 13, 14]) (c123x1)
def c123x3 : AC := .block 1 (c123x2)
def c123x4 : AC := .seq (c123x3) (c123x0)
def c123x5 : AC := .cond (.t 15) (.skip) (.exit 0)
def c123x6 : AC := .seq (c123x5) (c123x4)
def c123x7 : AC := .seq (.reg [o' 15 (.bin .lss (.t 14) (.t 13))] [0, 1, 2, 3, 12, 13, 14, 15]) (c123x6)
def c123x8 : AC := .loop (c123x7)
def c123x9 : AC := .block 0 (c123x8)
def c123 : AC := .seq (.reg [m' 12 4, o' 13 (.len (.t 12)), o' 14 (.mv (i' 0))] [0, 1, 2, 3, 12, 13, 14]) (c123x9)
theorem k123 : Tryz.f123.body.bind (compC Tryz.prog Tryz.f123.ntmps v123) = some c123 := by kernel_rfl
theorem e123 : enters Tryz.prog 123 = true := by kernel_rfl
theorem q123 : Tryz.f123.results.toList.mapM (compRes Tryz.prog) = some r123 := by kernel_rfl
def v124 : List (Nat × List Nat) := [(0, [0, 1, 2, 10, 11, 12]), (1, [0, 1, 2, 10, 11, 12, 13]), (2, [0, 1, 2, 9, 10, 11, 12]), (3, [0, 1, 2, 9, 10, 11, 12, 17]), (4, [0, 1, 2, 10, 11, 12]), (5, [0, 1, 2, 10, 11, 12]), (6, [0, 1, 2, 10, 11, 12])]
def r124 : List AR := []
def c124x0 : AC := .reg [o' 40 (.bin .add (.t 12) (i' 1)), m' 12 40] [0, 1, 2, 10, 11, 12]
def c124x1 : AC := .reg [m' 27 0, m' 28 1, m' 29 9, m' 30 9, o' 31 (.call 142 [.t 30]), m' 32 2, o' 33 (.call 128 [.t 32, i' 5]), o' 34 (.bsl [(.int .i64 0), (.int .i64 0), (.int .i64 0), (.int .i64 0)] 1 [(0, (.t 33))]), o' 35 (.call 92 [i' 2, i' 5, .t 34]), o' 36 (.call 129 [i' 2, i' 5, (.k (.slice none 0 0))]), o' 37 (.bsl [(.int .i64 0), (.int .i64 0), (.int .i64 0), (.slice none 0 0)] 2 [(0, (.t 35)), (1, (.t 36))]), o' 38 (.app 4 48 (.t 31) (.t 37)), o' 39 (.call 125 [.t 27, .t 28, .t 29, .t 38])] [0, 1, 2, 10, 11, 12]
def c124x2 : AC := .seq (.reg [m' 18 0, m' 19 1, m' 20 9, m' 21 2, o' 22 (.call 128 [.t 21, i' 0]), o' 23 (.bsl [(.int .i64 0), (.int .i64 0), (.int .i64 0), (.int .i64 0)] 1 [(0, (.t 22))]), o' 24 (.call 126 [.t 23]), o' 25 (.bsl [(.int .i64 0), (.int .i64 0), (.int .i64 0), (.slice none 0 0)] 1 [(0, (.t 24))]), o' 26 (.call 125 [.t 18, .t 19, .t 20, .t 25])] [0, 1, 2, 10, 11, 12]) (.exit 1)
def c124x3 : AC := .cond (.t 17) (c124x2) (.skip)
def c124x4 : AC := .seq (.reg [m' 16 9, o' 17 (.bin .eql (.t 16) (i' 0))] [0, 1, 2, 9, 10, 11, 12, 17]) (c124x3)
def c124x5 : AC := .seq (c124x4) (c124x1)
def c124x6 : AC := .seq (.reg [o' 14 (.idx 1 none (.t 10) (.t 12)), o' 15 (.ld none (.t 14)), m' 9 15] [0, 1, 2, 9, 10, 11, 12]) (c124x5)
def c124x7 : AC := .block 1 (c124x6)
def c124x8 : AC := .seq (c124x7) (c124x0)
def c124x9 : AC := .cond (.t 13) (.skip) (.exit 0)
def c124x10 : AC := .seq (c124x9) (c124x8)
def c124x11 : AC := .seq (.reg [o' 13 (.bin .lss (.t 12) (.t 11))] [0, 1, 2, 10, 11, 12, 13]) (c124x10)
def c124x12 : AC := .loop (c124x11)
def c124x13 : AC := .block 0 (c124x12)
def c124 : AC := .seq (.reg [m' 10 3, o' 11 (.len (.t 10)), o' 12 (.mv (i' 0))] [0, 1, 2, 10, 11, 12]) (c124x13)
theorem k124 : Tryz.f124.body.bind (compC Tryz.prog Tryz.f124.ntmps v124) = some c124 := by kernel_rfl
theorem e124 : enters Tryz.prog 124 = true := by kernel_rfl
theorem q124 : Tryz.f124.results.toList.mapM (compRes Tryz.prog) = some r124 := by kernel_rfl
def v125 : List (Nat × List Nat) := [(0, [])]
def r125 : List AR := []

def c125 : AC := .dreg [m' 8 0, m' 9 0, o' 10 (.nilc (.t 9)), o' 11 (.fad 0 (.t 10)), o' 12 (.ld none (.t 11)), m' 13 0, o' 14 (.nilc (.t 13)), o' 15 (.fad 0 (.t 14)), o' 16 (.ld none (.t 15)), o' 17 (.len (.t 16)), o' 18 (.bin .add (.t 17) (i' 1)), m' 19 1, m' 20 2, m' 21 3, o' 22 (.build [(.int .i64 0), (.string ⟨#[]⟩), (.int .i64 0), (.slice none 0 0)] [(0, 1, (.t 18)), (1, 1, (.t 19)), (2, 1, (.t 20)), (3, 1, (.t 21))]), o' 23 (.bsl [(.int .i64 0), (.string ⟨#[]⟩), (.int .i64 0), (.slice none 0 0)] 1 [(0, (.t 22))]), o' 24 (.app 4 56 (.t 12) (.t 23)), o' 25 (.nilc (.t 8)), o' 26 (.fad 0 (.t 25)), n' (.st 1 (.t 26) (.t 24))] [[], [], [1], [1, 2], [1, 2, 3], [], [5], [5, 6], [5, 6, 7], [5, 6, 7, 8], [5, 6, 7, 8, 9], [], [], [], [5, 6, 7, 8, 9, 10, 11, 12, 13], [5, 6, 7, 8, 9, 10, 11, 12, 13, 14], [1, 2, 3, 4, 5, 6, 7, 8, 9, 10, 11, 12, 13, 14, 15], [0, 1, 2, 3, 4, 5, 6, 7, 8, 9, 10, 11, 12, 13, 14, 15, 16], [0, 1, 2, 3, 4, 5, 6, 7, 8, 9, 10, 11, 12, 13, 14, 15, 16, 17], [0, 1, 2, 3, 4, 5, 6, 7, 8, 9, 10, 11, 12, 13, 14, 15, 16, 17, 18]] []
theorem k125 : Tryz.f125.body.bind (compC Tryz.prog Tryz.f125.ntmps v125) = some c125 := by kernel_rfl
theorem e125 : enters Tryz.prog 125 = true := by kernel_rfl
theorem q125 : Tryz.f125.results.toList.mapM (compRes Tryz.prog) = some r125 := by kernel_rfl
def v126 : List (Nat × List Nat) := [(0, [0, 2]), (1, [2])]
def r126 : List AR := [.cell (some 4) 2]
def c126x0 : AC := .seq (.reg [m' 3 0, o' 4 (.build [(.int .i64 0), (.int .i64 0), (.int .i64 0), (.slice none 0 0)] [(3, 1, (.t 3))]), n' (.st 4 (.t 2) (.t 4))] [2]) (.ret)
def c126 : AC := .seq (.reg [o' 2 (.zero [(.int .i64 0), (.int .i64 0), (.int .i64 0), (.slice none 0 0)])] [0, 2]) (c126x0)
theorem k126 : Tryz.f126.body.bind (compC Tryz.prog Tryz.f126.ntmps v126) = some c126 := by kernel_rfl
theorem e126 : enters Tryz.prog 126 = true := by kernel_rfl
theorem q126 : Tryz.f126.results.toList.mapM (compRes Tryz.prog) = some r126 := by kernel_rfl
def v127 : List (Nat × List Nat) := [(0, [0, 1, 2, 6]), (1, [6])]
def r127 : List AR := [.cell (some 4) 6]
def c127x0 : AC := .seq (.reg [m' 7 0, m' 8 1, m' 9 2, o' 10 (.build [(.int .i64 0), (.int .i64 0), (.int .i64 0), (.int .i64 0)] [(0, 1, (.t 7)), (1, 1, (.t 8)), (2, 1, (.t 9))]), n' (.st 4 (.t 6) (.t 10))] [6]) (.ret)
def c127 : AC := .seq (.reg [o' 6 (.zero [(.int .i64 0), (.int .i64 0), (.int .i64 0), (.int .i64 0)])] [0, 1, 2, 6]) (c127x0)
theorem k127 : Tryz.f127.body.bind (compC Tryz.prog Tryz.f127.ntmps v127) = some c127 := by kernel_rfl
theorem e127 : enters Tryz.prog 127 = true := by kernel_rfl
theorem q127 : Tryz.f127.results.toList.mapM (compRes Tryz.prog) = some r127 := by kernel_rfl
def v128 : List (Nat × List Nat) := [(0, [0, 1, 4]), (1, [4])]
def r128 : List AR := [.cell (some 4) 4]
def c128x0 : AC := .seq (.reg [m' 5 0, m' 6 1, o' 7 (.build [(.int .i64 0), (.int .i64 0), (.int .i64 0), (.int .i64 0)] [(0, 1, (.t 5)), (1, 1, (.t 6))]), n' (.st 4 (.t 4) (.t 7))] [4]) (.ret)
def c128 : AC := .seq (.reg [o' 4 (.zero [(.int .i64 0), (.int .i64 0), (.int .i64 0), (.int .i64 0)])] [0, 1, 4]) (c128x0)
theorem k128 : Tryz.f128.body.bind (compC Tryz.prog Tryz.f128.ntmps v128) = some c128 := by kernel_rfl
theorem e128 : enters Tryz.prog 128 = true := by kernel_rfl
theorem q128 : Tryz.f128.results.toList.mapM (compRes Tryz.prog) = some r128 := by kernel_rfl
def v129 : List (Nat × List Nat) := [(0, [0, 1, 2, 6]), (1, [6])]
def r129 : List AR := [.cell (some 4) 6]
def c129x0 : AC := .seq (.reg [m' 7 0, m' 8 1, m' 9 2, o' 10 (.build [(.int .i64 0), (.int .i64 0), (.int .i64 0), (.slice none 0 0)] [(0, 1, (i' 2)), (1, 1, (.t 7)), (2, 1, (.t 8)), (3, 1, (.t 9))]), n' (.st 4 (.t 6) (.t 10))] [6]) (.ret)
def c129 : AC := .seq (.reg [o' 6 (.zero [(.int .i64 0), (.int .i64 0), (.int .i64 0), (.slice none 0 0)])] [0, 1, 2, 6]) (c129x0)
theorem k129 : Tryz.f129.body.bind (compC Tryz.prog Tryz.f129.ntmps v129) = some c129 := by kernel_rfl
theorem e129 : enters Tryz.prog 129 = true := by kernel_rfl
theorem q129 : Tryz.f129.results.toList.mapM (compRes Tryz.prog) = some r129 := by kernel_rfl
def v141 : List (Nat × List Nat) := [(0, [0, 1]), (1, [0, 1, 5]), (2, [0, 1, 5, 7]), (3, [0, 1, 5]), (4, [4])]
def r141 : List AR := [.t 4]
def c141x0 : AC := .seq (.reg [m' 8 0, o' 9 (.call 142 [.t 8]), m' 10 5, m' 11 1, o' 12 (.call 92 [.t 10, i' 5, .t 11]), o' 13 (.bsl [(.int .i64 0), (.int .i64 0), (.int .i64 0), (.slice none 0 0)] 1 [(0, (.t 12))]), o' 14 (.app 4 48 (.t 9) (.t 13)), m' 4 14] [4]) (.ret)
def c141x1 : AC := .reg [o' 5 (.mv (i' 0))] [0, 1, 5]
def c141x2 : AC := .cond (.t 7) (c141x1) (.skip)
def c141x3 : AC := .seq (.reg [m' 6 0, o' 7 (.bin .eql (.t 6) (i' 1))] [0, 1, 5, 7]) (c141x2)
def c141x4 : AC := .seq (c141x3) (c141x0)
def c141x5 : AC := .seq (.reg [o' 5 (.mv (i' 2))] [0, 1, 5]) (c141x4)
def c141 : AC := .seq (.reg [o' 4 (.mv (.k (.slice none 0 0)))] [0, 1]) (c141x5)
theorem k141 : Tryz.f141.body.bind (compC Tryz.prog Tryz.f141.ntmps v141) = some c141 := by kernel_rfl
theorem e141 : enters Tryz.prog 141 = true := by kernel_rfl
theorem q141 : Tryz.f141.results.toList.mapM (compRes Tryz.prog) = some r141 := by kernel_rfl
def v142 : List (Nat × List Nat) := [(0, [0]), (1, [0, 3]), (2, [0, 3, 4]), (3, [0, 3, 4, 5]), (4, [3, 4, 5, 16]), (5, [3, 4, 5, 16, 17]), (6, [2]), (7, [3, 4, 5, 16, 21]), (8, [3]), (9, [2]), (10, [3, 4, 5, 16, 36]), (11, [2]), (12, [3, 4, 5, 16, 41]), (13, [2]), (14, [3, 4, 5, 16, 49]), (15, [2]), (16, [3, 57]), (17, [2]), (18, [2])]
def r142 : List AR := [.t 2]
def c142x0 : AC := .seq (.reg [o' 2 (.mv (.k (.slice none 0 0)))] [2]) (.ret)
def c142x1 : AC := .seq (.reg [o' 19 (.ld (some 4) (.t 3)), o' 20 (.bsl [(.int .i64 0), (.int .i64 0), (.int .i64 0), (.slice none 0 0)] 1 [(0, (.t 19))]), m' 2 20] [2]) (.ret)
def c142x2 : AC := .seq (.dreg [o' 29 (.ld (some 4) (.t 3)), o' 30 (.call 127 [i' 20, i' 5, i' 8]), o' 31 (.call 148 []), o' 32 (.call 127 [i' 18, i' 8, i' 5]), o' 33 (.bsl [(.int .i64 0), (.int .i64 0), (.int .i64 0), (.int .i64 0)] 3 [(0, (.t 30)), (1, (.t 31)), (2, (.t 32))]), o' 34 (.call 126 [.t 33]), o' 35 (.bsl [(.int .i64 0), (.int .i64 0), (.int .i64 0), (.slice none 0 0)] 2 [(0, (.t 29)), (1, (.t 34))]), m' 2 35] [[], [], [1], [1, 2], [1, 2, 3], [1, 2, 3, 4], [0, 1, 2, 3, 4, 5], [0, 1, 2, 3, 4, 5, 6]] [2]) (.ret)
def c142x3 : AC := .seq (.dreg [o' 23 (.fad 3 (.t 3)), o' 24 (.ld none (.t 23)), o' 25 (.call 127 [i' 22, i' 8, i' 1]), o' 26 (.bsl [(.int .i64 0), (.int .i64 0), (.int .i64 0), (.int .i64 0)] 1 [(0, (.t 25))]), o' 27 (.app 4 32 (.t 24) (.t 26)), o' 28 (.fad 3 (.t 3)), n' (.st 1 (.t 28) (.t 27))] [[], [0], [], [2], [0, 1, 2, 3], [0, 1, 2, 3, 4], [0, 1, 2, 3, 4, 5]] [3]) (c142x2)
def c142x4 : AC := .seq (.reg [o' 38 (.ld (some 4) (.t 4)), o' 39 (.ld (some 4) (.t 5)), o' 40 (.bsl [(.int .i64 0), (.int .i64 0), (.int .i64 0), (.slice none 0 0)] 2 [(0, (.t 38)), (1, (.t 39))]), m' 2 40] [2]) (.ret)
def c142x5 : AC := .seq (.dreg [o' 43 (.ld (some 4) (.t 4)), o' 44 (.ld (some 4) (.t 5)), o' 45 (.call 127 [i' 22, i' 8, i' 1]), o' 46 (.bsl [(.int .i64 0), (.int .i64 0), (.int .i64 0), (.int .i64 0)] 1 [(0, (.t 45))]), o' 47 (.call 126 [.t 46]), o' 48 (.bsl [(.int .i64 0), (.int .i64 0), (.int .i64 0), (.slice none 0 0)] 3 [(0, (.t 43)), (1, (.t 44)), (2, (.t 47))]), m' 2 48] [[], [], [], [2], [2, 3], [0, 1, 2, 3, 4], [0, 1, 2, 3, 4, 5]] [2]) (.ret)
def c142x6 : AC := .seq (.dreg [o' 51 (.ld (some 4) (.t 4)), o' 52 (.ld (some 4) (.t 5)), o' 53 (.call 127 [i' 22, i' 8, i' 2]), o' 54 (.bsl [(.int .i64 0), (.int .i64 0), (.int .i64 0), (.int .i64 0)] 1 [(0, (.t 53))]), o' 55 (.call 126 [.t 54]), o' 56 (.bsl [(.int .i64 0), (.int .i64 0), (.int .i64 0), (.slice none 0 0)] 3 [(0, (.t 51)), (1, (.t 52)), (2, (.t 55))]), m' 2 56] [[], [], [], [2], [2, 3], [0, 1, 2, 3, 4], [0, 1, 2, 3, 4, 5]] [2]) (.ret)
def c142x7 : AC := .seq (.dreg [o' 59 (.ld (some 4) (.t 3)), o' 60 (.call 92 [i' 2, i' 5, (.k (.slice none 0 0))]), o' 61 (.call 93 [i' 8]), o' 62 (.call 127 [i' 22, i' 8, i' 2]), o' 63 (.bsl [(.int .i64 0), (.int .i64 0), (.int .i64 0), (.int .i64 0)] 1 [(0, (.t 62))]), o' 64 (.app 4 32 (.t 61) (.t 63)), o' 65 (.call 92 [i' 3, i' 6, .t 64]), o' 66 (.bsl [(.int .i64 0), (.int .i64 0), (.int .i64 0), (.slice none 0 0)] 3 [(0, (.t 59)), (1, (.t 60)), (2, (.t 65))]), m' 2 66] [[], [], [1], [1, 2], [1, 2, 3], [1, 2, 3, 4], [1, 2, 3, 4, 5], [0, 1, 2, 3, 4, 5, 6], [0, 1, 2, 3, 4, 5, 6, 7]] [2]) (.ret)
def c142x8 : AC := .cond (.t 57) (c142x7) (.skip)
def c142x9 : AC := .seq (.reg [o' 58 (.bin .eql (.t 16) (i' 8)), m' 57 58] [3, 57]) (c142x8)
def c142x10 : AC := .cond (.t 49) (c142x6) (c142x9)
def c142x11 : AC := .seq (.reg [o' 50 (.bin .eql (.t 16) (i' 6)), m' 49 50] [3, 4, 5, 16, 49]) (c142x10)
def c142x12 : AC := .cond (.t 41) (c142x5) (c142x11)
def c142x13 : AC := .seq (.reg [o' 42 (.bin .eql (.t 16) (i' 5)), m' 41 42] [3, 4, 5, 16, 41]) (c142x12)
def c142x14 : AC := .cond (.t 36) (c142x4) (c142x13)
def c142x15 : AC := .seq (.reg [o' 37 (.bin .eql (.t 16) (i' 4)), m' 36 37] [3, 4, 5, 16, 36]) (c142x14)
def c142x16 : AC := .cond (.t 21) (c142x3) (c142x15)
def c142x17 : AC := .seq (.reg [o' 22 (.bin .eql (.t 16) (i' 3)), m' 21 22] [3, 4, 5, 16, 21]) (c142x16)
def c142x18 : AC := .cond (.t 17) (c142x1) (c142x17)
def c142x19 : AC := .seq (.reg [o' 18 (.bin .eql (.t 16) (i' 2)), m' 17 18] [3, 4, 5, 16, 17]) (c142x18)
def c142x20 : AC := .block 0 (c142x19)
def c142x21 : AC := .seq (.reg [m' 16 0] [3, 4, 5, 16]) (c142x20)
def c142x22 : AC := .seq (c142x21) (c142x0)
def c142x23 : AC := .seq (.reg [o' 13 (.call 127 [i' 19, i' 8, i' 5]), o' 14 (.bsl [(.int .i64 0), (.int .i64 0), (.int .i64 0), (.int .i64 0)] 1 [(0, (.t 13))]), o' 15 (.call 92 [i' 0, i' 5, .t 14]), o' 5 (.zero [(.int .i64 0), (.int .i64 0), (.int .i64 0), (.slice none 0 0)]), n' (.st 4 (.t 5) (.t 15))] [0, 3, 4, 5]) (c142x22)
def c142x24 : AC := .seq (.reg [o' 10 (.call 127 [i' 18, i' 8, i' 5]), o' 11 (.bsl [(.int .i64 0), (.int .i64 0), (.int .i64 0), (.int .i64 0)] 1 [(0, (.t 10))]), o' 12 (.call 92 [i' 0, i' 5, .t 11]), o' 4 (.zero [(.int .i64 0), (.int .i64 0), (.int .i64 0), (.slice none 0 0)]), n' (.st 4 (.t 4) (.t 12))] [0, 3, 4]) (c142x23)
def c142x25 : AC := .seq (.reg [o' 6 (.call 148 []), o' 7 (.call 127 [i' 18, i' 8, i' 5]), o' 8 (.bsl [(.int .i64 0), (.int .i64 0), (.int .i64 0), (.int .i64 0)] 2 [(0, (.t 6)), (1, (.t 7))]), o' 9 (.call 92 [i' 0, i' 5, .t 8]), o' 3 (.zero [(.int .i64 0), (.int .i64 0), (.int .i64 0), (.slice none 0 0)]), n' (.st 4 (.t 3) (.t 9))] [0, 3]) (c142x24)
def c142 : AC := .seq (.reg [o' 2 (.mv (.k (.slice none 0 0)))] [0]) (c142x25)
theorem k142 : Tryz.f142.body.bind (compC Tryz.prog Tryz.f142.ntmps v142) = some c142 := by kernel_rfl
theorem e142 : enters Tryz.prog 142 = true := by kernel_rfl
theorem q142 : Tryz.f142.results.toList.mapM (compRes Tryz.prog) = some r142 := by kernel_rfl
def v148 : List (Nat × List Nat) := [(0, [0]), (1, [0])]
def r148 : List AR := [.cell (some 4) 0]
def c148x0 : AC := .seq (.reg [o' 1 (.build [(.int .i64 0), (.int .i64 0), (.int .i64 0), (.int .i64 0)] [(0, 1, (i' 2)), (1, 1, (i' 8))]), n' (.st 4 (.t 0) (.t 1))] [0]) (.ret)
def c148 : AC := .seq (.reg [o' 0 (.zero [(.int .i64 0), (.int .i64 0), (.int .i64 0), (.int .i64 0)])] [0]) (c148x0)
theorem k148 : Tryz.f148.body.bind (compC Tryz.prog Tryz.f148.ntmps v148) = some c148 := by kernel_rfl
theorem e148 : enters Tryz.prog 148 = true := by kernel_rfl
theorem q148 : Tryz.f148.results.toList.mapM (compRes Tryz.prog) = some r148 := by kernel_rfl
end Go.Proofs.YtolmklnijjfppaaGreat.Code

namespace Go.Proofs.YtolmklnijjfppaaGreat.Code
open Go Go.Proofs.YtolmklnijjfppaaGreat.Calc
set_option maxRecDepth 100000
def v27 : List (Nat × List Nat) := [(0, [1, 2, 4]), (1, [1, 4, 5, 6]), (2, [1, 4, 5, 6, 19]), (3, [1, 4, 5, 6, 29]), (4, [4, 5, 6]), (5, [1, 4, 5, 6, 36]), (6, [4, 5, 6]), (7, [1, 4, 5, 6]), (8, [1, 4, 5, 6]), (9, [1, 4, 5, 6]), (10, [4])]
def r27 : List AR := [.cell (some 2) 4]
def c27x0 : AC := .seq (.reg [m' 54 5, m' 55 6, o' 56 (.build [(.slice none 0 0), (.slice none 0 0)] [(0, 1, (.t 54)), (1, 1, (.t 55))]), n' (.st 2 (.t 4) (.t 56))] [4]) (.ret)
def c27x1 : AC := .reg [m' 51 5, m' 52 6, o' 53 (.call 77 [.t 51, .t 52])] [1, 4, 5, 6]
def c27x2 : AC := .seq (.reg [m' 49 5, o' 50 (.idx 1 none (.t 49) (i' 5)), n' (.st 1 (.t 50) (i' 0))] [1, 4, 5, 6]) (c27x1)
def c27x3 : AC := .seq (.reg [m' 43 1, m' 44 5, o' 45 (.idx 1 none (.t 44) (i' 5)), o' 46 (.ld none (.t 45)), o' 47 (.mnx true [i' 1, .t 46]), o' 48 (.bin .sub (.t 43) (.t 47)), m' 1 48] [1, 4, 5, 6]) (c27x2)
def c27x4 : AC := .seq (.reg [m' 37 5, o' 38 (.idx 1 none (.t 37) (i' 5)), o' 39 (.ld none (.t 38)), m' 40 1, o' 41 (.bin .sub (.t 39) (.t 40)), o' 42 (.idx 1 none (.t 37) (i' 5)), n' (.st 1 (.t 42) (.t 41))] [4, 5, 6]) (.exit 0)
def c27x5 : AC := .cond (.t 36) (c27x4) (.skip)
def c27x6 : AC := .seq (.reg [m' 32 1, m' 33 5, o' 34 (.idx 1 none (.t 33) (i' 5)), o' 35 (.ld none (.t 34)), o' 36 (.bin .lss (.t 32) (.t 35))] [1, 4, 5, 6, 36]) (c27x5)
def c27x7 : AC := .seq (c27x6) (c27x3)
def c27x8 : AC := .seq (.reg [m' 30 5, o' 31 (.idx 1 none (.t 30) (i' 2)), n' (.st 1 (.t 31) (i' 0))] [4, 5, 6]) (.exit 0)
def c27x9 : AC := .cond (.t 29) (c27x8) (.skip)
def c27x10 : AC := .seq (.reg [m' 20 5, o' 21 (.idx 1 none (.t 20) (i' 2)), o' 22 (.ld none (.t 21)), o' 23 (.bin .geq (.t 22) (i' 3)), m' 24 23, ⟨(some 25), .mv (.t 5), (some (24, true))⟩, ⟨(some 26), .idx 1 none (.t 25) (i' 0), (some (24, true))⟩, ⟨(some 27), .ld none (.t 26), (some (24, true))⟩, ⟨(some 28), .bin .eql (.t 27) (i' 0), (some (24, true))⟩, o' 29 (.pick (.t 24) (.t 28) (.k (.bool false)))] [1, 4, 5, 6, 29]) (c27x9)
def c27x11 : AC := .seq (c27x10) (c27x7)
def c27x12 : AC := .block 1 (c27x11)
def c27x13 : AC := .cond (.t 19) (.skip) (.exit 0)
def c27x14 : AC := .seq (.reg [m' 12 1, o' 13 (.bin .gtr (.t 12) (i' 0)), m' 14 13, ⟨(some 15), .mv (.t 5), (some (14, true))⟩, ⟨(some 16), .idx 1 none (.t 15) (i' 2), (some (14, true))⟩, ⟨(some 17), .ld none (.t 16), (some (14, true))⟩, ⟨(some 18), .bin .gtr (.t 17) (i' 0), (some (14, true))⟩, o' 19 (.pick (.t 14) (.t 18) (.k (.bool false)))] [1, 4, 5, 6, 19]) (c27x13)
def c27x15 : AC := .seq (c27x14) (c27x12)
def c27x16 : AC := .loop (c27x15)
def c27x17 : AC := .block 0 (c27x16)
def c27x18 : AC := .seq (c27x17) (c27x0)
def c27x19 : AC := .seq (.reg [o' 8 (.ld (some 2) (.t 2)), o' 9 (.call 76 [.t 8]), m' 7 9, o' 10 (.ext (.t 7) 0), o' 11 (.ext (.t 7) 1), m' 5 10, m' 6 11] [1, 4, 5, 6]) (c27x18)
def c27 : AC := .seq (.reg [o' 2 (.new 2 (.t 0)), o' 4 (.zero [(.slice none 0 0), (.slice none 0 0)])] [1, 2, 4]) (c27x19)
theorem k27 : Tryz.f27.body.bind (compC Tryz.prog Tryz.f27.ntmps v27) = some c27 := by kernel_rfl
theorem e27 : enters Tryz.prog 27 = true := by kernel_rfl
theorem q27 : Tryz.f27.results.toList.mapM (compRes Tryz.prog) = some r27 := by kernel_rfl
def v32 : List (Nat × List Nat) := [(0, [1]), (1, [3]), (2, [3, 13]), (3, [2]), (4, [2])]
def r32 : List AR := [.t 2]
def c32x0 : AC := .seq (.reg [m' 14 3, o' 15 (.idx 1 none (.t 14) (i' 5)), o' 16 (.ld none (.t 15)), o' 17 (.mnx true [i' 1, .t 16]), o' 18 (.bin .sub (.t 17) (i' 1)), m' 2 18] [2]) (.ret)
def c32x1 : AC := .seq (.reg [o' 2 (.mv (i' 100000))] [2]) (.ret)
def c32x2 : AC := .cond (.t 13) (c32x1) (.skip)
def c32x3 : AC := .seq (.reg [m' 10 3, o' 11 (.idx 1 none (.t 10) (i' 2)), o' 12 (.ld none (.t 11)), o' 13 (.bin .eql (.t 12) (i' 0))] [3, 13]) (c32x2)
def c32x4 : AC := .seq (c32x3) (c32x0)
def c32x5 : AC := .seq (.reg [o' 6 (.ld (some 2) (.t 1)), o' 7 (.call 76 [.t 6]), m' 5 7, o' 8 (.ext (.t 5) 0), o' 9 (.ext (.t 5) 1), m' 3 8, m' 4 9] [3]) (c32x4)
def c32 : AC := .seq (.reg [o' 1 (.new 2 (.t 0)), o' 2 (.mv (i' 0))] [1]) (c32x5)
theorem k32 : Tryz.f32.body.bind (compC Tryz.prog Tryz.f32.ntmps v32) = some c32 := by kernel_rfl
theorem e32 : enters Tryz.prog 32 = true := by kernel_rfl
theorem q32 : Tryz.f32.results.toList.mapM (compRes Tryz.prog) = some r32 := by kernel_rfl
def v39 : List (Nat × List Nat) := [(0, [1]), (1, [3]), (2, [2])]
def r39 : List AR := [.t 2]
def c39x0 : AC := .seq (.reg [m' 10 3, o' 11 (.idx 1 none (.t 10) (i' 1)), o' 12 (.ld none (.t 11)), m' 2 12] [2]) (.ret)
def c39x1 : AC := .seq (.reg [o' 6 (.ld (some 2) (.t 1)), o' 7 (.call 76 [.t 6]), m' 5 7, o' 8 (.ext (.t 5) 0), o' 9 (.ext (.t 5) 1), m' 3 8, m' 4 9] [3]) (c39x0)
def c39 : AC := .seq (.reg [o' 1 (.new 2 (.t 0)), o' 2 (.mv (i' 0))] [1]) (c39x1)
theorem k39 : Tryz.f39.body.bind (compC Tryz.prog Tryz.f39.ntmps v39) = some c39 := by kernel_rfl
theorem e39 : enters Tryz.prog 39 = true := by kernel_rfl
theorem q39 : Tryz.f39.results.toList.mapM (compRes Tryz.prog) = some r39 := by kernel_rfl
def v42 : List (Nat × List Nat) := [(0, [1]), (1, [3]), (2, [2])]
def r42 : List AR := [.t 2]
def c42x0 : AC := .seq (.reg [m' 10 3, o' 11 (.idx 1 none (.t 10) (i' 9)), o' 12 (.ld none (.t 11)), o' 13 (.bin .eql (.t 12) (i' 1)), m' 14 13, ⟨(some 15), .mv (.t 3), (some (14, true))⟩, ⟨(some 16), .idx 1 none (.t 15) (i' 7), (some (14, true))⟩, ⟨(some 17), .ld none (.t 16), (some (14, true))⟩, ⟨(some 18), .bin .eql (.t 17) (i' 1), (some (14, true))⟩, o' 19 (.pick (.t 14) (.t 18) (.k (.bool false))), m' 2 19] [2]) (.ret)
def c42x1 : AC := .seq (.reg [o' 6 (.ld (some 2) (.t 1)), o' 7 (.call 76 [.t 6]), m' 5 7, o' 8 (.ext (.t 5) 0), o' 9 (.ext (.t 5) 1), m' 3 8, m' 4 9] [3]) (c42x0)
def c42 : AC := .seq (.reg [o' 1 (.new 2 (.t 0)), o' 2 (.mv (.k (.bool false)))] [1]) (c42x1)
theorem k42 : Tryz.f42.body.bind (compC Tryz.prog Tryz.f42.ntmps v42) = some c42 := by kernel_rfl
theorem e42 : enters Tryz.prog 42 = true := by kernel_rfl
theorem q42 : Tryz.f42.results.toList.mapM (compRes Tryz.prog) = some r42 := by kernel_rfl
def v58 : List (Nat × List Nat) := [(0, [0, 2]), (1, [0, 2, 3]), (2, [2, 3]), (3, [2])]
def r58 : List AR := [.cell (some 2) 2]
def c58x0 : AC := .seq (.reg [o' 12 (.mksl [(.int .i64 0)] 8 (i' 10) (i' 10)), m' 13 3, o' 14 (.build [(.slice none 0 0), (.slice none 0 0)] [(0, 1, (.t 12)), (1, 1, (.t 13))]), n' (.st 2 (.t 2) (.t 14))] [2]) (.ret)
def c58x1 : AC := .seq (.reg [m' 9 3, m' 10 0, o' 11 (.copy 1 (.t 9) (.t 10))] [2, 3]) (c58x0)
def c58x2 : AC := .seq (.reg [m' 4 0, o' 5 (.len (.t 4)), o' 6 (.bin .quo (.t 5) (i' 256)), o' 7 (.bin .mul (.t 6) (i' 256)), o' 8 (.mksl [(.int .u8 0)] 1 (.t 7) (.t 7)), m' 3 8] [0, 2, 3]) (c58x1)
def c58 : AC := .seq (.reg [o' 2 (.zero [(.slice none 0 0), (.slice none 0 0)])] [0, 2]) (c58x2)
theorem k58 : Tryz.f58.body.bind (compC Tryz.prog Tryz.f58.ntmps v58) = some c58 := by kernel_rfl
theorem e58 : enters Tryz.prog 58 = true := by kernel_rfl
theorem q58 : Tryz.f58.results.toList.mapM (compRes Tryz.prog) = some r58 := by kernel_rfl
def v65 : List (Nat × List Nat) := [(0, [1, 2, 3, 6]), (1, [1, 2, 6, 7, 8]), (2, [2, 6, 7, 8, 14]), (3, [2, 6, 7, 8, 14, 15]), (4, [6, 7, 8]), (5, [2, 6, 7, 8, 14, 21]), (6, [6, 7, 8]), (7, [6, 7, 8, 30]), (8, [6, 7, 8]), (9, [2, 6, 7, 8, 33]), (10, [6, 7, 8]), (11, [6])]
def r65 : List AR := [.cell (some 2) 6]
def c65x0 : AC := .seq (.reg [m' 39 7, m' 40 8, o' 41 (.build [(.slice none 0 0), (.slice none 0 0)] [(0, 1, (.t 39)), (1, 1, (.t 40))]), n' (.st 2 (.t 6) (.t 41))] [6]) (.ret)
def c65x1 : AC := .reg [m' 17 7, m' 18 2, o' 19 (.call 50 [.t 18, i' 8]), o' 20 (.call 113 [.t 17, .t 19])] [6, 7, 8]
def c65x2 : AC := .reg [m' 31 7, o' 32 (.idx 1 none (.t 31) (i' 7)), n' (.st 1 (.t 32) (i' 0))] [6, 7, 8]
def c65x3 : AC := .cond (.t 30) (c65x2) (.skip)
def c65x4 : AC := .seq (.reg [m' 27 7, o' 28 (.idx 1 none (.t 27) (i' 2)), o' 29 (.ld none (.t 28)), o' 30 (.bin .eql (.t 29) (i' 4))] [6, 7, 8, 30]) (c65x3)
def c65x5 : AC := .seq (.reg [m' 23 7, m' 24 2, o' 25 (.call 50 [.t 24, i' 8]), o' 26 (.idx 1 none (.t 23) (i' 6)), n' (.st 1 (.t 26) (.t 25))] [6, 7, 8]) (c65x4)
def c65x6 : AC := .reg [m' 35 7, m' 36 2, o' 37 (.call 50 [.t 36, i' 1]), o' 38 (.idx 1 none (.t 35) (i' 9)), n' (.st 1 (.t 38) (.t 37))] [6, 7, 8]
def c65x7 : AC := .cond (.t 33) (c65x6) (.skip)
def c65x8 : AC := .seq (.reg [o' 34 (.bin .eql (.t 14) (i' 3)), m' 33 34] [2, 6, 7, 8, 33]) (c65x7)
def c65x9 : AC := .cond (.t 21) (c65x5) (c65x8)
def c65x10 : AC := .seq (.reg [o' 22 (.bin .eql (.t 14) (i' 1)), m' 21 22] [2, 6, 7, 8, 14, 21]) (c65x9)
def c65x11 : AC := .cond (.t 15) (c65x1) (c65x10)
def c65x12 : AC := .seq (.reg [o' 16 (.bin .eql (.t 14) (i' 0)), m' 15 16] [2, 6, 7, 8, 14, 15]) (c65x11)
def c65x13 : AC := .block 0 (c65x12)
def c65x14 : AC := .seq (.reg [m' 14 1] [2, 6, 7, 8, 14]) (c65x13)
def c65x15 : AC := .seq (c65x14) (c65x0)
def c65x16 : AC := .seq (.reg [o' 10 (.ld (some 2) (.t 3)), o' 11 (.call 76 [.t 10]), m' 9 11, o' 12 (.ext (.t 9) 0), o' 13 (.ext (.t 9) 1), m' 7 12, m' 8 13] [1, 2, 6, 7, 8]) (c65x15)
def c65 : AC := .seq (.reg [o' 3 (.new 2 (.t 0)), o' 6 (.zero [(.slice none 0 0), (.slice none 0 0)])] [1, 2, 3, 6]) (c65x16)
theorem k65 : Tryz.f65.body.bind (compC Tryz.prog Tryz.f65.ntmps v65) = some c65 := by kernel_rfl
theorem e65 : enters Tryz.prog 65 = true := by kernel_rfl
theorem q65 : Tryz.f65.results.toList.mapM (compRes Tryz.prog) = some r65 := by kernel_rfl
def v76 : List (Nat × List Nat) := [(0, [1]), (1, [1, 4]), (2, [1, 4]), (3, [1, 4, 13, 14]), (4, [1, 4, 13, 14, 15]), (5, [1, 4, 5, 6, 13, 14]), (6, [1, 4, 13, 14]), (7, [1, 4, 13, 14]), (8, [1, 4, 7]), (9, [4, 7]), (10, [4, 7, 44]), (11, [4, 7]), (12, [4, 7, 50]), (13, [4, 7]), (14, [2, 3])]
def r76 : List AR := [.t 2, .t 3]
def c76x0 : AC := .seq (.reg [m' 53 4, m' 54 7, m' 2 53, m' 3 54] [2, 3]) (.ret)
def c76x1 : AC := .reg [m' 51 4, o' 52 (.idx 1 none (.t 51) (i' 2)), n' (.st 1 (.t 52) (i' 0))] [4, 7]
def c76x2 : AC := .cond (.t 50) (c76x1) (.skip)
def c76x3 : AC := .seq (.reg [m' 47 4, o' 48 (.idx 1 none (.t 47) (i' 2)), o' 49 (.ld none (.t 48)), o' 50 (.bin .gtr (.t 49) (i' 4))] [4, 7, 50]) (c76x2)
def c76x4 : AC := .seq (c76x3) (c76x0)
def c76x5 : AC := .reg [m' 45 4, o' 46 (.idx 1 none (.t 45) (i' 0)), n' (.st 1 (.t 46) (i' 0))] [4, 7]
def c76x6 : AC := .cond (.t 44) (c76x5) (.skip)
def c76x7 : AC := .seq (.reg [m' 38 4, o' 39 (.idx 1 none (.t 38) (i' 0)), o' 40 (.ld none (.t 39)), m' 41 7, o' 42 (.len (.t 41)), o' 43 (.bin .quo (.t 42) (i' 256)), o' 44 (.bin .gtr (.t 40) (.t 43))] [4, 7, 44]) (c76x6)
def c76x8 : AC := .seq (c76x7) (c76x4)
def c76x9 : AC := .seq (.reg [m' 34 7, o' 35 (.fad 1 (.t 1)), o' 36 (.ld none (.t 35)), o' 37 (.copy 1 (.t 34) (.t 36))] [4, 7]) (c76x8)
def c76x10 : AC := .seq (.reg [o' 28 (.fad 1 (.t 1)), o' 29 (.ld none (.t 28)), o' 30 (.len (.t 29)), o' 31 (.bin .quo (.t 30) (i' 256)), o' 32 (.bin .mul (.t 31) (i' 256)), o' 33 (.mksl [(.int .u8 0)] 1 (.t 32) (.t 32)), m' 7 33] [1, 4, 7]) (c76x9)
def c76x11 : AC := .reg [o' 27 (.bin .add (.t 14) (i' 1)), m' 14 27] [1, 4, 13, 14]
def c76x12 : AC := .reg [m' 18 4, m' 19 5, m' 20 4, m' 21 5, o' 22 (.idx 1 none (.t 20) (.t 21)), o' 23 (.ld none (.t 22)), m' 24 6, o' 25 (.call 50 [.t 23, .t 24]), o' 26 (.idx 1 none (.t 18) (.t 19)), n' (.st 1 (.t 26) (.t 25))] [1, 4, 13, 14]
def c76x13 : AC := .seq (.reg [m' 16 14, o' 17 (.ixa 10 1 none (.t 13) (.t 14)), m' 5 16, m' 6 17] [1, 4, 5, 6, 13, 14]) (c76x12)
def c76x14 : AC := .block 1 (c76x13)
def c76x15 : AC := .seq (c76x14) (c76x11)
def c76x16 : AC := .cond (.t 15) (.skip) (.exit 0)
def c76x17 : AC := .seq (c76x16) (c76x15)
def c76x18 : AC := .seq (.reg [o' 15 (.bin .lss (.t 14) (i' 10))] [1, 4, 13, 14, 15]) (c76x17)
def c76x19 : AC := .loop (c76x18)
def c76x20 : AC := .block 0 (c76x19)
def c76x21 : AC := .seq (.reg [o' 13 (.build [(.int .i64 0), (.int .i64 0), (.int .i64 0), (.int .i64 0), (.int .i64 0), (.int .i64 0), (.int .i64 0), (.int .i64 0), (.int .i64 0), (.int .i64 0)] [(0, 1, (i' 8)), (1, 1, (i' 2)), (2, 1, (i' 3)), (3, 1, (i' 2)), (4, 1, (i' 4)), (5, 1, (i' 6)), (6, 1, (i' 8)), (7, 1, (i' 1)), (8, 1, (i' 1)), (9, 1, (i' 1))]), o' 14 (.mv (i' 0))] [1, 4, 13, 14]) (c76x20)
def c76x22 : AC := .seq (c76x21) (c76x10)
def c76x23 : AC := .seq (.reg [m' 9 4, o' 10 (.fad 0 (.t 1)), o' 11 (.ld none (.t 10)), o' 12 (.copy 1 (.t 9) (.t 11))] [1, 4]) (c76x22)
def c76x24 : AC := .seq (.reg [o' 8 (.mksl [(.int .i64 0)] 8 (i' 10) (i' 10)), m' 4 8] [1, 4]) (c76x23)
def c76 : AC := .seq (.reg [o' 1 (.new 2 (.t 0)), o' 2 (.mv (.k (.slice none 0 0))), o' 3 (.mv (.k (.slice none 0 0)))] [1]) (c76x24)
theorem k76 : Tryz.f76.body.bind (compC Tryz.prog Tryz.f76.ntmps v76) = some c76 := by kernel_rfl
theorem e76 : enters Tryz.prog 76 = true := by kernel_rfl
theorem q76 : Tryz.f76.results.toList.mapM (compRes Tryz.prog) = some r76 := by kernel_rfl
def v77 : List (Nat × List Nat) := [(0, [0, 1, 6]), (1, [0, 1]), (2, [0]), (3, [0]), (4, [0, 1, 6, 25]), (5, [0, 1, 6, 25]), (6, [0]), (7, []), (8, [0, 1, 43]), (9, [0, 1]), (10, [0]), (11, [0]), (12, [0]), (13, [0, 73]), (14, [0, 77]), (15, [0]), (16, [])]
def r77 : List AR := []
def c77x0 : AC := .reg [m' 80 0, m' 81 0, m' 82 0, o' 83 (.idx 1 none (.t 80) (i' 2)), n' (.st 1 (.t 83) (i' 0)), o' 84 (.idx 1 none (.t 81) (i' 4)), n' (.st 1 (.t 84) (i' 0)), o' 85 (.idx 1 none (.t 82) (i' 5)), n' (.st 1 (.t 85) (i' 0))] []
def c77x1 : AC := .reg [m' 78 0, o' 79 (.idx 1 none (.t 78) (i' 7)), n' (.st 1 (.t 79) (i' 0))] [0]
def c77x2 : AC := .cond (.t 77) (c77x1) (.skip)
def c77x3 : AC := .seq (.reg [m' 74 0, o' 75 (.idx 1 none (.t 74) (i' 2)), o' 76 (.ld none (.t 75)), o' 77 (.bin .eql (.t 76) (i' 4))] [0, 77]) (c77x2)
def c77x4 : AC := .seq (c77x3) (c77x0)
def c77x5 : AC := .cond (.t 73) (c77x4) (.skip)
def c77x6 : AC := .seq (.reg [m' 70 0, o' 71 (.idx 1 none (.t 70) (i' 4)), o' 72 (.ld none (.t 71)), o' 73 (.bin .eql (.t 72) (i' 16))] [0, 73]) (c77x5)
def c77x7 : AC := .seq (.reg [m' 65 0, o' 66 (.idx 1 none (.t 65) (i' 4)), o' 67 (.ld none (.t 66)), o' 68 (.bin .add (.t 67) (i' 1)), o' 69 (.idx 1 none (.t 65) (i' 4)), n' (.st 1 (.t 69) (.t 68))] [0]) (c77x6)
def c77x8 : AC := .seq (.reg [m' 63 0, o' 64 (.idx 1 none (.t 63) (i' 5)), n' (.st 1 (.t 64) (i' 20))] [0]) (c77x7)
def c77x9 : AC := .seq (.reg [m' 41 0, o' 42 (.idx 1 none (.t 41) (i' 2)), n' (.st 1 (.t 42) (i' 0))] []) (.ret)
def c77x10 : AC := .seq (.dreg [m' 28 0, m' 29 0, o' 30 (.idx 1 none (.t 29) (i' 1)), o' 31 (.ld none (.t 30)), o' 32 (.bin .add (.t 31) (i' 3)), m' 33 0, o' 34 (.idx 1 none (.t 33) (i' 2)), o' 35 (.ld none (.t 34)), o' 36 (.bin .mul (i' 2) (.t 35)), o' 37 (.bin .sub (.t 32) (.t 36)), o' 38 (.mnx false [.t 37, i' 3]), o' 39 (.mnx true [i' 0, .t 38]), o' 40 (.idx 1 none (.t 28) (i' 1)), n' (.st 1 (.t 40) (.t 39))] [[], [], [1], [1, 2], [1, 2, 3], [], [5], [5, 6], [5, 6, 7], [1, 2, 3, 4, 5, 6, 7, 8], [1, 2, 3, 4, 5, 6, 7, 8, 9], [1, 2, 3, 4, 5, 6, 7, 8, 9, 10], [0, 1, 2, 3, 4, 5, 6, 7, 8, 9, 10, 11], [0, 1, 2, 3, 4, 5, 6, 7, 8, 9, 10, 11, 12]] [0]) (c77x9)
def c77x11 : AC := .reg [m' 53 0, m' 54 0, m' 55 1, m' 56 0, o' 57 (.call 117 [.t 56]), o' 58 (.idx 1 none (.t 55) (.t 57)), o' 59 (.ld none (.t 58)), o' 60 (.cvt .i64 (.t 59)), o' 61 (.idx 1 none (.t 53) (i' 6)), n' (.st 1 (.t 61) (.t 60)), o' 62 (.idx 1 none (.t 54) (i' 7)), n' (.st 1 (.t 62) (i' 1))] [0]
def c77x12 : AC := .seq (.dreg [m' 45 0, o' 46 (.idx 1 none (.t 45) (i' 8)), o' 47 (.ld none (.t 46)), m' 48 0, o' 49 (.idx 1 none (.t 48) (i' 7)), o' 50 (.ld none (.t 49)), o' 51 (.bin .or (.t 47) (.t 50)), o' 52 (.idx 1 none (.t 45) (i' 8)), n' (.st 1 (.t 52) (.t 51))] [[], [0], [0, 1], [], [3], [3, 4], [0, 1, 2, 3, 4, 5], [0, 1, 2, 3, 4, 5, 6], [0, 1, 2, 3, 4, 5, 6, 7]] [0, 1]) (c77x11)
def c77x13 : AC := .reg [m' 23 0, o' 24 (.idx 1 none (.t 23) (i' 7)), n' (.st 1 (.t 24) (i' 1))] [0]
def c77x14 : AC := .seq (.dreg [m' 15 1, m' 16 0, o' 17 (.call 117 [.t 16]), m' 18 0, o' 19 (.idx 1 none (.t 18) (i' 6)), o' 20 (.ld none (.t 19)), o' 21 (.cvt .u8 (.t 20)), o' 22 (.idx 1 none (.t 15) (.t 17)), n' (.st 1 (.t 22) (.t 21))] [[], [], [1], [], [3], [3, 4], [3, 4, 5], [0, 1, 2, 3, 4, 5, 6], [0, 1, 2, 3, 4, 5, 6, 7]] [0]) (c77x13)
def c77x15 : AC := .seq (.dreg [m' 7 0, o' 8 (.idx 1 none (.t 7) (i' 8)), o' 9 (.ld none (.t 8)), m' 10 0, o' 11 (.idx 1 none (.t 10) (i' 7)), o' 12 (.ld none (.t 11)), o' 13 (.bin .or (.t 9) (.t 12)), o' 14 (.idx 1 none (.t 7) (i' 8)), n' (.st 1 (.t 14) (.t 13))] [[], [0], [0, 1], [], [3], [3, 4], [0, 1, 2, 3, 4, 5], [0, 1, 2, 3, 4, 5, 6], [0, 1, 2, 3, 4, 5, 6, 7]] [0, 1]) (c77x14)
def c77x16 : AC := .cond (.t 43) (c77x12) (c77x15)
def c77x17 : AC := .seq (.reg [o' 44 (.bin .eql (.t 6) (i' 3)), m' 43 44] [0, 1, 43]) (c77x16)
def c77x18 : AC := .cond (.t 25) (c77x10) (c77x17)
def c77x19 : AC := .reg [o' 27 (.bin .eql (.t 6) (i' 2)), m' 25 27] [0, 1, 6, 25]
def c77x20 : AC := .cond (.t 25) (.skip) (c77x19)
def c77x21 : AC := .seq (.reg [o' 26 (.bin .eql (.t 6) (i' 1)), m' 25 26] [0, 1, 6, 25]) (c77x20)
def c77x22 : AC := .seq (c77x21) (c77x18)
def c77x23 : AC := .block 0 (c77x22)
def c77x24 : AC := .seq (.reg [m' 4 0, o' 5 (.idx 1 none (.t 4) (i' 2)), o' 6 (.ld none (.t 5))] [0, 1, 6]) (c77x23)
def c77 : AC := .seq (c77x24) (c77x8)
theorem k77 : Tryz.f77.body.bind (compC Tryz.prog Tryz.f77.ntmps v77) = some c77 := by kernel_rfl
theorem e77 : enters Tryz.prog 77 = true := by kernel_rfl
theorem q77 : Tryz.f77.results.toList.mapM (compRes Tryz.prog) = some r77 := by kernel_rfl
def v85 : List (Nat × List Nat) := [(0, [1, 2, 4]), (1, [1, 4, 6, 7]), (2, [1, 4, 6, 7, 8]), (3, [4, 6, 7, 8, 15]), (4, [4, 6, 7, 8, 15, 16]), (5, [4, 6, 7, 9]), (6, [4, 6, 7, 9, 21]), (7, [4, 6, 7, 9]), (8, [4, 6, 7, 8]), (9, [4, 6, 7, 8]), (10, [4, 6, 7, 8, 15, 38]), (11, [4, 6, 7, 8]), (12, [4, 6, 7, 8, 46]), (13, [4, 6, 7, 8]), (14, [4, 6, 7, 8, 15, 49]), (15, [4, 6, 7, 8]), (16, [4, 6, 7, 8, 54]), (17, [4, 6, 7, 8]), (18, [4, 5])]
def r85 : List AR := [.cell (some 2) 4, .t 5]
def c85x0 : AC := .seq (.reg [m' 59 6, m' 60 7, o' 61 (.build [(.slice none 0 0), (.slice none 0 0)] [(0, 1, (.t 59)), (1, 1, (.t 60))]), m' 62 8, n' (.st 2 (.t 4) (.t 61)), m' 5 62] [4, 5]) (.ret)
def c85x1 : AC := .reg [m' 36 6, o' 37 (.idx 1 none (.t 36) (i' 8)), n' (.st 1 (.t 37) (i' 0))] [4, 6, 7, 8]
def c85x2 : AC := .seq (.dreg [m' 22 6, o' 23 (.call 120 [.t 22]), m' 24 6, o' 25 (.idx 1 none (.t 24) (i' 7)), o' 26 (.ld none (.t 25)), o' 27 (.bin .shl (.t 26) (.k (.int .u64 1))), o' 28 (.bin .or (.t 23) (.t 27)), m' 29 6, o' 30 (.idx 1 none (.t 29) (i' 8)), o' 31 (.ld none (.t 30)), o' 32 (.bin .shl (.t 31) (.k (.int .u64 2))), o' 33 (.bin .or (.t 28) (.t 32)), m' 34 9, o' 35 (.bin .or (.t 33) (.t 34)), m' 8 35] [[], [0], [], [2], [2, 3], [2, 3, 4], [0, 1, 2, 3, 4, 5], [], [7], [7, 8], [7, 8, 9], [0, 1, 2, 3, 4, 5, 6, 7, 8, 9, 10], [], [0, 1, 2, 3, 4, 5, 6, 7, 8, 9, 10, 11, 12], [0, 1, 2, 3, 4, 5, 6, 7, 8, 9, 10, 11, 12, 13]] [4, 6, 7, 8]) (c85x1)
def c85x3 : AC := .reg [o' 9 (.mv (i' 8))] [4, 6, 7, 9]
def c85x4 : AC := .cond (.t 21) (c85x3) (.skip)
def c85x5 : AC := .seq (.reg [m' 18 6, o' 19 (.idx 1 none (.t 18) (i' 0)), o' 20 (.ld none (.t 19)), o' 21 (.bin .eql (.t 20) (i' 0))] [4, 6, 7, 9, 21]) (c85x4)
def c85x6 : AC := .seq (c85x5) (c85x2)
def c85x7 : AC := .seq (.reg [o' 9 (.mv (i' 0))] [4, 6, 7, 9]) (c85x6)
def c85x8 : AC := .reg [m' 47 6, o' 48 (.idx 1 none (.t 47) (i' 7)), n' (.st 1 (.t 48) (i' 0))] [4, 6, 7, 8]
def c85x9 : AC := .cond (.t 46) (c85x8) (.skip)
def c85x10 : AC := .seq (.reg [m' 43 6, o' 44 (.idx 1 none (.t 43) (i' 2)), o' 45 (.ld none (.t 44)), o' 46 (.bin .neq (.t 45) (i' 4))] [4, 6, 7, 8, 46]) (c85x9)
def c85x11 : AC := .seq (.reg [m' 40 6, o' 41 (.idx 1 none (.t 40) (i' 6)), o' 42 (.ld none (.t 41)), m' 8 42] [4, 6, 7, 8]) (c85x10)
def c85x12 : AC := .reg [m' 51 6, o' 52 (.idx 1 none (.t 51) (i' 1)), o' 53 (.ld none (.t 52)), m' 8 53] [4, 6, 7, 8]
def c85x13 : AC := .reg [m' 56 6, o' 57 (.idx 1 none (.t 56) (i' 9)), o' 58 (.ld none (.t 57)), m' 8 58] [4, 6, 7, 8]
def c85x14 : AC := .cond (.t 54) (c85x13) (.skip)
def c85x15 : AC := .seq (.reg [o' 55 (.bin .eql (.t 15) (i' 3)), m' 54 55] [4, 6, 7, 8, 54]) (c85x14)
def c85x16 : AC := .cond (.t 49) (c85x12) (c85x15)
def c85x17 : AC := .seq (.reg [o' 50 (.bin .eql (.t 15) (i' 2)), m' 49 50] [4, 6, 7, 8, 15, 49]) (c85x16)
def c85x18 : AC := .cond (.t 38) (c85x11) (c85x17)
def c85x19 : AC := .seq (.reg [o' 39 (.bin .eql (.t 15) (i' 1)), m' 38 39] [4, 6, 7, 8, 15, 38]) (c85x18)
def c85x20 : AC := .cond (.t 16) (c85x7) (c85x19)
def c85x21 : AC := .seq (.reg [o' 17 (.bin .eql (.t 15) (i' 0)), m' 16 17] [4, 6, 7, 8, 15, 16]) (c85x20)
def c85x22 : AC := .block 0 (c85x21)
def c85x23 : AC := .seq (.reg [m' 15 1] [4, 6, 7, 8, 15]) (c85x22)
def c85x24 : AC := .seq (c85x23) (c85x0)
def c85x25 : AC := .seq (.reg [o' 8 (.mv (i' 0))] [1, 4, 6, 7, 8]) (c85x24)
def c85x26 : AC := .seq (.reg [o' 11 (.ld (some 2) (.t 2)), o' 12 (.call 76 [.t 11]), m' 10 12, o' 13 (.ext (.t 10) 0), o' 14 (.ext (.t 10) 1), m' 6 13, m' 7 14] [1, 4, 6, 7]) (c85x25)
def c85 : AC := .seq (.reg [o' 2 (.new 2 (.t 0)), o' 4 (.zero [(.slice none 0 0), (.slice none 0 0)]), o' 5 (.mv (i' 0))] [1, 2, 4]) (c85x26)
def v113 : List (Nat × List Nat) := [(0, [0, 1, 4]), (1, [0, 1, 4, 28]), (2, [0, 4]), (3, [0, 4]), (4, [0, 44]), (5, [])]
def r113 : List AR := []
def c113x0 : AC := .reg [m' 45 0, o' 46 (.idx 1 none (.t 45) (i' 7)), n' (.st 1 (.t 46) (i' 1))] []
def c113x1 : AC := .cond (.t 44) (c113x0) (.skip)
def c113x2 : AC := .seq (.reg [m' 43 4, o' 44 (.bin .eql (.t 43) (i' 4))] [0, 44]) (c113x1)
def c113x3 : AC := .seq (.reg [m' 41 0, o' 42 (.idx 1 none (.t 41) (i' 7)), n' (.st 1 (.t 42) (i' 0))] [0, 4]) (c113x2)
def c113x4 : AC := .seq (.reg [m' 29 0, m' 30 0, m' 31 0, m' 32 0, m' 33 4, m' 34 1, o' 35 (.bin .shr (.t 34) (.k (.int .u64 4))), o' 36 (.bin .and (.t 35) (i' 3)), o' 37 (.idx 1 none (.t 29) (i' 2)), n' (.st 1 (.t 37) (.t 33)), o' 38 (.idx 1 none (.t 30) (i' 3)), n' (.st 1 (.t 38) (.t 36)), o' 39 (.idx 1 none (.t 31) (i' 4)), n' (.st 1 (.t 39) (i' 0)), o' 40 (.idx 1 none (.t 32) (i' 5)), n' (.st 1 (.t 40) (i' 30))] [0, 4]) (c113x3)
def c113x5 : AC := .cond (.t 28) (.ret) (.skip)
def c113x6 : AC := .seq (.reg [m' 7 0, o' 8 (.idx 1 none (.t 7) (i' 2)), o' 9 (.ld none (.t 8)), o' 10 (.bin .gtr (.t 9) (i' 0)), m' 11 10, ⟨(some 12), .mv (.t 4), (some (11, false))⟩, ⟨(some 13), .bin .lss (.t 12) (i' 1), (some (11, false))⟩, o' 14 (.pick (.t 11) (.k (.bool true)) (.t 13)), m' 15 14, ⟨(some 16), .mv (.t 4), (some (15, false))⟩, ⟨(some 17), .bin .gtr (.t 16) (i' 4), (some (15, false))⟩, o' 18 (.pick (.t 15) (.k (.bool true)) (.t 17)), m' 19 18, ⟨(some 20), .mv (.t 4), (some (19, false))⟩, ⟨(some 21), .bin .geq (.t 20) (i' 3), (some (19, false))⟩, ⟨(some 22), .mv (.t 21), (some (19, false))⟩, ⟨(some 23), .mv (.t 0), (some (22, true))⟩, ⟨(some 24), .idx 1 none (.t 23) (i' 0), (some (22, true))⟩, ⟨(some 25), .ld none (.t 24), (some (22, true))⟩, ⟨(some 26), .bin .eql (.t 25) (i' 0), (some (22, true))⟩, ⟨(some 27), .pick (.t 22) (.t 26) (.k (.bool false)), (some (19, false))⟩, o' 28 (.pick (.t 19) (.k (.bool true)) (.t 27))] [0, 1, 4, 28]) (c113x5)
def c113x7 : AC := .seq (c113x6) (c113x4)
def c113 : AC := .seq (.reg [m' 5 1, o' 6 (.bin .and (.t 5) (i' 15)), m' 4 6] [0, 1, 4]) (c113x7)
theorem k113 : Tryz.f113.body.bind (compC Tryz.prog Tryz.f113.ntmps v113) = some c113 := by kernel_rfl
theorem e113 : enters Tryz.prog 113 = true := by kernel_rfl
theorem q113 : Tryz.f113.results.toList.mapM (compRes Tryz.prog) = some r113 := by kernel_rfl
def v117 : List (Nat × List Nat) := [(0, [0]), (1, [2])]
def r117 : List AR := [.t 2]
def c117x0 : AC := .seq (.dreg [m' 3 0, o' 4 (.idx 1 none (.t 3) (i' 0)), o' 5 (.ld none (.t 4)), o' 6 (.bin .sub (.t 5) (i' 1)), o' 7 (.bin .mul (.t 6) (i' 256)), m' 8 0, o' 9 (.idx 1 none (.t 8) (i' 1)), o' 10 (.ld none (.t 9)), o' 11 (.bin .mul (.t 10) (i' 4)), m' 12 0, o' 13 (.idx 1 none (.t 12) (i' 3)), o' 14 (.ld none (.t 13)), o' 15 (.bin .add (.t 11) (.t 14)), o' 16 (.bin .mul (.t 15) (i' 16)), o' 17 (.bin .add (.t 7) (.t 16)), m' 18 0, o' 19 (.idx 1 none (.t 18) (i' 4)), o' 20 (.ld none (.t 19)), o' 21 (.bin .add (.t 17) (.t 20)), m' 2 21] [[], [0], [0, 1], [0, 1, 2], [0, 1, 2, 3], [], [5], [5, 6], [5, 6, 7], [], [9], [9, 10], [5, 6, 7, 8, 9, 10, 11], [5, 6, 7, 8, 9, 10, 11, 12], [0, 1, 2, 3, 4, 5, 6, 7, 8, 9, 10, 11, 12, 13], [], [15], [15, 16], [0, 1, 2, 3, 4, 5, 6, 7, 8, 9, 10, 11, 12, 13, 14, 15, 16, 17], [0, 1, 2, 3, 4, 5, 6, 7, 8, 9, 10, 11, 12, 13, 14, 15, 16, 17, 18]] [2]) (.ret)
def c117 : AC := .seq (.reg [o' 2 (.mv (i' 0))] [0]) (c117x0)
theorem k117 : Tryz.f117.body.bind (compC Tryz.prog Tryz.f117.ntmps v117) = some c117 := by kernel_rfl
theorem e117 : enters Tryz.prog 117 = true := by kernel_rfl
theorem q117 : Tryz.f117.results.toList.mapM (compRes Tryz.prog) = some r117 := by kernel_rfl
def v120 : List (Nat × List Nat) := [(0, [0]), (1, [2])]
def r120 : List AR := [.t 2]
def c120x0 : AC := .seq (.reg [m' 3 0, o' 4 (.idx 1 none (.t 3) (i' 2)), o' 5 (.ld none (.t 4)), o' 6 (.mnx false [i' 1, .t 5]), m' 2 6] [2]) (.ret)
def c120 : AC := .seq (.reg [o' 2 (.mv (i' 0))] [0]) (c120x0)
end Go.Proofs.YtolmklnijjfppaaGreat.Code

namespace Go.Proofs.YtolmklnijjfppaaGreat.Code
open Go Go.Proofs.YtolmklnijjfppaaGreat.Calc
set_option maxRecDepth 100000
def v6 : List (Nat × List Nat) := [(0, [2, 3, 4, 6]), (1, [2, 3, 4, 6, 8]), (2, [2, 3, 4, 6, 8, 9]), (3, [2, 3, 4, 6, 8, 9]), (4, [2, 3, 4, 6, 8, 9]), (5, [6]), (6, [2, 4, 6, 8, 16]), (7, [6]), (8, [2, 4, 6, 8, 21]), (9, [6]), (10, [2, 4, 6, 8, 27]), (11, [6]), (12, [2, 4, 6, 8, 32]), (13, [6]), (14, [2, 4, 6, 8, 37]), (15, [6]), (16, [2, 4, 6, 42]), (17, [6]), (18, [6])]
def r6 : List AR := [.cell (some 2) 6]
def c6x0 : AC := .seq (.reg [o' 47 (.build [(.slice none 0 0), (.slice none 0 0)] []), n' (.st 2 (.t 6) (.t 47))] [6]) (.ret)
def c6x1 : AC := .seq (.reg [o' 13 (.ld (some 5) (.t 3)), o' 14 (.ld (some 2) (.t 4)), o' 15 (.call 20 [.t 13, .t 14]), n' (.st 2 (.t 6) (.t 15))] [6]) (.ret)
def c6x2 : AC := .seq (.reg [o' 18 (.ld (some 2) (.t 4)), m' 19 2, o' 20 (.call 21 [.t 18, .t 19]), n' (.st 2 (.t 6) (.t 20))] [6]) (.ret)
def c6x3 : AC := .seq (.dreg [o' 23 (.ld (some 2) (.t 4)), o' 24 (.ld (some 2) (.t 4)), o' 25 (.call 23 [.t 24]), o' 26 (.call 22 [.t 23, .t 25]), n' (.st 2 (.t 6) (.t 26))] [[], [], [1], [0, 1, 2], [0, 1, 2, 3]] [6]) (.ret)
def c6x4 : AC := .seq (.reg [o' 29 (.ld (some 2) (.t 4)), m' 30 2, o' 31 (.call 24 [.t 29, .t 30]), n' (.st 2 (.t 6) (.t 31))] [6]) (.ret)
def c6x5 : AC := .seq (.reg [o' 34 (.ld (some 2) (.t 4)), m' 35 2, o' 36 (.call 25 [.t 34, .t 35]), n' (.st 2 (.t 6) (.t 36))] [6]) (.ret)
def c6x6 : AC := .seq (.reg [o' 39 (.ld (some 2) (.t 4)), m' 40 2, o' 41 (.call 26 [.t 39, .t 40]), n' (.st 2 (.t 6) (.t 41))] [6]) (.ret)
def c6x7 : AC := .seq (.reg [o' 44 (.ld (some 2) (.t 4)), m' 45 2, o' 46 (.call 27 [.t 44, .t 45]), n' (.st 2 (.t 6) (.t 46))] [6]) (.ret)
def c6x8 : AC := .cond (.t 42) (c6x7) (.skip)
def c6x9 : AC := .seq (.reg [o' 43 (.bin .eql (.t 8) (i' 8)), m' 42 43] [2, 4, 6, 42]) (c6x8)
def c6x10 : AC := .cond (.t 37) (c6x6) (c6x9)
def c6x11 : AC := .seq (.reg [o' 38 (.bin .eql (.t 8) (i' 7)), m' 37 38] [2, 4, 6, 8, 37]) (c6x10)
def c6x12 : AC := .cond (.t 32) (c6x5) (c6x11)
def c6x13 : AC := .seq (.reg [o' 33 (.bin .eql (.t 8) (i' 6)), m' 32 33] [2, 4, 6, 8, 32]) (c6x12)
def c6x14 : AC := .cond (.t 27) (c6x4) (c6x13)
def c6x15 : AC := .seq (.reg [o' 28 (.bin .eql (.t 8) (i' 5)), m' 27 28] [2, 4, 6, 8, 27]) (c6x14)
def c6x16 : AC := .cond (.t 21) (c6x3) (c6x15)
def c6x17 : AC := .seq (.reg [o' 22 (.bin .eql (.t 8) (i' 4)), m' 21 22] [2, 4, 6, 8, 21]) (c6x16)
def c6x18 : AC := .cond (.t 16) (c6x2) (c6x17)
def c6x19 : AC := .seq (.reg [o' 17 (.bin .eql (.t 8) (i' 3)), m' 16 17] [2, 4, 6, 8, 16]) (c6x18)
def c6x20 : AC := .cond (.t 9) (c6x1) (c6x19)
def c6x21 : AC := .reg [o' 12 (.bin .eql (.t 8) (i' 2)), m' 9 12] [2, 3, 4, 6, 8, 9]
def c6x22 : AC := .cond (.t 9) (.skip) (c6x21)
def c6x23 : AC := .seq (.reg [o' 11 (.bin .eql (.t 8) (i' 1)), m' 9 11] [2, 3, 4, 6, 8, 9]) (c6x22)
def c6x24 : AC := .cond (.t 9) (.skip) (c6x23)
def c6x25 : AC := .seq (.reg [o' 10 (.bin .eql (.t 8) (i' 0)), m' 9 10] [2, 3, 4, 6, 8, 9]) (c6x24)
def c6x26 : AC := .seq (c6x25) (c6x20)
def c6x27 : AC := .block 0 (c6x26)
def c6x28 : AC := .seq (.reg [o' 7 (.fad 1 (.t 3)), o' 8 (.ld none (.t 7))] [2, 3, 4, 6, 8]) (c6x27)
def c6x29 : AC := .seq (c6x28) (c6x0)
def c6 : AC := .seq (.reg [o' 3 (.new 5 (.t 0)), o' 4 (.new 2 (.t 1)), o' 6 (.zero [(.slice none 0 0), (.slice none 0 0)])] [2, 3, 4, 6]) (c6x29)
theorem k6 : Tryz.f6.body.bind (compC Tryz.prog Tryz.f6.ntmps v6) = some c6 := by kernel_rfl
theorem e6 : enters Tryz.prog 6 = true := by kernel_rfl
theorem q6 : Tryz.f6.results.toList.mapM (compRes Tryz.prog) = some r6 := by kernel_rfl
def v8 : List (Nat × List Nat) := [(0, [2, 3]), (1, [3, 6]), (2, [3, 6, 7]), (3, [4]), (4, [3, 6, 11]), (5, [4]), (6, [3, 6, 15]), (7, [4]), (8, [3, 6, 19]), (9, [4]), (10, [3, 23]), (11, [4]), (12, [4])]
def r8 : List AR := [.t 4]
def c8x0 : AC := .seq (.reg [o' 4 (.mv (i' 100000))] [4]) (.ret)
def c8x1 : AC := .seq (.reg [o' 9 (.ld (some 2) (.t 3)), o' 10 (.call 28 [.t 9]), m' 4 10] [4]) (.ret)
def c8x2 : AC := .seq (.reg [o' 13 (.ld (some 2) (.t 3)), o' 14 (.call 29 [.t 13]), m' 4 14] [4]) (.ret)
def c8x3 : AC := .seq (.reg [o' 17 (.ld (some 2) (.t 3)), o' 18 (.call 30 [.t 17]), m' 4 18] [4]) (.ret)
def c8x4 : AC := .seq (.reg [o' 21 (.ld (some 2) (.t 3)), o' 22 (.call 31 [.t 21]), m' 4 22] [4]) (.ret)
def c8x5 : AC := .seq (.reg [o' 25 (.ld (some 2) (.t 3)), o' 26 (.call 32 [.t 25]), m' 4 26] [4]) (.ret)
def c8x6 : AC := .cond (.t 23) (c8x5) (.skip)
def c8x7 : AC := .seq (.reg [o' 24 (.bin .eql (.t 6) (i' 8)), m' 23 24] [3, 23]) (c8x6)
def c8x8 : AC := .cond (.t 19) (c8x4) (c8x7)
def c8x9 : AC := .seq (.reg [o' 20 (.bin .eql (.t 6) (i' 7)), m' 19 20] [3, 6, 19]) (c8x8)
def c8x10 : AC := .cond (.t 15) (c8x3) (c8x9)
def c8x11 : AC := .seq (.reg [o' 16 (.bin .eql (.t 6) (i' 6)), m' 15 16] [3, 6, 15]) (c8x10)
def c8x12 : AC := .cond (.t 11) (c8x2) (c8x11)
def c8x13 : AC := .seq (.reg [o' 12 (.bin .eql (.t 6) (i' 5)), m' 11 12] [3, 6, 11]) (c8x12)
def c8x14 : AC := .cond (.t 7) (c8x1) (c8x13)
def c8x15 : AC := .seq (.reg [o' 8 (.bin .eql (.t 6) (i' 3)), m' 7 8] [3, 6, 7]) (c8x14)
def c8x16 : AC := .block 0 (c8x15)
def c8x17 : AC := .seq (.reg [o' 5 (.fad 1 (.t 2)), o' 6 (.ld none (.t 5))] [3, 6]) (c8x16)
def c8x18 : AC := .seq (c8x17) (c8x0)
def c8 : AC := .seq (.reg [o' 2 (.new 5 (.t 0)), o' 3 (.new 2 (.t 1)), o' 4 (.mv (i' 0))] [2, 3]) (c8x18)
theorem k8 : Tryz.f8.body.bind (compC Tryz.prog Tryz.f8.ntmps v8) = some c8 := by kernel_rfl
theorem e8 : enters Tryz.prog 8 = true := by kernel_rfl
theorem q8 : Tryz.f8.results.toList.mapM (compRes Tryz.prog) = some r8 := by kernel_rfl
def v10 : List (Nat × List Nat) := [(0, [2, 3]), (1, [3, 6]), (2, [3, 6, 7]), (3, [4]), (4, [3, 6, 11]), (5, [4]), (6, [3, 6, 15]), (7, [4]), (8, [3, 6, 19]), (9, [4]), (10, [3, 23]), (11, [4]), (12, [4])]
def r10 : List AR := [.t 4]
def c10x0 : AC := .seq (.reg [o' 4 (.mv (i' 0))] [4]) (.ret)
def c10x1 : AC := .seq (.reg [o' 9 (.ld (some 2) (.t 3)), o' 10 (.call 35 [.t 9]), m' 4 10] [4]) (.ret)
def c10x2 : AC := .seq (.reg [o' 13 (.ld (some 2) (.t 3)), o' 14 (.call 36 [.t 13]), m' 4 14] [4]) (.ret)
def c10x3 : AC := .seq (.reg [o' 17 (.ld (some 2) (.t 3)), o' 18 (.call 37 [.t 17]), m' 4 18] [4]) (.ret)
def c10x4 : AC := .seq (.reg [o' 21 (.ld (some 2) (.t 3)), o' 22 (.call 38 [.t 21]), m' 4 22] [4]) (.ret)
def c10x5 : AC := .seq (.reg [o' 25 (.ld (some 2) (.t 3)), o' 26 (.call 39 [.t 25]), m' 4 26] [4]) (.ret)
def c10x6 : AC := .cond (.t 23) (c10x5) (.skip)
def c10x7 : AC := .seq (.reg [o' 24 (.bin .eql (.t 6) (i' 8)), m' 23 24] [3, 23]) (c10x6)
def c10x8 : AC := .cond (.t 19) (c10x4) (c10x7)
def c10x9 : AC := .seq (.reg [o' 20 (.bin .eql (.t 6) (i' 7)), m' 19 20] [3, 6, 19]) (c10x8)
def c10x10 : AC := .cond (.t 15) (c10x3) (c10x9)
def c10x11 : AC := .seq (.reg [o' 16 (.bin .eql (.t 6) (i' 6)), m' 15 16] [3, 6, 15]) (c10x10)
def c10x12 : AC := .cond (.t 11) (c10x2) (c10x11)
def c10x13 : AC := .seq (.reg [o' 12 (.bin .eql (.t 6) (i' 5)), m' 11 12] [3, 6, 11]) (c10x12)
def c10x14 : AC := .cond (.t 7) (c10x1) (c10x13)
def c10x15 : AC := .seq (.reg [o' 8 (.bin .eql (.t 6) (i' 4)), m' 7 8] [3, 6, 7]) (c10x14)
def c10x16 : AC := .block 0 (c10x15)
def c10x17 : AC := .seq (.reg [o' 5 (.fad 1 (.t 2)), o' 6 (.ld none (.t 5))] [3, 6]) (c10x16)
def c10x18 : AC := .seq (c10x17) (c10x0)
def c10 : AC := .seq (.reg [o' 2 (.new 5 (.t 0)), o' 3 (.new 2 (.t 1)), o' 4 (.mv (i' 0))] [2, 3]) (c10x18)
theorem k10 : Tryz.f10.body.bind (compC Tryz.prog Tryz.f10.ntmps v10) = some c10 := by kernel_rfl
theorem e10 : enters Tryz.prog 10 = true := by kernel_rfl
theorem q10 : Tryz.f10.results.toList.mapM (compRes Tryz.prog) = some r10 := by kernel_rfl
def v11 : List (Nat × List Nat) := [(0, [2, 3]), (1, [3, 6]), (2, [3, 6, 7]), (3, [4]), (4, [3, 6, 11]), (5, [4]), (6, [3, 15]), (7, [4]), (8, [4])]
def r11 : List AR := [.t 4]
def c11x0 : AC := .seq (.reg [o' 4 (.mv (.k (.bool false)))] [4]) (.ret)
def c11x1 : AC := .seq (.reg [o' 9 (.ld (some 2) (.t 3)), o' 10 (.call 40 [.t 9]), m' 4 10] [4]) (.ret)
def c11x2 : AC := .seq (.reg [o' 13 (.ld (some 2) (.t 3)), o' 14 (.call 41 [.t 13]), m' 4 14] [4]) (.ret)
def c11x3 : AC := .seq (.reg [o' 17 (.ld (some 2) (.t 3)), o' 18 (.call 42 [.t 17]), m' 4 18] [4]) (.ret)
def c11x4 : AC := .cond (.t 15) (c11x3) (.skip)
def c11x5 : AC := .seq (.reg [o' 16 (.bin .eql (.t 6) (i' 8)), m' 15 16] [3, 15]) (c11x4)
def c11x6 : AC := .cond (.t 11) (c11x2) (c11x5)
def c11x7 : AC := .seq (.reg [o' 12 (.bin .eql (.t 6) (i' 5)), m' 11 12] [3, 6, 11]) (c11x6)
def c11x8 : AC := .cond (.t 7) (c11x1) (c11x7)
def c11x9 : AC := .seq (.reg [o' 8 (.bin .eql (.t 6) (i' 3)), m' 7 8] [3, 6, 7]) (c11x8)
def c11x10 : AC := .block 0 (c11x9)
def c11x11 : AC := .seq (.reg [o' 5 (.fad 1 (.t 2)), o' 6 (.ld none (.t 5))] [3, 6]) (c11x10)
def c11x12 : AC := .seq (c11x11) (c11x0)
def c11 : AC := .seq (.reg [o' 2 (.new 5 (.t 0)), o' 3 (.new 2 (.t 1)), o' 4 (.mv (.k (.bool false)))] [2, 3]) (c11x12)
theorem k11 : Tryz.f11.body.bind (compC Tryz.prog Tryz.f11.ntmps v11) = some c11 := by kernel_rfl
theorem e11 : enters Tryz.prog 11 = true := by kernel_rfl
theorem q11 : Tryz.f11.results.toList.mapM (compRes Tryz.prog) = some r11 := by kernel_rfl
def v17 : List (Nat × List Nat) := [(0, [1, 2]), (1, [1, 2, 5]), (2, [1, 2, 5, 6]), (3, [1, 2, 5, 6]), (4, [1, 2, 5, 6]), (5, [1, 2, 3]), (6, [1, 2, 3]), (7, [2, 3, 21]), (8, [2, 3]), (9, [2]), (10, [1, 2, 5, 25]), (11, [2]), (12, [1, 2, 5, 28]), (13, [2]), (14, [1, 2, 5, 31]), (15, [2]), (16, [1, 2, 5, 34]), (17, [2]), (18, [1, 2, 5, 37]), (19, [2]), (20, [1, 2, 40]), (21, [2]), (22, [2])]
def r17 : List AR := [.cell (some 2) 2]
def c17x0 : AC := .seq (.reg [o' 45 (.build [(.slice none 0 0), (.slice none 0 0)] []), n' (.st 2 (.t 2) (.t 45))] [2]) (.ret)
def c17x1 : AC := .seq (.reg [o' 24 (.ld (some 2) (.t 3)), n' (.st 2 (.t 2) (.t 24))] [2]) (.ret)
def c17x2 : AC := .reg [o' 22 (.bsl [(.int .i64 0)] 1 [(0, (i' 0))]), o' 23 (.fad 0 (.t 3)), n' (.st 1 (.t 23) (.t 22))] [2, 3]
def c17x3 : AC := .cond (.t 21) (c17x2) (.skip)
def c17x4 : AC := .seq (.reg [o' 19 (.fad 1 (.t 1)), o' 20 (.ld none (.t 19)), o' 21 (.bin .eql (.t 20) (i' 2))] [2, 3, 21]) (c17x3)
def c17x5 : AC := .seq (c17x4) (c17x1)
def c17x6 : AC := .seq (.reg [o' 14 (.fad 1 (.t 3)), o' 15 (.ld none (.t 14)), o' 16 (.fad 4 (.t 1)), o' 17 (.ld none (.t 16)), o' 18 (.copy 1 (.t 15) (.t 17))] [1, 2, 3]) (c17x5)
def c17x7 : AC := .seq (.reg [o' 10 (.ld (some 5) (.t 1)), o' 11 (.call 52 [.t 10]), o' 12 (.mksl [(.int .u8 0)] 1 (.t 11) (.t 11)), o' 13 (.build [(.slice none 0 0), (.slice none 0 0)] [(1, 1, (.t 12))]), o' 3 (.zero [(.slice none 0 0), (.slice none 0 0)]), n' (.st 2 (.t 3) (.t 13))] [1, 2, 3]) (c17x6)
def c17x8 : AC := .seq (.reg [o' 27 (.call 53 []), n' (.st 2 (.t 2) (.t 27))] [2]) (.ret)
def c17x9 : AC := .seq (.reg [o' 30 (.call 54 []), n' (.st 2 (.t 2) (.t 30))] [2]) (.ret)
def c17x10 : AC := .seq (.reg [o' 33 (.call 55 []), n' (.st 2 (.t 2) (.t 33))] [2]) (.ret)
def c17x11 : AC := .seq (.reg [o' 36 (.call 56 []), n' (.st 2 (.t 2) (.t 36))] [2]) (.ret)
def c17x12 : AC := .seq (.reg [o' 39 (.call 57 []), n' (.st 2 (.t 2) (.t 39))] [2]) (.ret)
def c17x13 : AC := .seq (.reg [o' 42 (.fad 4 (.t 1)), o' 43 (.ld none (.t 42)), o' 44 (.call 58 [.t 43]), n' (.st 2 (.t 2) (.t 44))] [2]) (.ret)
def c17x14 : AC := .cond (.t 40) (c17x13) (.skip)
def c17x15 : AC := .seq (.reg [o' 41 (.bin .eql (.t 5) (i' 8)), m' 40 41] [1, 2, 40]) (c17x14)
def c17x16 : AC := .cond (.t 37) (c17x12) (c17x15)
def c17x17 : AC := .seq (.reg [o' 38 (.bin .eql (.t 5) (i' 7)), m' 37 38] [1, 2, 5, 37]) (c17x16)
def c17x18 : AC := .cond (.t 34) (c17x11) (c17x17)
def c17x19 : AC := .seq (.reg [o' 35 (.bin .eql (.t 5) (i' 6)), m' 34 35] [1, 2, 5, 34]) (c17x18)
def c17x20 : AC := .cond (.t 31) (c17x10) (c17x19)
def c17x21 : AC := .seq (.reg [o' 32 (.bin .eql (.t 5) (i' 5)), m' 31 32] [1, 2, 5, 31]) (c17x20)
def c17x22 : AC := .cond (.t 28) (c17x9) (c17x21)
def c17x23 : AC := .seq (.reg [o' 29 (.bin .eql (.t 5) (i' 4)), m' 28 29] [1, 2, 5, 28]) (c17x22)
def c17x24 : AC := .cond (.t 25) (c17x8) (c17x23)
def c17x25 : AC := .seq (.reg [o' 26 (.bin .eql (.t 5) (i' 3)), m' 25 26] [1, 2, 5, 25]) (c17x24)
def c17x26 : AC := .cond (.t 6) (c17x7) (c17x25)
def c17x27 : AC := .reg [o' 9 (.bin .eql (.t 5) (i' 2)), m' 6 9] [1, 2, 5, 6]
def c17x28 : AC := .cond (.t 6) (.skip) (c17x27)
def c17x29 : AC := .seq (.reg [o' 8 (.bin .eql (.t 5) (i' 1)), m' 6 8] [1, 2, 5, 6]) (c17x28)
def c17x30 : AC := .cond (.t 6) (.skip) (c17x29)
def c17x31 : AC := .seq (.reg [o' 7 (.bin .eql (.t 5) (i' 0)), m' 6 7] [1, 2, 5, 6]) (c17x30)
def c17x32 : AC := .seq (c17x31) (c17x26)
def c17x33 : AC := .block 0 (c17x32)
def c17x34 : AC := .seq (.reg [o' 4 (.fad 1 (.t 1)), o' 5 (.ld none (.t 4))] [1, 2, 5]) (c17x33)
def c17x35 : AC := .seq (c17x34) (c17x0)
def c17 : AC := .seq (.reg [o' 1 (.new 5 (.t 0)), o' 2 (.zero [(.slice none 0 0), (.slice none 0 0)])] [1, 2]) (c17x35)
theorem k17 : Tryz.f17.body.bind (compC Tryz.prog Tryz.f17.ntmps v17) = some c17 := by kernel_rfl
theorem e17 : enters Tryz.prog 17 = true := by kernel_rfl
theorem q17 : Tryz.f17.results.toList.mapM (compRes Tryz.prog) = some r17 := by kernel_rfl
def v18 : List (Nat × List Nat) := [(0, [2, 3, 4, 5, 8]), (1, [2, 3, 4, 5, 8, 10]), (2, [2, 3, 4, 5, 8, 10, 11]), (3, [2, 3, 4, 5, 8, 10, 11]), (4, [2, 3, 4, 5, 8, 10, 11]), (5, [8]), (6, [2, 3, 5, 8, 10, 20]), (7, [8]), (8, [2, 3, 5, 8, 10, 26]), (9, [8]), (10, [2, 3, 5, 8, 10, 32]), (11, [8]), (12, [2, 3, 5, 8, 10, 38]), (13, [8]), (14, [2, 3, 5, 8, 10, 44]), (15, [8]), (16, [2, 3, 5, 8, 50]), (17, [8]), (18, [8])]
def r18 : List AR := [.cell (some 2) 8]
def c18x0 : AC := .seq (.reg [o' 56 (.build [(.slice none 0 0), (.slice none 0 0)] []), n' (.st 2 (.t 8) (.t 56))] [8]) (.ret)
def c18x1 : AC := .seq (.reg [o' 15 (.ld (some 5) (.t 4)), o' 16 (.ld (some 2) (.t 5)), m' 17 2, m' 18 3, o' 19 (.call 59 [.t 15, .t 16, .t 17, .t 18]), n' (.st 2 (.t 8) (.t 19))] [8]) (.ret)
def c18x2 : AC := .seq (.reg [o' 22 (.ld (some 2) (.t 5)), m' 23 2, m' 24 3, o' 25 (.call 60 [.t 22, .t 23, .t 24]), n' (.st 2 (.t 8) (.t 25))] [8]) (.ret)
def c18x3 : AC := .seq (.reg [o' 28 (.ld (some 2) (.t 5)), m' 29 2, m' 30 3, o' 31 (.call 61 [.t 28, .t 29, .t 30]), n' (.st 2 (.t 8) (.t 31))] [8]) (.ret)
def c18x4 : AC := .seq (.reg [o' 34 (.ld (some 2) (.t 5)), m' 35 2, m' 36 3, o' 37 (.call 62 [.t 34, .t 35, .t 36]), n' (.st 2 (.t 8) (.t 37))] [8]) (.ret)
def c18x5 : AC := .seq (.reg [o' 40 (.ld (some 2) (.t 5)), m' 41 2, m' 42 3, o' 43 (.call 63 [.t 40, .t 41, .t 42]), n' (.st 2 (.t 8) (.t 43))] [8]) (.ret)
def c18x6 : AC := .seq (.reg [o' 46 (.ld (some 2) (.t 5)), m' 47 2, m' 48 3, o' 49 (.call 64 [.t 46, .t 47, .t 48]), n' (.st 2 (.t 8) (.t 49))] [8]) (.ret)
def c18x7 : AC := .seq (.reg [o' 52 (.ld (some 2) (.t 5)), m' 53 2, m' 54 3, o' 55 (.call 65 [.t 52, .t 53, .t 54]), n' (.st 2 (.t 8) (.t 55))] [8]) (.ret)
def c18x8 : AC := .cond (.t 50) (c18x7) (.skip)
def c18x9 : AC := .seq (.reg [o' 51 (.bin .eql (.t 10) (i' 8)), m' 50 51] [2, 3, 5, 8, 50]) (c18x8)
def c18x10 : AC := .cond (.t 44) (c18x6) (c18x9)
def c18x11 : AC := .seq (.reg [o' 45 (.bin .eql (.t 10) (i' 7)), m' 44 45] [2, 3, 5, 8, 10, 44]) (c18x10)
def c18x12 : AC := .cond (.t 38) (c18x5) (c18x11)
def c18x13 : AC := .seq (.reg [o' 39 (.bin .eql (.t 10) (i' 6)), m' 38 39] [2, 3, 5, 8, 10, 38]) (c18x12)
def c18x14 : AC := .cond (.t 32) (c18x4) (c18x13)
def c18x15 : AC := .seq (.reg [o' 33 (.bin .eql (.t 10) (i' 5)), m' 32 33] [2, 3, 5, 8, 10, 32]) (c18x14)
def c18x16 : AC := .cond (.t 26) (c18x3) (c18x15)
def c18x17 : AC := .seq (.reg [o' 27 (.bin .eql (.t 10) (i' 4)), m' 26 27] [2, 3, 5, 8, 10, 26]) (c18x16)
def c18x18 : AC := .cond (.t 20) (c18x2) (c18x17)
def c18x19 : AC := .seq (.reg [o' 21 (.bin .eql (.t 10) (i' 3)), m' 20 21] [2, 3, 5, 8, 10, 20]) (c18x18)
def c18x20 : AC := .cond (.t 11) (c18x1) (c18x19)
def c18x21 : AC := .reg [o' 14 (.bin .eql (.t 10) (i' 2)), m' 11 14] [2, 3, 4, 5, 8, 10, 11]
def c18x22 : AC := .cond (.t 11) (.skip) (c18x21)
def c18x23 : AC := .seq (.reg [o' 13 (.bin .eql (.t 10) (i' 1)), m' 11 13] [2, 3, 4, 5, 8, 10, 11]) (c18x22)
def c18x24 : AC := .cond (.t 11) (.skip) (c18x23)
def c18x25 : AC := .seq (.reg [o' 12 (.bin .eql (.t 10) (i' 0)), m' 11 12] [2, 3, 4, 5, 8, 10, 11]) (c18x24)
def c18x26 : AC := .seq (c18x25) (c18x20)
def c18x27 : AC := .block 0 (c18x26)
def c18x28 : AC := .seq (.reg [o' 9 (.fad 1 (.t 4)), o' 10 (.ld none (.t 9))] [2, 3, 4, 5, 8, 10]) (c18x27)
def c18x29 : AC := .seq (c18x28) (c18x0)
def c18 : AC := .seq (.reg [o' 4 (.new 5 (.t 0)), o' 5 (.new 2 (.t 1)), o' 8 (.zero [(.slice none 0 0), (.slice none 0 0)])] [2, 3, 4, 5, 8]) (c18x29)
theorem k18 : Tryz.f18.body.bind (compC Tryz.prog Tryz.f18.ntmps v18) = some c18 := by kernel_rfl
theorem e18 : enters Tryz.prog 18 = true := by kernel_rfl
theorem q18 : Tryz.f18.results.toList.mapM (compRes Tryz.prog) = some r18 := by kernel_rfl
def v20 : List (Nat × List Nat) := [(0, [2, 3, 4]), (1, [2, 3, 4, 5]), (2, [2, 3, 4, 5]), (3, [2, 3, 4, 5, 17]), (4, [2, 3, 4, 5]), (5, [2, 3, 4, 5, 23]), (6, [4, 5]), (7, [4])]
def r20 : List AR := [.cell (some 2) 4]
def c20x0 : AC := .seq (.reg [o' 40 (.ld (some 2) (.t 5)), n' (.st 2 (.t 4) (.t 40))] [4]) (.ret)
def c20x1 : AC := .dreg [o' 24 (.fad 0 (.t 5)), o' 25 (.ld none (.t 24)), o' 26 (.fad 0 (.t 3)), o' 27 (.ld none (.t 26)), o' 28 (.idx 1 none (.t 27) (i' 0)), o' 29 (.ld none (.t 28)), o' 30 (.ld (some 5) (.t 2)), o' 31 (.call 66 [.t 30]), o' 32 (.bin .rem (.t 29) (.t 31)), o' 33 (.ld (some 5) (.t 2)), o' 34 (.call 66 [.t 33]), o' 35 (.bin .add (.t 32) (.t 34)), o' 36 (.ld (some 5) (.t 2)), o' 37 (.call 66 [.t 36]), o' 38 (.bin .rem (.t 35) (.t 37)), o' 39 (.idx 1 none (.t 25) (i' 0)), n' (.st 1 (.t 39) (.t 38))] [[], [0], [], [2], [2, 3], [2, 3, 4], [], [6], [2, 3, 4, 5, 6, 7], [], [6, 7, 9], [2, 3, 4, 5, 6, 7, 8, 9, 10], [], [6, 7, 9, 10, 12], [2, 3, 4, 5, 6, 7, 8, 9, 10, 11, 12, 13], [0, 1, 2, 3, 4, 5, 6, 7, 8, 9, 10, 11, 12, 13, 14], [0, 1, 2, 3, 4, 5, 6, 7, 8, 9, 10, 11, 12, 13, 14, 15]] [4, 5]
def c20x2 : AC := .cond (.t 23) (c20x1) (.skip)
def c20x3 : AC := .seq (.reg [o' 20 (.fad 0 (.t 3)), o' 21 (.ld none (.t 20)), o' 22 (.len (.t 21)), o' 23 (.bin .gtr (.t 22) (i' 0))] [2, 3, 4, 5, 23]) (c20x2)
def c20x4 : AC := .seq (.reg [o' 18 (.bsl [(.int .i64 0)] 1 [(0, (i' 0))]), o' 19 (.fad 0 (.t 5)), n' (.st 1 (.t 19) (.t 18))] [2, 3, 4, 5]) (c20x3)
def c20x5 : AC := .cond (.t 17) (c20x4) (.skip)
def c20x6 : AC := .seq (.reg [o' 15 (.fad 1 (.t 2)), o' 16 (.ld none (.t 15)), o' 17 (.bin .eql (.t 16) (i' 2))] [2, 3, 4, 5, 17]) (c20x5)
def c20x7 : AC := .seq (c20x6) (c20x0)
def c20x8 : AC := .seq (.reg [o' 10 (.fad 1 (.t 5)), o' 11 (.ld none (.t 10)), o' 12 (.fad 1 (.t 3)), o' 13 (.ld none (.t 12)), o' 14 (.copy 1 (.t 11) (.t 13))] [2, 3, 4, 5]) (c20x7)
def c20x9 : AC := .seq (.reg [o' 6 (.ld (some 5) (.t 2)), o' 7 (.call 52 [.t 6]), o' 8 (.mksl [(.int .u8 0)] 1 (.t 7) (.t 7)), o' 9 (.build [(.slice none 0 0), (.slice none 0 0)] [(1, 1, (.t 8))]), o' 5 (.zero [(.slice none 0 0), (.slice none 0 0)]), n' (.st 2 (.t 5) (.t 9))] [2, 3, 4, 5]) (c20x8)
def c20 : AC := .seq (.reg [o' 2 (.new 5 (.t 0)), o' 3 (.new 2 (.t 1)), o' 4 (.zero [(.slice none 0 0), (.slice none 0 0)])] [2, 3, 4]) (c20x9)
theorem k20 : Tryz.f20.body.bind (compC Tryz.prog Tryz.f20.ntmps v20) = some c20 := by kernel_rfl
theorem e20 : enters Tryz.prog 20 = true := by kernel_rfl
theorem q20 : Tryz.f20.results.toList.mapM (compRes Tryz.prog) = some r20 := by kernel_rfl
def v23 : List (Nat × List Nat) := [(0, [1]), (1, [1, 6]), (2, [2]), (3, [2])]
def r23 : List AR := [.t 2]
def c23x0 : AC := .seq (.reg [o' 7 (.fad 0 (.t 1)), o' 8 (.ld none (.t 7)), o' 9 (.idx 1 none (.t 8) (i' 0)), o' 10 (.ld none (.t 9)), m' 2 10] [2]) (.ret)
def c23x1 : AC := .seq (.reg [o' 2 (.mv (i' 0))] [2]) (.ret)
def c23x2 : AC := .cond (.t 6) (c23x1) (.skip)
def c23x3 : AC := .seq (.reg [o' 3 (.fad 0 (.t 1)), o' 4 (.ld none (.t 3)), o' 5 (.len (.t 4)), o' 6 (.bin .eql (.t 5) (i' 0))] [1, 6]) (c23x2)
def c23x4 : AC := .seq (c23x3) (c23x0)
def c23 : AC := .seq (.reg [o' 1 (.new 2 (.t 0)), o' 2 (.mv (i' 0))] [1]) (c23x4)
theorem k23 : Tryz.f23.body.bind (compC Tryz.prog Tryz.f23.ntmps v23) = some c23 := by kernel_rfl
theorem e23 : enters Tryz.prog 23 = true := by kernel_rfl
theorem q23 : Tryz.f23.results.toList.mapM (compRes Tryz.prog) = some r23 := by kernel_rfl
def v33 : List (Nat × List Nat) := [(0, [2, 3, 4, 6]), (1, [2, 3, 4, 6, 9]), (2, [2, 3, 4, 6, 9, 10]), (3, [2, 3, 4, 6, 9, 10]), (4, [2, 3, 4, 6, 9, 10]), (5, [6, 7]), (6, [2, 4, 6, 9, 20]), (7, [6, 7]), (8, [2, 4, 6, 9, 27]), (9, [6, 7]), (10, [2, 4, 6, 9, 34]), (11, [6, 7]), (12, [2, 4, 6, 9, 41]), (13, [6, 7]), (14, [2, 4, 6, 9, 48]), (15, [6, 7]), (16, [2, 4, 6, 55]), (17, [6, 7]), (18, [6, 7])]
def r33 : List AR := [.cell (some 2) 6, .t 7]
def c33x0 : AC := .seq (.reg [o' 62 (.build [(.slice none 0 0), (.slice none 0 0)] []), n' (.st 2 (.t 6) (.t 62)), o' 7 (.mv (i' 0))] [6, 7]) (.ret)
def c33x1 : AC := .seq (.reg [o' 14 (.ld (some 5) (.t 3)), o' 15 (.ld (some 2) (.t 4)), m' 16 2, o' 17 (.call 79 [.t 14, .t 15, .t 16]), o' 18 (.ext (.t 17) 0), o' 19 (.ext (.t 17) 1), n' (.st 2 (.t 6) (.t 18)), m' 7 19] [6, 7]) (.ret)
def c33x2 : AC := .seq (.reg [o' 22 (.ld (some 2) (.t 4)), m' 23 2, o' 24 (.call 80 [.t 22, .t 23]), o' 25 (.ext (.t 24) 0), o' 26 (.ext (.t 24) 1), n' (.st 2 (.t 6) (.t 25)), m' 7 26] [6, 7]) (.ret)
def c33x3 : AC := .seq (.reg [o' 29 (.ld (some 2) (.t 4)), m' 30 2, o' 31 (.call 81 [.t 29, .t 30]), o' 32 (.ext (.t 31) 0), o' 33 (.ext (.t 31) 1), n' (.st 2 (.t 6) (.t 32)), m' 7 33] [6, 7]) (.ret)
def c33x4 : AC := .seq (.reg [o' 36 (.ld (some 2) (.t 4)), m' 37 2, o' 38 (.call 82 [.t 36, .t 37]), o' 39 (.ext (.t 38) 0), o' 40 (.ext (.t 38) 1), n' (.st 2 (.t 6) (.t 39)), m' 7 40] [6, 7]) (.ret)
def c33x5 : AC := .seq (.reg [o' 43 (.ld (some 2) (.t 4)), m' 44 2, o' 45 (.call 83 [.t 43, .t 44]), o' 46 (.ext (.t 45) 0), o' 47 (.ext (.t 45) 1), n' (.st 2 (.t 6) (.t 46)), m' 7 47] [6, 7]) (.ret)
def c33x6 : AC := .seq (.reg [o' 50 (.ld (some 2) (.t 4)), m' 51 2, o' 52 (.call 84 [.t 50, .t 51]), o' 53 (.ext (.t 52) 0), o' 54 (.ext (.t 52) 1), n' (.st 2 (.t 6) (.t 53)), m' 7 54] [6, 7]) (.ret)
def c33x7 : AC := .seq (.reg [o' 57 (.ld (some 2) (.t 4)), m' 58 2, o' 59 (.call 85 [.t 57, .t 58]), o' 60 (.ext (.t 59) 0), o' 61 (.ext (.t 59) 1), n' (.st 2 (.t 6) (.t 60)), m' 7 61] [6, 7]) (.ret)
def c33x8 : AC := .cond (.t 55) (c33x7) (.skip)
def c33x9 : AC := .seq (.reg [o' 56 (.bin .eql (.t 9) (i' 8)), m' 55 56] [2, 4, 6, 55]) (c33x8)
def c33x10 : AC := .cond (.t 48) (c33x6) (c33x9)
def c33x11 : AC := .seq (.reg [o' 49 (.bin .eql (.t 9) (i' 7)), m' 48 49] [2, 4, 6, 9, 48]) (c33x10)
def c33x12 : AC := .cond (.t 41) (c33x5) (c33x11)
def c33x13 : AC := .seq (.reg [o' 42 (.bin .eql (.t 9) (i' 6)), m' 41 42] [2, 4, 6, 9, 41]) (c33x12)
def c33x14 : AC := .cond (.t 34) (c33x4) (c33x13)
def c33x15 : AC := .seq (.reg [o' 35 (.bin .eql (.t 9) (i' 5)), m' 34 35] [2, 4, 6, 9, 34]) (c33x14)
def c33x16 : AC := .cond (.t 27) (c33x3) (c33x15)
def c33x17 : AC := .seq (.reg [o' 28 (.bin .eql (.t 9) (i' 4)), m' 27 28] [2, 4, 6, 9, 27]) (c33x16)
def c33x18 : AC := .cond (.t 20) (c33x2) (c33x17)
def c33x19 : AC := .seq (.reg [o' 21 (.bin .eql (.t 9) (i' 3)), m' 20 21] [2, 4, 6, 9, 20]) (c33x18)
def c33x20 : AC := .cond (.t 10) (c33x1) (c33x19)
def c33x21 : AC := .reg [o' 13 (.bin .eql (.t 9) (i' 2)), m' 10 13] [2, 3, 4, 6, 9, 10]
def c33x22 : AC := .cond (.t 10) (.skip) (c33x21)
def c33x23 : AC := .seq (.reg [o' 12 (.bin .eql (.t 9) (i' 1)), m' 10 12] [2, 3, 4, 6, 9, 10]) (c33x22)
def c33x24 : AC := .cond (.t 10) (.skip) (c33x23)
def c33x25 : AC := .seq (.reg [o' 11 (.bin .eql (.t 9) (i' 0)), m' 10 11] [2, 3, 4, 6, 9, 10]) (c33x24)
def c33x26 : AC := .seq (c33x25) (c33x20)
def c33x27 : AC := .block 0 (c33x26)
def c33x28 : AC := .seq (.reg [o' 8 (.fad 1 (.t 3)), o' 9 (.ld none (.t 8))] [2, 3, 4, 6, 9]) (c33x27)
def c33x29 : AC := .seq (c33x28) (c33x0)
def c33 : AC := .seq (.reg [o' 3 (.new 5 (.t 0)), o' 4 (.new 2 (.t 1)), o' 6 (.zero [(.slice none 0 0), (.slice none 0 0)]), o' 7 (.mv (i' 0))] [2, 3, 4, 6]) (c33x29)
theorem k33 : Tryz.f33.body.bind (compC Tryz.prog Tryz.f33.ntmps v33) = some c33 := by kernel_rfl
theorem e33 : enters Tryz.prog 33 = true := by kernel_rfl
theorem q33 : Tryz.f33.results.toList.mapM (compRes Tryz.prog) = some r33 := by kernel_rfl
def v34 : List (Nat × List Nat) := [(0, [1]), (1, [1, 3]), (2, [1, 3, 6]), (3, [1, 3]), (4, [1, 3, 7]), (5, [2]), (6, [1, 3, 12]), (7, [2]), (8, [1, 3, 16]), (9, [2]), (10, [1, 25]), (11, [2]), (12, [1, 49]), (13, [2]), (14, [1, 59]), (15, [2]), (16, [71]), (17, [2]), (18, [2])]
def r34 : List AR := [.t 2]
def c34x0 : AC := .seq (.reg [o' 2 (.mv (i' 0))] [2]) (.ret)
def c34x1 : AC := .seq (.reg [o' 2 (.mv (i' 15))] [2]) (.ret)
def c34x2 : AC := .seq (.reg [o' 2 (.mv (i' 20))] [2]) (.ret)
def c34x3 : AC := .seq (.reg [o' 2 (.mv (i' 8))] [2]) (.ret)
def c34x4 : AC := .seq (.reg [o' 2 (.mv (i' 1))] [2]) (.ret)
def c34x5 : AC := .seq (.reg [o' 2 (.mv (i' 2))] [2]) (.ret)
def c34x6 : AC := .seq (.reg [o' 2 (.mv (i' 19))] [2]) (.ret)
def c34x7 : AC := .seq (.reg [o' 2 (.mv (i' 3))] [2]) (.ret)
def c34x8 : AC := .cond (.t 71) (c34x7) (.skip)
def c34x9 : AC := .seq (.reg [o' 72 (.fad 1 (.t 1)), o' 73 (.ld none (.t 72)), o' 74 (.bin .eql (.t 73) (i' 0)), m' 75 74, ⟨(some 76), .fad 1 (.t 1), (some (75, false))⟩, ⟨(some 77), .ld none (.t 76), (some (75, false))⟩, ⟨(some 78), .bin .eql (.t 77) (i' 1), (some (75, false))⟩, o' 79 (.pick (.t 75) (.k (.bool true)) (.t 78)), m' 80 79, ⟨(some 81), .fad 4 (.t 1), (some (80, true))⟩, ⟨(some 82), .ld none (.t 81), (some (80, true))⟩, ⟨(some 83), .len (.t 82), (some (80, true))⟩, ⟨(some 84), .fad 3 (.t 1), (some (80, true))⟩, ⟨(some 85), .ld none (.t 84), (some (80, true))⟩, ⟨(some 86), .bin .gtr (.t 83) (.t 85), (some (80, true))⟩, o' 87 (.pick (.t 80) (.t 86) (.k (.bool false))), m' 88 87, ⟨(some 89), .fad 1 (.t 1), (some (88, false))⟩, ⟨(some 90), .ld none (.t 89), (some (88, false))⟩, ⟨(some 91), .call 87 [.t 90], (some (88, false))⟩, ⟨(some 92), .not (.t 91), (some (88, false))⟩, ⟨(some 93), .mv (.t 92), (some (88, false))⟩, ⟨(some 94), .fad 1 (.t 1), (some (93, true))⟩, ⟨(some 95), .ld none (.t 94), (some (93, true))⟩, ⟨(some 96), .bin .neq (.t 95) (i' 8), (some (93, true))⟩, ⟨(some 97), .pick (.t 93) (.t 96) (.k (.bool false)), (some (88, false))⟩, ⟨(some 98), .mv (.t 97), (some (88, false))⟩, ⟨(some 99), .fad 4 (.t 1), (some (98, true))⟩, ⟨(some 100), .ld none (.t 99), (some (98, true))⟩, ⟨(some 101), .len (.t 100), (some (98, true))⟩, ⟨(some 102), .bin .gtr (.t 101) (i' 0), (some (98, true))⟩, ⟨(some 103), .pick (.t 98) (.t 102) (.k (.bool false)), (some (88, false))⟩, o' 104 (.pick (.t 88) (.k (.bool true)) (.t 103)), m' 105 104, ⟨(some 106), .fad 1 (.t 1), (some (105, false))⟩, ⟨(some 107), .ld none (.t 106), (some (105, false))⟩, ⟨(some 108), .bin .eql (.t 107) (i' 8), (some (105, false))⟩, ⟨(some 109), .mv (.t 108), (some (105, false))⟩, ⟨(some 110), .fad 4 (.t 1), (some (109, true))⟩, ⟨(some 111), .ld none (.t 110), (some (109, true))⟩, ⟨(some 112), .len (.t 111), (some (109, true))⟩, ⟨(some 113), .bin .rem (.t 112) (i' 256), (some (109, true))⟩, ⟨(some 114), .bin .neq (.t 113) (i' 0), (some (109, true))⟩, ⟨(some 115), .pick (.t 109) (.t 114) (.k (.bool false)), (some (105, false))⟩, o' 116 (.pick (.t 105) (.k (.bool true)) (.t 115)), m' 71 116] [71]) (c34x8)
def c34x10 : AC := .cond (.t 59) (c34x6) (c34x9)
def c34x11 : AC := .seq (.reg [o' 60 (.fad 2 (.t 1)), o' 61 (.ld none (.t 60)), o' 62 (.bin .lss (.t 61) (i' 0)), m' 63 62, ⟨(some 64), .fad 2 (.t 1), (some (63, false))⟩, ⟨(some 65), .ld none (.t 64), (some (63, false))⟩, ⟨(some 66), .fad 3 (.t 1), (some (63, false))⟩, ⟨(some 67), .ld none (.t 66), (some (63, false))⟩, ⟨(some 68), .bin .sub (i' 65536) (.t 67), (some (63, false))⟩, ⟨(some 69), .bin .gtr (.t 65) (.t 68), (some (63, false))⟩, o' 70 (.pick (.t 63) (.k (.bool true)) (.t 69)), m' 59 70] [1, 59]) (c34x10)
def c34x12 : AC := .cond (.t 49) (c34x5) (c34x11)
def c34x13 : AC := .seq (.reg [o' 50 (.fad 3 (.t 1)), o' 51 (.ld none (.t 50)), o' 52 (.bin .gtr (.t 51) (i' 4096)), m' 53 52, ⟨(some 54), .fad 4 (.t 1), (some (53, false))⟩, ⟨(some 55), .ld none (.t 54), (some (53, false))⟩, ⟨(some 56), .len (.t 55), (some (53, false))⟩, ⟨(some 57), .bin .gtr (.t 56) (i' 4096), (some (53, false))⟩, o' 58 (.pick (.t 53) (.k (.bool true)) (.t 57)), m' 49 58] [1, 49]) (c34x12)
def c34x14 : AC := .cond (.t 25) (c34x4) (c34x13)
def c34x15 : AC := .seq (.dreg [o' 26 (.fad 1 (.t 1)), o' 27 (.ld none (.t 26)), o' 28 (.call 87 [.t 27]), m' 29 28, ⟨(some 30), .fad 3 (.t 1), (some (29, true))⟩, ⟨(some 31), .ld none (.t 30), (some (29, true))⟩, ⟨(some 32), .mv (.t 3), (some (29, true))⟩, ⟨(some 33), .bin .lss (.t 31) (.t 32), (some (29, true))⟩, o' 34 (.pick (.t 29) (.t 33) (.k (.bool false))), m' 35 34, ⟨(some 36), .fad 1 (.t 1), (some (35, false))⟩, ⟨(some 37), .ld none (.t 36), (some (35, false))⟩, ⟨(some 38), .call 87 [.t 37], (some (35, false))⟩, ⟨(some 39), .not (.t 38), (some (35, false))⟩, ⟨(some 40), .mv (.t 39), (some (35, false))⟩, ⟨(some 41), .fad 3 (.t 1), (some (40, true))⟩, ⟨(some 42), .ld none (.t 41), (some (40, true))⟩, ⟨(some 43), .fad 1 (.t 1), (some (40, true))⟩, ⟨(some 44), .ld none (.t 43), (some (40, true))⟩, ⟨(some 45), .call 88 [.t 44], (some (40, true))⟩, ⟨(some 46), .bin .neq (.t 42) (.t 45), (some (40, true))⟩, ⟨(some 47), .pick (.t 40) (.t 46) (.k (.bool false)), (some (35, false))⟩, o' 48 (.pick (.t 35) (.k (.bool true)) (.t 47)), m' 25 48] [[], [0], [0, 1], [0, 1, 2], [0, 1, 2, 3], [0, 1, 2, 3, 4], [0, 1, 2, 3], [0, 1, 2, 3, 4, 5, 6], [0, 1, 2, 3, 4, 5, 6, 7], [0, 1, 2, 3, 4, 5, 6, 7, 8], [0, 1, 2, 3, 4, 5, 6, 7, 8, 9], [0, 1, 2, 3, 4, 5, 6, 7, 8, 9, 10], [0, 1, 2, 3, 4, 5, 6, 7, 8, 9, 10, 11], [0, 1, 2, 3, 4, 5, 6, 7, 8, 9, 10, 11, 12], [0, 1, 2, 3, 4, 5, 6, 7, 8, 9, 10, 11, 12, 13], [0, 1, 2, 3, 4, 5, 6, 7, 8, 9, 10, 11, 12, 13, 14], [0, 1, 2, 3, 4, 5, 6, 7, 8, 9, 10, 11, 12, 13, 14, 15], [0, 1, 2, 3, 4, 5, 6, 7, 8, 9, 10, 11, 12, 13, 14], [0, 1, 2, 3, 4, 5, 6, 7, 8, 9, 10, 11, 12, 13, 14, 17], [0, 1, 2, 3, 4, 5, 6, 7, 8, 9, 10, 11, 12, 13, 14, 17, 18], [0, 1, 2, 3, 4, 5, 6, 7, 8, 9, 10, 11, 12, 13, 14, 15, 16, 17, 18, 19], [0, 1, 2, 3, 4, 5, 6, 7, 8, 9, 10, 11, 12, 13, 14, 15, 16, 17, 18, 19, 20], [0, 1, 2, 3, 4, 5, 6, 7, 8, 9, 10, 11, 12, 13, 14, 15, 16, 17, 18, 19, 20, 21], [0, 1, 2, 3, 4, 5, 6, 7, 8, 9, 10, 11, 12, 13, 14, 15, 16, 17, 18, 19, 20, 21, 22]] [1, 25]) (c34x14)
def c34x16 : AC := .cond (.t 16) (c34x3) (c34x15)
def c34x17 : AC := .seq (.reg [o' 17 (.fad 1 (.t 1)), o' 18 (.ld none (.t 17)), o' 19 (.bin .lss (.t 18) (i' 0)), m' 20 19, ⟨(some 21), .fad 1 (.t 1), (some (20, false))⟩, ⟨(some 22), .ld none (.t 21), (some (20, false))⟩, ⟨(some 23), .bin .geq (.t 22) (i' 9), (some (20, false))⟩, o' 24 (.pick (.t 20) (.k (.bool true)) (.t 23)), m' 16 24] [1, 3, 16]) (c34x16)
def c34x18 : AC := .cond (.t 12) (c34x2) (c34x17)
def c34x19 : AC := .seq (.reg [o' 13 (.fad 0 (.t 1)), o' 14 (.ld none (.t 13)), o' 15 (.bin .eql (.t 14) (.k (.string ⟨#[99, 112, 117]⟩))), m' 12 15] [1, 3, 12]) (c34x18)
def c34x20 : AC := .cond (.t 7) (c34x1) (c34x19)
def c34x21 : AC := .seq (.reg [o' 8 (.fad 0 (.t 1)), o' 9 (.ld none (.t 8)), o' 10 (.call 86 [.t 9]), o' 11 (.not (.t 10)), m' 7 11] [1, 3, 7]) (c34x20)
def c34x22 : AC := .block 0 (c34x21)
def c34x23 : AC := .seq (c34x22) (c34x0)
def c34x24 : AC := .reg [o' 3 (.mv (i' 2))] [1, 3]
def c34x25 : AC := .cond (.t 6) (c34x24) (.skip)
def c34x26 : AC := .seq (.reg [o' 4 (.fad 1 (.t 1)), o' 5 (.ld none (.t 4)), o' 6 (.bin .eql (.t 5) (i' 2))] [1, 3, 6]) (c34x25)
def c34x27 : AC := .seq (c34x26) (c34x23)
def c34x28 : AC := .seq (.reg [o' 3 (.mv (i' 1))] [1, 3]) (c34x27)
def c34 : AC := .seq (.reg [o' 1 (.new 5 (.t 0)), o' 2 (.mv (i' 0))] [1]) (c34x28)
theorem k34 : Tryz.f34.body.bind (compC Tryz.prog Tryz.f34.ntmps v34) = some c34 := by kernel_rfl
theorem e34 : enters Tryz.prog 34 = true := by kernel_rfl
theorem q34 : Tryz.f34.results.toList.mapM (compRes Tryz.prog) = some r34 := by kernel_rfl
def v52 : List (Nat × List Nat) := [(0, [1]), (1, [1, 5]), (2, [2]), (3, [2])]
def r52 : List AR := [.t 2]
def c52x0 : AC := .seq (.reg [o' 11 (.fad 3 (.t 1)), o' 12 (.ld none (.t 11)), o' 13 (.mnx false [.t 12, i' 65536]), o' 14 (.mnx true [i' 0, .t 13]), m' 2 14] [2]) (.ret)
def c52x1 : AC := .seq (.dreg [o' 6 (.ld (some 5) (.t 1)), o' 7 (.call 66 [.t 6]), o' 8 (.ld (some 5) (.t 1)), o' 9 (.call 109 [.t 8]), o' 10 (.bin .mul (.t 7) (.t 9)), m' 2 10] [[], [0], [], [0, 1, 2], [0, 1, 2, 3], [0, 1, 2, 3, 4]] [2]) (.ret)
def c52x2 : AC := .cond (.t 5) (c52x1) (.skip)
def c52x3 : AC := .seq (.reg [o' 3 (.fad 1 (.t 1)), o' 4 (.ld none (.t 3)), o' 5 (.bin .eql (.t 4) (i' 2))] [1, 5]) (c52x2)
def c52x4 : AC := .seq (c52x3) (c52x0)
def c52 : AC := .seq (.reg [o' 1 (.new 5 (.t 0)), o' 2 (.mv (i' 0))] [1]) (c52x4)
theorem k52 : Tryz.f52.body.bind (compC Tryz.prog Tryz.f52.ntmps v52) = some c52 := by kernel_rfl
theorem e52 : enters Tryz.prog 52 = true := by kernel_rfl
theorem q52 : Tryz.f52.results.toList.mapM (compRes Tryz.prog) = some r52 := by kernel_rfl
def v59 : List (Nat × List Nat) := [(0, [2, 3, 4, 5, 8]), (1, [2, 3, 4, 5, 8]), (2, [2, 3, 4, 5, 8, 9]), (3, [2, 3, 4, 5, 8, 9, 17]), (4, [2, 3, 4, 5, 8, 9, 21]), (5, [5, 8]), (6, [3, 4, 5, 8, 31]), (7, [5, 8]), (8, [8])]
def r59 : List AR := [.cell (some 2) 8]
def c59x0 : AC := .seq (.reg [o' 47 (.ld (some 2) (.t 5)), n' (.st 2 (.t 8) (.t 47))] [8]) (.ret)
def c59x1 : AC := .dreg [o' 24 (.fad 1 (.t 5)), o' 25 (.ld none (.t 24)), m' 26 9, m' 27 3, o' 28 (.call 50 [.t 27, i' 8]), o' 29 (.cvt .u8 (.t 28)), o' 30 (.idx 1 none (.t 25) (.t 26)), n' (.st 1 (.t 30) (.t 29))] [[], [0], [], [], [3], [3, 4], [0, 1, 2, 3, 4, 5], [0, 1, 2, 3, 4, 5, 6]] [5, 8]
def c59x2 : AC := .dreg [o' 39 (.fad 0 (.t 5)), o' 40 (.ld none (.t 39)), m' 41 3, o' 42 (.call 50 [.t 41, i' 8]), o' 43 (.ld (some 5) (.t 4)), o' 44 (.call 66 [.t 43]), o' 45 (.bin .rem (.t 42) (.t 44)), o' 46 (.idx 1 none (.t 40) (i' 0)), n' (.st 1 (.t 46) (.t 45))] [[], [0], [], [2], [], [2, 3, 4], [2, 3, 4, 5], [0, 1, 2, 3, 4, 5, 6], [0, 1, 2, 3, 4, 5, 6, 7]] [5, 8]
def c59x3 : AC := .cond (.t 31) (c59x2) (.skip)
def c59x4 : AC := .seq (.reg [o' 32 (.fad 1 (.t 4)), o' 33 (.ld none (.t 32)), o' 34 (.bin .eql (.t 33) (i' 2)), m' 35 34, ⟨(some 36), .mv (.t 2), (some (35, true))⟩, ⟨(some 37), .bin .eql (.t 36) (i' 0), (some (35, true))⟩, o' 38 (.pick (.t 35) (.t 37) (.k (.bool false))), m' 31 38] [3, 4, 5, 8, 31]) (c59x3)
def c59x5 : AC := .cond (.t 21) (c59x1) (c59x4)
def c59x6 : AC := .seq (.reg [m' 22 9, o' 23 (.bin .geq (.t 22) (i' 0)), m' 21 23] [2, 3, 4, 5, 8, 9, 21]) (c59x5)
def c59x7 : AC := .cond (.t 17) (.skip) (c59x6)
def c59x8 : AC := .seq (.reg [o' 18 (.fad 1 (.t 4)), o' 19 (.ld none (.t 18)), o' 20 (.bin .eql (.t 19) (i' 1)), m' 17 20] [2, 3, 4, 5, 8, 9, 17]) (c59x7)
def c59x9 : AC := .block 0 (c59x8)
def c59x10 : AC := .seq (.reg [o' 13 (.ld (some 5) (.t 4)), o' 14 (.ld (some 2) (.t 5)), m' 15 2, o' 16 (.call 110 [.t 13, .t 14, .t 15]), m' 9 16] [2, 3, 4, 5, 8, 9]) (c59x9)
def c59x11 : AC := .seq (c59x10) (c59x0)
def c59x12 : AC := .seq (.reg [o' 10 (.ld (some 5) (.t 4)), o' 11 (.ld (some 2) (.t 5)), o' 12 (.call 20 [.t 10, .t 11]), n' (.st 2 (.t 5) (.t 12))] [2, 3, 4, 5, 8]) (c59x11)
def c59 : AC := .seq (.reg [o' 4 (.new 5 (.t 0)), o' 5 (.new 2 (.t 1)), o' 8 (.zero [(.slice none 0 0), (.slice none 0 0)])] [2, 3, 4, 5, 8]) (c59x12)
theorem k59 : Tryz.f59.body.bind (compC Tryz.prog Tryz.f59.ntmps v59) = some c59 := by kernel_rfl
theorem e59 : enters Tryz.prog 59 = true := by kernel_rfl
theorem q59 : Tryz.f59.results.toList.mapM (compRes Tryz.prog) = some r59 := by kernel_rfl
def v66 : List (Nat × List Nat) := [(0, [1]), (1, [1, 3]), (2, [2])]
def r66 : List AR := [.t 2]
def c66x0 : AC := .seq (.reg [o' 6 (.fad 4 (.t 1)), o' 7 (.ld none (.t 6)), o' 8 (.len (.t 7)), m' 9 3, o' 10 (.bin .add (.t 8) (.t 9)), o' 11 (.bin .sub (.t 10) (i' 1)), m' 12 3, o' 13 (.bin .quo (.t 11) (.t 12)), o' 14 (.mnx true [i' 1, .t 13]), m' 2 14] [2]) (.ret)
def c66x1 : AC := .seq (.reg [o' 4 (.ld (some 5) (.t 1)), o' 5 (.call 109 [.t 4]), m' 3 5] [1, 3]) (c66x0)
def c66 : AC := .seq (.reg [o' 1 (.new 5 (.t 0)), o' 2 (.mv (i' 0))] [1]) (c66x1)
theorem k66 : Tryz.f66.body.bind (compC Tryz.prog Tryz.f66.ntmps v66) = some c66 := by kernel_rfl
theorem e66 : enters Tryz.prog 66 = true := by kernel_rfl
theorem q66 : Tryz.f66.results.toList.mapM (compRes Tryz.prog) = some r66 := by kernel_rfl
def v79 : List (Nat × List Nat) := [(0, [2, 3, 4, 6]), (1, [2, 3, 4, 6]), (2, [2, 3, 4, 6, 8]), (3, [2, 3, 4, 6, 8, 16]), (4, [6, 7]), (5, [4, 6, 26]), (6, [6, 7]), (7, [6, 7])]
def r79 : List AR := [.cell (some 2) 6, .t 7]
def c79x0 : AC := .seq (.reg [o' 39 (.ld (some 2) (.t 4)), n' (.st 2 (.t 6) (.t 39)), o' 7 (.mv (i' 0))] [6, 7]) (.ret)
def c79x1 : AC := .seq (.dreg [o' 19 (.ld (some 2) (.t 4)), o' 20 (.fad 1 (.t 4)), o' 21 (.ld none (.t 20)), m' 22 8, o' 23 (.idx 1 none (.t 21) (.t 22)), o' 24 (.ld none (.t 23)), o' 25 (.cvt .i64 (.t 24)), n' (.st 2 (.t 6) (.t 19)), m' 7 25] [[], [], [1], [], [1, 2, 3], [1, 2, 3, 4], [1, 2, 3, 4, 5], [0], [0, 1, 2, 3, 4, 5, 6, 7]] [6, 7]) (.ret)
def c79x2 : AC := .seq (.dreg [o' 34 (.ld (some 2) (.t 4)), o' 35 (.fad 0 (.t 4)), o' 36 (.ld none (.t 35)), o' 37 (.idx 1 none (.t 36) (i' 0)), o' 38 (.ld none (.t 37)), n' (.st 2 (.t 6) (.t 34)), m' 7 38] [[], [], [1], [1, 2], [1, 2, 3], [0], [0, 1, 2, 3, 4, 5]] [6, 7]) (.ret)
def c79x3 : AC := .cond (.t 26) (c79x2) (.skip)
def c79x4 : AC := .seq (.reg [o' 27 (.fad 1 (.t 3)), o' 28 (.ld none (.t 27)), o' 29 (.bin .eql (.t 28) (i' 2)), m' 30 29, ⟨(some 31), .mv (.t 2), (some (30, true))⟩, ⟨(some 32), .bin .eql (.t 31) (i' 0), (some (30, true))⟩, o' 33 (.pick (.t 30) (.t 32) (.k (.bool false))), m' 26 33] [4, 6, 26]) (c79x3)
def c79x5 : AC := .cond (.t 16) (c79x1) (c79x4)
def c79x6 : AC := .seq (.reg [m' 17 8, o' 18 (.bin .geq (.t 17) (i' 0)), m' 16 18] [2, 3, 4, 6, 8, 16]) (c79x5)
def c79x7 : AC := .block 0 (c79x6)
def c79x8 : AC := .seq (.reg [o' 12 (.ld (some 5) (.t 3)), o' 13 (.ld (some 2) (.t 4)), m' 14 2, o' 15 (.call 110 [.t 12, .t 13, .t 14]), m' 8 15] [2, 3, 4, 6, 8]) (c79x7)
def c79x9 : AC := .seq (c79x8) (c79x0)
def c79x10 : AC := .seq (.reg [o' 9 (.ld (some 5) (.t 3)), o' 10 (.ld (some 2) (.t 4)), o' 11 (.call 20 [.t 9, .t 10]), n' (.st 2 (.t 4) (.t 11))] [2, 3, 4, 6]) (c79x9)
def c79 : AC := .seq (.reg [o' 3 (.new 5 (.t 0)), o' 4 (.new 2 (.t 1)), o' 6 (.zero [(.slice none 0 0), (.slice none 0 0)]), o' 7 (.mv (i' 0))] [2, 3, 4, 6]) (c79x10)
theorem k79 : Tryz.f79.body.bind (compC Tryz.prog Tryz.f79.ntmps v79) = some c79 := by kernel_rfl
theorem e79 : enters Tryz.prog 79 = true := by kernel_rfl
theorem q79 : Tryz.f79.results.toList.mapM (compRes Tryz.prog) = some r79 := by kernel_rfl
def v87 : List (Nat × List Nat) := [(0, [0]), (1, [2])]
def r87 : List AR := [.t 2]
def c87x0 : AC := .seq (.reg [m' 3 0, o' 4 (.bin .eql (.t 3) (i' 0)), m' 5 4, ⟨(some 6), .mv (.t 0), (some (5, false))⟩, ⟨(some 7), .bin .eql (.t 6) (i' 1), (some (5, false))⟩, o' 8 (.pick (.t 5) (.k (.bool true)) (.t 7)), m' 9 8, ⟨(some 10), .mv (.t 0), (some (9, false))⟩, ⟨(some 11), .bin .eql (.t 10) (i' 2), (some (9, false))⟩, o' 12 (.pick (.t 9) (.k (.bool true)) (.t 11)), m' 2 12] [2]) (.ret)
def c87 : AC := .seq (.reg [o' 2 (.mv (.k (.bool false)))] [0]) (c87x0)
theorem k87 : Tryz.f87.body.bind (compC Tryz.prog Tryz.f87.ntmps v87) = some c87 := by kernel_rfl
theorem e87 : enters Tryz.prog 87 = true := by kernel_rfl
theorem q87 : Tryz.f87.results.toList.mapM (compRes Tryz.prog) = some r87 := by kernel_rfl
def v88 : List (Nat × List Nat) := [(0, [0]), (1, [3]), (2, [3, 4]), (3, [2]), (4, [3, 6]), (5, [2]), (6, [3, 8]), (7, [2]), (8, [3, 10]), (9, [2]), (10, [3, 12]), (11, [2]), (12, [14]), (13, [2]), (14, [2])]
def r88 : List AR := [.t 2]
def c88x0 : AC := .seq (.reg [o' 2 (.mv (i' 0))] [2]) (.ret)
def c88x1 : AC := .seq (.reg [o' 2 (.mv (i' 4))] [2]) (.ret)
def c88x2 : AC := .seq (.reg [o' 2 (.mv (i' 2))] [2]) (.ret)
def c88x3 : AC := .seq (.reg [o' 2 (.mv (i' 3))] [2]) (.ret)
def c88x4 : AC := .seq (.reg [o' 2 (.mv (i' 32))] [2]) (.ret)
def c88x5 : AC := .seq (.reg [o' 2 (.mv (i' 8))] [2]) (.ret)
def c88x6 : AC := .seq (.reg [o' 2 (.mv (i' 4))] [2]) (.ret)
def c88x7 : AC := .cond (.t 14) (c88x6) (.skip)
def c88x8 : AC := .seq (.reg [o' 15 (.bin .eql (.t 3) (i' 8)), m' 14 15] [14]) (c88x7)
def c88x9 : AC := .cond (.t 12) (c88x5) (c88x8)
def c88x10 : AC := .seq (.reg [o' 13 (.bin .eql (.t 3) (i' 7)), m' 12 13] [3, 12]) (c88x9)
def c88x11 : AC := .cond (.t 10) (c88x4) (c88x10)
def c88x12 : AC := .seq (.reg [o' 11 (.bin .eql (.t 3) (i' 6)), m' 10 11] [3, 10]) (c88x11)
def c88x13 : AC := .cond (.t 8) (c88x3) (c88x12)
def c88x14 : AC := .seq (.reg [o' 9 (.bin .eql (.t 3) (i' 5)), m' 8 9] [3, 8]) (c88x13)
def c88x15 : AC := .cond (.t 6) (c88x2) (c88x14)
def c88x16 : AC := .seq (.reg [o' 7 (.bin .eql (.t 3) (i' 4)), m' 6 7] [3, 6]) (c88x15)
def c88x17 : AC := .cond (.t 4) (c88x1) (c88x16)
def c88x18 : AC := .seq (.reg [o' 5 (.bin .eql (.t 3) (i' 3)), m' 4 5] [3, 4]) (c88x17)
def c88x19 : AC := .block 0 (c88x18)
def c88x20 : AC := .seq (.reg [m' 3 0] [3]) (c88x19)
def c88x21 : AC := .seq (c88x20) (c88x0)
def c88 : AC := .seq (.reg [o' 2 (.mv (i' 0))] [0]) (c88x21)
theorem k88 : Tryz.f88.body.bind (compC Tryz.prog Tryz.f88.ntmps v88) = some c88 := by kernel_rfl
theorem e88 : enters Tryz.prog 88 = true := by kernel_rfl
theorem q88 : Tryz.f88.results.toList.mapM (compRes Tryz.prog) = some r88 := by kernel_rfl
def v109 : List (Nat × List Nat) := [(0, [1]), (1, [2])]
def r109 : List AR := [.t 2]
def c109x0 : AC := .seq (.reg [o' 3 (.fad 3 (.t 1)), o' 4 (.ld none (.t 3)), o' 5 (.mnx true [.t 4, i' 1]), o' 6 (.mnx false [.t 5, i' 4097]), o' 7 (.bin .sub (.t 6) (i' 1)), o' 8 (.mnx true [i' 1, .t 7]), m' 2 8] [2]) (.ret)
def c109 : AC := .seq (.reg [o' 1 (.new 5 (.t 0)), o' 2 (.mv (i' 0))] [1]) (c109x0)
theorem k109 : Tryz.f109.body.bind (compC Tryz.prog Tryz.f109.ntmps v109) = some c109 := by kernel_rfl
theorem e109 : enters Tryz.prog 109 = true := by kernel_rfl
theorem q109 : Tryz.f109.results.toList.mapM (compRes Tryz.prog) = some r109 := by kernel_rfl
def v110 : List (Nat × List Nat) := [(0, [2, 3, 4]), (1, [2, 3, 4, 9]), (2, [2, 3, 4, 17]), (3, [6]), (4, [6]), (5, [2, 36]), (6, [6]), (7, [6])]
def r110 : List AR := [.t 6]
def c110x0 : AC := .seq (.reg [m' 37 2, m' 6 37] [6]) (.ret)
def c110x1 : AC := .seq (.reg [o' 6 (.mv (.k (.int .i64 (-1))))] [6]) (.ret)
def c110x2 : AC := .cond (.t 36) (c110x1) (.skip)
def c110x3 : AC := .seq (.reg [m' 28 2, o' 29 (.bin .lss (.t 28) (i' 0)), m' 30 29, ⟨(some 31), .mv (.t 2), (some (30, false))⟩, ⟨(some 32), .fad 1 (.t 4), (some (30, false))⟩, ⟨(some 33), .ld none (.t 32), (some (30, false))⟩, ⟨(some 34), .len (.t 33), (some (30, false))⟩, ⟨(some 35), .bin .geq (.t 31) (.t 34), (some (30, false))⟩, o' 36 (.pick (.t 30) (.k (.bool true)) (.t 35))] [2, 36]) (c110x2)
def c110x4 : AC := .seq (c110x3) (c110x0)
def c110x5 : AC := .seq (.dreg [o' 18 (.fad 0 (.t 4)), o' 19 (.ld none (.t 18)), o' 20 (.idx 1 none (.t 19) (i' 0)), o' 21 (.ld none (.t 20)), o' 22 (.ld (some 5) (.t 3)), o' 23 (.call 109 [.t 22]), o' 24 (.bin .mul (.t 21) (.t 23)), m' 25 2, o' 26 (.bin .add (.t 24) (.t 25)), o' 27 (.bin .sub (.t 26) (i' 1)), m' 6 27] [[], [0], [0, 1], [0, 1, 2], [], [4], [0, 1, 2, 3, 4, 5], [], [0, 1, 2, 3, 4, 5, 6, 7], [0, 1, 2, 3, 4, 5, 6, 7, 8], [0, 1, 2, 3, 4, 5, 6, 7, 8, 9]] [6]) (.ret)
def c110x6 : AC := .seq (.reg [o' 6 (.mv (.k (.int .i64 (-1))))] [6]) (.ret)
def c110x7 : AC := .cond (.t 17) (c110x6) (.skip)
def c110x8 : AC := .seq (.reg [m' 10 2, o' 11 (.bin .lss (.t 10) (i' 1)), m' 12 11, ⟨(some 13), .mv (.t 2), (some (12, false))⟩, ⟨(some 14), .ld (some 5) (.t 3), (some (12, false))⟩, ⟨(some 15), .call 109 [.t 14], (some (12, false))⟩, ⟨(some 16), .bin .gtr (.t 13) (.t 15), (some (12, false))⟩, o' 17 (.pick (.t 12) (.k (.bool true)) (.t 16))] [2, 3, 4, 17]) (c110x7)
def c110x9 : AC := .seq (c110x8) (c110x5)
def c110x10 : AC := .cond (.t 9) (c110x9) (.skip)
def c110x11 : AC := .seq (.reg [o' 7 (.fad 1 (.t 3)), o' 8 (.ld none (.t 7)), o' 9 (.bin .eql (.t 8) (i' 2))] [2, 3, 4, 9]) (c110x10)
def c110x12 : AC := .seq (c110x11) (c110x4)
def c110 : AC := .seq (.reg [o' 3 (.new 5 (.t 0)), o' 4 (.new 2 (.t 1)), o' 6 (.mv (i' 0))] [2, 3, 4]) (c110x12)
theorem k110 : Tryz.f110.body.bind (compC Tryz.prog Tryz.f110.ntmps v110) = some c110 := by kernel_rfl
theorem e110 : enters Tryz.prog 110 = true := by kernel_rfl
theorem q110 : Tryz.f110.results.toList.mapM (compRes Tryz.prog) = some r110 := by kernel_rfl
end Go.Proofs.YtolmklnijjfppaaGreat.Code

namespace Go.Proofs.YtolmklnijjfppaaGreat.Code
open Go Go.Proofs.YtolmklnijjfppaaGreat.Calc
set_option maxRecDepth 100000
def v21 : List (Nat × List Nat) := [(0, [1, 2, 4]), (1, [1, 4, 5]), (2, [4, 5]), (3, [4, 5]), (4, [1, 4, 5, 18]), (5, [1, 4, 5, 28]), (6, [4, 5]), (7, [1, 4, 5, 40]), (8, [4, 5, 6]), (9, [4, 5]), (10, [4])]
def r21 : List AR := [.cell (some 2) 4]
def c21x0 : AC := .seq (.reg [m' 66 5, o' 67 (.build [(.slice none 0 0), (.slice none 0 0)] [(0, 1, (.t 66))]), n' (.st 2 (.t 4) (.t 67))] [4]) (.ret)
def c21x1 : AC := .reg [m' 34 5, o' 35 (.idx 1 none (.t 34) (i' 0)), o' 36 (.ld none (.t 35)), m' 37 1, o' 38 (.bin .sub (.t 36) (.t 37)), o' 39 (.idx 1 none (.t 34) (i' 0)), n' (.st 1 (.t 39) (.t 38))] [4, 5]
def c21x2 : AC := .reg [m' 57 5, m' 58 5, m' 59 5, o' 60 (.idx 1 none (.t 59) (i' 1)), o' 61 (.ld none (.t 60)), m' 62 6, o' 63 (.bin .sub (.t 61) (.t 62)), o' 64 (.idx 1 none (.t 57) (i' 3)), n' (.st 1 (.t 64) (i' 1)), o' 65 (.idx 1 none (.t 58) (i' 0)), n' (.st 1 (.t 65) (.t 63))] [4, 5]
def c21x3 : AC := .seq (.dreg [m' 46 1, m' 47 5, o' 48 (.idx 1 none (.t 47) (i' 0)), o' 49 (.ld none (.t 48)), o' 50 (.bin .sub (.t 46) (.t 49)), o' 51 (.bin .sub (.t 50) (i' 1)), m' 52 5, o' 53 (.idx 1 none (.t 52) (i' 1)), o' 54 (.ld none (.t 53)), o' 55 (.bin .add (.t 54) (i' 1)), o' 56 (.bin .rem (.t 51) (.t 55)), m' 6 56] [[], [], [1], [1, 2], [0, 1, 2, 3], [0, 1, 2, 3, 4], [], [6], [6, 7], [6, 7, 8], [0, 1, 2, 3, 4, 5, 6, 7, 8, 9], [0, 1, 2, 3, 4, 5, 6, 7, 8, 9, 10]] [4, 5, 6]) (c21x2)
def c21x4 : AC := .reg [m' 13 5, o' 14 (.idx 1 none (.t 13) (i' 2)), o' 15 (.ld none (.t 14)), o' 16 (.bin .andNot (.t 15) (i' 1)), o' 17 (.idx 1 none (.t 13) (i' 2)), n' (.st 1 (.t 17) (.t 16))] [4, 5]
def c21x5 : AC := .seq (.reg [m' 9 5, m' 10 5, o' 11 (.idx 1 none (.t 9) (i' 3)), n' (.st 1 (.t 11) (i' 1)), o' 12 (.idx 1 none (.t 10) (i' 0)), n' (.st 1 (.t 12) (i' 0))] [4, 5]) (c21x4)
def c21x6 : AC := .cond (.t 40) (c21x3) (c21x5)
def c21x7 : AC := .seq (.reg [m' 41 5, o' 42 (.idx 1 none (.t 41) (i' 2)), o' 43 (.ld none (.t 42)), o' 44 (.bin .and (.t 43) (i' 2)), o' 45 (.bin .neq (.t 44) (i' 0)), m' 40 45] [1, 4, 5, 40]) (c21x6)
def c21x8 : AC := .cond (.t 28) (c21x1) (c21x7)
def c21x9 : AC := .seq (.reg [m' 29 1, m' 30 5, o' 31 (.idx 1 none (.t 30) (i' 0)), o' 32 (.ld none (.t 31)), o' 33 (.bin .leq (.t 29) (.t 32)), m' 28 33] [1, 4, 5, 28]) (c21x8)
def c21x10 : AC := .cond (.t 18) (.skip) (c21x9)
def c21x11 : AC := .seq (.reg [m' 19 1, o' 20 (.bin .leq (.t 19) (i' 0)), m' 21 20, ⟨(some 22), .mv (.t 5), (some (21, false))⟩, ⟨(some 23), .idx 1 none (.t 22) (i' 2), (some (21, false))⟩, ⟨(some 24), .ld none (.t 23), (some (21, false))⟩, ⟨(some 25), .bin .and (.t 24) (i' 1), (some (21, false))⟩, ⟨(some 26), .bin .eql (.t 25) (i' 0), (some (21, false))⟩, o' 27 (.pick (.t 21) (.k (.bool true)) (.t 26)), m' 18 27] [1, 4, 5, 18]) (c21x10)
def c21x12 : AC := .block 0 (c21x11)
def c21x13 : AC := .seq (c21x12) (c21x0)
def c21x14 : AC := .seq (.reg [o' 7 (.ld (some 2) (.t 2)), o' 8 (.call 67 [.t 7]), m' 5 8] [1, 4, 5]) (c21x13)
def c21 : AC := .seq (.reg [o' 2 (.new 2 (.t 0)), o' 4 (.zero [(.slice none 0 0), (.slice none 0 0)])] [1, 2, 4]) (c21x14)
theorem k21 : Tryz.f21.body.bind (compC Tryz.prog Tryz.f21.ntmps v21) = some c21 := by kernel_rfl
theorem e21 : enters Tryz.prog 21 = true := by kernel_rfl
theorem q21 : Tryz.f21.results.toList.mapM (compRes Tryz.prog) = some r21 := by kernel_rfl
def v28 : List (Nat × List Nat) := [(0, [1]), (1, [3]), (2, [3, 10]), (3, [2]), (4, [2])]
def r28 : List AR := [.t 2]
def c28x0 : AC := .seq (.reg [m' 11 3, o' 12 (.idx 1 none (.t 11) (i' 0)), o' 13 (.ld none (.t 12)), m' 2 13] [2]) (.ret)
def c28x1 : AC := .seq (.reg [o' 2 (.mv (i' 100000))] [2]) (.ret)
def c28x2 : AC := .cond (.t 10) (c28x1) (.skip)
def c28x3 : AC := .seq (.reg [m' 6 3, o' 7 (.idx 1 none (.t 6) (i' 2)), o' 8 (.ld none (.t 7)), o' 9 (.bin .and (.t 8) (i' 1)), o' 10 (.bin .eql (.t 9) (i' 0))] [3, 10]) (c28x2)
def c28x4 : AC := .seq (c28x3) (c28x0)
def c28x5 : AC := .seq (.reg [o' 4 (.ld (some 2) (.t 1)), o' 5 (.call 67 [.t 4]), m' 3 5] [3]) (c28x4)
def c28 : AC := .seq (.reg [o' 1 (.new 2 (.t 0)), o' 2 (.mv (i' 0))] [1]) (c28x5)
theorem k28 : Tryz.f28.body.bind (compC Tryz.prog Tryz.f28.ntmps v28) = some c28 := by kernel_rfl
theorem e28 : enters Tryz.prog 28 = true := by kernel_rfl
theorem q28 : Tryz.f28.results.toList.mapM (compRes Tryz.prog) = some r28 := by kernel_rfl
def v40 : List (Nat × List Nat) := [(0, [1]), (1, [3]), (2, [2])]
def r40 : List AR := [.t 2]
def c40x0 : AC := .seq (.reg [m' 6 3, o' 7 (.idx 1 none (.t 6) (i' 3)), o' 8 (.ld none (.t 7)), o' 9 (.bin .eql (.t 8) (i' 1)), m' 10 9, ⟨(some 11), .mv (.t 3), (some (10, true))⟩, ⟨(some 12), .idx 1 none (.t 11) (i' 2), (some (10, true))⟩, ⟨(some 13), .ld none (.t 12), (some (10, true))⟩, ⟨(some 14), .bin .and (.t 13) (i' 4), (some (10, true))⟩, ⟨(some 15), .bin .neq (.t 14) (i' 0), (some (10, true))⟩, o' 16 (.pick (.t 10) (.t 15) (.k (.bool false))), m' 2 16] [2]) (.ret)
def c40x1 : AC := .seq (.reg [o' 4 (.ld (some 2) (.t 1)), o' 5 (.call 67 [.t 4]), m' 3 5] [3]) (c40x0)
def c40 : AC := .seq (.reg [o' 1 (.new 2 (.t 0)), o' 2 (.mv (.k (.bool false)))] [1]) (c40x1)
theorem k40 : Tryz.f40.body.bind (compC Tryz.prog Tryz.f40.ntmps v40) = some c40 := by kernel_rfl
theorem e40 : enters Tryz.prog 40 = true := by kernel_rfl
theorem q40 : Tryz.f40.results.toList.mapM (compRes Tryz.prog) = some r40 := by kernel_rfl
def v53 : List (Nat × List Nat) := [(0, [0]), (1, [0])]
def r53 : List AR := [.cell (some 2) 0]
def c53x0 : AC := .seq (.reg [o' 1 (.mksl [(.int .i64 0)] 8 (i' 4) (i' 4)), o' 2 (.build [(.slice none 0 0), (.slice none 0 0)] [(0, 1, (.t 1))]), n' (.st 2 (.t 0) (.t 2))] [0]) (.ret)
def c53 : AC := .seq (.reg [o' 0 (.zero [(.slice none 0 0), (.slice none 0 0)])] [0]) (c53x0)
theorem k53 : Tryz.f53.body.bind (compC Tryz.prog Tryz.f53.ntmps v53) = some c53 := by kernel_rfl
theorem e53 : enters Tryz.prog 53 = true := by kernel_rfl
theorem q53 : Tryz.f53.results.toList.mapM (compRes Tryz.prog) = some r53 := by kernel_rfl
def v60 : List (Nat × List Nat) := [(0, [1, 2, 3, 6]), (1, [1, 2, 6, 7]), (2, [1, 2, 6, 7, 10]), (3, [1, 2, 6, 7, 10, 11]), (4, [1, 2, 6, 7, 10, 11]), (5, [6, 7]), (6, [2, 6, 7, 23]), (7, [2, 6, 7]), (8, [6, 7, 31]), (9, [6, 7]), (10, [6])]
def r60 : List AR := [.cell (some 2) 6]
def c60x0 : AC := .seq (.reg [m' 37 7, o' 38 (.build [(.slice none 0 0), (.slice none 0 0)] [(0, 1, (.t 37))]), n' (.st 2 (.t 6) (.t 38))] [6]) (.ret)
def c60x1 : AC := .reg [m' 14 7, m' 15 7, o' 16 (.idx 1 none (.t 15) (i' 1)), o' 17 (.ld none (.t 16)), m' 18 1, o' 19 (.bin .mul (i' 8) (.t 18)), m' 20 2, o' 21 (.call 111 [.t 17, .t 19, i' 8, .t 20]), o' 22 (.idx 1 none (.t 14) (i' 1)), n' (.st 1 (.t 22) (.t 21))] [6, 7]
def c60x2 : AC := .reg [m' 32 7, m' 33 7, o' 34 (.idx 1 none (.t 33) (i' 1)), o' 35 (.ld none (.t 34)), o' 36 (.idx 1 none (.t 32) (i' 0)), n' (.st 1 (.t 36) (.t 35))] [6, 7]
def c60x3 : AC := .cond (.t 31) (c60x2) (.skip)
def c60x4 : AC := .seq (.reg [m' 29 2, o' 30 (.bin .and (.t 29) (i' 128)), o' 31 (.bin .neq (.t 30) (i' 0))] [6, 7, 31]) (c60x3)
def c60x5 : AC := .seq (.reg [m' 25 7, m' 26 2, o' 27 (.call 50 [.t 26, i' 3]), o' 28 (.idx 1 none (.t 25) (i' 2)), n' (.st 1 (.t 28) (.t 27))] [2, 6, 7]) (c60x4)
def c60x6 : AC := .cond (.t 23) (c60x5) (.skip)
def c60x7 : AC := .seq (.reg [o' 24 (.bin .eql (.t 10) (i' 2)), m' 23 24] [2, 6, 7, 23]) (c60x6)
def c60x8 : AC := .cond (.t 11) (c60x1) (c60x7)
def c60x9 : AC := .reg [o' 13 (.bin .eql (.t 10) (i' 1)), m' 11 13] [1, 2, 6, 7, 10, 11]
def c60x10 : AC := .cond (.t 11) (.skip) (c60x9)
def c60x11 : AC := .seq (.reg [o' 12 (.bin .eql (.t 10) (i' 0)), m' 11 12] [1, 2, 6, 7, 10, 11]) (c60x10)
def c60x12 : AC := .seq (c60x11) (c60x8)
def c60x13 : AC := .block 0 (c60x12)
def c60x14 : AC := .seq (.reg [m' 10 1] [1, 2, 6, 7, 10]) (c60x13)
def c60x15 : AC := .seq (c60x14) (c60x0)
def c60x16 : AC := .seq (.reg [o' 8 (.ld (some 2) (.t 3)), o' 9 (.call 67 [.t 8]), m' 7 9] [1, 2, 6, 7]) (c60x15)
def c60 : AC := .seq (.reg [o' 3 (.new 2 (.t 0)), o' 6 (.zero [(.slice none 0 0), (.slice none 0 0)])] [1, 2, 3, 6]) (c60x16)
theorem k60 : Tryz.f60.body.bind (compC Tryz.prog Tryz.f60.ntmps v60) = some c60 := by kernel_rfl
theorem e60 : enters Tryz.prog 60 = true := by kernel_rfl
theorem q60 : Tryz.f60.results.toList.mapM (compRes Tryz.prog) = some r60 := by kernel_rfl
def v67 : List (Nat × List Nat) := [(0, [1]), (1, [1, 3]), (2, [3]), (3, [3]), (4, [2])]
def r67 : List AR := [.t 2]
def c67x0 : AC := .seq (.reg [m' 33 3, m' 2 33] [2]) (.ret)
def c67x1 : AC := .seq (.dreg [m' 9 3, m' 10 3, m' 11 3, m' 12 3, m' 13 3, o' 14 (.idx 1 none (.t 13) (i' 0)), o' 15 (.ld none (.t 14)), o' 16 (.call 50 [.t 15, i' 16]), m' 17 3, o' 18 (.idx 1 none (.t 17) (i' 1)), o' 19 (.ld none (.t 18)), o' 20 (.call 50 [.t 19, i' 16]), m' 21 3, o' 22 (.idx 1 none (.t 21) (i' 2)), o' 23 (.ld none (.t 22)), o' 24 (.call 50 [.t 23, i' 3]), m' 25 3, o' 26 (.idx 1 none (.t 25) (i' 3)), o' 27 (.ld none (.t 26)), o' 28 (.call 50 [.t 27, i' 1]), o' 29 (.idx 1 none (.t 9) (i' 0)), n' (.st 1 (.t 29) (.t 16)), o' 30 (.idx 1 none (.t 10) (i' 1)), n' (.st 1 (.t 30) (.t 20)), o' 31 (.idx 1 none (.t 11) (i' 2)), n' (.st 1 (.t 31) (.t 24)), o' 32 (.idx 1 none (.t 12) (i' 3)), n' (.st 1 (.t 32) (.t 28))] [[], [], [], [], [], [4], [4, 5], [4, 5, 6], [], [8], [8, 9], [4, 5, 6, 7, 8, 9, 10], [], [12], [12, 13], [4, 5, 6, 7, 8, 9, 10, 11, 12, 13, 14], [], [16], [16, 17], [4, 5, 6, 7, 8, 9, 10, 11, 12, 13, 14, 15, 16, 17, 18], [0, 4, 5, 6, 7, 8, 9, 10, 11, 12, 13, 14, 15, 16, 17, 18, 19], [0, 4, 5, 6, 7, 8, 9, 10, 11, 12, 13, 14, 15, 16, 17, 18, 19, 20], [0, 1, 4, 5, 6, 7, 8, 9, 10, 11, 12, 13, 14, 15, 16, 17, 18, 19, 20, 21], [0, 1, 4, 5, 6, 7, 8, 9, 10, 11, 12, 13, 14, 15, 16, 17, 18, 19, 20, 21, 22], [0, 1, 2, 4, 5, 6, 7, 8, 9, 10, 11, 12, 13, 14, 15, 16, 17, 18, 19, 20, 21, 22, 23], [0, 1, 2, 4, 5, 6, 7, 8, 9, 10, 11, 12, 13, 14, 15, 16, 17, 18, 19, 20, 21, 22, 23, 24], [0, 1, 2, 3, 4, 5, 6, 7, 8, 9, 10, 11, 12, 13, 14, 15, 16, 17, 18, 19, 20, 21, 22, 23, 24, 25], [0, 1, 2, 3, 4, 5, 6, 7, 8, 9, 10, 11, 12, 13, 14, 15, 16, 17, 18, 19, 20, 21, 22, 23, 24, 25, 26]] [3]) (c67x0)
def c67x2 : AC := .seq (.reg [m' 5 3, o' 6 (.fad 0 (.t 1)), o' 7 (.ld none (.t 6)), o' 8 (.copy 1 (.t 5) (.t 7))] [3]) (c67x1)
def c67x3 : AC := .seq (.reg [o' 4 (.mksl [(.int .i64 0)] 8 (i' 4) (i' 4)), m' 3 4] [1, 3]) (c67x2)
def c67 : AC := .seq (.reg [o' 1 (.new 2 (.t 0)), o' 2 (.mv (.k (.slice none 0 0)))] [1]) (c67x3)
theorem k67 : Tryz.f67.body.bind (compC Tryz.prog Tryz.f67.ntmps v67) = some c67 := by kernel_rfl
theorem e67 : enters Tryz.prog 67 = true := by kernel_rfl
theorem q67 : Tryz.f67.results.toList.mapM (compRes Tryz.prog) = some r67 := by kernel_rfl
def v80 : List (Nat × List Nat) := [(0, [1, 2, 4]), (1, [1, 4, 6]), (2, [1, 4, 6, 7]), (3, [1, 4, 6, 7, 10]), (4, [1, 4, 6, 7, 10, 11]), (5, [1, 4, 6, 7, 10, 11]), (6, [4, 6, 7]), (7, [4, 6, 7, 10, 20]), (8, [4, 6, 7]), (9, [4, 6, 7, 25]), (10, [4, 6, 7]), (11, [4, 5])]
def r80 : List AR := [.cell (some 2) 4, .t 5]
def c80x0 : AC := .seq (.reg [m' 32 6, o' 33 (.build [(.slice none 0 0), (.slice none 0 0)] [(0, 1, (.t 32))]), m' 34 7, n' (.st 2 (.t 4) (.t 33)), m' 5 34] [4, 5]) (.ret)
def c80x1 : AC := .reg [m' 14 6, o' 15 (.idx 1 none (.t 14) (i' 0)), o' 16 (.ld none (.t 15)), m' 17 1, o' 18 (.bin .mul (i' 8) (.t 17)), o' 19 (.call 118 [.t 16, .t 18, i' 8]), m' 7 19] [4, 6, 7]
def c80x2 : AC := .reg [m' 22 6, o' 23 (.idx 1 none (.t 22) (i' 2)), o' 24 (.ld none (.t 23)), m' 7 24] [4, 6, 7]
def c80x3 : AC := .reg [m' 27 6, m' 28 6, o' 29 (.idx 1 none (.t 28) (i' 3)), o' 30 (.ld none (.t 29)), m' 7 30, o' 31 (.idx 1 none (.t 27) (i' 3)), n' (.st 1 (.t 31) (i' 0))] [4, 6, 7]
def c80x4 : AC := .cond (.t 25) (c80x3) (.skip)
def c80x5 : AC := .seq (.reg [o' 26 (.bin .eql (.t 10) (i' 3)), m' 25 26] [4, 6, 7, 25]) (c80x4)
def c80x6 : AC := .cond (.t 20) (c80x2) (c80x5)
def c80x7 : AC := .seq (.reg [o' 21 (.bin .eql (.t 10) (i' 2)), m' 20 21] [4, 6, 7, 10, 20]) (c80x6)
def c80x8 : AC := .cond (.t 11) (c80x1) (c80x7)
def c80x9 : AC := .reg [o' 13 (.bin .eql (.t 10) (i' 1)), m' 11 13] [1, 4, 6, 7, 10, 11]
def c80x10 : AC := .cond (.t 11) (.skip) (c80x9)
def c80x11 : AC := .seq (.reg [o' 12 (.bin .eql (.t 10) (i' 0)), m' 11 12] [1, 4, 6, 7, 10, 11]) (c80x10)
def c80x12 : AC := .seq (c80x11) (c80x8)
def c80x13 : AC := .block 0 (c80x12)
def c80x14 : AC := .seq (.reg [m' 10 1] [1, 4, 6, 7, 10]) (c80x13)
def c80x15 : AC := .seq (c80x14) (c80x0)
def c80x16 : AC := .seq (.reg [o' 7 (.mv (i' 0))] [1, 4, 6, 7]) (c80x15)
def c80x17 : AC := .seq (.reg [o' 8 (.ld (some 2) (.t 2)), o' 9 (.call 67 [.t 8]), m' 6 9] [1, 4, 6]) (c80x16)
def c80 : AC := .seq (.reg [o' 2 (.new 2 (.t 0)), o' 4 (.zero [(.slice none 0 0), (.slice none 0 0)]), o' 5 (.mv (i' 0))] [1, 2, 4]) (c80x17)
end Go.Proofs.YtolmklnijjfppaaGreat.Code

namespace Go.Proofs.YtolmklnijjfppaaGreat.Code
open Go Go.Proofs.YtolmklnijjfppaaGreat.Calc
set_option maxRecDepth 100000
def v24 : List (Nat × List Nat) := [(0, [1, 2, 4]), (1, [1, 4, 5]), (2, [4, 5]), (3, [1, 4, 5, 22]), (4, [1, 4, 5, 31]), (5, [4, 5]), (6, [4])]
def r24 : List AR := [.cell (some 2) 4]
def c24x0 : AC := .seq (.reg [m' 43 5, o' 44 (.build [(.slice none 0 0), (.slice none 0 0)] [(0, 1, (.t 43))]), n' (.st 2 (.t 4) (.t 44))] [4]) (.ret)
def c24x1 : AC := .reg [m' 37 5, o' 38 (.idx 1 none (.t 37) (i' 1)), o' 39 (.ld none (.t 38)), m' 40 1, o' 41 (.bin .sub (.t 39) (.t 40)), o' 42 (.idx 1 none (.t 37) (i' 1)), n' (.st 1 (.t 42) (.t 41))] [4, 5]
def c24x2 : AC := .dreg [m' 8 5, m' 9 5, m' 10 5, m' 11 5, o' 12 (.idx 1 none (.t 11) (i' 0)), o' 13 (.ld none (.t 12)), m' 14 5, o' 15 (.idx 1 none (.t 14) (i' 6)), o' 16 (.ld none (.t 15)), o' 17 (.bin .add (.t 16) (i' 1)), o' 18 (.call 50 [.t 17, i' 20]), o' 19 (.idx 1 none (.t 8) (i' 1)), n' (.st 1 (.t 19) (i' 0)), o' 20 (.idx 1 none (.t 9) (i' 7)), n' (.st 1 (.t 20) (.t 13)), o' 21 (.idx 1 none (.t 10) (i' 6)), n' (.st 1 (.t 21) (.t 18))] [[], [], [], [], [3], [3, 4], [], [6], [6, 7], [6, 7, 8], [6, 7, 8, 9], [0, 3, 4, 5, 6, 7, 8, 9, 10], [0, 3, 4, 5, 6, 7, 8, 9, 10, 11], [0, 1, 3, 4, 5, 6, 7, 8, 9, 10, 11, 12], [0, 1, 3, 4, 5, 6, 7, 8, 9, 10, 11, 12, 13], [0, 1, 2, 3, 4, 5, 6, 7, 8, 9, 10, 11, 12, 13, 14], [0, 1, 2, 3, 4, 5, 6, 7, 8, 9, 10, 11, 12, 13, 14, 15]] [4, 5]
def c24x3 : AC := .cond (.t 31) (c24x1) (c24x2)
def c24x4 : AC := .seq (.reg [m' 32 1, m' 33 5, o' 34 (.idx 1 none (.t 33) (i' 1)), o' 35 (.ld none (.t 34)), o' 36 (.bin .lss (.t 32) (.t 35)), m' 31 36] [1, 4, 5, 31]) (c24x3)
def c24x5 : AC := .cond (.t 22) (.skip) (c24x4)
def c24x6 : AC := .seq (.reg [m' 23 1, o' 24 (.bin .leq (.t 23) (i' 0)), m' 25 24, ⟨(some 26), .mv (.t 5), (some (25, false))⟩, ⟨(some 27), .idx 1 none (.t 26) (i' 1), (some (25, false))⟩, ⟨(some 28), .ld none (.t 27), (some (25, false))⟩, ⟨(some 29), .bin .eql (.t 28) (i' 0), (some (25, false))⟩, o' 30 (.pick (.t 25) (.k (.bool true)) (.t 29)), m' 22 30] [1, 4, 5, 22]) (c24x5)
def c24x7 : AC := .block 0 (c24x6)
def c24x8 : AC := .seq (c24x7) (c24x0)
def c24x9 : AC := .seq (.reg [o' 6 (.ld (some 2) (.t 2)), o' 7 (.call 69 [.t 6]), m' 5 7] [1, 4, 5]) (c24x8)
def c24 : AC := .seq (.reg [o' 2 (.new 2 (.t 0)), o' 4 (.zero [(.slice none 0 0), (.slice none 0 0)])] [1, 2, 4]) (c24x9)
theorem k24 : Tryz.f24.body.bind (compC Tryz.prog Tryz.f24.ntmps v24) = some c24 := by kernel_rfl
theorem e24 : enters Tryz.prog 24 = true := by kernel_rfl
theorem q24 : Tryz.f24.results.toList.mapM (compRes Tryz.prog) = some r24 := by kernel_rfl
def v29 : List (Nat × List Nat) := [(0, [1]), (1, [3]), (2, [3, 9]), (3, [2]), (4, [2])]
def r29 : List AR := [.t 2]
def c29x0 : AC := .seq (.reg [m' 10 3, o' 11 (.idx 1 none (.t 10) (i' 1)), o' 12 (.ld none (.t 11)), o' 13 (.bin .sub (.t 12) (i' 1)), m' 2 13] [2]) (.ret)
def c29x1 : AC := .seq (.reg [o' 2 (.mv (i' 100000))] [2]) (.ret)
def c29x2 : AC := .cond (.t 9) (c29x1) (.skip)
def c29x3 : AC := .seq (.reg [m' 6 3, o' 7 (.idx 1 none (.t 6) (i' 1)), o' 8 (.ld none (.t 7)), o' 9 (.bin .eql (.t 8) (i' 0))] [3, 9]) (c29x2)
def c29x4 : AC := .seq (c29x3) (c29x0)
def c29x5 : AC := .seq (.reg [o' 4 (.ld (some 2) (.t 1)), o' 5 (.call 69 [.t 4]), m' 3 5] [3]) (c29x4)
def c29 : AC := .seq (.reg [o' 1 (.new 2 (.t 0)), o' 2 (.mv (i' 0))] [1]) (c29x5)
theorem k29 : Tryz.f29.body.bind (compC Tryz.prog Tryz.f29.ntmps v29) = some c29 := by kernel_rfl
theorem e29 : enters Tryz.prog 29 = true := by kernel_rfl
theorem q29 : Tryz.f29.results.toList.mapM (compRes Tryz.prog) = some r29 := by kernel_rfl
def v36 : List (Nat × List Nat) := [(0, [1]), (1, [3]), (2, [2])]
def r36 : List AR := [.t 2]
def c36x0 : AC := .seq (.dreg [m' 6 3, o' 7 (.idx 1 none (.t 6) (i' 6)), o' 8 (.ld none (.t 7)), o' 9 (.bin .mul (i' 256) (.t 8)), m' 10 3, o' 11 (.idx 1 none (.t 10) (i' 7)), o' 12 (.ld none (.t 11)), o' 13 (.bin .add (.t 9) (.t 12)), m' 2 13] [[], [0], [0, 1], [0, 1, 2], [], [4], [4, 5], [0, 1, 2, 3, 4, 5, 6], [0, 1, 2, 3, 4, 5, 6, 7]] [2]) (.ret)
def c36x1 : AC := .seq (.reg [o' 4 (.ld (some 2) (.t 1)), o' 5 (.call 69 [.t 4]), m' 3 5] [3]) (c36x0)
def c36 : AC := .seq (.reg [o' 1 (.new 2 (.t 0)), o' 2 (.mv (i' 0))] [1]) (c36x1)
theorem k36 : Tryz.f36.body.bind (compC Tryz.prog Tryz.f36.ntmps v36) = some c36 := by kernel_rfl
theorem e36 : enters Tryz.prog 36 = true := by kernel_rfl
theorem q36 : Tryz.f36.results.toList.mapM (compRes Tryz.prog) = some r36 := by kernel_rfl
def v41 : List (Nat × List Nat) := [(0, [1]), (1, [3]), (2, [2])]
def r41 : List AR := [.t 2]
def c41x0 : AC := .seq (.reg [m' 6 3, o' 7 (.idx 1 none (.t 6) (i' 5)), o' 8 (.ld none (.t 7)), o' 9 (.bin .and (.t 8) (i' 1)), o' 10 (.bin .neq (.t 9) (i' 0)), m' 11 10, ⟨(some 12), .mv (.t 3), (some (11, true))⟩, ⟨(some 13), .idx 1 none (.t 12) (i' 3), (some (11, true))⟩, ⟨(some 14), .ld none (.t 13), (some (11, true))⟩, ⟨(some 15), .bin .eql (.t 14) (i' 1), (some (11, true))⟩, o' 16 (.pick (.t 11) (.t 15) (.k (.bool false))), m' 17 16, ⟨(some 18), .mv (.t 3), (some (17, false))⟩, ⟨(some 19), .idx 1 none (.t 18) (i' 5), (some (17, false))⟩, ⟨(some 20), .ld none (.t 19), (some (17, false))⟩, ⟨(some 21), .bin .and (.t 20) (i' 2), (some (17, false))⟩, ⟨(some 22), .bin .neq (.t 21) (i' 0), (some (17, false))⟩, ⟨(some 23), .mv (.t 22), (some (17, false))⟩, ⟨(some 24), .mv (.t 3), (some (23, true))⟩, ⟨(some 25), .idx 1 none (.t 24) (i' 1), (some (23, true))⟩, ⟨(some 26), .ld none (.t 25), (some (23, true))⟩, ⟨(some 27), .bin .eql (.t 26) (i' 0), (some (23, true))⟩, ⟨(some 28), .pick (.t 23) (.t 27) (.k (.bool false)), (some (17, false))⟩, o' 29 (.pick (.t 17) (.k (.bool true)) (.t 28)), m' 2 29] [2]) (.ret)
def c41x1 : AC := .seq (.reg [o' 4 (.ld (some 2) (.t 1)), o' 5 (.call 69 [.t 4]), m' 3 5] [3]) (c41x0)
def c41 : AC := .seq (.reg [o' 1 (.new 2 (.t 0)), o' 2 (.mv (.k (.bool false)))] [1]) (c41x1)
theorem k41 : Tryz.f41.body.bind (compC Tryz.prog Tryz.f41.ntmps v41) = some c41 := by kernel_rfl
theorem e41 : enters Tryz.prog 41 = true := by kernel_rfl
theorem q41 : Tryz.f41.results.toList.mapM (compRes Tryz.prog) = some r41 := by kernel_rfl
def v55 : List (Nat × List Nat) := [(0, [0]), (1, [0])]
def r55 : List AR := [.cell (some 2) 0]
def c55x0 : AC := .seq (.reg [o' 1 (.mksl [(.int .i64 0)] 8 (i' 8) (i' 8)), o' 2 (.build [(.slice none 0 0), (.slice none 0 0)] [(0, 1, (.t 1))]), n' (.st 2 (.t 0) (.t 2))] [0]) (.ret)
def c55 : AC := .seq (.reg [o' 0 (.zero [(.slice none 0 0), (.slice none 0 0)])] [0]) (c55x0)
theorem k55 : Tryz.f55.body.bind (compC Tryz.prog Tryz.f55.ntmps v55) = some c55 := by kernel_rfl
theorem e55 : enters Tryz.prog 55 = true := by kernel_rfl
theorem q55 : Tryz.f55.results.toList.mapM (compRes Tryz.prog) = some r55 := by kernel_rfl
def v62 : List (Nat × List Nat) := [(0, [1, 2, 3, 6]), (1, [1, 2, 6, 7]), (2, [1, 2, 6, 7, 10]), (3, [6, 7]), (4, [2, 6, 7, 25]), (5, [6, 7]), (6, [6])]
def r62 : List AR := [.cell (some 2) 6]
def c62x0 : AC := .seq (.reg [m' 32 7, o' 33 (.build [(.slice none 0 0), (.slice none 0 0)] [(0, 1, (.t 32))]), n' (.st 2 (.t 6) (.t 33))] [6]) (.ret)
def c62x1 : AC := .reg [m' 19 7, m' 20 7, m' 21 2, o' 22 (.call 50 [.t 21, i' 8]), o' 23 (.idx 1 none (.t 19) (i' 0)), n' (.st 1 (.t 23) (.t 22)), o' 24 (.idx 1 none (.t 20) (i' 1)), n' (.st 1 (.t 24) (i' 40))] [6, 7]
def c62x2 : AC := .reg [m' 28 7, m' 29 2, o' 30 (.call 50 [.t 29, i' 2]), o' 31 (.idx 1 none (.t 28) (i' 5)), n' (.st 1 (.t 31) (.t 30))] [6, 7]
def c62x3 : AC := .cond (.t 25) (c62x2) (.skip)
def c62x4 : AC := .seq (.reg [m' 26 1, o' 27 (.bin .eql (.t 26) (i' 2)), m' 25 27] [2, 6, 7, 25]) (c62x3)
def c62x5 : AC := .cond (.t 10) (c62x1) (c62x4)
def c62x6 : AC := .seq (.reg [m' 11 1, o' 12 (.bin .eql (.t 11) (i' 0)), m' 13 12, ⟨(some 14), .mv (.t 7), (some (13, true))⟩, ⟨(some 15), .idx 1 none (.t 14) (i' 1), (some (13, true))⟩, ⟨(some 16), .ld none (.t 15), (some (13, true))⟩, ⟨(some 17), .bin .eql (.t 16) (i' 0), (some (13, true))⟩, o' 18 (.pick (.t 13) (.t 17) (.k (.bool false))), m' 10 18] [1, 2, 6, 7, 10]) (c62x5)
def c62x7 : AC := .block 0 (c62x6)
def c62x8 : AC := .seq (c62x7) (c62x0)
def c62x9 : AC := .seq (.reg [o' 8 (.ld (some 2) (.t 3)), o' 9 (.call 69 [.t 8]), m' 7 9] [1, 2, 6, 7]) (c62x8)
def c62 : AC := .seq (.reg [o' 3 (.new 2 (.t 0)), o' 6 (.zero [(.slice none 0 0), (.slice none 0 0)])] [1, 2, 3, 6]) (c62x9)
theorem k62 : Tryz.f62.body.bind (compC Tryz.prog Tryz.f62.ntmps v62) = some c62 := by kernel_rfl
theorem e62 : enters Tryz.prog 62 = true := by kernel_rfl
theorem q62 : Tryz.f62.results.toList.mapM (compRes Tryz.prog) = some r62 := by kernel_rfl
def v69 : List (Nat × List Nat) := [(0, [1]), (1, [1, 3]), (2, [3]), (3, [3, 11, 12]), (4, [3, 11, 12, 13]), (5, [3, 4, 5, 11, 12]), (6, [3, 11, 12]), (7, [3, 11, 12]), (8, [2])]
def r69 : List AR := [.t 2]
def c69x0 : AC := .seq (.reg [m' 26 3, m' 2 26] [2]) (.ret)
def c69x1 : AC := .reg [o' 25 (.bin .add (.t 12) (i' 1)), m' 12 25] [3, 11, 12]
def c69x2 : AC := .reg [m' 16 3, m' 17 4, m' 18 3, m' 19 4, o' 20 (.idx 1 none (.t 18) (.t 19)), o' 21 (.ld none (.t 20)), m' 22 5, o' 23 (.call 50 [.t 21, .t 22]), o' 24 (.idx 1 none (.t 16) (.t 17)), n' (.st 1 (.t 24) (.t 23))] [3, 11, 12]
def c69x3 : AC := .seq (.reg [m' 14 12, o' 15 (.ixa 8 1 none (.t 11) (.t 12)), m' 4 14, m' 5 15] [3, 4, 5, 11, 12]) (c69x2)
def c69x4 : AC := .block 1 (c69x3)
def c69x5 : AC := .seq (c69x4) (c69x1)
def c69x6 : AC := .cond (.t 13) (.skip) (.exit 0)
def c69x7 : AC := .seq (c69x6) (c69x5)
def c69x8 : AC := .seq (.reg [o' 13 (.bin .lss (.t 12) (i' 8))] [3, 11, 12, 13]) (c69x7)
def c69x9 : AC := .loop (c69x8)
def c69x10 : AC := .block 0 (c69x9)
def c69x11 : AC := .seq (.reg [o' 11 (.build [(.int .i64 0), (.int .i64 0), (.int .i64 0), (.int .i64 0), (.int .i64 0), (.int .i64 0), (.int .i64 0), (.int .i64 0)] [(0, 1, (i' 8)), (1, 1, (i' 6)), (2, 1, (i' 8)), (3, 1, (i' 1)), (4, 1, (i' 1)), (5, 1, (i' 2)), (6, 1, (i' 20)), (7, 1, (i' 8))]), o' 12 (.mv (i' 0))] [3, 11, 12]) (c69x10)
def c69x12 : AC := .seq (c69x11) (c69x0)
def c69x13 : AC := .seq (.reg [m' 7 3, o' 8 (.fad 0 (.t 1)), o' 9 (.ld none (.t 8)), o' 10 (.copy 1 (.t 7) (.t 9))] [3]) (c69x12)
def c69x14 : AC := .seq (.reg [o' 6 (.mksl [(.int .i64 0)] 8 (i' 8) (i' 8)), m' 3 6] [1, 3]) (c69x13)
def c69 : AC := .seq (.reg [o' 1 (.new 2 (.t 0)), o' 2 (.mv (.k (.slice none 0 0)))] [1]) (c69x14)
theorem k69 : Tryz.f69.body.bind (compC Tryz.prog Tryz.f69.ntmps v69) = some c69 := by kernel_rfl
theorem e69 : enters Tryz.prog 69 = true := by kernel_rfl
theorem q69 : Tryz.f69.results.toList.mapM (compRes Tryz.prog) = some r69 := by kernel_rfl
def v82 : List (Nat × List Nat) := [(0, [1, 2, 4]), (1, [1, 4, 6]), (2, [1, 4, 6, 7]), (3, [4, 6, 7, 10]), (4, [4, 6, 7, 10, 11]), (5, [4, 6, 7]), (6, [4, 6, 7, 10, 18]), (7, [4, 6, 7]), (8, [4, 6, 7]), (9, [4, 6, 7, 37]), (10, [4, 6, 7]), (11, [4, 5])]
def r82 : List AR := [.cell (some 2) 4, .t 5]
def c82x0 : AC := .seq (.reg [m' 42 6, o' 43 (.build [(.slice none 0 0), (.slice none 0 0)] [(0, 1, (.t 42))]), m' 44 7, n' (.st 2 (.t 4) (.t 43)), m' 5 44] [4, 5]) (.ret)
def c82x1 : AC := .reg [m' 13 6, m' 14 6, o' 15 (.idx 1 none (.t 14) (i' 2)), o' 16 (.ld none (.t 15)), m' 7 16, o' 17 (.idx 1 none (.t 13) (i' 3)), n' (.st 1 (.t 17) (i' 0))] [4, 6, 7]
def c82x2 : AC := .reg [m' 35 6, o' 36 (.idx 1 none (.t 35) (i' 4)), n' (.st 1 (.t 36) (i' 0))] [4, 6, 7]
def c82x3 : AC := .seq (.dreg [m' 20 6, o' 21 (.idx 1 none (.t 20) (i' 3)), o' 22 (.ld none (.t 21)), m' 23 6, o' 24 (.idx 1 none (.t 23) (i' 1)), o' 25 (.ld none (.t 24)), o' 26 (.bin .gtr (.t 25) (i' 0)), o' 27 (.call 119 [.t 26]), o' 28 (.bin .shl (.t 27) (.k (.int .u64 1))), o' 29 (.bin .or (.t 22) (.t 28)), m' 30 6, o' 31 (.idx 1 none (.t 30) (i' 4)), o' 32 (.ld none (.t 31)), o' 33 (.bin .shl (.t 32) (.k (.int .u64 2))), o' 34 (.bin .or (.t 29) (.t 33)), m' 7 34] [[], [0], [0, 1], [], [3], [3, 4], [3, 4, 5], [3, 4, 5, 6], [3, 4, 5, 6, 7], [0, 1, 2, 3, 4, 5, 6, 7, 8], [], [10], [10, 11], [10, 11, 12], [0, 1, 2, 3, 4, 5, 6, 7, 8, 9, 10, 11, 12, 13], [0, 1, 2, 3, 4, 5, 6, 7, 8, 9, 10, 11, 12, 13, 14]] [4, 6, 7]) (c82x2)
def c82x4 : AC := .reg [m' 39 6, o' 40 (.idx 1 none (.t 39) (i' 5)), o' 41 (.ld none (.t 40)), m' 7 41] [4, 6, 7]
def c82x5 : AC := .cond (.t 37) (c82x4) (.skip)
def c82x6 : AC := .seq (.reg [o' 38 (.bin .eql (.t 10) (i' 2)), m' 37 38] [4, 6, 7, 37]) (c82x5)
def c82x7 : AC := .cond (.t 18) (c82x3) (c82x6)
def c82x8 : AC := .seq (.reg [o' 19 (.bin .eql (.t 10) (i' 1)), m' 18 19] [4, 6, 7, 10, 18]) (c82x7)
def c82x9 : AC := .cond (.t 11) (c82x1) (c82x8)
def c82x10 : AC := .seq (.reg [o' 12 (.bin .eql (.t 10) (i' 0)), m' 11 12] [4, 6, 7, 10, 11]) (c82x9)
def c82x11 : AC := .block 0 (c82x10)
def c82x12 : AC := .seq (.reg [m' 10 1] [4, 6, 7, 10]) (c82x11)
def c82x13 : AC := .seq (c82x12) (c82x0)
def c82x14 : AC := .seq (.reg [o' 7 (.mv (i' 0))] [1, 4, 6, 7]) (c82x13)
def c82x15 : AC := .seq (.reg [o' 8 (.ld (some 2) (.t 2)), o' 9 (.call 69 [.t 8]), m' 6 9] [1, 4, 6]) (c82x14)
def c82 : AC := .seq (.reg [o' 2 (.new 2 (.t 0)), o' 4 (.zero [(.slice none 0 0), (.slice none 0 0)]), o' 5 (.mv (i' 0))] [1, 2, 4]) (c82x15)
def v119 : List (Nat × List Nat) := [(0, [0]), (1, [3]), (2, [2]), (3, [2])]
def r119 : List AR := [.t 2]
def c119x0 : AC := .seq (.reg [o' 2 (.mv (i' 0))] [2]) (.ret)
def c119x1 : AC := .seq (.reg [o' 2 (.mv (i' 1))] [2]) (.ret)
def c119x2 : AC := .cond (.t 3) (c119x1) (.skip)
def c119x3 : AC := .seq (.reg [m' 3 0] [3]) (c119x2)
def c119x4 : AC := .seq (c119x3) (c119x0)
def c119 : AC := .seq (.reg [o' 2 (.mv (i' 0))] [0]) (c119x4)
end Go.Proofs.YtolmklnijjfppaaGreat.Code

namespace Go.Proofs.YtolmklnijjfppaaGreat.Code
open Go Go.Proofs.YtolmklnijjfppaaGreat.Calc
set_option maxRecDepth 100000
def v25 : List (Nat × List Nat) := [(0, [1, 2, 4]), (1, [1, 4, 5, 6, 7]), (2, [1, 4, 5, 6, 7, 15]), (3, [1, 4, 5, 6, 7]), (4, [4, 5, 6, 7, 19, 20]), (5, [4, 5, 6, 7, 19, 20, 21]), (6, [4, 5, 6, 7, 19, 20]), (7, [4, 5, 6, 7, 19, 20, 27]), (8, [4, 5, 6, 7, 19, 20]), (9, [4, 5, 6, 7, 19, 20]), (10, [4])]
def r25 : List AR := [.cell (some 2) 4]
def c25x0 : AC := .seq (.reg [m' 29 5, m' 30 6, m' 31 7, o' 32 (.call 72 [.t 29, .t 30, .t 31]), n' (.st 2 (.t 4) (.t 32))] [4]) (.ret)
def c25x1 : AC := .reg [o' 28 (.bin .add (.t 20) (i' 1)), m' 20 28] [4, 5, 6, 7, 19, 20]
def c25x2 : AC := .reg [o' 6 (.mv (i' 1))] [4, 5, 6, 7, 19, 20]
def c25x3 : AC := .cond (.t 27) (c25x2) (.skip)
def c25x4 : AC := .seq (.reg [m' 25 7, m' 26 5, o' 27 (.call 71 [.t 25, .t 26])] [4, 5, 6, 7, 19, 20, 27]) (c25x3)
def c25x5 : AC := .seq (.reg [m' 22 5, o' 23 (.bin .add (.t 22) (i' 1)), o' 24 (.bin .rem (.t 23) (i' 2560)), m' 5 24] [4, 5, 6, 7, 19, 20]) (c25x4)
def c25x6 : AC := .block 1 (c25x5)
def c25x7 : AC := .seq (c25x6) (c25x1)
def c25x8 : AC := .cond (.t 21) (.skip) (.exit 0)
def c25x9 : AC := .seq (c25x8) (c25x7)
def c25x10 : AC := .seq (.reg [o' 21 (.bin .lss (.t 20) (.t 19))] [4, 5, 6, 7, 19, 20, 21]) (c25x9)
def c25x11 : AC := .loop (c25x10)
def c25x12 : AC := .block 0 (c25x11)
def c25x13 : AC := .seq (.reg [m' 19 1, o' 20 (.mv (i' 0))] [4, 5, 6, 7, 19, 20]) (c25x12)
def c25x14 : AC := .seq (c25x13) (c25x0)
def c25x15 : AC := .reg [m' 16 1, o' 17 (.bin .rem (.t 16) (i' 2560)), o' 18 (.bin .add (i' 2560) (.t 17)), m' 1 18] [1, 4, 5, 6, 7]
def c25x16 : AC := .cond (.t 15) (c25x15) (.skip)
def c25x17 : AC := .seq (.reg [m' 14 1, o' 15 (.bin .gtr (.t 14) (i' 5120))] [1, 4, 5, 6, 7, 15]) (c25x16)
def c25x18 : AC := .seq (c25x17) (c25x14)
def c25x19 : AC := .seq (.reg [o' 9 (.ld (some 2) (.t 2)), o' 10 (.call 70 [.t 9]), m' 8 10, o' 11 (.ext (.t 8) 0), o' 12 (.ext (.t 8) 1), o' 13 (.ext (.t 8) 2), m' 5 11, m' 6 12, m' 7 13] [1, 4, 5, 6, 7]) (c25x18)
def c25 : AC := .seq (.reg [o' 2 (.new 2 (.t 0)), o' 4 (.zero [(.slice none 0 0), (.slice none 0 0)])] [1, 2, 4]) (c25x19)
theorem k25 : Tryz.f25.body.bind (compC Tryz.prog Tryz.f25.ntmps v25) = some c25 := by kernel_rfl
theorem e25 : enters Tryz.prog 25 = true := by kernel_rfl
theorem q25 : Tryz.f25.results.toList.mapM (compRes Tryz.prog) = some r25 := by kernel_rfl
def v30 : List (Nat × List Nat) := [(0, [1]), (1, [3, 5]), (2, [3, 5, 6]), (3, [3, 5, 6, 17]), (4, [3, 5, 6, 17, 18]), (5, [3, 5, 6, 7, 17]), (6, [3, 5, 6, 7, 17]), (7, [3, 5, 6, 7, 17, 27]), (8, [2]), (9, [3, 5, 6, 17]), (10, [2])]
def r30 : List AR := [.t 2]
def c30x0 : AC := .seq (.reg [o' 2 (.mv (i' 100000))] [2]) (.ret)
def c30x1 : AC := .reg [o' 29 (.bin .add (.t 17) (i' 1)), m' 17 29] [3, 5, 6, 17]
def c30x2 : AC := .seq (.reg [m' 28 7, m' 2 28] [2]) (.ret)
def c30x3 : AC := .cond (.t 27) (c30x2) (.skip)
def c30x4 : AC := .seq (.reg [m' 23 5, m' 24 3, o' 25 (.call 78 [.t 23, .t 24]), m' 26 6, o' 27 (.bin .neq (.t 25) (.t 26))] [3, 5, 6, 7, 17, 27]) (c30x3)
def c30x5 : AC := .seq (.reg [m' 20 3, o' 21 (.bin .add (.t 20) (i' 1)), o' 22 (.bin .rem (.t 21) (i' 2560)), m' 3 22] [3, 5, 6, 7, 17]) (c30x4)
def c30x6 : AC := .seq (.reg [m' 19 17, m' 7 19] [3, 5, 6, 7, 17]) (c30x5)
def c30x7 : AC := .block 1 (c30x6)
def c30x8 : AC := .seq (c30x7) (c30x1)
def c30x9 : AC := .cond (.t 18) (.skip) (.exit 0)
def c30x10 : AC := .seq (c30x9) (c30x8)
def c30x11 : AC := .seq (.reg [o' 18 (.bin .lss (.t 17) (i' 2560))] [3, 5, 6, 17, 18]) (c30x10)
def c30x12 : AC := .loop (c30x11)
def c30x13 : AC := .block 0 (c30x12)
def c30x14 : AC := .seq (.reg [o' 17 (.mv (i' 0))] [3, 5, 6, 17]) (c30x13)
def c30x15 : AC := .seq (c30x14) (c30x0)
def c30x16 : AC := .seq (.reg [m' 14 5, m' 15 3, o' 16 (.call 78 [.t 14, .t 15]), m' 6 16] [3, 5, 6]) (c30x15)
def c30x17 : AC := .seq (.reg [o' 9 (.ld (some 2) (.t 1)), o' 10 (.call 70 [.t 9]), m' 8 10, o' 11 (.ext (.t 8) 0), o' 12 (.ext (.t 8) 1), o' 13 (.ext (.t 8) 2), m' 3 11, m' 4 12, m' 5 13] [3, 5]) (c30x16)
def c30 : AC := .seq (.reg [o' 1 (.new 2 (.t 0)), o' 2 (.mv (i' 0))] [1]) (c30x17)
theorem k30 : Tryz.f30.body.bind (compC Tryz.prog Tryz.f30.ntmps v30) = some c30 := by kernel_rfl
theorem e30 : enters Tryz.prog 30 = true := by kernel_rfl
theorem q30 : Tryz.f30.results.toList.mapM (compRes Tryz.prog) = some r30 := by kernel_rfl
def v37 : List (Nat × List Nat) := [(0, [1]), (1, [3, 5]), (2, [2])]
def r37 : List AR := [.t 2]
def c37x0 : AC := .seq (.reg [m' 12 5, m' 13 3, o' 14 (.call 78 [.t 12, .t 13]), m' 2 14] [2]) (.ret)
def c37x1 : AC := .seq (.reg [o' 7 (.ld (some 2) (.t 1)), o' 8 (.call 70 [.t 7]), m' 6 8, o' 9 (.ext (.t 6) 0), o' 10 (.ext (.t 6) 1), o' 11 (.ext (.t 6) 2), m' 3 9, m' 4 10, m' 5 11] [3, 5]) (c37x0)
def c37 : AC := .seq (.reg [o' 1 (.new 2 (.t 0)), o' 2 (.mv (i' 0))] [1]) (c37x1)
theorem k37 : Tryz.f37.body.bind (compC Tryz.prog Tryz.f37.ntmps v37) = some c37 := by kernel_rfl
theorem e37 : enters Tryz.prog 37 = true := by kernel_rfl
theorem q37 : Tryz.f37.results.toList.mapM (compRes Tryz.prog) = some r37 := by kernel_rfl
def v56 : List (Nat × List Nat) := [(0, [0]), (1, [0])]
def r56 : List AR := [.cell (some 2) 0]
def c56x0 : AC := .seq (.reg [o' 1 (.mksl [(.int .u8 0)] 1 (i' 32) (i' 32)), o' 2 (.call 72 [i' 2559, i' 0, .t 1]), n' (.st 2 (.t 0) (.t 2))] [0]) (.ret)
def c56 : AC := .seq (.reg [o' 0 (.zero [(.slice none 0 0), (.slice none 0 0)])] [0]) (c56x0)
theorem k56 : Tryz.f56.body.bind (compC Tryz.prog Tryz.f56.ntmps v56) = some c56 := by kernel_rfl
theorem e56 : enters Tryz.prog 56 = true := by kernel_rfl
theorem q56 : Tryz.f56.results.toList.mapM (compRes Tryz.prog) = some r56 := by kernel_rfl
def v63 : List (Nat × List Nat) := [(0, [1, 2, 3, 6]), (1, [1, 2, 6, 7, 8, 9]), (2, [1, 2, 6, 7, 8, 9, 29]), (3, [6, 7, 8, 9]), (4, [6])]
def r63 : List AR := [.cell (some 2) 6]
def c63x0 : AC := .seq (.reg [m' 36 7, m' 37 8, m' 38 9, o' 39 (.call 72 [.t 36, .t 37, .t 38]), n' (.st 2 (.t 6) (.t 39))] [6]) (.ret)
def c63x1 : AC := .reg [m' 30 9, m' 31 1, m' 32 2, o' 33 (.call 50 [.t 32, i' 8]), o' 34 (.cvt .u8 (.t 33)), o' 35 (.idx 1 none (.t 30) (.t 31)), n' (.st 1 (.t 35) (.t 34))] [6, 7, 8, 9]
def c63x2 : AC := .cond (.t 29) (c63x1) (.skip)
def c63x3 : AC := .seq (.reg [m' 16 1, o' 17 (.bin .geq (.t 16) (i' 0)), m' 18 17, ⟨(some 19), .mv (.t 1), (some (18, true))⟩, ⟨(some 20), .bin .lss (.t 19) (i' 32), (some (18, true))⟩, o' 21 (.pick (.t 18) (.t 20) (.k (.bool false))), m' 22 21, ⟨(some 23), .mv (.t 1), (some (22, true))⟩, ⟨(some 24), .bin .lss (.t 23) (i' 5), (some (22, true))⟩, ⟨(some 25), .mv (.t 24), (some (22, true))⟩, ⟨(some 26), .mv (.t 1), (some (25, false))⟩, ⟨(some 27), .bin .gtr (.t 26) (i' 7), (some (25, false))⟩, ⟨(some 28), .pick (.t 25) (.k (.bool true)) (.t 27), (some (22, true))⟩, o' 29 (.pick (.t 22) (.t 28) (.k (.bool false)))] [1, 2, 6, 7, 8, 9, 29]) (c63x2)
def c63x4 : AC := .seq (c63x3) (c63x0)
def c63x5 : AC := .seq (.reg [o' 11 (.ld (some 2) (.t 3)), o' 12 (.call 70 [.t 11]), m' 10 12, o' 13 (.ext (.t 10) 0), o' 14 (.ext (.t 10) 1), o' 15 (.ext (.t 10) 2), m' 7 13, m' 8 14, m' 9 15] [1, 2, 6, 7, 8, 9]) (c63x4)
def c63 : AC := .seq (.reg [o' 3 (.new 2 (.t 0)), o' 6 (.zero [(.slice none 0 0), (.slice none 0 0)])] [1, 2, 3, 6]) (c63x5)
theorem k63 : Tryz.f63.body.bind (compC Tryz.prog Tryz.f63.ntmps v63) = some c63 := by kernel_rfl
theorem e63 : enters Tryz.prog 63 = true := by kernel_rfl
theorem q63 : Tryz.f63.results.toList.mapM (compRes Tryz.prog) = some r63 := by kernel_rfl
def v70 : List (Nat × List Nat) := [(0, [1]), (1, [1, 5, 6]), (2, [1, 5, 6, 11]), (3, [1, 5, 6]), (4, [1, 5, 6, 22]), (5, [1, 5, 6]), (6, [1, 5, 6, 7]), (7, [5, 6, 7]), (8, [2, 3, 4])]
def r70 : List AR := [.t 2, .t 3, .t 4]
def c70x0 : AC := .seq (.reg [m' 33 5, m' 34 6, m' 35 7, m' 2 33, m' 3 34, m' 4 35] [2, 3, 4]) (.ret)
def c70x1 : AC := .seq (.reg [m' 29 7, o' 30 (.fad 1 (.t 1)), o' 31 (.ld none (.t 30)), o' 32 (.copy 1 (.t 29) (.t 31))] [5, 6, 7]) (c70x0)
def c70x2 : AC := .seq (.reg [o' 28 (.mksl [(.int .u8 0)] 1 (i' 32) (i' 32)), m' 7 28] [1, 5, 6, 7]) (c70x1)
def c70x3 : AC := .reg [o' 23 (.fad 0 (.t 1)), o' 24 (.ld none (.t 23)), o' 25 (.idx 1 none (.t 24) (i' 1)), o' 26 (.ld none (.t 25)), o' 27 (.call 50 [.t 26, i' 1]), m' 6 27] [1, 5, 6]
def c70x4 : AC := .cond (.t 22) (c70x3) (.skip)
def c70x5 : AC := .seq (.reg [o' 19 (.fad 0 (.t 1)), o' 20 (.ld none (.t 19)), o' 21 (.len (.t 20)), o' 22 (.bin .gtr (.t 21) (i' 1))] [1, 5, 6, 22]) (c70x4)
def c70x6 : AC := .seq (c70x5) (c70x2)
def c70x7 : AC := .reg [o' 12 (.fad 0 (.t 1)), o' 13 (.ld none (.t 12)), o' 14 (.idx 1 none (.t 13) (i' 0)), o' 15 (.ld none (.t 14)), o' 16 (.bin .rem (.t 15) (i' 2560)), o' 17 (.bin .add (.t 16) (i' 2560)), o' 18 (.bin .rem (.t 17) (i' 2560)), m' 5 18] [1, 5, 6]
def c70x8 : AC := .cond (.t 11) (c70x7) (.skip)
def c70x9 : AC := .seq (.reg [o' 8 (.fad 0 (.t 1)), o' 9 (.ld none (.t 8)), o' 10 (.len (.t 9)), o' 11 (.bin .gtr (.t 10) (i' 0))] [1, 5, 6, 11]) (c70x8)
def c70x10 : AC := .seq (c70x9) (c70x6)
def c70x11 : AC := .seq (.reg [o' 5 (.mv (i' 2559)), o' 6 (.mv (i' 0))] [1, 5, 6]) (c70x10)
def c70 : AC := .seq (.reg [o' 1 (.new 2 (.t 0)), o' 2 (.mv (i' 0)), o' 3 (.mv (i' 0)), o' 4 (.mv (.k (.slice none 0 0)))] [1]) (c70x11)
theorem k70 : Tryz.f70.body.bind (compC Tryz.prog Tryz.f70.ntmps v70) = some c70 := by kernel_rfl
theorem e70 : enters Tryz.prog 70 = true := by kernel_rfl
theorem q70 : Tryz.f70.results.toList.mapM (compRes Tryz.prog) = some r70 := by kernel_rfl
def v71 : List (Nat × List Nat) := [(0, [0, 1]), (1, [4])]
def r71 : List AR := [.t 4]
def c71x0 : AC := .seq (.reg [m' 5 1, o' 6 (.call 114 [.t 5]), m' 7 6, ⟨(some 8), .mv (.t 0), (some (7, true))⟩, ⟨(some 9), .mv (.t 1), (some (7, true))⟩, ⟨(some 10), .call 115 [.t 8, .t 9], (some (7, true))⟩, o' 11 (.pick (.t 7) (.t 10) (.k (.bool false))), m' 12 11, ⟨(some 13), .mv (.t 0), (some (12, true))⟩, ⟨(some 14), .mv (.t 1), (some (12, true))⟩, ⟨(some 15), .call 116 [.t 13, .t 14], (some (12, true))⟩, ⟨(some 16), .bin .neq (.t 15) (i' 0), (some (12, true))⟩, o' 17 (.pick (.t 12) (.t 16) (.k (.bool false))), m' 4 17] [4]) (.ret)
def c71 : AC := .seq (.reg [o' 4 (.mv (.k (.bool false)))] [0, 1]) (c71x0)
theorem k71 : Tryz.f71.body.bind (compC Tryz.prog Tryz.f71.ntmps v71) = some c71 := by kernel_rfl
theorem e71 : enters Tryz.prog 71 = true := by kernel_rfl
theorem q71 : Tryz.f71.results.toList.mapM (compRes Tryz.prog) = some r71 := by kernel_rfl
def v72 : List (Nat × List Nat) := [(0, [0, 1, 2, 6]), (1, [6])]
def r72 : List AR := [.cell (some 2) 6]
def c72x0 : AC := .seq (.reg [m' 7 0, m' 8 1, o' 9 (.bsl [(.int .i64 0)] 2 [(0, (.t 7)), (1, (.t 8))]), m' 10 2, o' 11 (.build [(.slice none 0 0), (.slice none 0 0)] [(0, 1, (.t 9)), (1, 1, (.t 10))]), n' (.st 2 (.t 6) (.t 11))] [6]) (.ret)
def c72 : AC := .seq (.reg [o' 6 (.zero [(.slice none 0 0), (.slice none 0 0)])] [0, 1, 2, 6]) (c72x0)
theorem k72 : Tryz.f72.body.bind (compC Tryz.prog Tryz.f72.ntmps v72) = some c72 := by kernel_rfl
theorem e72 : enters Tryz.prog 72 = true := by kernel_rfl
theorem q72 : Tryz.f72.results.toList.mapM (compRes Tryz.prog) = some r72 := by kernel_rfl
def v78 : List (Nat × List Nat) := [(0, [0, 1]), (1, [0, 1, 5]), (2, [4]), (3, [0, 1, 14]), (4, [4]), (5, [4])]
def r78 : List AR := [.t 4]
def c78x0 : AC := .seq (.reg [m' 23 0, m' 24 1, o' 25 (.call 116 [.t 23, .t 24]), m' 4 25] [4]) (.ret)
def c78x1 : AC := .seq (.reg [m' 9 0, o' 10 (.idx 1 none (.t 9) (i' 0)), o' 11 (.ld none (.t 10)), o' 12 (.cvt .i64 (.t 11)), o' 13 (.bin .and (.t 12) (i' 15)), m' 4 13] [4]) (.ret)
def c78x2 : AC := .seq (.reg [m' 18 0, o' 19 (.idx 1 none (.t 18) (i' 3)), o' 20 (.ld none (.t 19)), o' 21 (.cvt .i64 (.t 20)), o' 22 (.bin .and (.t 21) (i' 15)), m' 4 22] [4]) (.ret)
def c78x3 : AC := .cond (.t 14) (c78x2) (.skip)
def c78x4 : AC := .seq (.reg [m' 15 0, m' 16 1, o' 17 (.call 115 [.t 15, .t 16]), m' 14 17] [0, 1, 14]) (c78x3)
def c78x5 : AC := .cond (.t 5) (c78x1) (c78x4)
def c78x6 : AC := .seq (.reg [m' 6 1, o' 7 (.call 114 [.t 6]), o' 8 (.not (.t 7)), m' 5 8] [0, 1, 5]) (c78x5)
def c78x7 : AC := .block 0 (c78x6)
def c78x8 : AC := .seq (c78x7) (c78x0)
def c78 : AC := .seq (.reg [o' 4 (.mv (i' 0))] [0, 1]) (c78x8)
theorem k78 : Tryz.f78.body.bind (compC Tryz.prog Tryz.f78.ntmps v78) = some c78 := by kernel_rfl
theorem e78 : enters Tryz.prog 78 = true := by kernel_rfl
theorem q78 : Tryz.f78.results.toList.mapM (compRes Tryz.prog) = some r78 := by kernel_rfl
def v83 : List (Nat × List Nat) := [(0, [1, 2, 4]), (1, [1, 4, 6, 7, 8]), (2, [1, 4, 6, 7, 8, 9]), (3, [1, 4, 6, 7, 8, 9, 16]), (4, [4, 6, 7, 8, 9]), (5, [1, 4, 6, 7, 8, 9, 21]), (6, [4, 6, 7, 8, 9]), (7, [1, 4, 6, 7, 8, 9, 26]), (8, [4, 6, 7, 8, 9]), (9, [1, 4, 6, 7, 8, 9, 30]), (10, [4, 6, 7, 8, 9]), (11, [4, 5])]
def r83 : List AR := [.cell (some 2) 4, .t 5]
def c83x0 : AC := .seq (.reg [m' 42 6, m' 43 7, m' 44 8, o' 45 (.call 72 [.t 42, .t 43, .t 44]), m' 46 9, n' (.st 2 (.t 4) (.t 45)), m' 5 46] [4, 5]) (.ret)
def c83x1 : AC := .reg [m' 19 6, o' 20 (.bin .quo (.t 19) (i' 64)), m' 9 20] [4, 6, 7, 8, 9]
def c83x2 : AC := .reg [m' 24 6, o' 25 (.bin .rem (.t 24) (i' 64)), m' 9 25] [4, 6, 7, 8, 9]
def c83x3 : AC := .reg [m' 29 7, m' 9 29, o' 7 (.mv (i' 0))] [4, 6, 7, 8, 9]
def c83x4 : AC := .reg [m' 37 8, m' 38 1, o' 39 (.idx 1 none (.t 37) (.t 38)), o' 40 (.ld none (.t 39)), o' 41 (.cvt .i64 (.t 40)), m' 9 41] [4, 6, 7, 8, 9]
def c83x5 : AC := .cond (.t 30) (c83x4) (.skip)
def c83x6 : AC := .seq (.reg [m' 31 1, o' 32 (.bin .geq (.t 31) (i' 0)), m' 33 32, ⟨(some 34), .mv (.t 1), (some (33, true))⟩, ⟨(some 35), .bin .lss (.t 34) (i' 32), (some (33, true))⟩, o' 36 (.pick (.t 33) (.t 35) (.k (.bool false))), m' 30 36] [1, 4, 6, 7, 8, 9, 30]) (c83x5)
def c83x7 : AC := .cond (.t 26) (c83x3) (c83x6)
def c83x8 : AC := .seq (.reg [m' 27 1, o' 28 (.bin .eql (.t 27) (i' 7)), m' 26 28] [1, 4, 6, 7, 8, 9, 26]) (c83x7)
def c83x9 : AC := .cond (.t 21) (c83x2) (c83x8)
def c83x10 : AC := .seq (.reg [m' 22 1, o' 23 (.bin .eql (.t 22) (i' 6)), m' 21 23] [1, 4, 6, 7, 8, 9, 21]) (c83x9)
def c83x11 : AC := .cond (.t 16) (c83x1) (c83x10)
def c83x12 : AC := .seq (.reg [m' 17 1, o' 18 (.bin .eql (.t 17) (i' 5)), m' 16 18] [1, 4, 6, 7, 8, 9, 16]) (c83x11)
def c83x13 : AC := .block 0 (c83x12)
def c83x14 : AC := .seq (c83x13) (c83x0)
def c83x15 : AC := .seq (.reg [o' 9 (.mv (i' 0))] [1, 4, 6, 7, 8, 9]) (c83x14)
def c83x16 : AC := .seq (.reg [o' 11 (.ld (some 2) (.t 2)), o' 12 (.call 70 [.t 11]), m' 10 12, o' 13 (.ext (.t 10) 0), o' 14 (.ext (.t 10) 1), o' 15 (.ext (.t 10) 2), m' 6 13, m' 7 14, m' 8 15] [1, 4, 6, 7, 8]) (c83x15)
def c83 : AC := .seq (.reg [o' 2 (.new 2 (.t 0)), o' 4 (.zero [(.slice none 0 0), (.slice none 0 0)]), o' 5 (.mv (i' 0))] [1, 2, 4]) (c83x16)
def v114 : List (Nat × List Nat) := [(0, [0]), (1, [2])]
def r114 : List AR := [.t 2]
def c114x0 : AC := .seq (.reg [m' 3 0, o' 4 (.bin .rem (.t 3) (i' 64)), o' 5 (.bin .lss (.t 4) (i' 48)), m' 6 5, ⟨(some 7), .mv (.t 0), (some (6, true))⟩, ⟨(some 8), .bin .quo (.t 7) (i' 64), (some (6, true))⟩, ⟨(some 9), .bin .lss (.t 8) (i' 32), (some (6, true))⟩, o' 10 (.pick (.t 6) (.t 9) (.k (.bool false))), m' 2 10] [2]) (.ret)
def c114 : AC := .seq (.reg [o' 2 (.mv (.k (.bool false)))] [0]) (c114x0)
theorem k114 : Tryz.f114.body.bind (compC Tryz.prog Tryz.f114.ntmps v114) = some c114 := by kernel_rfl
theorem e114 : enters Tryz.prog 114 = true := by kernel_rfl
theorem q114 : Tryz.f114.results.toList.mapM (compRes Tryz.prog) = some r114 := by kernel_rfl
def v115 : List (Nat × List Nat) := [(0, [0, 1]), (1, [0, 5, 6]), (2, [4])]
def r115 : List AR := [.t 4]
def c115x0 : AC := .seq (.reg [m' 21 5, o' 22 (.bin .geq (.t 21) (i' 0)), m' 23 22, ⟨(some 24), .mv (.t 5), (some (23, true))⟩, ⟨(some 25), .bin .lss (.t 24) (i' 8), (some (23, true))⟩, o' 26 (.pick (.t 23) (.t 25) (.k (.bool false))), m' 27 26, ⟨(some 28), .mv (.t 6), (some (27, true))⟩, ⟨(some 29), .bin .geq (.t 28) (i' 0), (some (27, true))⟩, o' 30 (.pick (.t 27) (.t 29) (.k (.bool false))), m' 31 30, ⟨(some 32), .mv (.t 6), (some (31, true))⟩, ⟨(some 33), .bin .lss (.t 32) (i' 8), (some (31, true))⟩, o' 34 (.pick (.t 31) (.t 33) (.k (.bool false))), m' 35 34, ⟨(some 36), .mv (.t 0), (some (35, true))⟩, ⟨(some 37), .idx 1 none (.t 36) (i' 4), (some (35, true))⟩, ⟨(some 38), .ld none (.t 37), (some (35, true))⟩, ⟨(some 39), .mv (.t 5), (some (35, true))⟩, ⟨(some 40), .bin .sub (i' 7) (.t 39), (some (35, true))⟩, ⟨(some 41), .bin .shr (.t 38) (.t 40), (some (35, true))⟩, ⟨(some 42), .bin .and (.t 41) (.k (.int .u8 1)), (some (35, true))⟩, ⟨(some 43), .bin .eql (.t 42) (.k (.int .u8 1)), (some (35, true))⟩, o' 44 (.pick (.t 35) (.t 43) (.k (.bool false))), m' 4 44] [4]) (.ret)
def c115x1 : AC := .seq (.dreg [m' 7 1, o' 8 (.bin .rem (.t 7) (i' 64)), m' 9 0, o' 10 (.idx 1 none (.t 9) (i' 1)), o' 11 (.ld none (.t 10)), o' 12 (.cvt .i64 (.t 11)), o' 13 (.bin .sub (.t 8) (.t 12)), m' 14 1, o' 15 (.bin .quo (.t 14) (i' 64)), m' 16 0, o' 17 (.idx 1 none (.t 16) (i' 2)), o' 18 (.ld none (.t 17)), o' 19 (.cvt .i64 (.t 18)), o' 20 (.bin .sub (.t 15) (.t 19)), m' 5 13, m' 6 20] [[], [0], [], [2], [2, 3], [2, 3, 4], [0, 1, 2, 3, 4, 5], [], [7], [], [9], [9, 10], [9, 10, 11], [7, 8, 9, 10, 11, 12], [0, 1, 2, 3, 4, 5, 6], [0, 1, 2, 3, 4, 5, 6, 7, 8, 9, 10, 11, 12, 13, 14]] [0, 5, 6]) (c115x0)
def c115 : AC := .seq (.reg [o' 4 (.mv (.k (.bool false)))] [0, 1]) (c115x1)
theorem k115 : Tryz.f115.body.bind (compC Tryz.prog Tryz.f115.ntmps v115) = some c115 := by kernel_rfl
theorem e115 : enters Tryz.prog 115 = true := by kernel_rfl
theorem q115 : Tryz.f115.results.toList.mapM (compRes Tryz.prog) = some r115 := by kernel_rfl
def v116 : List (Nat × List Nat) := [(0, [0, 1]), (1, [4])]
def r116 : List AR := [.t 4]
def c116x0 : AC := .seq (.reg [m' 5 0, m' 6 1, o' 7 (.bin .quo (.t 6) (i' 64)), o' 8 (.bin .quo (.t 7) (i' 8)), o' 9 (.bin .mul (.t 8) (i' 6)), o' 10 (.bin .add (i' 8) (.t 9)), m' 11 1, o' 12 (.bin .rem (.t 11) (i' 64)), o' 13 (.bin .quo (.t 12) (i' 8)), o' 14 (.bin .add (.t 10) (.t 13)), o' 15 (.idx 1 none (.t 5) (.t 14)), o' 16 (.ld none (.t 15)), o' 17 (.cvt .i64 (.t 16)), o' 18 (.bin .and (.t 17) (i' 15)), m' 4 18] [4]) (.ret)
def c116 : AC := .seq (.reg [o' 4 (.mv (i' 0))] [0, 1]) (c116x0)
theorem k116 : Tryz.f116.body.bind (compC Tryz.prog Tryz.f116.ntmps v116) = some c116 := by kernel_rfl
theorem e116 : enters Tryz.prog 116 = true := by kernel_rfl
theorem q116 : Tryz.f116.results.toList.mapM (compRes Tryz.prog) = some r116 := by kernel_rfl
end Go.Proofs.YtolmklnijjfppaaGreat.Code

namespace Go.Proofs.YtolmklnijjfppaaGreat.Code
open Go Go.Proofs.YtolmklnijjfppaaGreat.Calc
set_option maxRecDepth 100000
def v26 : List (Nat × List Nat) := [(0, [1, 2, 4]), (1, [1, 4, 5]), (2, [1, 4, 5]), (3, [1, 4, 5, 14]), (4, [1, 4, 5, 14, 15]), (5, [1, 4, 5, 6, 14]), (6, [1, 4, 5, 7, 14]), (7, [1, 4, 5, 7, 8, 14]), (8, [1, 4, 5, 7, 8, 14, 26]), (9, [1, 4, 5, 7, 8, 9, 14]), (10, [1, 4, 5, 7, 8, 9, 14, 35]), (11, [1, 4, 5, 14]), (12, [1, 4, 5, 7, 8, 9, 14]), (13, [1, 4, 5, 7, 8, 14]), (14, [1, 4, 5, 14]), (15, [4])]
def r26 : List AR := [.cell (some 2) 4]
def c26x0 : AC := .seq (.reg [m' 48 5, o' 49 (.build [(.slice none 0 0), (.slice none 0 0)] [(0, 1, (.t 48))]), n' (.st 2 (.t 4) (.t 49))] [4]) (.ret)
def c26x1 : AC := .reg [o' 47 (.bin .add (.t 14) (i' 1)), m' 14 47] [1, 4, 5, 14]
def c26x2 : AC := .reg [m' 43 8, m' 44 9, o' 45 (.bin .add (.t 44) (i' 1)), o' 46 (.bin .sub (.t 43) (.t 45)), m' 8 46] [1, 4, 5, 7, 8, 14]
def c26x3 : AC := .seq (.reg [m' 39 7, m' 40 9, o' 41 (.bin .add (.t 40) (i' 1)), o' 42 (.call 75 [.t 39, .t 41])] [1, 4, 5, 7, 8, 9, 14]) (c26x2)
def c26x4 : AC := .seq (.reg [m' 36 7, m' 37 8, o' 38 (.call 75 [.t 36, .t 37])] [1, 4, 5, 14]) (.exit 2)
def c26x5 : AC := .cond (.t 35) (c26x4) (.skip)
def c26x6 : AC := .seq (.reg [m' 29 9, m' 30 8, o' 31 (.bin .geq (.t 29) (.t 30)), m' 32 31, ⟨(some 33), .mv (.t 9), (some (32, false))⟩, ⟨(some 34), .bin .eql (.t 33) (i' 100000), (some (32, false))⟩, o' 35 (.pick (.t 32) (.k (.bool true)) (.t 34))] [1, 4, 5, 7, 8, 9, 14, 35]) (c26x5)
def c26x7 : AC := .seq (c26x6) (c26x3)
def c26x8 : AC := .seq (.reg [m' 27 7, o' 28 (.call 74 [.t 27]), m' 9 28] [1, 4, 5, 7, 8, 9, 14]) (c26x7)
def c26x9 : AC := .block 3 (c26x8)
def c26x10 : AC := .cond (.t 26) (.skip) (.exit 2)
def c26x11 : AC := .seq (.reg [m' 25 8, o' 26 (.bin .gtr (.t 25) (i' 0))] [1, 4, 5, 7, 8, 14, 26]) (c26x10)
def c26x12 : AC := .seq (c26x11) (c26x9)
def c26x13 : AC := .loop (c26x12)
def c26x14 : AC := .block 2 (c26x13)
def c26x15 : AC := .seq (.reg [m' 24 1, m' 8 24] [1, 4, 5, 7, 8, 14]) (c26x14)
def c26x16 : AC := .seq (.reg [m' 17 5, m' 18 6, o' 19 (.bin .mul (.t 18) (i' 6)), m' 20 6, o' 21 (.bin .mul (.t 20) (i' 6)), o' 22 (.bin .add (.t 21) (i' 6)), o' 23 (.slc 1 (.t 17) (some (.t 19)) (some (.t 22))), m' 7 23] [1, 4, 5, 7, 14]) (c26x15)
def c26x17 : AC := .seq (.reg [m' 16 14, m' 6 16] [1, 4, 5, 6, 14]) (c26x16)
def c26x18 : AC := .block 1 (c26x17)
def c26x19 : AC := .seq (c26x18) (c26x1)
def c26x20 : AC := .cond (.t 15) (.skip) (.exit 0)
def c26x21 : AC := .seq (c26x20) (c26x19)
def c26x22 : AC := .seq (.reg [o' 15 (.bin .lss (.t 14) (i' 2))] [1, 4, 5, 14, 15]) (c26x21)
def c26x23 : AC := .loop (c26x22)
def c26x24 : AC := .block 0 (c26x23)
def c26x25 : AC := .seq (.reg [o' 14 (.mv (i' 0))] [1, 4, 5, 14]) (c26x24)
def c26x26 : AC := .seq (c26x25) (c26x0)
def c26x27 : AC := .seq (.reg [m' 12 1, o' 13 (.mnx false [.t 12, i' 10000000]), m' 1 13] [1, 4, 5]) (c26x26)
def c26x28 : AC := .seq (.reg [o' 10 (.ld (some 2) (.t 2)), o' 11 (.call 73 [.t 10]), m' 5 11] [1, 4, 5]) (c26x27)
def c26 : AC := .seq (.reg [o' 2 (.new 2 (.t 0)), o' 4 (.zero [(.slice none 0 0), (.slice none 0 0)])] [1, 2, 4]) (c26x28)
theorem k26 : Tryz.f26.body.bind (compC Tryz.prog Tryz.f26.ntmps v26) = some c26 := by kernel_rfl
theorem e26 : enters Tryz.prog 26 = true := by kernel_rfl
theorem q26 : Tryz.f26.results.toList.mapM (compRes Tryz.prog) = some r26 := by kernel_rfl
def v31 : List (Nat × List Nat) := [(0, [1]), (1, [3]), (2, [2])]
def r31 : List AR := [.t 2]
def c31x0 : AC := .seq (.dreg [m' 6 3, o' 7 (.slc 1 (.t 6) none (some (i' 6))), o' 8 (.call 74 [.t 7]), m' 9 3, o' 10 (.slc 1 (.t 9) (some (i' 6)) none), o' 11 (.call 74 [.t 10]), o' 12 (.mnx false [.t 8, .t 11]), m' 2 12] [[], [0], [0, 1], [], [3], [0, 1, 2, 3, 4], [0, 1, 2, 3, 4, 5], [0, 1, 2, 3, 4, 5, 6]] [2]) (.ret)
def c31x1 : AC := .seq (.reg [o' 4 (.ld (some 2) (.t 1)), o' 5 (.call 73 [.t 4]), m' 3 5] [3]) (c31x0)
def c31 : AC := .seq (.reg [o' 1 (.new 2 (.t 0)), o' 2 (.mv (i' 0))] [1]) (c31x1)
theorem k31 : Tryz.f31.body.bind (compC Tryz.prog Tryz.f31.ntmps v31) = some c31 := by kernel_rfl
theorem e31 : enters Tryz.prog 31 = true := by kernel_rfl
theorem q31 : Tryz.f31.results.toList.mapM (compRes Tryz.prog) = some r31 := by kernel_rfl
def v38 : List (Nat × List Nat) := [(0, [1]), (1, [3]), (2, [2])]
def r38 : List AR := [.t 2]
def c38x0 : AC := .seq (.dreg [m' 6 3, o' 7 (.idx 1 none (.t 6) (i' 1)), o' 8 (.ld none (.t 7)), m' 9 3, o' 10 (.idx 1 none (.t 9) (i' 4)), o' 11 (.ld none (.t 10)), o' 12 (.bin .mul (.t 8) (.t 11)), m' 13 3, o' 14 (.idx 1 none (.t 13) (i' 7)), o' 15 (.ld none (.t 14)), m' 16 3, o' 17 (.idx 1 none (.t 16) (i' 10)), o' 18 (.ld none (.t 17)), o' 19 (.bin .mul (.t 15) (.t 18)), o' 20 (.bin .add (.t 12) (.t 19)), m' 2 20] [[], [0], [0, 1], [], [3], [3, 4], [0, 1, 2, 3, 4, 5], [], [7], [7, 8], [], [10], [10, 11], [7, 8, 9, 10, 11, 12], [0, 1, 2, 3, 4, 5, 6, 7, 8, 9, 10, 11, 12, 13], [0, 1, 2, 3, 4, 5, 6, 7, 8, 9, 10, 11, 12, 13, 14]] [2]) (.ret)
def c38x1 : AC := .seq (.reg [o' 4 (.ld (some 2) (.t 1)), o' 5 (.call 73 [.t 4]), m' 3 5] [3]) (c38x0)
def c38 : AC := .seq (.reg [o' 1 (.new 2 (.t 0)), o' 2 (.mv (i' 0))] [1]) (c38x1)
theorem k38 : Tryz.f38.body.bind (compC Tryz.prog Tryz.f38.ntmps v38) = some c38 := by kernel_rfl
theorem e38 : enters Tryz.prog 38 = true := by kernel_rfl
theorem q38 : Tryz.f38.results.toList.mapM (compRes Tryz.prog) = some r38 := by kernel_rfl
def v57 : List (Nat × List Nat) := [(0, [0]), (1, [0])]
def r57 : List AR := [.cell (some 2) 0]
def c57x0 : AC := .seq (.reg [o' 1 (.mksl [(.int .i64 0)] 8 (i' 12) (i' 12)), o' 2 (.build [(.slice none 0 0), (.slice none 0 0)] [(0, 1, (.t 1))]), n' (.st 2 (.t 0) (.t 2))] [0]) (.ret)
def c57 : AC := .seq (.reg [o' 0 (.zero [(.slice none 0 0), (.slice none 0 0)])] [0]) (c57x0)
theorem k57 : Tryz.f57.body.bind (compC Tryz.prog Tryz.f57.ntmps v57) = some c57 := by kernel_rfl
theorem e57 : enters Tryz.prog 57 = true := by kernel_rfl
theorem q57 : Tryz.f57.results.toList.mapM (compRes Tryz.prog) = some r57 := by kernel_rfl
def v64 : List (Nat × List Nat) := [(0, [1, 2, 3, 6]), (1, [1, 2, 6, 7]), (2, [1, 2, 6, 7, 8]), (3, [1, 2, 6, 7, 8, 15]), (4, [2, 6, 7, 8, 17]), (5, [6, 7]), (6, [2, 6, 7, 8, 17, 22]), (7, [6, 7]), (8, [2, 6, 7, 8, 17, 31]), (9, [6, 7]), (10, [2, 6, 7, 8, 40]), (11, [6, 7]), (12, [6])]
def r64 : List AR := [.cell (some 2) 6]
def c64x0 : AC := .seq (.reg [m' 48 7, o' 49 (.build [(.slice none 0 0), (.slice none 0 0)] [(0, 1, (.t 48))]), n' (.st 2 (.t 6) (.t 49))] [6]) (.ret)
def c64x1 : AC := .reg [m' 24 8, m' 25 8, o' 26 (.idx 1 none (.t 25) (i' 0)), o' 27 (.ld none (.t 26)), m' 28 2, o' 29 (.call 111 [.t 27, i' 0, i' 8, .t 28]), o' 30 (.idx 1 none (.t 24) (i' 0)), n' (.st 1 (.t 30) (.t 29))] [6, 7]
def c64x2 : AC := .reg [m' 33 8, m' 34 8, o' 35 (.idx 1 none (.t 34) (i' 0)), o' 36 (.ld none (.t 35)), m' 37 2, o' 38 (.call 111 [.t 36, i' 8, i' 4, .t 37]), o' 39 (.idx 1 none (.t 33) (i' 0)), n' (.st 1 (.t 39) (.t 38))] [6, 7]
def c64x3 : AC := .reg [m' 42 8, m' 43 8, m' 44 2, o' 45 (.call 50 [.t 44, i' 4]), o' 46 (.idx 1 none (.t 42) (i' 1)), n' (.st 1 (.t 46) (.t 45)), o' 47 (.idx 1 none (.t 43) (i' 5)), n' (.st 1 (.t 47) (i' 0))] [6, 7]
def c64x4 : AC := .reg [m' 18 8, m' 19 2, o' 20 (.call 50 [.t 19, i' 8]), o' 21 (.idx 1 none (.t 18) (i' 2)), n' (.st 1 (.t 21) (.t 20))] [6, 7]
def c64x5 : AC := .cond (.t 40) (c64x3) (c64x4)
def c64x6 : AC := .seq (.reg [o' 41 (.bin .eql (.t 17) (i' 2)), m' 40 41] [2, 6, 7, 8, 40]) (c64x5)
def c64x7 : AC := .cond (.t 31) (c64x2) (c64x6)
def c64x8 : AC := .seq (.reg [o' 32 (.bin .eql (.t 17) (i' 1)), m' 31 32] [2, 6, 7, 8, 17, 31]) (c64x7)
def c64x9 : AC := .cond (.t 22) (c64x1) (c64x8)
def c64x10 : AC := .seq (.reg [o' 23 (.bin .eql (.t 17) (i' 0)), m' 22 23] [2, 6, 7, 8, 17, 22]) (c64x9)
def c64x11 : AC := .block 0 (c64x10)
def c64x12 : AC := .seq (.reg [m' 16 1, o' 17 (.bin .rem (.t 16) (i' 4))] [2, 6, 7, 8, 17]) (c64x11)
def c64x13 : AC := .cond (.t 15) (c64x12) (.skip)
def c64x14 : AC := .seq (.reg [m' 14 8, o' 15 (.eqn true (.t 14))] [1, 2, 6, 7, 8, 15]) (c64x13)
def c64x15 : AC := .seq (.reg [m' 11 7, m' 12 1, o' 13 (.call 112 [.t 11, .t 12]), m' 8 13] [1, 2, 6, 7, 8]) (c64x14)
def c64x16 : AC := .seq (c64x15) (c64x0)
def c64x17 : AC := .seq (.reg [o' 9 (.ld (some 2) (.t 3)), o' 10 (.call 73 [.t 9]), m' 7 10] [1, 2, 6, 7]) (c64x16)
def c64 : AC := .seq (.reg [o' 3 (.new 2 (.t 0)), o' 6 (.zero [(.slice none 0 0), (.slice none 0 0)])] [1, 2, 3, 6]) (c64x17)
theorem k64 : Tryz.f64.body.bind (compC Tryz.prog Tryz.f64.ntmps v64) = some c64 := by kernel_rfl
theorem e64 : enters Tryz.prog 64 = true := by kernel_rfl
theorem q64 : Tryz.f64.results.toList.mapM (compRes Tryz.prog) = some r64 := by kernel_rfl
def v73 : List (Nat × List Nat) := [(0, [1]), (1, [1, 3]), (2, [3]), (3, [3, 12]), (4, [3, 12, 13]), (5, [3, 4, 12]), (6, [3, 4, 12, 15, 16]), (7, [3, 4, 12, 15, 16, 17]), (8, [3, 4, 5, 6, 12, 15, 16]), (9, [3, 4, 12, 15, 16]), (10, [3, 4, 12, 15, 16]), (11, [3, 12]), (12, [2])]
def r73 : List AR := [.t 2]
def c73x0 : AC := .seq (.reg [m' 37 3, m' 2 37] [2]) (.ret)
def c73x1 : AC := .reg [o' 36 (.bin .add (.t 12) (i' 1)), m' 12 36] [3, 12]
def c73x2 : AC := .reg [o' 35 (.bin .add (.t 16) (i' 1)), m' 16 35] [3, 4, 12, 15, 16]
def c73x3 : AC := .reg [m' 20 3, m' 21 4, o' 22 (.bin .mul (.t 21) (i' 6)), m' 23 5, o' 24 (.bin .add (.t 22) (.t 23)), m' 25 3, m' 26 4, o' 27 (.bin .mul (.t 26) (i' 6)), m' 28 5, o' 29 (.bin .add (.t 27) (.t 28)), o' 30 (.idx 1 none (.t 25) (.t 29)), o' 31 (.ld none (.t 30)), m' 32 6, o' 33 (.call 50 [.t 31, .t 32]), o' 34 (.idx 1 none (.t 20) (.t 24)), n' (.st 1 (.t 34) (.t 33))] [3, 4, 12, 15, 16]
def c73x4 : AC := .seq (.reg [m' 18 16, o' 19 (.ixa 6 1 none (.t 15) (.t 16)), m' 5 18, m' 6 19] [3, 4, 5, 6, 12, 15, 16]) (c73x3)
def c73x5 : AC := .block 3 (c73x4)
def c73x6 : AC := .seq (c73x5) (c73x2)
def c73x7 : AC := .cond (.t 17) (.skip) (.exit 2)
def c73x8 : AC := .seq (c73x7) (c73x6)
def c73x9 : AC := .seq (.reg [o' 17 (.bin .lss (.t 16) (i' 6))] [3, 4, 12, 15, 16, 17]) (c73x8)
def c73x10 : AC := .loop (c73x9)
def c73x11 : AC := .block 2 (c73x10)
def c73x12 : AC := .seq (.reg [o' 15 (.build [(.int .i64 0), (.int .i64 0), (.int .i64 0), (.int .i64 0), (.int .i64 0), (.int .i64 0)] [(0, 1, (i' 12)), (1, 1, (i' 4)), (2, 1, (i' 8)), (3, 1, (i' 12)), (4, 1, (i' 1)), (5, 1, (i' 14))]), o' 16 (.mv (i' 0))] [3, 4, 12, 15, 16]) (c73x11)
def c73x13 : AC := .seq (.reg [m' 14 12, m' 4 14] [3, 4, 12]) (c73x12)
def c73x14 : AC := .block 1 (c73x13)
def c73x15 : AC := .seq (c73x14) (c73x1)
def c73x16 : AC := .cond (.t 13) (.skip) (.exit 0)
def c73x17 : AC := .seq (c73x16) (c73x15)
def c73x18 : AC := .seq (.reg [o' 13 (.bin .lss (.t 12) (i' 2))] [3, 12, 13]) (c73x17)
def c73x19 : AC := .loop (c73x18)
def c73x20 : AC := .block 0 (c73x19)
def c73x21 : AC := .seq (.reg [o' 12 (.mv (i' 0))] [3, 12]) (c73x20)
def c73x22 : AC := .seq (c73x21) (c73x0)
def c73x23 : AC := .seq (.reg [m' 8 3, o' 9 (.fad 0 (.t 1)), o' 10 (.ld none (.t 9)), o' 11 (.copy 1 (.t 8) (.t 10))] [3]) (c73x22)
def c73x24 : AC := .seq (.reg [o' 7 (.mksl [(.int .i64 0)] 8 (i' 12) (i' 12)), m' 3 7] [1, 3]) (c73x23)
def c73 : AC := .seq (.reg [o' 1 (.new 2 (.t 0)), o' 2 (.mv (.k (.slice none 0 0)))] [1]) (c73x24)
theorem k73 : Tryz.f73.body.bind (compC Tryz.prog Tryz.f73.ntmps v73) = some c73 := by kernel_rfl
theorem e73 : enters Tryz.prog 73 = true := by kernel_rfl
theorem q73 : Tryz.f73.results.toList.mapM (compRes Tryz.prog) = some r73 := by kernel_rfl
def v74 : List (Nat × List Nat) := [(0, [0]), (1, [0, 3]), (2, [0, 3, 7]), (3, [0, 3]), (4, [0, 3, 28]), (5, [3]), (6, [2])]
def r74 : List AR := [.t 2]
def c74x0 : AC := .seq (.reg [m' 41 3, m' 2 41] [2]) (.ret)
def c74x1 : AC := .dreg [m' 29 3, m' 30 0, o' 31 (.idx 1 none (.t 30) (i' 2)), o' 32 (.ld none (.t 31)), o' 33 (.bin .mul (.t 32) (i' 64)), m' 34 0, o' 35 (.idx 1 none (.t 34) (i' 5)), o' 36 (.ld none (.t 35)), o' 37 (.bin .sub (.t 33) (.t 36)), o' 38 (.mnx true [i' 1, .t 37]), o' 39 (.bin .sub (.t 38) (i' 1)), o' 40 (.mnx false [.t 29, .t 39]), m' 3 40] [[], [], [1], [1, 2], [1, 2, 3], [], [5], [5, 6], [1, 2, 3, 4, 5, 6, 7], [1, 2, 3, 4, 5, 6, 7, 8], [1, 2, 3, 4, 5, 6, 7, 8, 9], [0, 1, 2, 3, 4, 5, 6, 7, 8, 9, 10], [0, 1, 2, 3, 4, 5, 6, 7, 8, 9, 10, 11]] [3]
def c74x2 : AC := .cond (.t 28) (c74x1) (.skip)
def c74x3 : AC := .seq (.reg [m' 19 0, o' 20 (.idx 1 none (.t 19) (i' 2)), o' 21 (.ld none (.t 20)), o' 22 (.bin .gtr (.t 21) (i' 0)), m' 23 22, ⟨(some 24), .mv (.t 0), (some (23, true))⟩, ⟨(some 25), .idx 1 none (.t 24) (i' 1), (some (23, true))⟩, ⟨(some 26), .ld none (.t 25), (some (23, true))⟩, ⟨(some 27), .bin .gtr (.t 26) (i' 0), (some (23, true))⟩, o' 28 (.pick (.t 23) (.t 27) (.k (.bool false)))] [0, 3, 28]) (c74x2)
def c74x4 : AC := .seq (c74x3) (c74x0)
def c74x5 : AC := .dreg [m' 8 3, m' 9 0, o' 10 (.idx 1 none (.t 9) (i' 0)), o' 11 (.ld none (.t 10)), m' 12 0, o' 13 (.idx 1 none (.t 12) (i' 3)), o' 14 (.ld none (.t 13)), o' 15 (.bin .sub (.t 11) (.t 14)), o' 16 (.mnx true [i' 1, .t 15]), o' 17 (.bin .sub (.t 16) (i' 1)), o' 18 (.mnx false [.t 8, .t 17]), m' 3 18] [[], [], [1], [1, 2], [], [4], [4, 5], [1, 2, 3, 4, 5, 6], [1, 2, 3, 4, 5, 6, 7], [1, 2, 3, 4, 5, 6, 7, 8], [0, 1, 2, 3, 4, 5, 6, 7, 8, 9], [0, 1, 2, 3, 4, 5, 6, 7, 8, 9, 10]] [0, 3]
def c74x6 : AC := .cond (.t 7) (c74x5) (.skip)
def c74x7 : AC := .seq (.reg [m' 4 0, o' 5 (.idx 1 none (.t 4) (i' 0)), o' 6 (.ld none (.t 5)), o' 7 (.bin .gtr (.t 6) (i' 0))] [0, 3, 7]) (c74x6)
def c74x8 : AC := .seq (c74x7) (c74x4)
def c74x9 : AC := .seq (.reg [o' 3 (.mv (i' 100000))] [0, 3]) (c74x8)
def c74 : AC := .seq (.reg [o' 2 (.mv (i' 0))] [0]) (c74x9)
theorem k74 : Tryz.f74.body.bind (compC Tryz.prog Tryz.f74.ntmps v74) = some c74 := by kernel_rfl
theorem e74 : enters Tryz.prog 74 = true := by kernel_rfl
theorem q74 : Tryz.f74.results.toList.mapM (compRes Tryz.prog) = some r74 := by kernel_rfl
def v75 : List (Nat × List Nat) := [(0, [0, 1, 7]), (1, [0, 1]), (2, [0, 1, 20]), (3, [0, 1]), (4, [0, 1, 38]), (5, [0]), (6, [0, 52]), (7, [0]), (8, [])]
def r75 : List AR := []
def c75x0 : AC := .reg [m' 55 0, o' 56 (.idx 1 none (.t 55) (i' 1)), o' 57 (.ld none (.t 56)), o' 58 (.bin .sub (.t 57) (i' 1)), o' 59 (.idx 1 none (.t 55) (i' 1)), n' (.st 1 (.t 59) (.t 58))] []
def c75x1 : AC := .seq (.reg [m' 53 0, o' 54 (.idx 1 none (.t 53) (i' 5)), n' (.st 1 (.t 54) (i' 0))] [0]) (c75x0)
def c75x2 : AC := .cond (.t 52) (c75x1) (.skip)
def c75x3 : AC := .seq (.dreg [m' 45 0, o' 46 (.idx 1 none (.t 45) (i' 5)), o' 47 (.ld none (.t 46)), m' 48 0, o' 49 (.idx 1 none (.t 48) (i' 2)), o' 50 (.ld none (.t 49)), o' 51 (.bin .mul (.t 50) (i' 64)), o' 52 (.bin .geq (.t 47) (.t 51))] [[], [0], [0, 1], [], [3], [3, 4], [3, 4, 5], [0, 1, 2, 3, 4, 5, 6]] [0, 52]) (c75x2)
def c75x4 : AC := .seq (.reg [m' 39 0, o' 40 (.idx 1 none (.t 39) (i' 5)), o' 41 (.ld none (.t 40)), m' 42 1, o' 43 (.bin .add (.t 41) (.t 42)), o' 44 (.idx 1 none (.t 39) (i' 5)), n' (.st 1 (.t 44) (.t 43))] [0]) (c75x3)
def c75x5 : AC := .cond (.t 38) (c75x4) (.skip)
def c75x6 : AC := .seq (.reg [m' 29 0, o' 30 (.idx 1 none (.t 29) (i' 2)), o' 31 (.ld none (.t 30)), o' 32 (.bin .gtr (.t 31) (i' 0)), m' 33 32, ⟨(some 34), .mv (.t 0), (some (33, true))⟩, ⟨(some 35), .idx 1 none (.t 34) (i' 1), (some (33, true))⟩, ⟨(some 36), .ld none (.t 35), (some (33, true))⟩, ⟨(some 37), .bin .gtr (.t 36) (i' 0), (some (33, true))⟩, o' 38 (.pick (.t 33) (.t 37) (.k (.bool false)))] [0, 1, 38]) (c75x5)
def c75x7 : AC := .reg [m' 21 0, m' 22 0, m' 23 0, o' 24 (.idx 1 none (.t 23) (i' 4)), o' 25 (.ld none (.t 24)), o' 26 (.bin .sub (i' 1) (.t 25)), o' 27 (.idx 1 none (.t 21) (i' 3)), n' (.st 1 (.t 27) (i' 0)), o' 28 (.idx 1 none (.t 22) (i' 4)), n' (.st 1 (.t 28) (.t 26))] [0, 1]
def c75x8 : AC := .cond (.t 20) (c75x7) (.skip)
def c75x9 : AC := .seq (.dreg [m' 14 0, o' 15 (.idx 1 none (.t 14) (i' 3)), o' 16 (.ld none (.t 15)), m' 17 0, o' 18 (.idx 1 none (.t 17) (i' 0)), o' 19 (.ld none (.t 18)), o' 20 (.bin .geq (.t 16) (.t 19))] [[], [0], [0, 1], [], [3], [3, 4], [0, 1, 2, 3, 4, 5]] [0, 1, 20]) (c75x8)
def c75x10 : AC := .seq (.reg [m' 8 0, o' 9 (.idx 1 none (.t 8) (i' 3)), o' 10 (.ld none (.t 9)), m' 11 1, o' 12 (.bin .add (.t 10) (.t 11)), o' 13 (.idx 1 none (.t 8) (i' 3)), n' (.st 1 (.t 13) (.t 12))] [0, 1]) (c75x9)
def c75x11 : AC := .cond (.t 7) (c75x10) (.skip)
def c75x12 : AC := .seq (.reg [m' 4 0, o' 5 (.idx 1 none (.t 4) (i' 0)), o' 6 (.ld none (.t 5)), o' 7 (.bin .gtr (.t 6) (i' 0))] [0, 1, 7]) (c75x11)
def c75 : AC := .seq (c75x12) (c75x6)
theorem k75 : Tryz.f75.body.bind (compC Tryz.prog Tryz.f75.ntmps v75) = some c75 := by kernel_rfl
theorem e75 : enters Tryz.prog 75 = true := by kernel_rfl
theorem q75 : Tryz.f75.results.toList.mapM (compRes Tryz.prog) = some r75 := by kernel_rfl
def v84 : List (Nat × List Nat) := [(0, [1, 2, 4]), (1, [1, 4, 6]), (2, [1, 4, 6, 7]), (3, [1, 4, 6, 7, 8]), (4, [1, 4, 6, 7, 8, 15]), (5, [4, 6, 7]), (6, [4, 5])]
def r84 : List AR := [.cell (some 2) 4, .t 5]
def c84x0 : AC := .seq (.reg [m' 35 6, o' 36 (.build [(.slice none 0 0), (.slice none 0 0)] [(0, 1, (.t 35))]), m' 37 7, n' (.st 2 (.t 4) (.t 36)), m' 5 37] [4, 5]) (.ret)
def c84x1 : AC := .dreg [m' 16 8, o' 17 (.idx 1 none (.t 16) (i' 0)), o' 18 (.ld none (.t 17)), o' 19 (.call 118 [.t 18, i' 0, i' 8]), m' 20 8, o' 21 (.idx 1 none (.t 20) (i' 0)), o' 22 (.ld none (.t 21)), o' 23 (.call 118 [.t 22, i' 8, i' 4]), m' 24 8, o' 25 (.idx 1 none (.t 24) (i' 1)), o' 26 (.ld none (.t 25)), m' 27 8, o' 28 (.idx 1 none (.t 27) (i' 2)), o' 29 (.ld none (.t 28)), o' 30 (.bsl [(.int .i64 0)] 4 [(0, (.t 19)), (1, (.t 23)), (2, (.t 26)), (3, (.t 29))]), m' 31 1, o' 32 (.bin .rem (.t 31) (i' 4)), o' 33 (.idx 1 none (.t 30) (.t 32)), o' 34 (.ld none (.t 33)), m' 7 34] [[], [0], [0, 1], [0, 1, 2], [], [4], [4, 5], [0, 1, 2, 3, 4, 5, 6], [], [8], [8, 9], [], [11], [11, 12], [0, 1, 2, 3, 4, 5, 6, 7, 8, 9, 10, 11, 12, 13], [], [15], [0, 1, 2, 3, 4, 5, 6, 7, 8, 9, 10, 11, 12, 13, 14, 15, 16], [0, 1, 2, 3, 4, 5, 6, 7, 8, 9, 10, 11, 12, 13, 14, 15, 16, 17], [0, 1, 2, 3, 4, 5, 6, 7, 8, 9, 10, 11, 12, 13, 14, 15, 16, 17, 18]] [4, 6, 7]
def c84x2 : AC := .cond (.t 15) (c84x1) (.skip)
def c84x3 : AC := .seq (.reg [m' 14 8, o' 15 (.eqn true (.t 14))] [1, 4, 6, 7, 8, 15]) (c84x2)
def c84x4 : AC := .seq (.reg [m' 11 6, m' 12 1, o' 13 (.call 112 [.t 11, .t 12]), m' 8 13] [1, 4, 6, 7, 8]) (c84x3)
def c84x5 : AC := .seq (c84x4) (c84x0)
def c84x6 : AC := .seq (.reg [o' 7 (.mv (i' 0))] [1, 4, 6, 7]) (c84x5)
def c84x7 : AC := .seq (.reg [o' 9 (.ld (some 2) (.t 2)), o' 10 (.call 73 [.t 9]), m' 6 10] [1, 4, 6]) (c84x6)
def c84 : AC := .seq (.reg [o' 2 (.new 2 (.t 0)), o' 4 (.zero [(.slice none 0 0), (.slice none 0 0)]), o' 5 (.mv (i' 0))] [1, 2, 4]) (c84x7)
def v112 : List (Nat × List Nat) := [(0, [0, 1]), (1, [0, 1, 10]), (2, [4]), (3, [4])]
def r112 : List AR := [.t 4]
def c112x0 : AC := .seq (.reg [m' 11 0, m' 12 1, o' 13 (.bin .quo (.t 12) (i' 4)), o' 14 (.bin .mul (.t 13) (i' 6)), m' 15 1, o' 16 (.bin .quo (.t 15) (i' 4)), o' 17 (.bin .mul (.t 16) (i' 6)), o' 18 (.bin .add (.t 17) (i' 6)), o' 19 (.slc 1 (.t 11) (some (.t 14)) (some (.t 18))), m' 4 19] [4]) (.ret)
def c112x1 : AC := .seq (.reg [o' 4 (.mv (.k (.slice none 0 0)))] [4]) (.ret)
def c112x2 : AC := .cond (.t 10) (c112x1) (.skip)
def c112x3 : AC := .seq (.reg [m' 5 1, o' 6 (.bin .lss (.t 5) (i' 0)), m' 7 6, ⟨(some 8), .mv (.t 1), (some (7, false))⟩, ⟨(some 9), .bin .geq (.t 8) (i' 8), (some (7, false))⟩, o' 10 (.pick (.t 7) (.k (.bool true)) (.t 9))] [0, 1, 10]) (c112x2)
def c112x4 : AC := .seq (c112x3) (c112x0)
def c112 : AC := .seq (.reg [o' 4 (.mv (.k (.slice none 0 0)))] [0, 1]) (c112x4)
theorem k112 : Tryz.f112.body.bind (compC Tryz.prog Tryz.f112.ntmps v112) = some c112 := by kernel_rfl
theorem e112 : enters Tryz.prog 112 = true := by kernel_rfl
theorem q112 : Tryz.f112.results.toList.mapM (compRes Tryz.prog) = some r112 := by kernel_rfl
end Go.Proofs.YtolmklnijjfppaaGreat.Code

namespace Go.Proofs.YtolmklnijjfppaaGreat.Code
open Go Go.Proofs.YtolmklnijjfppaaGreat.Calc
set_option maxRecDepth 100000
def v22 : List (Nat × List Nat) := [(0, [1, 2, 4]), (1, [1, 4, 5]), (2, [4, 5]), (3, [4])]
def r22 : List AR := [.cell (some 2) 4]
def c22x0 : AC := .seq (.reg [m' 12 5, o' 13 (.build [(.slice none 0 0), (.slice none 0 0)] [(0, 1, (.t 12))]), n' (.st 2 (.t 4) (.t 13))] [4]) (.ret)
def c22x1 : AC := .seq (.reg [m' 8 5, m' 9 1, o' 10 (.call 50 [.t 9, i' 8]), o' 11 (.idx 1 none (.t 8) (i' 0)), n' (.st 1 (.t 11) (.t 10))] [4, 5]) (c22x0)
def c22x2 : AC := .seq (.reg [o' 6 (.ld (some 2) (.t 2)), o' 7 (.call 68 [.t 6]), m' 5 7] [1, 4, 5]) (c22x1)
def c22 : AC := .seq (.reg [o' 2 (.new 2 (.t 0)), o' 4 (.zero [(.slice none 0 0), (.slice none 0 0)])] [1, 2, 4]) (c22x2)
theorem k22 : Tryz.f22.body.bind (compC Tryz.prog Tryz.f22.ntmps v22) = some c22 := by kernel_rfl
theorem e22 : enters Tryz.prog 22 = true := by kernel_rfl
theorem q22 : Tryz.f22.results.toList.mapM (compRes Tryz.prog) = some r22 := by kernel_rfl
def v35 : List (Nat × List Nat) := [(0, [1]), (1, [3]), (2, [2])]
def r35 : List AR := [.t 2]
def c35x0 : AC := .seq (.dreg [m' 6 3, o' 7 (.idx 1 none (.t 6) (i' 1)), o' 8 (.ld none (.t 7)), m' 9 3, o' 10 (.idx 1 none (.t 9) (i' 2)), o' 11 (.ld none (.t 10)), o' 12 (.bin .and (.t 8) (.t 11)), m' 2 12] [[], [0], [0, 1], [], [3], [3, 4], [0, 1, 2, 3, 4, 5], [0, 1, 2, 3, 4, 5, 6]] [2]) (.ret)
def c35x1 : AC := .seq (.reg [o' 4 (.ld (some 2) (.t 1)), o' 5 (.call 68 [.t 4]), m' 3 5] [3]) (c35x0)
def c35 : AC := .seq (.reg [o' 1 (.new 2 (.t 0)), o' 2 (.mv (i' 0))] [1]) (c35x1)
theorem k35 : Tryz.f35.body.bind (compC Tryz.prog Tryz.f35.ntmps v35) = some c35 := by kernel_rfl
theorem e35 : enters Tryz.prog 35 = true := by kernel_rfl
theorem q35 : Tryz.f35.results.toList.mapM (compRes Tryz.prog) = some r35 := by kernel_rfl
def v54 : List (Nat × List Nat) := [(0, [0]), (1, [0])]
def r54 : List AR := [.cell (some 2) 0]
def c54x0 : AC := .seq (.reg [o' 1 (.bsl [(.int .i64 0)] 3 [(0, (i' 255)), (1, (i' 0)), (2, (i' 0))]), o' 2 (.build [(.slice none 0 0), (.slice none 0 0)] [(0, 1, (.t 1))]), n' (.st 2 (.t 0) (.t 2))] [0]) (.ret)
def c54 : AC := .seq (.reg [o' 0 (.zero [(.slice none 0 0), (.slice none 0 0)])] [0]) (c54x0)
theorem k54 : Tryz.f54.body.bind (compC Tryz.prog Tryz.f54.ntmps v54) = some c54 := by kernel_rfl
theorem e54 : enters Tryz.prog 54 = true := by kernel_rfl
theorem q54 : Tryz.f54.results.toList.mapM (compRes Tryz.prog) = some r54 := by kernel_rfl
def v61 : List (Nat × List Nat) := [(0, [1, 2, 3, 6]), (1, [1, 2, 6, 7]), (2, [1, 2, 6, 7, 15]), (3, [6, 7]), (4, [6])]
def r61 : List AR := [.cell (some 2) 6]
def c61x0 : AC := .seq (.reg [m' 22 7, o' 23 (.build [(.slice none 0 0), (.slice none 0 0)] [(0, 1, (.t 22))]), n' (.st 2 (.t 6) (.t 23))] [6]) (.ret)
def c61x1 : AC := .reg [m' 16 7, m' 17 1, o' 18 (.bin .add (i' 1) (.t 17)), m' 19 2, o' 20 (.call 50 [.t 19, i' 8]), o' 21 (.idx 1 none (.t 16) (.t 18)), n' (.st 1 (.t 21) (.t 20))] [6, 7]
def c61x2 : AC := .cond (.t 15) (c61x1) (.skip)
def c61x3 : AC := .seq (.reg [m' 10 1, o' 11 (.bin .eql (.t 10) (i' 0)), m' 12 11, ⟨(some 13), .mv (.t 1), (some (12, false))⟩, ⟨(some 14), .bin .eql (.t 13) (i' 1), (some (12, false))⟩, o' 15 (.pick (.t 12) (.k (.bool true)) (.t 14))] [1, 2, 6, 7, 15]) (c61x2)
def c61x4 : AC := .seq (c61x3) (c61x0)
def c61x5 : AC := .seq (.reg [o' 8 (.ld (some 2) (.t 3)), o' 9 (.call 68 [.t 8]), m' 7 9] [1, 2, 6, 7]) (c61x4)
def c61 : AC := .seq (.reg [o' 3 (.new 2 (.t 0)), o' 6 (.zero [(.slice none 0 0), (.slice none 0 0)])] [1, 2, 3, 6]) (c61x5)
theorem k61 : Tryz.f61.body.bind (compC Tryz.prog Tryz.f61.ntmps v61) = some c61 := by kernel_rfl
theorem e61 : enters Tryz.prog 61 = true := by kernel_rfl
theorem q61 : Tryz.f61.results.toList.mapM (compRes Tryz.prog) = some r61 := by kernel_rfl
def v68 : List (Nat × List Nat) := [(0, [1]), (1, [1, 3]), (2, [3]), (3, [3, 11, 12]), (4, [3, 11, 12, 13]), (5, [3, 4, 11, 12]), (6, [3, 11, 12]), (7, [3, 11, 12]), (8, [2])]
def r68 : List AR := [.t 2]
def c68x0 : AC := .seq (.reg [m' 24 3, m' 2 24] [2]) (.ret)
def c68x1 : AC := .reg [o' 23 (.bin .add (.t 12) (i' 1)), m' 12 23] [3, 11, 12]
def c68x2 : AC := .reg [m' 15 3, m' 16 4, m' 17 3, m' 18 4, o' 19 (.idx 1 none (.t 17) (.t 18)), o' 20 (.ld none (.t 19)), o' 21 (.call 50 [.t 20, i' 8]), o' 22 (.idx 1 none (.t 15) (.t 16)), n' (.st 1 (.t 22) (.t 21))] [3, 11, 12]
def c68x3 : AC := .seq (.reg [m' 14 12, m' 4 14] [3, 4, 11, 12]) (c68x2)
def c68x4 : AC := .block 1 (c68x3)
def c68x5 : AC := .seq (c68x4) (c68x1)
def c68x6 : AC := .cond (.t 13) (.skip) (.exit 0)
def c68x7 : AC := .seq (c68x6) (c68x5)
def c68x8 : AC := .seq (.reg [o' 13 (.bin .lss (.t 12) (.t 11))] [3, 11, 12, 13]) (c68x7)
def c68x9 : AC := .loop (c68x8)
def c68x10 : AC := .block 0 (c68x9)
def c68x11 : AC := .seq (.reg [m' 10 3, o' 11 (.len (.t 10)), o' 12 (.mv (i' 0))] [3, 11, 12]) (c68x10)
def c68x12 : AC := .seq (c68x11) (c68x0)
def c68x13 : AC := .seq (.reg [m' 6 3, o' 7 (.fad 0 (.t 1)), o' 8 (.ld none (.t 7)), o' 9 (.copy 1 (.t 6) (.t 8))] [3]) (c68x12)
def c68x14 : AC := .seq (.reg [o' 5 (.mksl [(.int .i64 0)] 8 (i' 3) (i' 3)), m' 3 5] [1, 3]) (c68x13)
def c68 : AC := .seq (.reg [o' 1 (.new 2 (.t 0)), o' 2 (.mv (.k (.slice none 0 0)))] [1]) (c68x14)
theorem k68 : Tryz.f68.body.bind (compC Tryz.prog Tryz.f68.ntmps v68) = some c68 := by kernel_rfl
theorem e68 : enters Tryz.prog 68 = true := by kernel_rfl
theorem q68 : Tryz.f68.results.toList.mapM (compRes Tryz.prog) = some r68 := by kernel_rfl
def v81 : List (Nat × List Nat) := [(0, [1, 2, 4]), (1, [1, 4, 6]), (2, [1, 4, 6, 7]), (3, [4, 6, 7, 10]), (4, [4, 6, 7, 10, 11]), (5, [4, 6, 7]), (6, [4, 6, 7, 28]), (7, [4, 6, 7]), (8, [4, 5])]
def r81 : List AR := [.cell (some 2) 4, .t 5]
def c81x0 : AC := .seq (.reg [m' 33 6, o' 34 (.build [(.slice none 0 0), (.slice none 0 0)] [(0, 1, (.t 33))]), m' 35 7, n' (.st 2 (.t 4) (.t 34)), m' 5 35] [4, 5]) (.ret)
def c81x1 : AC := .dreg [m' 13 6, o' 14 (.idx 1 none (.t 13) (i' 1)), o' 15 (.ld none (.t 14)), m' 16 6, o' 17 (.idx 1 none (.t 16) (i' 2)), o' 18 (.ld none (.t 17)), o' 19 (.bin .and (.t 15) (.t 18)), m' 20 6, o' 21 (.idx 1 none (.t 20) (i' 0)), o' 22 (.ld none (.t 21)), m' 23 6, o' 24 (.idx 1 none (.t 23) (i' 2)), o' 25 (.ld none (.t 24)), o' 26 (.bin .andNot (.t 22) (.t 25)), o' 27 (.bin .or (.t 19) (.t 26)), m' 7 27] [[], [0], [0, 1], [], [3], [3, 4], [0, 1, 2, 3, 4, 5], [], [7], [7, 8], [], [10], [10, 11], [7, 8, 9, 10, 11, 12], [0, 1, 2, 3, 4, 5, 6, 7, 8, 9, 10, 11, 12, 13], [0, 1, 2, 3, 4, 5, 6, 7, 8, 9, 10, 11, 12, 13, 14]] [4, 6, 7]
def c81x2 : AC := .reg [m' 30 6, o' 31 (.idx 1 none (.t 30) (i' 2)), o' 32 (.ld none (.t 31)), m' 7 32] [4, 6, 7]
def c81x3 : AC := .cond (.t 28) (c81x2) (.skip)
def c81x4 : AC := .seq (.reg [o' 29 (.bin .eql (.t 10) (i' 1)), m' 28 29] [4, 6, 7, 28]) (c81x3)
def c81x5 : AC := .cond (.t 11) (c81x1) (c81x4)
def c81x6 : AC := .seq (.reg [o' 12 (.bin .eql (.t 10) (i' 0)), m' 11 12] [4, 6, 7, 10, 11]) (c81x5)
def c81x7 : AC := .block 0 (c81x6)
def c81x8 : AC := .seq (.reg [m' 10 1] [4, 6, 7, 10]) (c81x7)
def c81x9 : AC := .seq (c81x8) (c81x0)
def c81x10 : AC := .seq (.reg [o' 7 (.mv (i' 0))] [1, 4, 6, 7]) (c81x9)
def c81x11 : AC := .seq (.reg [o' 8 (.ld (some 2) (.t 2)), o' 9 (.call 68 [.t 8]), m' 6 9] [1, 4, 6]) (c81x10)
def c81 : AC := .seq (.reg [o' 2 (.new 2 (.t 0)), o' 4 (.zero [(.slice none 0 0), (.slice none 0 0)]), o' 5 (.mv (i' 0))] [1, 2, 4]) (c81x11)
end Go.Proofs.YtolmklnijjfppaaGreat.Code

namespace Go.Proofs.YtolmklnijjfppaaGreat.Code
open Go Go.Proofs.YtolmklnijjfppaaGreat.Calc
set_option maxRecDepth 100000
def v3 : List (Nat × List Nat) := [(0, [0, 1, 2, 3]), (1, [3, 9, 10]), (2, [9, 10, 11]), (3, [8])]
def r3 : List AR := [.t 8]
def c3x0 : AC := .seq (.dreg [o' 29 (.call 9 []), m' 30 29, ⟨(some 31), .ld (some 5) (.t 9), (some (30, true))⟩, ⟨(some 32), .ld (some 2) (.t 11), (some (30, true))⟩, ⟨(some 33), .call 10 [.t 31, .t 32], (some (30, true))⟩, ⟨(some 34), .ld (some 5) (.t 9), (some (30, true))⟩, ⟨(some 35), .ld (some 2) (.t 10), (some (30, true))⟩, ⟨(some 36), .call 10 [.t 34, .t 35], (some (30, true))⟩, ⟨(some 37), .bin .eql (.t 33) (.t 36), (some (30, true))⟩, o' 38 (.pick (.t 30) (.t 37) (.k (.bool false))), m' 39 38, ⟨(some 40), .ld (some 5) (.t 9), (some (39, true))⟩, ⟨(some 41), .ld (some 2) (.t 11), (some (39, true))⟩, ⟨(some 42), .call 11 [.t 40, .t 41], (some (39, true))⟩, ⟨(some 43), .ld (some 5) (.t 9), (some (39, true))⟩, ⟨(some 44), .ld (some 2) (.t 10), (some (39, true))⟩, ⟨(some 45), .call 11 [.t 43, .t 44], (some (39, true))⟩, ⟨(some 46), .eqb false (.t 42) (.t 45), (some (39, true))⟩, o' 47 (.pick (.t 39) (.t 46) (.k (.bool false))), m' 8 47] [[], [0], [0, 1], [0, 1], [0, 1, 2, 3], [0, 1], [0, 1], [0, 1, 2, 3, 4, 5, 6], [0, 1, 2, 3, 4, 5, 6, 7], [0, 1, 2, 3, 4, 5, 6, 7, 8], [0, 1, 2, 3, 4, 5, 6, 7, 8, 9], [0, 1, 2, 3, 4, 5, 6, 7, 8, 9, 10], [0, 1, 2, 3, 4, 5, 6, 7, 8, 9, 10], [0, 1, 2, 3, 4, 5, 6, 7, 8, 9, 10, 11, 12], [0, 1, 2, 3, 4, 5, 6, 7, 8, 9, 10], [0, 1, 2, 3, 4, 5, 6, 7, 8, 9, 10], [0, 1, 2, 3, 4, 5, 6, 7, 8, 9, 10, 11, 12, 13, 14, 15], [0, 1, 2, 3, 4, 5, 6, 7, 8, 9, 10, 11, 12, 13, 14, 15, 16], [0, 1, 2, 3, 4, 5, 6, 7, 8, 9, 10, 11, 12, 13, 14, 15, 16, 17], [0, 1, 2, 3, 4, 5, 6, 7, 8, 9, 10, 11, 12, 13, 14, 15, 16, 17, 18]] [8]) (.ret)
def c3x1 : AC := .seq (.dreg [o' 19 (.ld (some 5) (.t 9)), o' 20 (.ld (some 2) (.t 10)), m' 21 3, o' 22 (.ld (some 5) (.t 9)), o' 23 (.ld (some 2) (.t 10)), o' 24 (.call 8 [.t 22, .t 23]), o' 25 (.mnx false [.t 24, i' 3000]), o' 26 (.bin .add (.t 25) (i' 1)), o' 27 (.call 7 [.t 21, .t 26]), o' 28 (.call 6 [.t 19, .t 20, .t 27]), o' 11 (.zero [(.slice none 0 0), (.slice none 0 0)]), n' (.st 2 (.t 11) (.t 28))] [[], [], [], [], [], [3, 4], [3, 4, 5], [3, 4, 5, 6], [2, 3, 4, 5, 6, 7], [0, 1, 2, 3, 4, 5, 6, 7, 8], [], [0, 1, 2, 3, 4, 5, 6, 7, 8, 9, 10]] [9, 10, 11]) (c3x0)
def c3x2 : AC := .seq (.reg [m' 13 0, m' 14 1, m' 15 2, o' 16 (.call 5 [.t 13, .t 14, .t 15]), m' 12 16, o' 17 (.ext (.t 12) 0), o' 18 (.ext (.t 12) 1), o' 9 (.zero [(.string ⟨#[]⟩), (.int .i64 0), (.int .i64 0), (.int .i64 0), (.slice none 0 0)]), o' 10 (.zero [(.slice none 0 0), (.slice none 0 0)]), n' (.st 5 (.t 9) (.t 17)), n' (.st 2 (.t 10) (.t 18))] [3, 9, 10]) (c3x1)
def c3 : AC := .seq (.reg [o' 8 (.mv (.k (.bool false)))] [0, 1, 2, 3]) (c3x2)
theorem k3 : Tryz.f3.body.bind (compC Tryz.prog Tryz.f3.ntmps v3) = some c3 := by kernel_rfl
theorem e3 : enters Tryz.prog 3 = true := by kernel_rfl
theorem q3 : Tryz.f3.results.toList.mapM (compRes Tryz.prog) = some r3 := by kernel_rfl
def v5 : List (Nat × List Nat) := [(0, [0, 1, 2, 6, 7]), (1, [1, 2, 6, 7, 8]), (2, [2, 6, 7, 9]), (3, [2, 6, 7, 9, 10]), (4, [2, 6, 7, 9, 10, 11]), (5, [6, 7, 9, 10, 11, 31, 32]), (6, [6, 7, 9, 10, 11, 31, 32, 33]), (7, [6, 7, 9, 10, 11, 31, 32]), (8, [6, 7, 9, 10, 11, 31, 32]), (9, [6, 7, 9, 10, 11, 31, 32]), (10, [6, 7])]
def r5 : List AR := [.cell (some 5) 6, .cell (some 2) 7]
def c5x0 : AC := .seq (.dreg [o' 49 (.ld (some 5) (.t 9)), o' 50 (.ld (some 2) (.t 10)), n' (.st 5 (.t 6) (.t 49)), n' (.st 2 (.t 7) (.t 50))] [[], [], [0], [0, 1, 2]] [6, 7]) (.ret)
def c5x1 : AC := .reg [o' 48 (.bin .add (.t 32) (i' 1)), m' 32 48] [6, 7, 9, 10, 11, 31, 32]
def c5x2 : AC := .dreg [o' 43 (.ld (some 5) (.t 9)), o' 44 (.ld (some 2) (.t 10)), m' 45 11, o' 46 (.call 19 [.t 45, i' 70]), o' 47 (.call 6 [.t 43, .t 44, .t 46]), n' (.st 2 (.t 10) (.t 47))] [[], [], [], [2], [0, 1, 2, 3], [0, 1, 2, 3, 4]] [6, 7, 9, 10, 11, 31, 32]
def c5x3 : AC := .seq (.dreg [o' 34 (.ld (some 5) (.t 9)), o' 35 (.ld (some 2) (.t 10)), m' 36 11, o' 37 (.fad 3 (.t 9)), o' 38 (.ld none (.t 37)), o' 39 (.call 19 [.t 36, .t 38]), m' 40 11, o' 41 (.call 19 [.t 40, i' 256]), o' 42 (.call 18 [.t 34, .t 35, .t 39, .t 41]), n' (.st 2 (.t 10) (.t 42))] [[], [], [], [], [3], [2, 3, 4], [], [2, 3, 4, 5, 6], [0, 1, 2, 3, 4, 5, 6, 7], [0, 1, 2, 3, 4, 5, 6, 7, 8]] [6, 7, 9, 10, 11, 31, 32]) (c5x2)
def c5x4 : AC := .block 1 (c5x3)
def c5x5 : AC := .seq (c5x4) (c5x1)
def c5x6 : AC := .cond (.t 33) (.skip) (.exit 0)
def c5x7 : AC := .seq (c5x6) (c5x5)
def c5x8 : AC := .seq (.reg [o' 33 (.bin .lss (.t 32) (.t 31))] [6, 7, 9, 10, 11, 31, 32, 33]) (c5x7)
def c5x9 : AC := .loop (c5x8)
def c5x10 : AC := .block 0 (c5x9)
def c5x11 : AC := .seq (.reg [m' 28 2, o' 29 (.len (.t 28)), o' 30 (.bin .quo (.t 29) (i' 3)), o' 31 (.mnx false [.t 30, i' 12]), o' 32 (.mv (i' 0))] [6, 7, 9, 10, 11, 31, 32]) (c5x10)
def c5x12 : AC := .seq (c5x11) (c5x0)
def c5x13 : AC := .seq (.reg [m' 25 2, o' 26 (.build [(.slice none 0 0)] [(0, 1, (.t 25))]), o' 27 (.new 1 (.t 26)), m' 11 27] [2, 6, 7, 9, 10, 11]) (c5x12)
def c5x14 : AC := .seq (.reg [o' 23 (.ld (some 5) (.t 9)), o' 24 (.call 17 [.t 23]), o' 10 (.zero [(.slice none 0 0), (.slice none 0 0)]), n' (.st 2 (.t 10) (.t 24))] [2, 6, 7, 9, 10]) (c5x13)
def c5x15 : AC := .seq (.dreg [o' 14 (.fad 6 (.t 8)), o' 15 (.ld none (.t 14)), m' 16 1, o' 17 (.fad 6 (.t 8)), o' 18 (.ld none (.t 17)), o' 19 (.len (.t 18)), o' 20 (.call 7 [.t 16, .t 19]), o' 21 (.idx 5 none (.t 15) (.t 20)), o' 22 (.ld (some 5) (.t 21)), o' 9 (.zero [(.string ⟨#[]⟩), (.int .i64 0), (.int .i64 0), (.int .i64 0), (.slice none 0 0)]), n' (.st 5 (.t 9) (.t 22))] [[], [0], [], [], [3], [3, 4], [2, 3, 4, 5], [0, 1, 2, 3, 4, 5, 6], [0, 1, 2, 3, 4, 5, 6, 7], [], [0, 1, 2, 3, 4, 5, 6, 7, 8, 9]] [2, 6, 7, 9]) (c5x14)
def c5x16 : AC := .seq (.reg [m' 12 0, o' 13 (.call 12 [.t 12]), o' 8 (.zero [(.string ⟨#[]⟩), (.string ⟨#[]⟩), (.slice none 0 0), (.slice none 0 0), (.slice none 0 0), (.slice none 0 0), (.slice none 0 0), (.slice none 0 0)]), n' (.st 8 (.t 8) (.t 13))] [1, 2, 6, 7, 8]) (c5x15)
def c5 : AC := .seq (.reg [o' 6 (.zero [(.string ⟨#[]⟩), (.int .i64 0), (.int .i64 0), (.int .i64 0), (.slice none 0 0)]), o' 7 (.zero [(.slice none 0 0), (.slice none 0 0)])] [0, 1, 2, 6, 7]) (c5x16)
theorem k5 : Tryz.f5.body.bind (compC Tryz.prog Tryz.f5.ntmps v5) = some c5 := by kernel_rfl
theorem e5 : enters Tryz.prog 5 = true := by kernel_rfl
theorem q5 : Tryz.f5.results.toList.mapM (compRes Tryz.prog) = some r5 := by kernel_rfl
def v9 : List (Nat × List Nat) := [(0, []), (1, [1]), (2, [1, 3]), (3, [0])]
def r9 : List AR := [.t 0]
def c9x0 : AC := .seq (.reg [m' 14 3, o' 15 (.bin .eql (.t 14) (i' 9)), m' 16 15, ⟨(some 17), .ld (some 5) (.t 1), (some (16, true))⟩, ⟨(some 18), .call 34 [.t 17], (some (16, true))⟩, ⟨(some 19), .bin .eql (.t 18) (i' 0), (some (16, true))⟩, o' 20 (.pick (.t 16) (.t 19) (.k (.bool false))), m' 0 20] [0]) (.ret)
def c9x1 : AC := .seq (.dreg [o' 6 (.ld (some 5) (.t 1)), o' 7 (.ld (some 5) (.t 1)), o' 8 (.ld (some 5) (.t 1)), o' 9 (.call 17 [.t 8]), o' 10 (.call 18 [.t 7, .t 9, i' 2, i' 9]), o' 11 (.call 33 [.t 6, .t 10, i' 2]), m' 5 11, o' 12 (.ext (.t 5) 0), o' 13 (.ext (.t 5) 1), o' 2 (.zero [(.slice none 0 0), (.slice none 0 0)]), n' (.st 2 (.t 2) (.t 12)), m' 3 13] [[], [], [], [2], [1, 2, 3], [0, 1, 2, 3, 4], [0, 1, 2, 3, 4, 5], [0, 1, 2, 3, 4, 5, 6], [0, 1, 2, 3, 4, 5, 6], [], [0, 1, 2, 3, 4, 5, 6, 7, 9], [0, 1, 2, 3, 4, 5, 6, 7, 8, 9, 10]] [1, 3]) (c9x0)
def c9x2 : AC := .seq (.reg [o' 4 (.build [(.string ⟨#[]⟩), (.int .i64 0), (.int .i64 0), (.int .i64 0), (.slice none 0 0)] [(0, 1, (.k (.string ⟨#[97]⟩))), (1, 1, (i' 0)), (3, 1, (i' 4))]), o' 1 (.zero [(.string ⟨#[]⟩), (.int .i64 0), (.int .i64 0), (.int .i64 0), (.slice none 0 0)]), n' (.st 5 (.t 1) (.t 4))] [1]) (c9x1)
def c9 : AC := .seq (.reg [o' 0 (.mv (.k (.bool false)))] []) (c9x2)
theorem k9 : Tryz.f9.body.bind (compC Tryz.prog Tryz.f9.ntmps v9) = some c9 := by kernel_rfl
theorem e9 : enters Tryz.prog 9 = true := by kernel_rfl
theorem q9 : Tryz.f9.results.toList.mapM (compRes Tryz.prog) = some r9 := by kernel_rfl
end Go.Proofs.YtolmklnijjfppaaGreat.Code

