/- Several texts in one (CdBit, CdBakemake, CdTable, CdSlices, CdStd, CdDrive, CdChip, CdTimer, CdSerial, CdVideo, CdSound, CdPort, CdKChip, CdBoard, CdKMore), for the proof of LawBoardRanges. No condition beyond those in each lemma. -/
import Derived.Test.YtolmklnijjfppaaProg
import Derived.Test.YtolmklnijjfppaaPLawBoardRangesC
import Derived.KernelRfl
namespace Go.Proofs.Ytolmklnijjfppaa.Code
open Go Go.Proofs.Ytolmklnijjfppaa.Calc
set_option maxRecDepth 100000
def v114 : List (Nat × List Nat) := [(0, [0, 1]), (1, [4])]
def r114 : List AR := [.t 4]
def c114x0 : AC := .seq (.reg [m' 5 0, m' 6 1, o' 7 (.call 158 [.t 6]), o' 8 (.bin .shl (i' 1) (.t 7)), o' 9 (.bin .sub (.t 8) (i' 1)), o' 10 (.bin .and (.t 5) (.t 9)), m' 4 10] [4]) (.ret)
def c114 : AC := .seq (.reg [o' 4 (.mv (i' 0))] [0, 1]) (c114x0)
def v155 : List (Nat × List Nat) := [(0, [0, 1, 2, 3]), (1, [0, 1, 2, 3]), (2, [0, 1, 2, 3, 9]), (3, [8])]
def r155 : List AR := [.t 8]
def c155x0 : AC := .seq (.reg [m' 21 0, o' 22 (.call 114 [.t 21, i' 62]), m' 23 9, o' 24 (.bin .andNot (.t 22) (.t 23)), m' 25 3, m' 26 2, o' 27 (.call 114 [.t 25, .t 26]), m' 28 1, o' 29 (.bin .shl (.t 27) (.t 28)), o' 30 (.bin .or (.t 24) (.t 29)), m' 8 30] [8]) (.ret)
def c155x1 : AC := .seq (.reg [m' 16 2, o' 17 (.bin .shl (i' 1) (.t 16)), o' 18 (.bin .sub (.t 17) (i' 1)), m' 19 1, o' 20 (.bin .shl (.t 18) (.t 19)), m' 9 20] [0, 1, 2, 3, 9]) (c155x0)
def c155x2 : AC := .seq (.reg [m' 11 1, m' 12 2, o' 13 (.call 171 [.t 11, .t 12]), m' 10 13, o' 14 (.ext (.t 10) 0), o' 15 (.ext (.t 10) 1), m' 1 14, m' 2 15] [0, 1, 2, 3]) (c155x1)
def c155 : AC := .seq (.reg [o' 8 (.mv (i' 0))] [0, 1, 2, 3]) (c155x2)
def v158 : List (Nat × List Nat) := [(0, [0]), (1, [2])]
def r158 : List AR := [.t 2]
def c158x0 : AC := .seq (.reg [m' 3 0, o' 4 (.mnx false [.t 3, i' 62]), o' 5 (.mnx true [i' 0, .t 4]), m' 2 5] [2]) (.ret)
def c158 : AC := .seq (.reg [o' 2 (.mv (i' 0))] [0]) (c158x0)
def v163 : List (Nat × List Nat) := [(0, [0, 1, 2]), (1, [0, 1, 2]), (2, [6])]
def r163 : List AR := [.t 6]
def c163x0 : AC := .seq (.reg [m' 13 0, o' 14 (.call 114 [.t 13, i' 62]), m' 15 1, o' 16 (.bin .shr (.t 14) (.t 15)), m' 17 2, o' 18 (.call 114 [.t 16, .t 17]), m' 6 18] [6]) (.ret)
def c163x1 : AC := .seq (.reg [m' 8 1, m' 9 2, o' 10 (.call 171 [.t 8, .t 9]), m' 7 10, o' 11 (.ext (.t 7) 0), o' 12 (.ext (.t 7) 1), m' 1 11, m' 2 12] [0, 1, 2]) (c163x0)
def c163 : AC := .seq (.reg [o' 6 (.mv (i' 0))] [0, 1, 2]) (c163x1)
def v171 : List (Nat × List Nat) := [(0, [0, 1]), (1, [0, 1]), (2, [4, 5])]
def r171 : List AR := [.t 4, .t 5]
def c171x0 : AC := .seq (.reg [m' 8 0, m' 9 1, m' 10 0, o' 11 (.bin .sub (i' 62) (.t 10)), o' 12 (.mnx false [.t 9, .t 11]), o' 13 (.mnx true [i' 0, .t 12]), m' 4 8, m' 5 13] [4, 5]) (.ret)
def c171x1 : AC := .seq (.reg [m' 6 0, o' 7 (.call 158 [.t 6]), m' 0 7] [0, 1]) (c171x0)
def c171 : AC := .seq (.reg [o' 4 (.mv (i' 0)), o' 5 (.mv (i' 0))] [0, 1]) (c171x1)
end Go.Proofs.Ytolmklnijjfppaa.Code

namespace Go.Proofs.Ytolmklnijjfppaa.Code
open Go Go.Proofs.Ytolmklnijjfppaa.Calc
set_option maxRecDepth 100000
def v8 : List (Nat × List Nat) := [(0, [0, 1]), (1, [0, 1]), (2, [0, 1, 9]), (3, [0]), (4, [4])]
def r8 : List AR := [.t 4]
def c8x0 : AC := .seq (.reg [m' 13 0, m' 4 13] [4]) (.ret)
def c8x1 : AC := .reg [m' 10 0, m' 11 1, o' 12 (.bin .add (.t 10) (.t 11)), m' 0 12] [0]
def c8x2 : AC := .cond (.t 9) (c8x1) (.skip)
def c8x3 : AC := .seq (.reg [m' 8 0, o' 9 (.bin .lss (.t 8) (i' 0))] [0, 1, 9]) (c8x2)
def c8x4 : AC := .seq (.reg [m' 5 0, m' 6 1, o' 7 (.bin .rem (.t 5) (.t 6)), m' 0 7] [0, 1]) (c8x3)
def c8x5 : AC := .seq (c8x4) (c8x0)
def c8 : AC := .seq (.reg [o' 4 (.mv (i' 0))] [0, 1]) (c8x5)
theorem k8 : Try.f8.body.bind (compC Try.prog Try.f8.ntmps v8) = some c8 := by kernel_rfl
theorem e8 : enters Try.prog 8 = true := by kernel_rfl
theorem q8 : Try.f8.results.toList.mapM (compRes Try.prog) = some r8 := by kernel_rfl
def v21 : List (Nat × List Nat) := [(0, [0, 2]), (1, [2, 3]), (2, [2, 3, 4]), (3, [2, 3, 4]), (4, [2, 3, 4, 5]), (5, [2, 3, 4, 5, 22, 23]), (6, [2, 3, 4, 5, 22, 23, 24]), (7, [2, 3, 4, 5, 6, 22, 23]), (8, [2, 3, 4, 5, 6, 7, 22, 23]), (9, [2, 3, 4, 5, 6, 7, 8, 22, 23]), (10, [2, 3, 4, 5, 6, 7, 8, 22, 23, 44]), (11, [2, 3, 4, 5, 6, 7, 8, 22, 23]), (12, [2, 3, 4, 5, 6, 7, 8, 22, 23, 53, 54]), (13, [2, 3, 4, 5, 6, 7, 8, 22, 23, 53, 54, 55]), (14, [2, 3, 4, 5, 6, 7, 8, 9, 22, 23, 53, 54]), (15, [2, 3, 4, 5, 6, 7, 8, 22, 23, 53, 54]), (16, [2, 3, 4, 5, 6, 7, 8, 22, 23, 53, 54]), (17, [2, 3, 4, 5, 7, 8, 22, 23, 68]), (18, [2, 3, 4, 5, 7, 8, 22, 23]), (19, [2, 3, 4, 5, 7, 8, 22, 23]), (20, [2, 3, 4, 5, 7, 8, 22, 23]), (21, [2, 3, 4, 5, 8, 22, 23, 107]), (22, [2, 3, 4, 5, 22, 23]), (23, [2, 3, 4, 5, 22, 23]), (24, [2, 4]), (25, [2])]
def r21 : List AR := [.cell (some 8) 2]
def c21x0 : AC := .seq (.reg [o' 129 (.ld (some 8) (.t 4)), n' (.st 8 (.t 2) (.t 129))] [2]) (.ret)
def c21x1 : AC := .seq (.dreg [o' 118 (.fad 6 (.t 4)), o' 119 (.ld none (.t 118)), m' 120 3, o' 121 (.nilc (.t 120)), o' 122 (.fad 0 (.t 121)), o' 123 (.ld none (.t 122)), o' 124 (.call 48 [.t 123]), o' 125 (.build [(.string ⟨#[]⟩), (.int .i64 0), (.int .i64 0), (.int .i64 0), (.slice none 0 0)] [(0, 1, (.k (.string ⟨#[114, 111, 109]⟩))), (1, 1, (i' 1)), (2, 1, (i' 65280)), (3, 1, (i' 256)), (4, 1, (.t 124))]), o' 126 (.bsl [(.string ⟨#[]⟩), (.int .i64 0), (.int .i64 0), (.int .i64 0), (.slice none 0 0)] 1 [(0, (.t 125))]), o' 127 (.app 5 64 (.t 119) (.t 126)), o' 128 (.fad 6 (.t 4)), n' (.st 1 (.t 128) (.t 127))] [[], [0], [], [2], [2, 3], [2, 3, 4], [2, 3, 4, 5], [2, 3, 4, 5, 6], [2, 3, 4, 5, 6, 7], [0, 1, 2, 3, 4, 5, 6, 7, 8], [0, 1, 2, 3, 4, 5, 6, 7, 8, 9], [0, 1, 2, 3, 4, 5, 6, 7, 8, 9, 10]] [2, 4]) (c21x0)
def c21x2 : AC := .reg [o' 117 (.bin .add (.t 23) (i' 1)), m' 23 117] [2, 3, 4, 5, 22, 23]
def c21x3 : AC := .reg [o' 108 (.fad 7 (.t 4)), o' 109 (.ld none (.t 108)), o' 110 (.fad 0 (.t 8)), o' 111 (.ld none (.t 110)), o' 112 (.bin .add (.t 111) (.k (.string ⟨#[46, 105, 114, 113]⟩))), o' 113 (.build [(.string ⟨#[]⟩), (.string ⟨#[]⟩)] [(0, 1, (.t 112)), (1, 1, (.k (.string ⟨#[99, 112, 117, 46, 105, 114, 113]⟩)))]), o' 114 (.bsl [(.string ⟨#[]⟩), (.string ⟨#[]⟩)] 1 [(0, (.t 113))]), o' 115 (.app 2 32 (.t 109) (.t 114)), o' 116 (.fad 7 (.t 4)), n' (.st 1 (.t 116) (.t 115))] [2, 3, 4, 5, 22, 23]
def c21x4 : AC := .cond (.t 107) (c21x3) (.skip)
def c21x5 : AC := .seq (.reg [m' 93 7, o' 94 (.bin .eql (.t 93) (i' 3)), m' 95 94, ⟨(some 96), .mv (.t 7), (some (95, false))⟩, ⟨(some 97), .bin .eql (.t 96) (i' 5), (some (95, false))⟩, o' 98 (.pick (.t 95) (.k (.bool true)) (.t 97)), m' 99 98, ⟨(some 100), .mv (.t 7), (some (99, false))⟩, ⟨(some 101), .bin .eql (.t 100) (i' 8), (some (99, false))⟩, o' 102 (.pick (.t 99) (.k (.bool true)) (.t 101)), m' 103 102, ⟨(some 104), .mv (.t 3), (some (103, true))⟩, ⟨(some 105), .call 37 [.t 104, i' 3], (some (103, true))⟩, ⟨(some 106), .bin .gtr (.t 105) (i' 0), (some (103, true))⟩, o' 107 (.pick (.t 103) (.t 106) (.k (.bool false)))] [2, 3, 4, 5, 8, 22, 23, 107]) (c21x4)
def c21x6 : AC := .seq (.reg [m' 86 5, o' 87 (.fad 3 (.t 8)), o' 88 (.ld none (.t 87)), o' 89 (.bin .add (.t 88) (i' 15)), o' 90 (.bin .quo (.t 89) (i' 16)), o' 91 (.bin .mul (.t 90) (i' 16)), o' 92 (.bin .add (.t 86) (.t 91)), m' 5 92] [2, 3, 4, 5, 7, 8, 22, 23]) (c21x5)
def c21x7 : AC := .seq (.reg [o' 80 (.fad 6 (.t 4)), o' 81 (.ld none (.t 80)), o' 82 (.ld (some 5) (.t 8)), o' 83 (.bsl [(.string ⟨#[]⟩), (.int .i64 0), (.int .i64 0), (.int .i64 0), (.slice none 0 0)] 1 [(0, (.t 82))]), o' 84 (.app 5 64 (.t 81) (.t 83)), o' 85 (.fad 6 (.t 4)), n' (.st 1 (.t 85) (.t 84))] [2, 3, 4, 5, 7, 8, 22, 23]) (c21x6)
def c21x8 : AC := .reg [m' 69 3, o' 70 (.call 37 [.t 69, i' 256]), m' 71 3, o' 72 (.call 37 [.t 71, i' 256]), o' 73 (.bsl [(.int .i64 0)] 2 [(0, (.t 70)), (1, (.t 72))]), m' 74 3, o' 75 (.call 37 [.t 74, i' 3]), o' 76 (.bin .mul (i' 8) (.t 75)), o' 77 (.bin .add (i' 8) (.t 76)), o' 78 (.call 47 [.t 73, .t 77]), o' 79 (.fad 4 (.t 8)), n' (.st 1 (.t 79) (.t 78))] [2, 3, 4, 5, 7, 8, 22, 23]
def c21x9 : AC := .cond (.t 68) (c21x8) (.skip)
def c21x10 : AC := .seq (.reg [m' 67 7, o' 68 (.bin .eql (.t 67) (i' 2))] [2, 3, 4, 5, 7, 8, 22, 23, 68]) (c21x9)
def c21x11 : AC := .seq (c21x10) (c21x7)
def c21x12 : AC := .reg [o' 66 (.bin .add (.t 54) (i' 1)), m' 54 66] [2, 3, 4, 5, 6, 7, 8, 22, 23, 53, 54]
def c21x13 : AC := .reg [o' 57 (.fad 4 (.t 8)), o' 58 (.ld none (.t 57)), m' 59 9, m' 60 9, o' 61 (.bin .mul (.t 60) (i' 7)), m' 62 6, o' 63 (.bin .add (.t 61) (.t 62)), o' 64 (.cvt .u8 (.t 63)), o' 65 (.idx 1 none (.t 58) (.t 59)), n' (.st 1 (.t 65) (.t 64))] [2, 3, 4, 5, 6, 7, 8, 22, 23, 53, 54]
def c21x14 : AC := .seq (.reg [m' 56 54, m' 9 56] [2, 3, 4, 5, 6, 7, 8, 9, 22, 23, 53, 54]) (c21x13)
def c21x15 : AC := .block 3 (c21x14)
def c21x16 : AC := .seq (c21x15) (c21x12)
def c21x17 : AC := .cond (.t 55) (.skip) (.exit 2)
def c21x18 : AC := .seq (c21x17) (c21x16)
def c21x19 : AC := .seq (.reg [o' 55 (.bin .lss (.t 54) (.t 53))] [2, 3, 4, 5, 6, 7, 8, 22, 23, 53, 54, 55]) (c21x18)
def c21x20 : AC := .loop (c21x19)
def c21x21 : AC := .block 2 (c21x20)
def c21x22 : AC := .seq (.reg [o' 51 (.fad 4 (.t 8)), o' 52 (.ld none (.t 51)), o' 53 (.len (.t 52)), o' 54 (.mv (i' 0))] [2, 3, 4, 5, 6, 7, 8, 22, 23, 53, 54]) (c21x21)
def c21x23 : AC := .seq (.reg [m' 45 3, o' 46 (.call 37 [.t 45, i' 2]), o' 47 (.bin .add (i' 1) (.t 46)), o' 48 (.bin .mul (i' 256) (.t 47)), o' 49 (.mksl [(.int .u8 0)] 1 (.t 48) (.t 48)), o' 50 (.fad 4 (.t 8)), n' (.st 1 (.t 50) (.t 49))] [2, 3, 4, 5, 6, 7, 8, 22, 23]) (c21x22)
def c21x24 : AC := .cond (.t 44) (c21x23) (.skip)
def c21x25 : AC := .seq (.reg [m' 43 7, o' 44 (.bin .eql (.t 43) (i' 8))] [2, 3, 4, 5, 6, 7, 8, 22, 23, 44]) (c21x24)
def c21x26 : AC := .seq (c21x25) (c21x11)
def c21x27 : AC := .seq (.reg [m' 31 6, o' 32 (.bin .add (i' 97) (.t 31)), o' 33 (.cvt .i32 (.t 32)), o' 34 (.i2s (.t 33)), o' 35 (.bin .add (.k (.string ⟨#[99, 104, 105, 112, 45]⟩)) (.t 34)), m' 36 7, m' 37 5, o' 38 (.bsl [(.int .i64 0)] 9 [(0, (i' 0)), (1, (i' 0)), (2, (i' 9)), (3, (i' 4)), (4, (i' 2)), (5, (i' 3)), (6, (i' 32)), (7, (i' 8)), (8, (i' 4))]), m' 39 7, o' 40 (.idx 1 none (.t 38) (.t 39)), o' 41 (.ld none (.t 40)), o' 42 (.build [(.string ⟨#[]⟩), (.int .i64 0), (.int .i64 0), (.int .i64 0), (.slice none 0 0)] [(0, 1, (.t 35)), (1, 1, (.t 36)), (2, 1, (.t 37)), (3, 1, (.t 41))]), o' 8 (.zero [(.string ⟨#[]⟩), (.int .i64 0), (.int .i64 0), (.int .i64 0), (.slice none 0 0)]), n' (.st 5 (.t 8) (.t 42))] [2, 3, 4, 5, 6, 7, 8, 22, 23]) (c21x26)
def c21x28 : AC := .seq (.reg [o' 26 (.bsl [(.int .i64 0)] 8 [(0, (i' 3)), (1, (i' 5)), (2, (i' 4)), (3, (i' 6)), (4, (i' 7)), (5, (i' 8)), (6, (i' 2)), (7, (i' 3))]), m' 27 3, o' 28 (.call 37 [.t 27, i' 8]), o' 29 (.idx 1 none (.t 26) (.t 28)), o' 30 (.ld none (.t 29)), m' 7 30] [2, 3, 4, 5, 6, 7, 22, 23]) (c21x27)
def c21x29 : AC := .seq (.reg [m' 25 23, m' 6 25] [2, 3, 4, 5, 6, 22, 23]) (c21x28)
def c21x30 : AC := .block 1 (c21x29)
def c21x31 : AC := .seq (c21x30) (c21x2)
def c21x32 : AC := .cond (.t 24) (.skip) (.exit 0)
def c21x33 : AC := .seq (c21x32) (c21x31)
def c21x34 : AC := .seq (.reg [o' 24 (.bin .lss (.t 23) (.t 22))] [2, 3, 4, 5, 22, 23, 24]) (c21x33)
def c21x35 : AC := .loop (c21x34)
def c21x36 : AC := .block 0 (c21x35)
def c21x37 : AC := .seq (.reg [m' 21 3, o' 22 (.call 37 [.t 21, i' 5]), o' 23 (.mv (i' 0))] [2, 3, 4, 5, 22, 23]) (c21x36)
def c21x38 : AC := .seq (c21x37) (c21x1)
def c21x39 : AC := .seq (.reg [o' 5 (.mv (i' 57344))] [2, 3, 4, 5]) (c21x38)
def c21x40 : AC := .seq (.reg [o' 15 (.fad 6 (.t 4)), o' 16 (.ld none (.t 15)), o' 17 (.build [(.string ⟨#[]⟩), (.int .i64 0), (.int .i64 0), (.int .i64 0), (.slice none 0 0)] [(0, 1, (.k (.string ⟨#[114, 97, 109]⟩))), (1, 1, (i' 0)), (3, 1, (i' 768))]), o' 18 (.bsl [(.string ⟨#[]⟩), (.int .i64 0), (.int .i64 0), (.int .i64 0), (.slice none 0 0)] 1 [(0, (.t 17))]), o' 19 (.app 5 64 (.t 16) (.t 18)), o' 20 (.fad 6 (.t 4)), n' (.st 1 (.t 20) (.t 19))] [2, 3, 4]) (c21x39)
def c21x41 : AC := .seq (.reg [o' 13 (.call 46 []), o' 14 (.build [(.string ⟨#[]⟩), (.string ⟨#[]⟩), (.slice none 0 0), (.slice none 0 0), (.slice none 0 0), (.slice none 0 0), (.slice none 0 0), (.slice none 0 0)] [(0, 1, (.k (.string ⟨#[98, 111, 97, 114, 100]⟩))), (1, 5, (.t 13))]), o' 4 (.zero [(.string ⟨#[]⟩), (.string ⟨#[]⟩), (.slice none 0 0), (.slice none 0 0), (.slice none 0 0), (.slice none 0 0), (.slice none 0 0), (.slice none 0 0)]), n' (.st 8 (.t 4) (.t 14))] [2, 3, 4]) (c21x40)
def c21x42 : AC := .seq (.reg [m' 10 0, o' 11 (.build [(.slice none 0 0)] [(0, 1, (.t 10))]), o' 12 (.new 1 (.t 11)), m' 3 12] [2, 3]) (c21x41)
def c21 : AC := .seq (.reg [o' 2 (.zero [(.string ⟨#[]⟩), (.string ⟨#[]⟩), (.slice none 0 0), (.slice none 0 0), (.slice none 0 0), (.slice none 0 0), (.slice none 0 0), (.slice none 0 0)])] [0, 2]) (c21x42)
theorem k21 : Try.f21.body.bind (compC Try.prog Try.f21.ntmps v21) = some c21 := by kernel_rfl
theorem e21 : enters Try.prog 21 = true := by kernel_rfl
theorem q21 : Try.f21.results.toList.mapM (compRes Try.prog) = some r21 := by kernel_rfl
def v37 : List (Nat × List Nat) := [(0, [0, 1]), (1, [0, 1, 15]), (2, [4]), (3, [0, 1, 5]), (4, [1, 5]), (5, [4])]
def r37 : List AR := [.t 4]
def c37x0 : AC := .seq (.reg [m' 30 5, m' 31 1, o' 32 (.call 8 [.t 30, .t 31]), m' 4 32] [4]) (.ret)
def c37x1 : AC := .seq (.reg [m' 22 0, m' 23 0, o' 24 (.nilc (.t 23)), o' 25 (.fad 0 (.t 24)), o' 26 (.ld none (.t 25)), o' 27 (.slc 1 (.t 26) (some (i' 1)) none), o' 28 (.nilc (.t 22)), o' 29 (.fad 0 (.t 28)), n' (.st 1 (.t 29) (.t 27))] [1, 5]) (c37x0)
def c37x2 : AC := .seq (.reg [m' 16 0, o' 17 (.nilc (.t 16)), o' 18 (.fad 0 (.t 17)), o' 19 (.ld none (.t 18)), o' 20 (.idx 1 none (.t 19) (i' 0)), o' 21 (.ld none (.t 20)), m' 5 21] [0, 1, 5]) (c37x1)
def c37x3 : AC := .seq (.reg [o' 4 (.mv (i' 0))] [4]) (.ret)
def c37x4 : AC := .cond (.t 15) (c37x3) (.skip)
def c37x5 : AC := .seq (.reg [m' 6 1, o' 7 (.bin .lss (.t 6) (i' 1)), m' 8 7, ⟨(some 9), .mv (.t 0), (some (8, false))⟩, ⟨(some 10), .nilc (.t 9), (some (8, false))⟩, ⟨(some 11), .fad 0 (.t 10), (some (8, false))⟩, ⟨(some 12), .ld none (.t 11), (some (8, false))⟩, ⟨(some 13), .len (.t 12), (some (8, false))⟩, ⟨(some 14), .bin .eql (.t 13) (i' 0), (some (8, false))⟩, o' 15 (.pick (.t 8) (.k (.bool true)) (.t 14))] [0, 1, 15]) (c37x4)
def c37x6 : AC := .seq (c37x5) (c37x2)
def c37 : AC := .seq (.reg [o' 4 (.mv (i' 0))] [0, 1]) (c37x6)
theorem k37 : Try.f37.body.bind (compC Try.prog Try.f37.ntmps v37) = some c37 := by kernel_rfl
theorem e37 : enters Try.prog 37 = true := by kernel_rfl
theorem q37 : Try.f37.results.toList.mapM (compRes Try.prog) = some r37 := by kernel_rfl
def v38 : List (Nat × List Nat) := [(0, [0, 1]), (1, [0, 1, 5]), (2, [0, 5, 8, 9]), (3, [0, 5, 8, 9, 10]), (4, [0, 5, 8, 9]), (5, [0, 5, 8, 9]), (6, [0, 5, 19, 20]), (7, [0, 5, 19, 20, 21]), (8, [0, 5, 6, 19, 20]), (9, [0, 5, 6, 19, 20, 27]), (10, [0, 5, 6, 19, 20]), (11, [0, 5, 19, 20]), (12, [0, 5, 19, 20]), (13, [0, 5, 41, 42]), (14, [0, 5, 41, 42, 43]), (15, [0, 5, 7, 41, 42]), (16, [0, 5, 7, 41, 42, 46, 47]), (17, [0, 5, 7, 41, 42, 46, 47, 48]), (18, [0, 5, 7, 41, 42, 46, 47]), (19, [0, 5, 7, 41, 42, 46, 47]), (20, [0, 5, 41, 42]), (21, [4])]
def r38 : List AR := [.t 4]
def c38x0 : AC := .seq (.reg [m' 64 5, m' 4 64] [4]) (.ret)
def c38x1 : AC := .reg [o' 63 (.bin .add (.t 42) (i' 1)), m' 42 63] [0, 5, 41, 42]
def c38x2 : AC := .reg [o' 62 (.bin .add (.t 47) (i' 1)), m' 47 62] [0, 5, 7, 41, 42, 46, 47]
def c38x3 : AC := .dreg [m' 49 5, m' 50 7, m' 51 5, m' 52 7, o' 53 (.idx 4 none (.t 51) (.t 52)), o' 54 (.fad 3 (.t 53)), o' 55 (.ld none (.t 54)), m' 56 0, o' 57 (.call 74 [.t 56]), o' 58 (.bsl [(.int .i64 0), (.int .i64 0), (.int .i64 0), (.int .i64 0)] 1 [(0, (.t 57))]), o' 59 (.app 4 32 (.t 55) (.t 58)), o' 60 (.idx 4 none (.t 49) (.t 50)), o' 61 (.fad 3 (.t 60)), n' (.st 1 (.t 61) (.t 59))] [[], [], [], [], [2, 3], [2, 3, 4], [2, 3, 4, 5], [], [7], [7, 8], [2, 3, 4, 5, 6, 7, 8, 9], [0, 1, 2, 3, 4, 5, 6, 7, 8, 9, 10], [0, 1, 2, 3, 4, 5, 6, 7, 8, 9, 10, 11], [0, 1, 2, 3, 4, 5, 6, 7, 8, 9, 10, 11, 12]] [0, 5, 7, 41, 42, 46, 47]
def c38x4 : AC := .block 7 (c38x3)
def c38x5 : AC := .seq (c38x4) (c38x2)
def c38x6 : AC := .cond (.t 48) (.skip) (.exit 6)
def c38x7 : AC := .seq (c38x6) (c38x5)
def c38x8 : AC := .seq (.reg [o' 48 (.bin .lss (.t 47) (.t 46))] [0, 5, 7, 41, 42, 46, 47, 48]) (c38x7)
def c38x9 : AC := .loop (c38x8)
def c38x10 : AC := .block 6 (c38x9)
def c38x11 : AC := .seq (.reg [m' 45 0, o' 46 (.call 37 [.t 45, i' 3]), o' 47 (.mv (i' 0))] [0, 5, 7, 41, 42, 46, 47]) (c38x10)
def c38x12 : AC := .seq (.reg [m' 44 42, m' 7 44] [0, 5, 7, 41, 42]) (c38x11)
def c38x13 : AC := .block 5 (c38x12)
def c38x14 : AC := .seq (c38x13) (c38x1)
def c38x15 : AC := .cond (.t 43) (.skip) (.exit 4)
def c38x16 : AC := .seq (c38x15) (c38x14)
def c38x17 : AC := .seq (.reg [o' 43 (.bin .lss (.t 42) (.t 41))] [0, 5, 41, 42, 43]) (c38x16)
def c38x18 : AC := .loop (c38x17)
def c38x19 : AC := .block 4 (c38x18)
def c38x20 : AC := .seq (.reg [m' 40 5, o' 41 (.len (.t 40)), o' 42 (.mv (i' 0))] [0, 5, 41, 42]) (c38x19)
def c38x21 : AC := .seq (c38x20) (c38x0)
def c38x22 : AC := .reg [o' 39 (.bin .add (.t 20) (i' 1)), m' 20 39] [0, 5, 19, 20]
def c38x23 : AC := .reg [m' 35 5, o' 36 (.ld (some 4) (.t 6)), o' 37 (.bsl [(.int .i64 0), (.int .i64 0), (.int .i64 0), (.slice none 0 0)] 1 [(0, (.t 36))]), o' 38 (.app 4 48 (.t 35) (.t 37)), m' 5 38] [0, 5, 19, 20]
def c38x24 : AC := .reg [m' 28 0, o' 29 (.call 37 [.t 28, i' 11]), o' 30 (.bin .add (i' 1) (.t 29)), m' 31 0, o' 32 (.call 37 [.t 31, i' 7]), o' 33 (.fad 1 (.t 6)), n' (.st 1 (.t 33) (.t 30)), o' 34 (.fad 2 (.t 6)), n' (.st 1 (.t 34) (.t 32))] [0, 5, 6, 19, 20]
def c38x25 : AC := .cond (.t 27) (c38x24) (.skip)
def c38x26 : AC := .seq (.reg [o' 25 (.fad 0 (.t 6)), o' 26 (.ld none (.t 25)), o' 27 (.bin .neq (.t 26) (i' 0))] [0, 5, 6, 19, 20, 27]) (c38x25)
def c38x27 : AC := .seq (c38x26) (c38x23)
def c38x28 : AC := .seq (.reg [m' 22 0, o' 23 (.call 37 [.t 22, i' 3]), o' 24 (.build [(.int .i64 0), (.int .i64 0), (.int .i64 0), (.slice none 0 0)] [(0, 1, (.t 23))]), o' 6 (.zero [(.int .i64 0), (.int .i64 0), (.int .i64 0), (.slice none 0 0)]), n' (.st 4 (.t 6) (.t 24))] [0, 5, 6, 19, 20]) (c38x27)
def c38x29 : AC := .block 3 (c38x28)
def c38x30 : AC := .seq (c38x29) (c38x22)
def c38x31 : AC := .cond (.t 21) (.skip) (.exit 2)
def c38x32 : AC := .seq (c38x31) (c38x30)
def c38x33 : AC := .seq (.reg [o' 21 (.bin .lss (.t 20) (.t 19))] [0, 5, 19, 20, 21]) (c38x32)
def c38x34 : AC := .loop (c38x33)
def c38x35 : AC := .block 2 (c38x34)
def c38x36 : AC := .seq (.reg [m' 18 0, o' 19 (.call 37 [.t 18, i' 4]), o' 20 (.mv (i' 0))] [0, 5, 19, 20]) (c38x35)
def c38x37 : AC := .seq (c38x36) (c38x21)
def c38x38 : AC := .reg [o' 17 (.bin .add (.t 9) (i' 1)), m' 9 17] [0, 5, 8, 9]
def c38x39 : AC := .reg [m' 11 5, m' 12 0, o' 13 (.call 37 [.t 12, i' 7]), o' 14 (.build [(.int .i64 0), (.int .i64 0), (.int .i64 0), (.slice none 0 0)] [(0, 1, (i' 1)), (1, 1, (i' 0)), (2, 1, (.t 13))]), o' 15 (.bsl [(.int .i64 0), (.int .i64 0), (.int .i64 0), (.slice none 0 0)] 1 [(0, (.t 14))]), o' 16 (.app 4 48 (.t 11) (.t 15)), m' 5 16] [0, 5, 8, 9]
def c38x40 : AC := .block 1 (c38x39)
def c38x41 : AC := .seq (c38x40) (c38x38)
def c38x42 : AC := .cond (.t 10) (.skip) (.exit 0)
def c38x43 : AC := .seq (c38x42) (c38x41)
def c38x44 : AC := .seq (.reg [o' 10 (.bin .lss (.t 9) (.t 8))] [0, 5, 8, 9, 10]) (c38x43)
def c38x45 : AC := .loop (c38x44)
def c38x46 : AC := .block 0 (c38x45)
def c38x47 : AC := .seq (.reg [m' 8 1, o' 9 (.mv (i' 0))] [0, 5, 8, 9]) (c38x46)
def c38x48 : AC := .seq (c38x47) (c38x37)
def c38x49 : AC := .seq (.reg [o' 5 (.mv (.k (.slice none 0 0)))] [0, 1, 5]) (c38x48)
def c38 : AC := .seq (.reg [o' 4 (.mv (.k (.slice none 0 0)))] [0, 1]) (c38x49)
def v47 : List (Nat × List Nat) := [(0, [0, 1]), (1, [1, 5]), (2, [5, 6]), (3, [5, 6, 15, 16]), (4, [5, 6, 15, 16, 17]), (5, [5, 6, 7, 15, 16]), (6, [5, 6, 15, 16]), (7, [5, 6, 15, 16]), (8, [4])]
def r47 : List AR := [.t 4]
def c47x0 : AC := .seq (.reg [m' 26 6, m' 4 26] [4]) (.ret)
def c47x1 : AC := .reg [o' 25 (.bin .add (.t 16) (i' 1)), m' 16 25] [5, 6, 15, 16]
def c47x2 : AC := .reg [m' 19 6, m' 20 7, m' 21 5, o' 22 (.call 37 [.t 21, i' 256]), o' 23 (.cvt .u8 (.t 22)), o' 24 (.idx 1 none (.t 19) (.t 20)), n' (.st 1 (.t 24) (.t 23))] [5, 6, 15, 16]
def c47x3 : AC := .seq (.reg [m' 18 16, m' 7 18] [5, 6, 7, 15, 16]) (c47x2)
def c47x4 : AC := .block 1 (c47x3)
def c47x5 : AC := .seq (c47x4) (c47x1)
def c47x6 : AC := .cond (.t 17) (.skip) (.exit 0)
def c47x7 : AC := .seq (c47x6) (c47x5)
def c47x8 : AC := .seq (.reg [o' 17 (.bin .lss (.t 16) (.t 15))] [5, 6, 15, 16, 17]) (c47x7)
def c47x9 : AC := .loop (c47x8)
def c47x10 : AC := .block 0 (c47x9)
def c47x11 : AC := .seq (.reg [m' 14 6, o' 15 (.len (.t 14)), o' 16 (.mv (i' 0))] [5, 6, 15, 16]) (c47x10)
def c47x12 : AC := .seq (c47x11) (c47x0)
def c47x13 : AC := .seq (.reg [m' 11 1, o' 12 (.mnx true [i' 0, .t 11]), o' 13 (.mksl [(.int .u8 0)] 1 (.t 12) (.t 12)), m' 6 13] [5, 6]) (c47x12)
def c47x14 : AC := .seq (.reg [m' 8 0, o' 9 (.build [(.slice none 0 0)] [(0, 1, (.t 8))]), o' 10 (.new 1 (.t 9)), m' 5 10] [1, 5]) (c47x13)
def c47 : AC := .seq (.reg [o' 4 (.mv (.k (.slice none 0 0)))] [0, 1]) (c47x14)
theorem k47 : Try.f47.body.bind (compC Try.prog Try.f47.ntmps v47) = some c47 := by kernel_rfl
theorem e47 : enters Try.prog 47 = true := by kernel_rfl
theorem q47 : Try.f47.results.toList.mapM (compRes Try.prog) = some r47 := by kernel_rfl
def v48 : List (Nat × List Nat) := [(0, [0]), (1, [3]), (2, [3, 4]), (3, [3, 4, 5]), (4, [4, 5, 18]), (5, [4, 5]), (6, [4, 6]), (7, [4]), (8, [4, 7]), (9, [4]), (10, [4, 51, 52, 53]), (11, [4, 51, 52, 53, 54]), (12, [4, 9, 51, 52, 53]), (13, [4, 51, 52, 53]), (14, [4, 51, 52, 53]), (15, [4]), (16, [2])]
def r48 : List AR := [.t 2]
def c48x0 : AC := .seq (.reg [m' 69 4, m' 2 69] [2]) (.ret)
def c48x1 : AC := .seq (.reg [m' 65 4, m' 66 4, o' 67 (.idx 1 none (.t 65) (i' 252)), n' (.st 1 (.t 67) (.k (.int .u8 0))), o' 68 (.idx 1 none (.t 66) (i' 253)), n' (.st 1 (.t 68) (.k (.int .u8 255)))] [4]) (c48x0)
def c48x2 : AC := .reg [o' 64 (.bin .add (.t 53) (i' 1)), m' 53 64] [4, 51, 52, 53]
def c48x3 : AC := .reg [m' 57 4, m' 58 9, m' 59 4, m' 60 9, o' 61 (.bin .add (.t 60) (i' 1)), o' 62 (.idx 1 none (.t 57) (.t 58)), n' (.st 1 (.t 62) (.k (.int .u8 180))), o' 63 (.idx 1 none (.t 59) (.t 61)), n' (.st 1 (.t 63) (.k (.int .u8 255)))] [4, 51, 52, 53]
def c48x4 : AC := .seq (.reg [o' 55 (.idx 1 none (.t 51) (.t 53)), o' 56 (.ld none (.t 55)), m' 9 56] [4, 9, 51, 52, 53]) (c48x3)
def c48x5 : AC := .block 1 (c48x4)
def c48x6 : AC := .seq (c48x5) (c48x2)
def c48x7 : AC := .cond (.t 54) (.skip) (.exit 0)
def c48x8 : AC := .seq (c48x7) (c48x6)
def c48x9 : AC := .seq (.reg [o' 54 (.bin .lss (.t 53) (.t 52))] [4, 51, 52, 53, 54]) (c48x8)
def c48x10 : AC := .loop (c48x9)
def c48x11 : AC := .block 0 (c48x10)
def c48x12 : AC := .seq (.reg [o' 51 (.bsl [(.int .i64 0)] 2 [(0, (i' 250)), (1, (i' 254))]), o' 52 (.len (.t 51)), o' 53 (.mv (i' 0))] [4, 51, 52, 53]) (c48x11)
def c48x13 : AC := .seq (c48x12) (c48x1)
def c48x14 : AC := .seq (.reg [m' 47 4, o' 48 (.slc 1 (.t 47) (some (i' 180)) none), m' 49 7, o' 50 (.copy 1 (.t 48) (.t 49))] [4]) (c48x13)
def c48x15 : AC := .seq (.reg [o' 38 (.call 85 [(.k (.string ⟨#[112, 104, 112]⟩))]), o' 39 (.call 85 [(.k (.string ⟨#[112, 104, 97]⟩))]), o' 40 (.call 86 [(.k (.string ⟨#[105, 110, 99]⟩)), (i' 2)]), o' 41 (.call 86 [(.k (.string ⟨#[108, 100, 97]⟩)), (i' 4)]), o' 42 (.call 86 [(.k (.string ⟨#[108, 100, 97]⟩)), (i' 4)]), o' 43 (.call 85 [(.k (.string ⟨#[112, 108, 97]⟩))]), o' 44 (.call 85 [(.k (.string ⟨#[112, 108, 112]⟩))]), o' 45 (.call 85 [(.k (.string ⟨#[114, 116, 105]⟩))]), o' 46 (.bsl [(.int .u8 0)] 13 [(0, (.t 38)), (1, (.t 39)), (2, (.t 40)), (3, (.k (.int .u8 9))), (4, (.t 41)), (5, (.k (.int .u8 3))), (6, (.k (.int .u8 224))), (7, (.t 42)), (8, (.k (.int .u8 16))), (9, (.k (.int .u8 224))), (10, (.t 43)), (11, (.t 44)), (12, (.t 45))]), m' 7 46] [4, 7]) (c48x14)
def c48x16 : AC := .seq (.reg [m' 26 4, m' 27 6, m' 28 4, m' 29 6, o' 30 (.bin .add (.t 29) (i' 1)), m' 31 4, m' 32 6, o' 33 (.bin .add (.t 32) (i' 2)), o' 34 (.call 85 [(.k (.string ⟨#[106, 109, 112]⟩))]), o' 35 (.idx 1 none (.t 26) (.t 27)), n' (.st 1 (.t 35) (.t 34)), o' 36 (.idx 1 none (.t 28) (.t 30)), n' (.st 1 (.t 36) (.k (.int .u8 0))), o' 37 (.idx 1 none (.t 31) (.t 33)), n' (.st 1 (.t 37) (.k (.int .u8 255)))] [4]) (c48x15)
def c48x17 : AC := .seq (.reg [m' 23 4, m' 24 5, o' 25 (.copy 1 (.t 23) (.t 24)), m' 6 25] [4, 6]) (c48x16)
def c48x18 : AC := .reg [o' 19 (.call 85 [(.k (.string ⟨#[99, 108, 105]⟩))]), o' 20 (.bsl [(.int .u8 0)] 1 [(0, (.t 19))]), m' 21 5, o' 22 (.app 1 1 (.t 20) (.t 21)), m' 5 22] [4, 5]
def c48x19 : AC := .cond (.t 18) (c48x18) (.skip)
def c48x20 : AC := .seq (.reg [m' 16 3, o' 17 (.call 37 [.t 16, i' 3]), o' 18 (.bin .gtr (.t 17) (i' 0))] [4, 5, 18]) (c48x19)
def c48x21 : AC := .seq (c48x20) (c48x17)
def c48x22 : AC := .seq (.reg [m' 14 3, o' 15 (.call 84 [.t 14, i' 160]), m' 5 15] [3, 4, 5]) (c48x21)
def c48x23 : AC := .seq (.reg [o' 13 (.mksl [(.int .u8 0)] 1 (i' 256) (i' 256)), m' 4 13] [3, 4]) (c48x22)
def c48x24 : AC := .seq (.reg [m' 10 0, o' 11 (.build [(.slice none 0 0)] [(0, 1, (.t 10))]), o' 12 (.new 1 (.t 11)), m' 3 12] [3]) (c48x23)
def c48 : AC := .seq (.reg [o' 2 (.mv (.k (.slice none 0 0)))] [0]) (c48x24)
theorem k48 : Try.f48.body.bind (compC Try.prog Try.f48.ntmps v48) = some c48 := by kernel_rfl
theorem e48 : enters Try.prog 48 = true := by kernel_rfl
theorem q48 : Try.f48.results.toList.mapM (compRes Try.prog) = some r48 := by kernel_rfl
def v74 : List (Nat × List Nat) := [(0, [0, 2]), (1, [0, 2, 3, 4]), (2, [0, 2, 3, 4, 5]), (3, [0, 2, 3, 4, 5, 13]), (4, [0, 2, 3, 4, 5, 13, 14]), (5, [2]), (6, [0, 2, 3, 4, 5, 13, 17]), (7, [2]), (8, [0, 2, 3, 4, 5, 13, 24]), (9, [2]), (10, [0, 2, 3, 4, 5, 13, 31]), (11, [0, 2, 3, 4, 5, 13, 31]), (12, [2]), (13, [0, 2, 3, 4, 5, 13, 38]), (14, [0, 2, 3, 4, 5, 13, 38]), (15, [0, 2, 3, 4, 5, 13, 38]), (16, [0, 2, 3, 4, 5, 13, 38]), (17, [2]), (18, [0, 2, 3, 4, 5, 13, 47]), (19, [0, 2, 3, 4, 5, 13, 47]), (20, [2]), (21, [0, 2, 3, 5, 13, 54]), (22, [2]), (23, [0, 2, 3, 5, 13, 62]), (24, [0, 2, 3, 5, 13, 62]), (25, [0, 2, 3, 5, 13, 62]), (26, [0, 2, 3, 5, 13, 62]), (27, [0, 2, 3, 5, 13, 62]), (28, [0, 2, 3, 5, 62]), (29, [2]), (30, [2])]
def r74 : List AR := [.cell (some 4) 2]
def c74x0 : AC := .seq (.reg [m' 74 5, m' 75 3, o' 76 (.build [(.int .i64 0), (.int .i64 0), (.int .i64 0), (.int .i64 0)] [(0, 1, (.t 74)), (1, 1, (.t 75))]), n' (.st 4 (.t 2) (.t 76))] [2]) (.ret)
def c74x1 : AC := .seq (.reg [o' 16 (.build [(.int .i64 0), (.int .i64 0), (.int .i64 0), (.int .i64 0)] []), n' (.st 4 (.t 2) (.t 16))] [2]) (.ret)
def c74x2 : AC := .seq (.reg [m' 19 5, m' 20 3, m' 21 0, o' 22 (.call 37 [.t 21, i' 7]), o' 23 (.build [(.int .i64 0), (.int .i64 0), (.int .i64 0), (.int .i64 0)] [(0, 1, (.t 19)), (1, 1, (.t 20)), (2, 1, (.t 22))]), n' (.st 4 (.t 2) (.t 23))] [2]) (.ret)
def c74x3 : AC := .seq (.reg [m' 26 5, m' 27 3, m' 28 0, o' 29 (.call 37 [.t 28, i' 256]), o' 30 (.build [(.int .i64 0), (.int .i64 0), (.int .i64 0), (.int .i64 0)] [(0, 1, (.t 26)), (1, 1, (.t 27)), (3, 1, (.t 29))]), n' (.st 4 (.t 2) (.t 30))] [2]) (.ret)
def c74x4 : AC := .seq (.reg [m' 34 5, m' 35 0, o' 36 (.call 37 [.t 35, i' 256]), o' 37 (.build [(.int .i64 0), (.int .i64 0), (.int .i64 0), (.int .i64 0)] [(0, 1, (.t 34)), (3, 1, (.t 36))]), n' (.st 4 (.t 2) (.t 37))] [2]) (.ret)
def c74x5 : AC := .seq (.reg [m' 43 5, m' 44 4, m' 45 3, o' 46 (.build [(.int .i64 0), (.int .i64 0), (.int .i64 0), (.int .i64 0)] [(0, 1, (.t 43)), (1, 1, (.t 44)), (2, 1, (.t 45))]), n' (.st 4 (.t 2) (.t 46))] [2]) (.ret)
def c74x6 : AC := .seq (.reg [m' 50 5, m' 51 3, m' 52 4, o' 53 (.build [(.int .i64 0), (.int .i64 0), (.int .i64 0), (.int .i64 0)] [(0, 1, (.t 50)), (1, 1, (.t 51)), (2, 1, (.t 52))]), n' (.st 4 (.t 2) (.t 53))] [2]) (.ret)
def c74x7 : AC := .seq (.reg [m' 56 5, m' 57 0, o' 58 (.call 37 [.t 57, i' 2]), m' 59 0, o' 60 (.call 37 [.t 59, i' 256]), o' 61 (.build [(.int .i64 0), (.int .i64 0), (.int .i64 0), (.int .i64 0)] [(0, 1, (.t 56)), (2, 1, (.t 58)), (3, 1, (.t 60))]), n' (.st 4 (.t 2) (.t 61))] [2]) (.ret)
def c74x8 : AC := .seq (.reg [m' 69 5, m' 70 3, m' 71 0, o' 72 (.call 37 [.t 71, i' 7]), o' 73 (.build [(.int .i64 0), (.int .i64 0), (.int .i64 0), (.int .i64 0)] [(0, 1, (.t 69)), (1, 1, (.t 70)), (2, 1, (.t 72))]), n' (.st 4 (.t 2) (.t 73))] [2]) (.ret)
def c74x9 : AC := .cond (.t 62) (c74x8) (.skip)
def c74x10 : AC := .reg [o' 68 (.bin .eql (.t 13) (i' 9)), m' 62 68] [0, 2, 3, 5, 62]
def c74x11 : AC := .cond (.t 62) (.skip) (c74x10)
def c74x12 : AC := .seq (.reg [o' 67 (.bin .eql (.t 13) (i' 8)), m' 62 67] [0, 2, 3, 5, 13, 62]) (c74x11)
def c74x13 : AC := .cond (.t 62) (.skip) (c74x12)
def c74x14 : AC := .seq (.reg [o' 66 (.bin .eql (.t 13) (i' 7)), m' 62 66] [0, 2, 3, 5, 13, 62]) (c74x13)
def c74x15 : AC := .cond (.t 62) (.skip) (c74x14)
def c74x16 : AC := .seq (.reg [o' 65 (.bin .eql (.t 13) (i' 6)), m' 62 65] [0, 2, 3, 5, 13, 62]) (c74x15)
def c74x17 : AC := .cond (.t 62) (.skip) (c74x16)
def c74x18 : AC := .seq (.reg [o' 64 (.bin .eql (.t 13) (i' 5)), m' 62 64] [0, 2, 3, 5, 13, 62]) (c74x17)
def c74x19 : AC := .cond (.t 62) (.skip) (c74x18)
def c74x20 : AC := .seq (.reg [o' 63 (.bin .eql (.t 13) (i' 4)), m' 62 63] [0, 2, 3, 5, 13, 62]) (c74x19)
def c74x21 : AC := .seq (c74x20) (c74x9)
def c74x22 : AC := .cond (.t 54) (c74x7) (c74x21)
def c74x23 : AC := .seq (.reg [o' 55 (.bin .eql (.t 13) (i' 24)), m' 54 55] [0, 2, 3, 5, 13, 54]) (c74x22)
def c74x24 : AC := .cond (.t 47) (c74x6) (c74x23)
def c74x25 : AC := .reg [o' 49 (.bin .eql (.t 13) (i' 21)), m' 47 49] [0, 2, 3, 4, 5, 13, 47]
def c74x26 : AC := .cond (.t 47) (.skip) (c74x25)
def c74x27 : AC := .seq (.reg [o' 48 (.bin .eql (.t 13) (i' 20)), m' 47 48] [0, 2, 3, 4, 5, 13, 47]) (c74x26)
def c74x28 : AC := .seq (c74x27) (c74x24)
def c74x29 : AC := .cond (.t 38) (c74x5) (c74x28)
def c74x30 : AC := .reg [o' 42 (.bin .eql (.t 13) (i' 23)), m' 38 42] [0, 2, 3, 4, 5, 13, 38]
def c74x31 : AC := .cond (.t 38) (.skip) (c74x30)
def c74x32 : AC := .seq (.reg [o' 41 (.bin .eql (.t 13) (i' 22)), m' 38 41] [0, 2, 3, 4, 5, 13, 38]) (c74x31)
def c74x33 : AC := .cond (.t 38) (.skip) (c74x32)
def c74x34 : AC := .seq (.reg [o' 40 (.bin .eql (.t 13) (i' 19)), m' 38 40] [0, 2, 3, 4, 5, 13, 38]) (c74x33)
def c74x35 : AC := .cond (.t 38) (.skip) (c74x34)
def c74x36 : AC := .seq (.reg [o' 39 (.bin .eql (.t 13) (i' 18)), m' 38 39] [0, 2, 3, 4, 5, 13, 38]) (c74x35)
def c74x37 : AC := .seq (c74x36) (c74x29)
def c74x38 : AC := .cond (.t 31) (c74x4) (c74x37)
def c74x39 : AC := .reg [o' 33 (.bin .eql (.t 13) (i' 17)), m' 31 33] [0, 2, 3, 4, 5, 13, 31]
def c74x40 : AC := .cond (.t 31) (.skip) (c74x39)
def c74x41 : AC := .seq (.reg [o' 32 (.bin .eql (.t 13) (i' 16)), m' 31 32] [0, 2, 3, 4, 5, 13, 31]) (c74x40)
def c74x42 : AC := .seq (c74x41) (c74x38)
def c74x43 : AC := .cond (.t 24) (c74x3) (c74x42)
def c74x44 : AC := .seq (.reg [o' 25 (.bin .eql (.t 13) (i' 2)), m' 24 25] [0, 2, 3, 4, 5, 13, 24]) (c74x43)
def c74x45 : AC := .cond (.t 17) (c74x2) (c74x44)
def c74x46 : AC := .seq (.reg [o' 18 (.bin .eql (.t 13) (i' 1)), m' 17 18] [0, 2, 3, 4, 5, 13, 17]) (c74x45)
def c74x47 : AC := .cond (.t 14) (c74x1) (c74x46)
def c74x48 : AC := .seq (.reg [o' 15 (.bin .eql (.t 13) (i' 0)), m' 14 15] [0, 2, 3, 4, 5, 13, 14]) (c74x47)
def c74x49 : AC := .block 0 (c74x48)
def c74x50 : AC := .seq (.reg [m' 13 5] [0, 2, 3, 4, 5, 13]) (c74x49)
def c74x51 : AC := .seq (c74x50) (c74x0)
def c74x52 : AC := .seq (.reg [m' 11 0, o' 12 (.call 37 [.t 11, i' 25]), m' 5 12] [0, 2, 3, 4, 5]) (c74x51)
def c74x53 : AC := .seq (.reg [m' 6 0, o' 7 (.call 37 [.t 6, i' 7]), m' 8 0, o' 9 (.call 37 [.t 8, i' 2]), o' 10 (.bin .add (i' 7) (.t 9)), m' 3 7, m' 4 10] [0, 2, 3, 4]) (c74x52)
def c74 : AC := .seq (.reg [o' 2 (.zero [(.int .i64 0), (.int .i64 0), (.int .i64 0), (.int .i64 0)])] [0, 2]) (c74x53)
def v84 : List (Nat × List Nat) := [(0, [0, 1]), (1, [0, 1, 5]), (2, [0, 1, 5, 6]), (3, [0, 1, 5, 6, 21]), (4, [0, 1, 5, 6, 7]), (5, [0, 1, 5, 6, 8]), (6, [0, 1, 5, 6, 8, 45]), (7, [0, 1, 5, 6]), (8, [4])]
def r84 : List AR := [.t 4]
def c84x0 : AC := .seq (.reg [m' 49 6, m' 4 49] [4]) (.ret)
def c84x1 : AC := .reg [m' 46 6, m' 47 8, o' 48 (.app 1 1 (.t 46) (.t 47)), m' 6 48] [0, 1, 5, 6]
def c84x2 : AC := .cond (.t 45) (.exit 0) (.skip)
def c84x3 : AC := .seq (.reg [m' 39 6, o' 40 (.len (.t 39)), m' 41 8, o' 42 (.len (.t 41)), o' 43 (.bin .add (.t 40) (.t 42)), m' 44 1, o' 45 (.bin .gtr (.t 43) (.t 44))] [0, 1, 5, 6, 8, 45]) (c84x2)
def c84x4 : AC := .seq (c84x3) (c84x1)
def c84x5 : AC := .seq (.dreg [o' 31 (.fad 0 (.t 7)), o' 32 (.ld none (.t 31)), o' 33 (.cvt .u8 (.t 32)), o' 34 (.bsl [(.int .u8 0)] 1 [(0, (.t 33))]), m' 35 0, o' 36 (.ld (some 4) (.t 7)), o' 37 (.call 144 [.t 35, .t 36]), o' 38 (.app 1 1 (.t 34) (.t 37)), m' 8 38] [[], [0], [0, 1], [0, 1, 2], [], [], [4, 5], [0, 1, 2, 3, 4, 5, 6], [0, 1, 2, 3, 4, 5, 6, 7]] [0, 1, 5, 6, 8]) (c84x4)
def c84x6 : AC := .seq (.dreg [o' 22 (.fad 1 (.t 5)), o' 23 (.ld none (.t 22)), m' 24 0, o' 25 (.fad 1 (.t 5)), o' 26 (.ld none (.t 25)), o' 27 (.len (.t 26)), o' 28 (.call 37 [.t 24, .t 27]), o' 29 (.idx 4 none (.t 23) (.t 28)), o' 30 (.ld (some 4) (.t 29)), o' 7 (.zero [(.int .i64 0), (.string ⟨#[]⟩), (.int .i64 0), (.slice none 0 0)]), n' (.st 4 (.t 7) (.t 30))] [[], [0], [], [], [3], [3, 4], [2, 3, 4, 5], [0, 1, 2, 3, 4, 5, 6], [0, 1, 2, 3, 4, 5, 6, 7], [], [0, 1, 2, 3, 4, 5, 6, 7, 8, 9]] [0, 1, 5, 6, 7]) (c84x5)
def c84x7 : AC := .block 1 (c84x6)
def c84x8 : AC := .cond (.t 21) (.skip) (.exit 0)
def c84x9 : AC := .seq (.reg [m' 10 0, o' 11 (.nilc (.t 10)), o' 12 (.fad 0 (.t 11)), o' 13 (.ld none (.t 12)), o' 14 (.len (.t 13)), o' 15 (.bin .gtr (.t 14) (i' 0)), m' 16 15, ⟨(some 17), .fad 1 (.t 5), (some (16, true))⟩, ⟨(some 18), .ld none (.t 17), (some (16, true))⟩, ⟨(some 19), .len (.t 18), (some (16, true))⟩, ⟨(some 20), .bin .gtr (.t 19) (i' 0), (some (16, true))⟩, o' 21 (.pick (.t 16) (.t 20) (.k (.bool false)))] [0, 1, 5, 6, 21]) (c84x8)
def c84x10 : AC := .seq (c84x9) (c84x7)
def c84x11 : AC := .loop (c84x10)
def c84x12 : AC := .block 0 (c84x11)
def c84x13 : AC := .seq (c84x12) (c84x0)
def c84x14 : AC := .seq (.reg [o' 6 (.mv (.k (.slice none 0 0)))] [0, 1, 5, 6]) (c84x13)
def c84x15 : AC := .seq (.reg [o' 9 (.call 46 []), o' 5 (.zero [(.string ⟨#[]⟩), (.slice none 0 0), (.slice none 0 0), (.slice none 0 0), (.slice none 0 0)]), n' (.st 5 (.t 5) (.t 9))] [0, 1, 5]) (c84x14)
def c84 : AC := .seq (.reg [o' 4 (.mv (.k (.slice none 0 0)))] [0, 1]) (c84x15)
theorem k84 : Try.f84.body.bind (compC Try.prog Try.f84.ntmps v84) = some c84 := by kernel_rfl
theorem e84 : enters Try.prog 84 = true := by kernel_rfl
theorem q84 : Try.f84.results.toList.mapM (compRes Try.prog) = some r84 := by kernel_rfl
def v85 : List (Nat × List Nat) := [(0, [0]), (1, [2])]
def r85 : List AR := [.t 2]
def c85x0 : AC := .seq (.reg [m' 3 0, o' 4 (.call 86 [.t 3, i' 0]), m' 5 0, o' 6 (.call 86 [.t 5, i' 4]), o' 7 (.mnx true [.t 4, .t 6]), m' 2 7] [2]) (.ret)
def c85 : AC := .seq (.reg [o' 2 (.mv (.k (.int .u8 0)))] [0]) (c85x0)
theorem k85 : Try.f85.body.bind (compC Try.prog Try.f85.ntmps v85) = some c85 := by kernel_rfl
theorem e85 : enters Try.prog 85 = true := by kernel_rfl
theorem q85 : Try.f85.results.toList.mapM (compRes Try.prog) = some r85 := by kernel_rfl
def v86 : List (Nat × List Nat) := [(0, [0, 1]), (1, [0, 1, 8, 9, 10]), (2, [0, 1, 8, 9, 10, 11]), (3, [0, 1, 6, 8, 9, 10]), (4, [0, 1, 6, 8, 9, 10, 23]), (5, [4]), (6, [0, 1, 8, 9, 10]), (7, [4])]
def r86 : List AR := [.t 4]
def c86x0 : AC := .seq (.reg [o' 4 (.mv (.k (.int .u8 0)))] [4]) (.ret)
def c86x1 : AC := .reg [o' 27 (.bin .add (.t 10) (i' 1)), m' 10 27] [0, 1, 8, 9, 10]
def c86x2 : AC := .seq (.reg [o' 24 (.fad 0 (.t 6)), o' 25 (.ld none (.t 24)), o' 26 (.cvt .u8 (.t 25)), m' 4 26] [4]) (.ret)
def c86x3 : AC := .cond (.t 23) (c86x2) (.skip)
def c86x4 : AC := .seq (.reg [o' 14 (.fad 1 (.t 6)), o' 15 (.ld none (.t 14)), m' 16 0, o' 17 (.bin .eql (.t 15) (.t 16)), m' 18 17, ⟨(some 19), .fad 2 (.t 6), (some (18, true))⟩, ⟨(some 20), .ld none (.t 19), (some (18, true))⟩, ⟨(some 21), .mv (.t 1), (some (18, true))⟩, ⟨(some 22), .bin .eql (.t 20) (.t 21), (some (18, true))⟩, o' 23 (.pick (.t 18) (.t 22) (.k (.bool false)))] [0, 1, 6, 8, 9, 10, 23]) (c86x3)
def c86x5 : AC := .seq (.reg [o' 12 (.idx 4 none (.t 8) (.t 10)), o' 13 (.ld (some 4) (.t 12)), o' 6 (.zero [(.int .i64 0), (.string ⟨#[]⟩), (.int .i64 0), (.slice none 0 0)]), n' (.st 4 (.t 6) (.t 13))] [0, 1, 6, 8, 9, 10]) (c86x4)
def c86x6 : AC := .block 1 (c86x5)
def c86x7 : AC := .seq (c86x6) (c86x1)
def c86x8 : AC := .cond (.t 11) (.skip) (.exit 0)
def c86x9 : AC := .seq (c86x8) (c86x7)
def c86x10 : AC := .seq (.reg [o' 11 (.bin .lss (.t 10) (.t 9))] [0, 1, 8, 9, 10, 11]) (c86x9)
def c86x11 : AC := .loop (c86x10)
def c86x12 : AC := .block 0 (c86x11)
def c86x13 : AC := .seq (.reg [o' 7 (.call 46 []), o' 8 (.fld 1 none (.t 7)), o' 9 (.len (.t 8)), o' 10 (.mv (i' 0))] [0, 1, 8, 9, 10]) (c86x12)
def c86x14 : AC := .seq (c86x13) (c86x0)
def c86 : AC := .seq (.reg [o' 4 (.mv (.k (.int .u8 0)))] [0, 1]) (c86x14)
theorem k86 : Try.f86.body.bind (compC Try.prog Try.f86.ntmps v86) = some c86 := by kernel_rfl
theorem e86 : enters Try.prog 86 = true := by kernel_rfl
theorem q86 : Try.f86.results.toList.mapM (compRes Try.prog) = some r86 := by kernel_rfl
def v144 : List (Nat × List Nat) := [(0, [0, 3]), (1, [0, 3, 7]), (2, [0, 3, 7, 8]), (3, [4]), (4, [0, 3, 7, 14]), (5, [0, 3, 7, 14]), (6, [0, 3, 7, 14]), (7, [4]), (8, [0, 3, 7, 22]), (9, [4]), (10, [0, 3, 7, 29]), (11, [0, 3, 7, 29]), (12, [0, 3, 29]), (13, [0, 3, 5]), (14, [0, 5, 43]), (15, [5]), (16, [0, 5, 49]), (17, [5]), (18, [4]), (19, [4])]
def r144 : List AR := [.t 4]
def c144x0 : AC := .seq (.reg [o' 4 (.mv (.k (.slice none 0 0)))] [4]) (.ret)
def c144x1 : AC := .seq (.reg [m' 10 0, o' 11 (.call 37 [.t 10, i' 256]), o' 12 (.cvt .u8 (.t 11)), o' 13 (.bsl [(.int .u8 0)] 1 [(0, (.t 12))]), m' 4 13] [4]) (.ret)
def c144x2 : AC := .seq (.reg [m' 18 0, o' 19 (.call 37 [.t 18, i' 16]), o' 20 (.cvt .u8 (.t 19)), o' 21 (.bsl [(.int .u8 0)] 1 [(0, (.t 20))]), m' 4 21] [4]) (.ret)
def c144x3 : AC := .seq (.reg [m' 24 0, o' 25 (.call 37 [.t 24, i' 8]), o' 26 (.bin .sub (.t 25) (i' 3)), o' 27 (.cvt .u8 (.t 26)), o' 28 (.bsl [(.int .u8 0)] 1 [(0, (.t 27))]), m' 4 28] [4]) (.ret)
def c144x4 : AC := .seq (.reg [m' 53 5, o' 54 (.cvt .u8 (.t 53)), m' 55 5, o' 56 (.bin .shr (.t 55) (.k (.int .u64 8))), o' 57 (.cvt .u8 (.t 56)), o' 58 (.bsl [(.int .u8 0)] 2 [(0, (.t 54)), (1, (.t 57))]), m' 4 58] [4]) (.ret)
def c144x5 : AC := .reg [m' 44 0, o' 45 (.call 37 [.t 44, i' 64]), o' 46 (.bin .add (i' 65280) (.t 45)), m' 5 46] [5]
def c144x6 : AC := .reg [m' 50 0, o' 51 (.call 37 [.t 50, i' 64]), o' 52 (.bin .add (i' 512) (.t 51)), m' 5 52] [5]
def c144x7 : AC := .cond (.t 49) (c144x6) (.skip)
def c144x8 : AC := .seq (.reg [m' 47 0, o' 48 (.call 37 [.t 47, i' 3]), o' 49 (.bin .eql (.t 48) (i' 0))] [0, 5, 49]) (c144x7)
def c144x9 : AC := .cond (.t 43) (c144x5) (c144x8)
def c144x10 : AC := .seq (.reg [o' 36 (.fad 1 (.t 3)), o' 37 (.ld none (.t 36)), o' 38 (.bin .eql (.t 37) (.k (.string ⟨#[106, 109, 112]⟩))), m' 39 38, ⟨(some 40), .fad 1 (.t 3), (some (39, false))⟩, ⟨(some 41), .ld none (.t 40), (some (39, false))⟩, ⟨(some 42), .bin .eql (.t 41) (.k (.string ⟨#[106, 115, 114]⟩)), (some (39, false))⟩, o' 43 (.pick (.t 39) (.k (.bool true)) (.t 42))] [0, 5, 43]) (c144x9)
def c144x11 : AC := .seq (c144x10) (c144x4)
def c144x12 : AC := .seq (.reg [m' 33 0, o' 34 (.call 37 [.t 33, i' 48]), o' 35 (.bin .add (i' 57344) (.t 34)), m' 5 35] [0, 3, 5]) (c144x11)
def c144x13 : AC := .cond (.t 29) (c144x12) (.skip)
def c144x14 : AC := .reg [o' 32 (.bin .eql (.t 7) (i' 6)), m' 29 32] [0, 3, 29]
def c144x15 : AC := .cond (.t 29) (.skip) (c144x14)
def c144x16 : AC := .seq (.reg [o' 31 (.bin .eql (.t 7) (i' 5)), m' 29 31] [0, 3, 7, 29]) (c144x15)
def c144x17 : AC := .cond (.t 29) (.skip) (c144x16)
def c144x18 : AC := .seq (.reg [o' 30 (.bin .eql (.t 7) (i' 4)), m' 29 30] [0, 3, 7, 29]) (c144x17)
def c144x19 : AC := .seq (c144x18) (c144x13)
def c144x20 : AC := .cond (.t 22) (c144x3) (c144x19)
def c144x21 : AC := .seq (.reg [o' 23 (.bin .eql (.t 7) (i' 7)), m' 22 23] [0, 3, 7, 22]) (c144x20)
def c144x22 : AC := .cond (.t 14) (c144x2) (c144x21)
def c144x23 : AC := .reg [o' 17 (.bin .eql (.t 7) (i' 8)), m' 14 17] [0, 3, 7, 14]
def c144x24 : AC := .cond (.t 14) (.skip) (c144x23)
def c144x25 : AC := .seq (.reg [o' 16 (.bin .eql (.t 7) (i' 3)), m' 14 16] [0, 3, 7, 14]) (c144x24)
def c144x26 : AC := .cond (.t 14) (.skip) (c144x25)
def c144x27 : AC := .seq (.reg [o' 15 (.bin .eql (.t 7) (i' 2)), m' 14 15] [0, 3, 7, 14]) (c144x26)
def c144x28 : AC := .seq (c144x27) (c144x22)
def c144x29 : AC := .cond (.t 8) (c144x1) (c144x28)
def c144x30 : AC := .seq (.reg [o' 9 (.bin .eql (.t 7) (i' 1)), m' 8 9] [0, 3, 7, 8]) (c144x29)
def c144x31 : AC := .block 0 (c144x30)
def c144x32 : AC := .seq (.reg [o' 6 (.fad 2 (.t 3)), o' 7 (.ld none (.t 6))] [0, 3, 7]) (c144x31)
def c144x33 : AC := .seq (c144x32) (c144x0)
def c144 : AC := .seq (.reg [o' 3 (.new 4 (.t 1)), o' 4 (.mv (.k (.slice none 0 0)))] [0, 3]) (c144x33)
theorem k144 : Try.f144.body.bind (compC Try.prog Try.f144.ntmps v144) = some c144 := by kernel_rfl
theorem e144 : enters Try.prog 144 = true := by kernel_rfl
theorem q144 : Try.f144.results.toList.mapM (compRes Try.prog) = some r144 := by kernel_rfl
end Go.Proofs.Ytolmklnijjfppaa.Code

namespace Go.Proofs.Ytolmklnijjfppaa.Code
open Go Go.Proofs.Ytolmklnijjfppaa.Calc
set_option maxRecDepth 100000
def v17 : List (Nat × List Nat) := [(0, [1]), (1, [1, 9]), (2, [2]), (3, [1, 14]), (4, [2]), (5, [1, 20, 21, 22]), (6, [1, 20, 21, 22, 23]), (7, [1, 3, 4, 20, 21, 22]), (8, [1, 3, 4, 20, 21, 22, 27]), (9, [2]), (10, [1, 3, 4, 20, 21, 22, 36]), (11, [2]), (12, [1, 3, 4, 20, 21, 22, 51]), (13, [2]), (14, [1, 3, 4, 20, 21, 22, 56]), (15, [2]), (16, [1, 4, 20, 21, 22, 61]), (17, [2]), (18, [1, 4, 5, 20, 21, 22]), (19, [1, 4, 5, 20, 21, 22, 72]), (20, [2]), (21, [1, 20, 21, 22, 80]), (22, [2]), (23, [1, 20, 21, 22]), (24, [88, 89, 90]), (25, [88, 89, 90, 91]), (26, [7, 88, 89, 90]), (27, [8, 88, 89, 90]), (28, [8, 88, 89, 90, 97]), (29, [2]), (30, [88, 89, 90]), (31, [2])]
def r17 : List AR := [.t 2]
def c17x0 : AC := .seq (.reg [o' 2 (.mv (i' 0))] [2]) (.ret)
def c17x1 : AC := .reg [o' 99 (.bin .add (.t 90) (i' 1)), m' 90 99] [88, 89, 90]
def c17x2 : AC := .seq (.reg [m' 98 8, m' 2 98] [2]) (.ret)
def c17x3 : AC := .cond (.t 97) (c17x2) (.skip)
def c17x4 : AC := .seq (.reg [m' 96 8, o' 97 (.bin .neq (.t 96) (i' 0))] [8, 88, 89, 90, 97]) (c17x3)
def c17x5 : AC := .seq (.reg [m' 94 7, o' 95 (.call 42 [.t 94]), m' 8 95] [8, 88, 89, 90]) (c17x4)
def c17x6 : AC := .seq (.reg [o' 92 (.idx 1 none (.t 88) (.t 90)), o' 93 (.ld none (.t 92)), m' 7 93] [7, 88, 89, 90]) (c17x5)
def c17x7 : AC := .block 5 (c17x6)
def c17x8 : AC := .seq (c17x7) (c17x1)
def c17x9 : AC := .cond (.t 91) (.skip) (.exit 4)
def c17x10 : AC := .seq (c17x9) (c17x8)
def c17x11 : AC := .seq (.reg [o' 91 (.bin .lss (.t 90) (.t 89))] [88, 89, 90, 91]) (c17x10)
def c17x12 : AC := .loop (c17x11)
def c17x13 : AC := .block 4 (c17x12)
def c17x14 : AC := .seq (.reg [o' 82 (.fad 2 (.t 1)), o' 83 (.ld none (.t 82)), o' 84 (.fad 3 (.t 1)), o' 85 (.ld none (.t 84)), o' 86 (.fad 4 (.t 1)), o' 87 (.ld none (.t 86)), o' 88 (.bsl [(.slice none 0 0)] 3 [(0, (.t 83)), (1, (.t 85)), (2, (.t 87))]), o' 89 (.len (.t 88)), o' 90 (.mv (i' 0))] [88, 89, 90]) (c17x13)
def c17x15 : AC := .seq (c17x14) (c17x0)
def c17x16 : AC := .reg [o' 81 (.bin .add (.t 22) (i' 1)), m' 22 81] [1, 20, 21, 22]
def c17x17 : AC := .seq (.reg [o' 2 (.mv (i' 3))] [2]) (.ret)
def c17x18 : AC := .cond (.t 80) (c17x17) (.skip)
def c17x19 : AC := .seq (.dreg [o' 74 (.fad 3 (.t 4)), o' 75 (.ld none (.t 74)), o' 76 (.call 43 [.t 75]), o' 77 (.fad 2 (.t 4)), o' 78 (.ld none (.t 77)), o' 79 (.call 20 [.t 78]), o' 80 (.bin .neq (.t 76) (.t 79))] [[], [0], [0, 1], [], [3], [0, 1, 2, 3, 4], [0, 1, 2, 3, 4, 5]] [1, 20, 21, 22, 80]) (c17x18)
def c17x20 : AC := .seq (.reg [m' 73 5, m' 2 73] [2]) (.ret)
def c17x21 : AC := .cond (.t 72) (c17x20) (.skip)
def c17x22 : AC := .seq (.reg [m' 71 5, o' 72 (.bin .neq (.t 71) (i' 0))] [1, 4, 5, 20, 21, 22, 72]) (c17x21)
def c17x23 : AC := .seq (.reg [o' 68 (.fad 3 (.t 4)), o' 69 (.ld none (.t 68)), o' 70 (.call 42 [.t 69]), m' 5 70] [1, 4, 5, 20, 21, 22]) (c17x22)
def c17x24 : AC := .seq (c17x23) (c17x19)
def c17x25 : AC := .seq (.reg [o' 2 (.mv (i' 1))] [2]) (.ret)
def c17x26 : AC := .seq (.reg [o' 2 (.mv (i' 9))] [2]) (.ret)
def c17x27 : AC := .seq (.reg [o' 2 (.mv (i' 15))] [2]) (.ret)
def c17x28 : AC := .seq (.reg [o' 2 (.mv (i' 8))] [2]) (.ret)
def c17x29 : AC := .seq (.reg [o' 2 (.mv (i' 5))] [2]) (.ret)
def c17x30 : AC := .cond (.t 61) (c17x29) (.skip)
def c17x31 : AC := .seq (.reg [o' 62 (.fad 1 (.t 1)), o' 63 (.ld none (.t 62)), m' 64 3, o' 65 (.slc 4 (.t 63) none (some (.t 64))), o' 66 (.mkf 41 [.t 4]), o' 67 (.call 40 [.t 65, .t 66]), m' 61 67] [1, 4, 20, 21, 22, 61]) (c17x30)
def c17x32 : AC := .cond (.t 56) (c17x28) (c17x31)
def c17x33 : AC := .seq (.reg [o' 57 (.fad 2 (.t 4)), o' 58 (.ld none (.t 57)), o' 59 (.call 20 [.t 58]), o' 60 (.bin .lss (.t 59) (i' 0)), m' 56 60] [1, 3, 4, 20, 21, 22, 56]) (c17x32)
def c17x34 : AC := .cond (.t 51) (c17x27) (c17x33)
def c17x35 : AC := .seq (.reg [o' 52 (.fad 1 (.t 4)), o' 53 (.ld none (.t 52)), o' 54 (.call 39 [.t 53]), o' 55 (.not (.t 54)), m' 51 55] [1, 3, 4, 20, 21, 22, 51]) (c17x34)
def c17x36 : AC := .cond (.t 36) (c17x26) (c17x35)
def c17x37 : AC := .seq (.dreg [m' 37 3, o' 38 (.bin .gtr (.t 37) (i' 0)), m' 39 38, ⟨(some 40), .fad 0 (.t 4), (some (39, true))⟩, ⟨(some 41), .ld none (.t 40), (some (39, true))⟩, ⟨(some 42), .fad 1 (.t 1), (some (39, true))⟩, ⟨(some 43), .ld none (.t 42), (some (39, true))⟩, ⟨(some 44), .mv (.t 3), (some (39, true))⟩, ⟨(some 45), .bin .sub (.t 44) (i' 1), (some (39, true))⟩, ⟨(some 46), .idx 4 none (.t 43) (.t 45), (some (39, true))⟩, ⟨(some 47), .fad 0 (.t 46), (some (39, true))⟩, ⟨(some 48), .ld none (.t 47), (some (39, true))⟩, ⟨(some 49), .bin .leq (.t 41) (.t 48), (some (39, true))⟩, o' 50 (.pick (.t 39) (.t 49) (.k (.bool false))), m' 36 50] [[], [0], [0, 1], [0, 1, 2], [0, 1, 2, 3], [0, 1, 2], [0, 1, 2, 5], [0, 1, 2], [0, 1, 2, 7], [0, 1, 2, 5, 6, 7, 8], [0, 1, 2, 5, 6, 7, 8, 9], [0, 1, 2, 5, 6, 7, 8, 9, 10], [0, 1, 2, 3, 4, 5, 6, 7, 8, 9, 10, 11], [0, 1, 2, 3, 4, 5, 6, 7, 8, 9, 10, 11, 12], [0, 1, 2, 3, 4, 5, 6, 7, 8, 9, 10, 11, 12, 13]] [1, 3, 4, 20, 21, 22, 36]) (c17x36)
def c17x38 : AC := .cond (.t 27) (c17x25) (c17x37)
def c17x39 : AC := .seq (.reg [o' 28 (.fad 0 (.t 4)), o' 29 (.ld none (.t 28)), o' 30 (.bin .lss (.t 29) (i' 0)), m' 31 30, ⟨(some 32), .fad 0 (.t 4), (some (31, false))⟩, ⟨(some 33), .ld none (.t 32), (some (31, false))⟩, ⟨(some 34), .bin .gtr (.t 33) (i' 255), (some (31, false))⟩, o' 35 (.pick (.t 31) (.k (.bool true)) (.t 34)), m' 27 35] [1, 3, 4, 20, 21, 22, 27]) (c17x38)
def c17x40 : AC := .block 3 (c17x39)
def c17x41 : AC := .seq (c17x40) (c17x24)
def c17x42 : AC := .seq (.reg [m' 24 22, o' 25 (.idx 4 none (.t 20) (.t 22)), o' 26 (.ld (some 4) (.t 25)), o' 4 (.zero [(.int .i64 0), (.string ⟨#[]⟩), (.int .i64 0), (.slice none 0 0)]), m' 3 24, n' (.st 4 (.t 4) (.t 26))] [1, 3, 4, 20, 21, 22]) (c17x41)
def c17x43 : AC := .block 2 (c17x42)
def c17x44 : AC := .seq (c17x43) (c17x16)
def c17x45 : AC := .cond (.t 23) (.skip) (.exit 1)
def c17x46 : AC := .seq (c17x45) (c17x44)
def c17x47 : AC := .seq (.reg [o' 23 (.bin .lss (.t 22) (.t 21))] [1, 20, 21, 22, 23]) (c17x46)
def c17x48 : AC := .loop (c17x47)
def c17x49 : AC := .block 1 (c17x48)
def c17x50 : AC := .seq (.reg [o' 19 (.fad 1 (.t 1)), o' 20 (.ld none (.t 19)), o' 21 (.len (.t 20)), o' 22 (.mv (i' 0))] [1, 20, 21, 22]) (c17x49)
def c17x51 : AC := .seq (c17x50) (c17x15)
def c17x52 : AC := .seq (.reg [o' 2 (.mv (i' 15))] [2]) (.ret)
def c17x53 : AC := .seq (.reg [o' 2 (.mv (i' 2))] [2]) (.ret)
def c17x54 : AC := .cond (.t 14) (c17x53) (.skip)
def c17x55 : AC := .seq (.reg [o' 15 (.fad 1 (.t 1)), o' 16 (.ld none (.t 15)), o' 17 (.len (.t 16)), o' 18 (.bin .gtr (.t 17) (i' 256)), m' 14 18] [1, 14]) (c17x54)
def c17x56 : AC := .cond (.t 9) (c17x52) (c17x55)
def c17x57 : AC := .seq (.reg [o' 10 (.fad 0 (.t 1)), o' 11 (.ld none (.t 10)), o' 12 (.call 39 [.t 11]), o' 13 (.not (.t 12)), m' 9 13] [1, 9]) (c17x56)
def c17x58 : AC := .block 0 (c17x57)
def c17x59 : AC := .seq (c17x58) (c17x51)
def c17 : AC := .seq (.reg [o' 1 (.new 5 (.t 0)), o' 2 (.mv (i' 0))] [1]) (c17x59)
theorem k17 : Try.f17.body.bind (compC Try.prog Try.f17.ntmps v17) = some c17 := by kernel_rfl
theorem e17 : enters Try.prog 17 = true := by kernel_rfl
theorem q17 : Try.f17.results.toList.mapM (compRes Try.prog) = some r17 := by kernel_rfl
def v20 : List (Nat × List Nat) := [(0, [0]), (1, [3]), (2, [3, 4]), (3, [2]), (4, [3, 6]), (5, [3, 6]), (6, [3, 6]), (7, [2]), (8, [3, 10]), (9, [3, 10]), (10, [3, 10]), (11, [3, 10]), (12, [10]), (13, [2]), (14, [2])]
def r20 : List AR := [.t 2]
def c20x0 : AC := .seq (.reg [o' 2 (.mv (.k (.int .i64 (-1))))] [2]) (.ret)
def c20x1 : AC := .seq (.reg [o' 2 (.mv (i' 0))] [2]) (.ret)
def c20x2 : AC := .seq (.reg [o' 2 (.mv (i' 2))] [2]) (.ret)
def c20x3 : AC := .seq (.reg [o' 2 (.mv (i' 1))] [2]) (.ret)
def c20x4 : AC := .cond (.t 10) (c20x3) (.skip)
def c20x5 : AC := .reg [o' 15 (.bin .eql (.t 3) (i' 8)), m' 10 15] [10]
def c20x6 : AC := .cond (.t 10) (.skip) (c20x5)
def c20x7 : AC := .seq (.reg [o' 14 (.bin .eql (.t 3) (i' 7)), m' 10 14] [3, 10]) (c20x6)
def c20x8 : AC := .cond (.t 10) (.skip) (c20x7)
def c20x9 : AC := .seq (.reg [o' 13 (.bin .eql (.t 3) (i' 3)), m' 10 13] [3, 10]) (c20x8)
def c20x10 : AC := .cond (.t 10) (.skip) (c20x9)
def c20x11 : AC := .seq (.reg [o' 12 (.bin .eql (.t 3) (i' 2)), m' 10 12] [3, 10]) (c20x10)
def c20x12 : AC := .cond (.t 10) (.skip) (c20x11)
def c20x13 : AC := .seq (.reg [o' 11 (.bin .eql (.t 3) (i' 1)), m' 10 11] [3, 10]) (c20x12)
def c20x14 : AC := .seq (c20x13) (c20x4)
def c20x15 : AC := .cond (.t 6) (c20x2) (c20x14)
def c20x16 : AC := .reg [o' 9 (.bin .eql (.t 3) (i' 6)), m' 6 9] [3, 6]
def c20x17 : AC := .cond (.t 6) (.skip) (c20x16)
def c20x18 : AC := .seq (.reg [o' 8 (.bin .eql (.t 3) (i' 5)), m' 6 8] [3, 6]) (c20x17)
def c20x19 : AC := .cond (.t 6) (.skip) (c20x18)
def c20x20 : AC := .seq (.reg [o' 7 (.bin .eql (.t 3) (i' 4)), m' 6 7] [3, 6]) (c20x19)
def c20x21 : AC := .seq (c20x20) (c20x15)
def c20x22 : AC := .cond (.t 4) (c20x1) (c20x21)
def c20x23 : AC := .seq (.reg [o' 5 (.bin .eql (.t 3) (i' 0)), m' 4 5] [3, 4]) (c20x22)
def c20x24 : AC := .block 0 (c20x23)
def c20x25 : AC := .seq (.reg [m' 3 0] [3]) (c20x24)
def c20x26 : AC := .seq (c20x25) (c20x0)
def c20 : AC := .seq (.reg [o' 2 (.mv (i' 0))] [0]) (c20x26)
theorem k20 : Try.f20.body.bind (compC Try.prog Try.f20.ntmps v20) = some c20 := by kernel_rfl
theorem e20 : enters Try.prog 20 = true := by kernel_rfl
theorem q20 : Try.f20.results.toList.mapM (compRes Try.prog) = some r20 := by kernel_rfl
def v39 : List (Nat × List Nat) := [(0, [0]), (1, [0, 21]), (2, [2]), (3, [23, 24, 25]), (4, [23, 24, 25, 26]), (5, [4, 23, 24, 25]), (6, [23, 24, 25, 47]), (7, [2]), (8, [23, 24, 25]), (9, [2])]
def r39 : List AR := [.t 2]
def c39x0 : AC := .seq (.reg [o' 2 (.mv (.k (.bool true)))] [2]) (.ret)
def c39x1 : AC := .reg [o' 48 (.bin .add (.t 25) (i' 1)), m' 25 48] [23, 24, 25]
def c39x2 : AC := .seq (.reg [o' 2 (.mv (.k (.bool false)))] [2]) (.ret)
def c39x3 : AC := .cond (.t 47) (c39x2) (.skip)
def c39x4 : AC := .seq (.reg [m' 29 4, o' 30 (.bin .geq (.t 29) (.k (.int .u8 97))), m' 31 30, ⟨(some 32), .mv (.t 4), (some (31, true))⟩, ⟨(some 33), .bin .leq (.t 32) (.k (.int .u8 122)), (some (31, true))⟩, o' 34 (.pick (.t 31) (.t 33) (.k (.bool false))), m' 35 34, ⟨(some 36), .mv (.t 4), (some (35, false))⟩, ⟨(some 37), .bin .geq (.t 36) (.k (.int .u8 48)), (some (35, false))⟩, ⟨(some 38), .mv (.t 37), (some (35, false))⟩, ⟨(some 39), .mv (.t 4), (some (38, true))⟩, ⟨(some 40), .bin .leq (.t 39) (.k (.int .u8 57)), (some (38, true))⟩, ⟨(some 41), .pick (.t 38) (.t 40) (.k (.bool false)), (some (35, false))⟩, o' 42 (.pick (.t 35) (.k (.bool true)) (.t 41)), m' 43 42, ⟨(some 44), .mv (.t 4), (some (43, false))⟩, ⟨(some 45), .bin .eql (.t 44) (.k (.int .u8 45)), (some (43, false))⟩, o' 46 (.pick (.t 43) (.k (.bool true)) (.t 45)), o' 47 (.not (.t 46))] [23, 24, 25, 47]) (c39x3)
def c39x5 : AC := .seq (.reg [o' 27 (.idx 1 none (.t 23) (.t 25)), o' 28 (.ld none (.t 27)), m' 4 28] [4, 23, 24, 25]) (c39x4)
def c39x6 : AC := .block 1 (c39x5)
def c39x7 : AC := .seq (c39x6) (c39x1)
def c39x8 : AC := .cond (.t 26) (.skip) (.exit 0)
def c39x9 : AC := .seq (c39x8) (c39x7)
def c39x10 : AC := .seq (.reg [o' 26 (.bin .lss (.t 25) (.t 24))] [23, 24, 25, 26]) (c39x9)
def c39x11 : AC := .loop (c39x10)
def c39x12 : AC := .block 0 (c39x11)
def c39x13 : AC := .seq (.reg [m' 22 0, o' 23 (.s2b (.t 22)), o' 24 (.len (.t 23)), o' 25 (.mv (i' 0))] [23, 24, 25]) (c39x12)
def c39x14 : AC := .seq (c39x13) (c39x0)
def c39x15 : AC := .seq (.reg [o' 2 (.mv (.k (.bool false)))] [2]) (.ret)
def c39x16 : AC := .cond (.t 21) (c39x15) (.skip)
def c39x17 : AC := .seq (.reg [m' 5 0, o' 6 (.bin .eql (.t 5) (.k (.string ⟨#[]⟩))), m' 7 6, ⟨(some 8), .mv (.t 0), (some (7, false))⟩, ⟨(some 9), .lens (.t 8), (some (7, false))⟩, ⟨(some 10), .bin .gtr (.t 9) (i' 20), (some (7, false))⟩, o' 11 (.pick (.t 7) (.k (.bool true)) (.t 10)), m' 12 11, ⟨(some 13), .mv (.t 0), (some (12, false))⟩, ⟨(some 14), .ixs (.t 13) (i' 0), (some (12, false))⟩, ⟨(some 15), .bin .lss (.t 14) (.k (.int .u8 97)), (some (12, false))⟩, o' 16 (.pick (.t 12) (.k (.bool true)) (.t 15)), m' 17 16, ⟨(some 18), .mv (.t 0), (some (17, false))⟩, ⟨(some 19), .ixs (.t 18) (i' 0), (some (17, false))⟩, ⟨(some 20), .bin .gtr (.t 19) (.k (.int .u8 122)), (some (17, false))⟩, o' 21 (.pick (.t 17) (.k (.bool true)) (.t 20))] [0, 21]) (c39x16)
def c39x18 : AC := .seq (c39x17) (c39x14)
def c39 : AC := .seq (.reg [o' 2 (.mv (.k (.bool false)))] [0]) (c39x18)
theorem k39 : Try.f39.body.bind (compC Try.prog Try.f39.ntmps v39) = some c39 := by kernel_rfl
theorem e39 : enters Try.prog 39 = true := by kernel_rfl
theorem q39 : Try.f39.results.toList.mapM (compRes Try.prog) = some r39 := by kernel_rfl
def v41 : List (Nat × List Nat) := [(0, [1, 2]), (1, [3])]
def r41 : List AR := [.t 3]
def c41x0 : AC := .seq (.reg [o' 4 (.fad 1 (.t 2)), o' 5 (.ld none (.t 4)), o' 6 (.fad 1 (.t 1)), o' 7 (.ld none (.t 6)), o' 8 (.bin .eql (.t 5) (.t 7)), m' 9 8, ⟨(some 10), .fad 2 (.t 2), (some (9, true))⟩, ⟨(some 11), .ld none (.t 10), (some (9, true))⟩, ⟨(some 12), .fad 2 (.t 1), (some (9, true))⟩, ⟨(some 13), .ld none (.t 12), (some (9, true))⟩, ⟨(some 14), .bin .eql (.t 11) (.t 13), (some (9, true))⟩, o' 15 (.pick (.t 9) (.t 14) (.k (.bool false))), m' 3 15] [3]) (.ret)
def c41 : AC := .seq (.reg [o' 2 (.new 4 (.t 0)), o' 3 (.mv (.k (.bool false)))] [1, 2]) (c41x0)
theorem k41 : Try.f41.body.bind (compC Try.prog Try.f41.ntmps v41) = some c41 := by kernel_rfl
theorem e41 : enters Try.prog 41 = true := by kernel_rfl
theorem q41 : Try.f41.results.toList.mapM (compRes Try.prog) = some r41 := by kernel_rfl
def v42 : List (Nat × List Nat) := [(0, [0]), (1, [0, 8]), (2, [2]), (3, [9, 10, 11]), (4, [9, 10, 11, 12]), (5, [4, 9, 10, 11]), (6, [5, 9, 10, 11]), (7, [5, 9, 10, 11, 18]), (8, [2]), (9, [9, 10, 11]), (10, [2])]
def r42 : List AR := [.t 2]
def c42x0 : AC := .seq (.reg [o' 2 (.mv (i' 0))] [2]) (.ret)
def c42x1 : AC := .reg [o' 20 (.bin .add (.t 11) (i' 1)), m' 11 20] [9, 10, 11]
def c42x2 : AC := .seq (.reg [m' 19 5, m' 2 19] [2]) (.ret)
def c42x3 : AC := .cond (.t 18) (c42x2) (.skip)
def c42x4 : AC := .seq (.reg [m' 17 5, o' 18 (.bin .neq (.t 17) (i' 0))] [5, 9, 10, 11, 18]) (c42x3)
def c42x5 : AC := .seq (.reg [o' 15 (.ld (some 4) (.t 4)), o' 16 (.call 76 [.t 15]), m' 5 16] [5, 9, 10, 11]) (c42x4)
def c42x6 : AC := .seq (.reg [o' 13 (.idx 4 none (.t 9) (.t 11)), o' 14 (.ld (some 4) (.t 13)), o' 4 (.zero [(.int .i64 0), (.int .i64 0), (.int .i64 0), (.slice none 0 0)]), n' (.st 4 (.t 4) (.t 14))] [4, 9, 10, 11]) (c42x5)
def c42x7 : AC := .block 1 (c42x6)
def c42x8 : AC := .seq (c42x7) (c42x1)
def c42x9 : AC := .cond (.t 12) (.skip) (.exit 0)
def c42x10 : AC := .seq (c42x9) (c42x8)
def c42x11 : AC := .seq (.reg [o' 12 (.bin .lss (.t 11) (.t 10))] [9, 10, 11, 12]) (c42x10)
def c42x12 : AC := .loop (c42x11)
def c42x13 : AC := .block 0 (c42x12)
def c42x14 : AC := .seq (.reg [m' 9 0, o' 10 (.len (.t 9)), o' 11 (.mv (i' 0))] [9, 10, 11]) (c42x13)
def c42x15 : AC := .seq (c42x14) (c42x0)
def c42x16 : AC := .seq (.reg [o' 2 (.mv (i' 2))] [2]) (.ret)
def c42x17 : AC := .cond (.t 8) (c42x16) (.skip)
def c42x18 : AC := .seq (.reg [m' 6 0, o' 7 (.len (.t 6)), o' 8 (.bin .gtr (.t 7) (i' 8))] [0, 8]) (c42x17)
def c42x19 : AC := .seq (c42x18) (c42x15)
def c42 : AC := .seq (.reg [o' 2 (.mv (i' 0))] [0]) (c42x19)
theorem k42 : Try.f42.body.bind (compC Try.prog Try.f42.ntmps v42) = some c42 := by kernel_rfl
theorem e42 : enters Try.prog 42 = true := by kernel_rfl
theorem q42 : Try.f42.results.toList.mapM (compRes Try.prog) = some r42 := by kernel_rfl
def v43 : List (Nat × List Nat) := [(0, [0]), (1, [0, 3]), (2, [3, 6, 7, 8]), (3, [3, 6, 7, 8, 9]), (4, [3, 5, 6, 7, 8]), (5, [3, 6, 7, 8, 19]), (6, [3, 6, 7, 8]), (7, [3, 6, 7, 8]), (8, [2])]
def r43 : List AR := [.t 2]
def c43x0 : AC := .seq (.reg [m' 23 3, m' 2 23] [2]) (.ret)
def c43x1 : AC := .reg [o' 22 (.bin .add (.t 8) (i' 1)), m' 8 22] [3, 6, 7, 8]
def c43x2 : AC := .reg [m' 20 3, o' 21 (.bin .add (.t 20) (i' 1)), m' 3 21] [3, 6, 7, 8]
def c43x3 : AC := .cond (.t 19) (c43x2) (.skip)
def c43x4 : AC := .seq (.reg [o' 12 (.fad 0 (.t 5)), o' 13 (.ld none (.t 12)), o' 14 (.bin .eql (.t 13) (i' 1)), m' 15 14, ⟨(some 16), .fad 1 (.t 5), (some (15, true))⟩, ⟨(some 17), .ld none (.t 16), (some (15, true))⟩, ⟨(some 18), .bin .eql (.t 17) (i' 0), (some (15, true))⟩, o' 19 (.pick (.t 15) (.t 18) (.k (.bool false)))] [3, 6, 7, 8, 19]) (c43x3)
def c43x5 : AC := .seq (.reg [o' 10 (.idx 4 none (.t 6) (.t 8)), o' 11 (.ld (some 4) (.t 10)), o' 5 (.zero [(.int .i64 0), (.int .i64 0), (.int .i64 0), (.slice none 0 0)]), n' (.st 4 (.t 5) (.t 11))] [3, 5, 6, 7, 8]) (c43x4)
def c43x6 : AC := .block 1 (c43x5)
def c43x7 : AC := .seq (c43x6) (c43x1)
def c43x8 : AC := .cond (.t 9) (.skip) (.exit 0)
def c43x9 : AC := .seq (c43x8) (c43x7)
def c43x10 : AC := .seq (.reg [o' 9 (.bin .lss (.t 8) (.t 7))] [3, 6, 7, 8, 9]) (c43x9)
def c43x11 : AC := .loop (c43x10)
def c43x12 : AC := .block 0 (c43x11)
def c43x13 : AC := .seq (.reg [m' 6 0, o' 7 (.len (.t 6)), o' 8 (.mv (i' 0))] [3, 6, 7, 8]) (c43x12)
def c43x14 : AC := .seq (c43x13) (c43x0)
def c43x15 : AC := .seq (.reg [o' 3 (.mv (i' 0))] [0, 3]) (c43x14)
def c43 : AC := .seq (.reg [o' 2 (.mv (i' 0))] [0]) (c43x15)
theorem k43 : Try.f43.body.bind (compC Try.prog Try.f43.ntmps v43) = some c43 := by kernel_rfl
theorem e43 : enters Try.prog 43 = true := by kernel_rfl
theorem q43 : Try.f43.results.toList.mapM (compRes Try.prog) = some r43 := by kernel_rfl
def v55 : List (Nat × List Nat) := [(0, [1, 2]), (1, [1, 2]), (2, [2])]
def r55 : List AR := [.cell (some 4) 2]
def c55x0 : AC := .seq (.reg [o' 7 (.ld (some 4) (.t 1)), n' (.st 4 (.t 2) (.t 7))] [2]) (.ret)
def c55x1 : AC := .seq (.reg [o' 3 (.fad 3 (.t 1)), o' 4 (.ld none (.t 3)), o' 5 (.call 93 [.t 4]), o' 6 (.fad 3 (.t 1)), n' (.st 1 (.t 6) (.t 5))] [1, 2]) (c55x0)
def c55 : AC := .seq (.reg [o' 1 (.new 4 (.t 0)), o' 2 (.zero [(.int .i64 0), (.string ⟨#[]⟩), (.int .i64 0), (.slice none 0 0)])] [1, 2]) (c55x1)
def v76 : List (Nat × List Nat) := [(0, [1]), (1, [1, 6]), (2, [2]), (3, [1, 15]), (4, [2]), (5, [1, 29]), (6, [2]), (7, [1, 49]), (8, [2]), (9, [55, 56, 57]), (10, [55, 56, 57, 58]), (11, [4, 55, 56, 57]), (12, [5, 55, 56, 57]), (13, [5, 55, 56, 57, 64]), (14, [2]), (15, [55, 56, 57]), (16, [2])]
def r76 : List AR := [.t 2]
def c76x0 : AC := .seq (.reg [o' 2 (.mv (i' 0))] [2]) (.ret)
def c76x1 : AC := .reg [o' 66 (.bin .add (.t 57) (i' 1)), m' 57 66] [55, 56, 57]
def c76x2 : AC := .seq (.reg [m' 65 5, m' 2 65] [2]) (.ret)
def c76x3 : AC := .cond (.t 64) (c76x2) (.skip)
def c76x4 : AC := .seq (.reg [m' 63 5, o' 64 (.bin .neq (.t 63) (i' 0))] [5, 55, 56, 57, 64]) (c76x3)
def c76x5 : AC := .seq (.reg [o' 61 (.ld (some 4) (.t 4)), o' 62 (.call 133 [.t 61]), m' 5 62] [5, 55, 56, 57]) (c76x4)
def c76x6 : AC := .seq (.reg [o' 59 (.idx 4 none (.t 55) (.t 57)), o' 60 (.ld (some 4) (.t 59)), o' 4 (.zero [(.int .i64 0), (.int .i64 0), (.int .i64 0), (.int .i64 0)]), n' (.st 4 (.t 4) (.t 60))] [4, 55, 56, 57]) (c76x5)
def c76x7 : AC := .block 2 (c76x6)
def c76x8 : AC := .seq (c76x7) (c76x1)
def c76x9 : AC := .cond (.t 58) (.skip) (.exit 1)
def c76x10 : AC := .seq (c76x9) (c76x8)
def c76x11 : AC := .seq (.reg [o' 58 (.bin .lss (.t 57) (.t 56))] [55, 56, 57, 58]) (c76x10)
def c76x12 : AC := .loop (c76x11)
def c76x13 : AC := .block 1 (c76x12)
def c76x14 : AC := .seq (.reg [o' 54 (.fad 3 (.t 1)), o' 55 (.ld none (.t 54)), o' 56 (.len (.t 55)), o' 57 (.mv (i' 0))] [55, 56, 57]) (c76x13)
def c76x15 : AC := .seq (c76x14) (c76x0)
def c76x16 : AC := .seq (.reg [o' 2 (.mv (i' 8))] [2]) (.ret)
def c76x17 : AC := .seq (.reg [o' 2 (.mv (i' 3))] [2]) (.ret)
def c76x18 : AC := .seq (.reg [o' 2 (.mv (i' 1))] [2]) (.ret)
def c76x19 : AC := .seq (.reg [o' 2 (.mv (i' 2))] [2]) (.ret)
def c76x20 : AC := .cond (.t 49) (c76x19) (.skip)
def c76x21 : AC := .seq (.reg [o' 50 (.fad 3 (.t 1)), o' 51 (.ld none (.t 50)), o' 52 (.len (.t 51)), o' 53 (.bin .gtr (.t 52) (i' 6)), m' 49 53] [1, 49]) (c76x20)
def c76x22 : AC := .cond (.t 29) (c76x18) (c76x21)
def c76x23 : AC := .seq (.reg [o' 30 (.fad 1 (.t 1)), o' 31 (.ld none (.t 30)), o' 32 (.bin .lss (.t 31) (i' 0)), m' 33 32, ⟨(some 34), .fad 1 (.t 1), (some (33, false))⟩, ⟨(some 35), .ld none (.t 34), (some (33, false))⟩, ⟨(some 36), .bin .geq (.t 35) (i' 12), (some (33, false))⟩, o' 37 (.pick (.t 33) (.k (.bool true)) (.t 36)), m' 38 37, ⟨(some 39), .fad 2 (.t 1), (some (38, false))⟩, ⟨(some 40), .ld none (.t 39), (some (38, false))⟩, ⟨(some 41), .call 131 [.t 40], (some (38, false))⟩, ⟨(some 42), .not (.t 41), (some (38, false))⟩, o' 43 (.pick (.t 38) (.k (.bool true)) (.t 42)), m' 44 43, ⟨(some 45), .fad 2 (.t 1), (some (44, false))⟩, ⟨(some 46), .ld none (.t 45), (some (44, false))⟩, ⟨(some 47), .call 132 [.t 46], (some (44, false))⟩, o' 48 (.pick (.t 44) (.k (.bool true)) (.t 47)), m' 29 48] [1, 29]) (c76x22)
def c76x24 : AC := .cond (.t 15) (c76x17) (c76x23)
def c76x25 : AC := .seq (.reg [o' 16 (.fad 0 (.t 1)), o' 17 (.ld none (.t 16)), o' 18 (.bin .eql (.t 17) (i' 0)), m' 19 18, ⟨(some 20), .fad 1 (.t 1), (some (19, true))⟩, ⟨(some 21), .ld none (.t 20), (some (19, true))⟩, ⟨(some 22), .bin .neq (.t 21) (i' 0), (some (19, true))⟩, ⟨(some 23), .mv (.t 22), (some (19, true))⟩, ⟨(some 24), .fad 2 (.t 1), (some (23, false))⟩, ⟨(some 25), .ld none (.t 24), (some (23, false))⟩, ⟨(some 26), .bin .neq (.t 25) (i' 0), (some (23, false))⟩, ⟨(some 27), .pick (.t 23) (.k (.bool true)) (.t 26), (some (19, true))⟩, o' 28 (.pick (.t 19) (.t 27) (.k (.bool false))), m' 15 28] [1, 15]) (c76x24)
def c76x26 : AC := .cond (.t 6) (c76x16) (c76x25)
def c76x27 : AC := .seq (.reg [o' 7 (.fad 0 (.t 1)), o' 8 (.ld none (.t 7)), o' 9 (.bin .lss (.t 8) (i' 0)), m' 10 9, ⟨(some 11), .fad 0 (.t 1), (some (10, false))⟩, ⟨(some 12), .ld none (.t 11), (some (10, false))⟩, ⟨(some 13), .bin .gtr (.t 12) (i' 2), (some (10, false))⟩, o' 14 (.pick (.t 10) (.k (.bool true)) (.t 13)), m' 6 14] [1, 6]) (c76x26)
def c76x28 : AC := .block 0 (c76x27)
def c76x29 : AC := .seq (c76x28) (c76x15)
def c76 : AC := .seq (.reg [o' 1 (.new 4 (.t 0)), o' 2 (.mv (i' 0))] [1]) (c76x29)
theorem k76 : Try.f76.body.bind (compC Try.prog Try.f76.ntmps v76) = some c76 := by kernel_rfl
theorem e76 : enters Try.prog 76 = true := by kernel_rfl
theorem q76 : Try.f76.results.toList.mapM (compRes Try.prog) = some r76 := by kernel_rfl
def v93 : List (Nat × List Nat) := [(0, [0]), (1, [3]), (2, [3, 8, 9]), (3, [3, 8, 9, 10]), (4, [3, 4, 8, 9]), (5, [3, 8, 9]), (6, [3, 8, 9]), (7, [2])]
def r93 : List AR := [.t 2]
def c93x0 : AC := .seq (.reg [m' 23 3, m' 2 23] [2]) (.ret)
def c93x1 : AC := .reg [o' 22 (.bin .add (.t 9) (i' 1)), m' 9 22] [3, 8, 9]
def c93x2 : AC := .reg [m' 12 3, m' 13 4, m' 14 3, m' 15 4, o' 16 (.idx 4 none (.t 14) (.t 15)), o' 17 (.fad 3 (.t 16)), o' 18 (.ld none (.t 17)), o' 19 (.call 149 [.t 18]), o' 20 (.idx 4 none (.t 12) (.t 13)), o' 21 (.fad 3 (.t 20)), n' (.st 1 (.t 21) (.t 19))] [3, 8, 9]
def c93x3 : AC := .seq (.reg [m' 11 9, m' 4 11] [3, 4, 8, 9]) (c93x2)
def c93x4 : AC := .block 1 (c93x3)
def c93x5 : AC := .seq (c93x4) (c93x1)
def c93x6 : AC := .cond (.t 10) (.skip) (.exit 0)
def c93x7 : AC := .seq (c93x6) (c93x5)
def c93x8 : AC := .seq (.reg [o' 10 (.bin .lss (.t 9) (.t 8))] [3, 8, 9, 10]) (c93x7)
def c93x9 : AC := .loop (c93x8)
def c93x10 : AC := .block 0 (c93x9)
def c93x11 : AC := .seq (.reg [m' 7 3, o' 8 (.len (.t 7)), o' 9 (.mv (i' 0))] [3, 8, 9]) (c93x10)
def c93x12 : AC := .seq (c93x11) (c93x0)
def c93x13 : AC := .seq (.reg [m' 5 0, o' 6 (.call 148 [.t 5]), m' 3 6] [3]) (c93x12)
def c93 : AC := .seq (.reg [o' 2 (.mv (.k (.slice none 0 0)))] [0]) (c93x13)
def v131 : List (Nat × List Nat) := [(0, [0]), (1, [2])]
def r131 : List AR := [.t 2]
def c131x0 : AC := .seq (.reg [m' 3 0, o' 4 (.bin .geq (.t 3) (i' 0)), m' 5 4, ⟨(some 6), .mv (.t 0), (some (5, true))⟩, ⟨(some 7), .bin .lss (.t 6) (i' 9), (some (5, true))⟩, o' 8 (.pick (.t 5) (.t 7) (.k (.bool false))), m' 2 8] [2]) (.ret)
def c131 : AC := .seq (.reg [o' 2 (.mv (.k (.bool false)))] [0]) (c131x0)
theorem k131 : Try.f131.body.bind (compC Try.prog Try.f131.ntmps v131) = some c131 := by kernel_rfl
theorem e131 : enters Try.prog 131 = true := by kernel_rfl
theorem q131 : Try.f131.results.toList.mapM (compRes Try.prog) = some r131 := by kernel_rfl
def v132 : List (Nat × List Nat) := [(0, [0]), (1, [2])]
def r132 : List AR := [.t 2]
def c132x0 : AC := .seq (.reg [m' 3 0, o' 4 (.bin .eql (.t 3) (i' 7)), m' 5 4, ⟨(some 6), .mv (.t 0), (some (5, false))⟩, ⟨(some 7), .bin .eql (.t 6) (i' 8), (some (5, false))⟩, o' 8 (.pick (.t 5) (.k (.bool true)) (.t 7)), m' 2 8] [2]) (.ret)
def c132 : AC := .seq (.reg [o' 2 (.mv (.k (.bool false)))] [0]) (c132x0)
theorem k132 : Try.f132.body.bind (compC Try.prog Try.f132.ntmps v132) = some c132 := by kernel_rfl
theorem e132 : enters Try.prog 132 = true := by kernel_rfl
theorem q132 : Try.f132.results.toList.mapM (compRes Try.prog) = some r132 := by kernel_rfl
def v133 : List (Nat × List Nat) := [(0, [1]), (1, [1, 14]), (2, [2]), (3, [1, 17]), (4, [40]), (5, [2]), (6, [2]), (7, [1, 3, 4, 5]), (8, [1, 3, 4, 5, 6]), (9, [1, 3, 4, 5, 6, 60]), (10, [1, 3, 4, 5, 6]), (11, [1, 3, 4, 6, 62]), (12, [1, 3, 4, 6]), (13, [98]), (14, [2]), (15, [2])]
def r133 : List AR := [.t 2]
def c133x0 : AC := .seq (.reg [o' 2 (.mv (i' 0))] [2]) (.ret)
def c133x1 : AC := .seq (.reg [o' 2 (.mv (i' 1))] [2]) (.ret)
def c133x2 : AC := .cond (.t 98) (c133x1) (.skip)
def c133x3 : AC := .seq (.dreg [o' 63 (.fad 1 (.t 1)), o' 64 (.ld none (.t 63)), m' 65 3, o' 66 (.call 167 [.t 64, .t 65]), o' 67 (.not (.t 66)), m' 68 67, ⟨(some 69), .fad 2 (.t 1), (some (68, false))⟩, ⟨(some 70), .ld none (.t 69), (some (68, false))⟩, ⟨(some 71), .mv (.t 4), (some (68, false))⟩, ⟨(some 72), .call 167 [.t 70, .t 71], (some (68, false))⟩, ⟨(some 73), .not (.t 72), (some (68, false))⟩, o' 74 (.pick (.t 68) (.k (.bool true)) (.t 73)), m' 75 74, ⟨(some 76), .mv (.t 3), (some (75, false))⟩, ⟨(some 77), .bin .eql (.t 76) (.k (.int .u8 115)), (some (75, false))⟩, ⟨(some 78), .mv (.t 77), (some (75, false))⟩, ⟨(some 79), .fad 1 (.t 1), (some (78, true))⟩, ⟨(some 80), .ld none (.t 79), (some (78, true))⟩, ⟨(some 81), .call 132 [.t 80], (some (78, true))⟩, ⟨(some 82), .fad 2 (.t 1), (some (78, true))⟩, ⟨(some 83), .ld none (.t 82), (some (78, true))⟩, ⟨(some 84), .call 132 [.t 83], (some (78, true))⟩, ⟨(some 85), .eqb true (.t 81) (.t 84), (some (78, true))⟩, ⟨(some 86), .pick (.t 78) (.t 85) (.k (.bool false)), (some (75, false))⟩, o' 87 (.pick (.t 75) (.k (.bool true)) (.t 86)), m' 88 87, ⟨(some 89), .fad 3 (.t 1), (some (88, false))⟩, ⟨(some 90), .ld none (.t 89), (some (88, false))⟩, ⟨(some 91), .bin .lss (.t 90) (i' 0), (some (88, false))⟩, o' 92 (.pick (.t 88) (.k (.bool true)) (.t 91)), m' 93 92, ⟨(some 94), .fad 3 (.t 1), (some (93, false))⟩, ⟨(some 95), .ld none (.t 94), (some (93, false))⟩, ⟨(some 96), .mv (.t 6), (some (93, false))⟩, ⟨(some 97), .bin .gtr (.t 95) (.t 96), (some (93, false))⟩, o' 98 (.pick (.t 93) (.k (.bool true)) (.t 97))] [[], [0], [], [0, 1, 2], [0, 1, 2, 3], [0, 1, 2, 3, 4], [0, 1, 2, 3, 4, 5], [0, 1, 2, 3, 4, 5, 6], [0, 1, 2, 3, 4, 5], [0, 1, 2, 3, 4, 5, 6, 7, 8], [0, 1, 2, 3, 4, 5, 6, 7, 8, 9], [0, 1, 2, 3, 4, 5, 6, 7, 8, 9, 10], [0, 1, 2, 3, 4, 5, 6, 7, 8, 9, 10, 11], [0, 1, 2, 3, 4, 5, 6, 7, 8, 9, 10, 11, 12], [0, 1, 2, 3, 4, 5, 6, 7, 8, 9, 10, 11, 12, 13], [0, 1, 2, 3, 4, 5, 6, 7, 8, 9, 10, 11, 12, 13, 14], [0, 1, 2, 3, 4, 5, 6, 7, 8, 9, 10, 11, 12, 13, 14, 15], [0, 1, 2, 3, 4, 5, 6, 7, 8, 9, 10, 11, 12, 13, 14, 15, 16], [0, 1, 2, 3, 4, 5, 6, 7, 8, 9, 10, 11, 12, 13, 14, 15, 16, 17], [0, 1, 2, 3, 4, 5, 6, 7, 8, 9, 10, 11, 12, 13, 14, 15], [0, 1, 2, 3, 4, 5, 6, 7, 8, 9, 10, 11, 12, 13, 14, 15, 19], [0, 1, 2, 3, 4, 5, 6, 7, 8, 9, 10, 11, 12, 13, 14, 15, 16, 17, 18, 19, 20], [0, 1, 2, 3, 4, 5, 6, 7, 8, 9, 10, 11, 12, 13, 14, 15, 16, 17, 18, 19, 20, 21], [0, 1, 2, 3, 4, 5, 6, 7, 8, 9, 10, 11, 12, 13, 14, 15, 16, 17, 18, 19, 20, 21, 22], [0, 1, 2, 3, 4, 5, 6, 7, 8, 9, 10, 11, 12, 13, 14, 15, 16, 17, 18, 19, 20, 21, 22, 23], [0, 1, 2, 3, 4, 5, 6, 7, 8, 9, 10, 11, 12, 13, 14, 15, 16, 17, 18, 19, 20, 21, 22, 23, 24], [0, 1, 2, 3, 4, 5, 6, 7, 8, 9, 10, 11, 12, 13, 14, 15, 16, 17, 18, 19, 20, 21, 22, 23, 24, 25], [0, 1, 2, 3, 4, 5, 6, 7, 8, 9, 10, 11, 12, 13, 14, 15, 16, 17, 18, 19, 20, 21, 22, 23, 24, 25, 26], [0, 1, 2, 3, 4, 5, 6, 7, 8, 9, 10, 11, 12, 13, 14, 15, 16, 17, 18, 19, 20, 21, 22, 23, 24, 25, 26, 27], [0, 1, 2, 3, 4, 5, 6, 7, 8, 9, 10, 11, 12, 13, 14, 15, 16, 17, 18, 19, 20, 21, 22, 23, 24, 25, 26, 27, 28], [0, 1, 2, 3, 4, 5, 6, 7, 8, 9, 10, 11, 12, 13, 14, 15, 16, 17, 18, 19, 20, 21, 22, 23, 24, 25, 26, 27, 28, 29], [0, 1, 2, 3, 4, 5, 6, 7, 8, 9, 10, 11, 12, 13, 14, 15, 16, 17, 18, 19, 20, 21, 22, 23, 24, 25, 26, 27, 28, 29, 30], [0, 1, 2, 3, 4, 5, 6, 7, 8, 9, 10, 11, 12, 13, 14, 15, 16, 17, 18, 19, 20, 21, 22, 23, 24, 25, 26, 27, 28, 29, 30, 31], [0, 1, 2, 3, 4, 5, 6, 7, 8, 9, 10, 11, 12, 13, 14, 15, 16, 17, 18, 19, 20, 21, 22, 23, 24, 25, 26, 27, 28, 29, 30], [0, 1, 2, 3, 4, 5, 6, 7, 8, 9, 10, 11, 12, 13, 14, 15, 16, 17, 18, 19, 20, 21, 22, 23, 24, 25, 26, 27, 28, 29, 30, 31, 32, 33], [0, 1, 2, 3, 4, 5, 6, 7, 8, 9, 10, 11, 12, 13, 14, 15, 16, 17, 18, 19, 20, 21, 22, 23, 24, 25, 26, 27, 28, 29, 30, 31, 32, 33, 34]] [98]) (c133x2)
def c133x4 : AC := .seq (c133x3) (c133x0)
def c133x5 : AC := .reg [o' 6 (.mv (i' 0))] [1, 3, 4, 6]
def c133x6 : AC := .cond (.t 62) (c133x5) (.skip)
def c133x7 : AC := .seq (.reg [m' 61 5, o' 62 (.not (.t 61))] [1, 3, 4, 6, 62]) (c133x6)
def c133x8 : AC := .seq (c133x7) (c133x4)
def c133x9 : AC := .reg [o' 6 (.mv (i' 65535))] [1, 3, 4, 5, 6]
def c133x10 : AC := .cond (.t 60) (c133x9) (.skip)
def c133x11 : AC := .seq (.reg [o' 48 (.fad 0 (.t 1)), o' 49 (.ld none (.t 48)), o' 50 (.bin .eql (.t 49) (i' 2)), m' 51 50, ⟨(some 52), .fad 1 (.t 1), (some (51, true))⟩, ⟨(some 53), .ld none (.t 52), (some (51, true))⟩, ⟨(some 54), .call 131 [.t 53], (some (51, true))⟩, o' 55 (.pick (.t 51) (.t 54) (.k (.bool false))), m' 56 55, ⟨(some 57), .fad 1 (.t 1), (some (56, true))⟩, ⟨(some 58), .ld none (.t 57), (some (56, true))⟩, ⟨(some 59), .call 132 [.t 58], (some (56, true))⟩, o' 60 (.pick (.t 56) (.t 59) (.k (.bool false)))] [1, 3, 4, 5, 6, 60]) (c133x10)
def c133x12 : AC := .seq (c133x11) (c133x8)
def c133x13 : AC := .seq (.reg [o' 6 (.mv (i' 255))] [1, 3, 4, 5, 6]) (c133x12)
def c133x14 : AC := .seq (.reg [o' 42 (.fad 0 (.t 1)), o' 43 (.ld none (.t 42)), o' 44 (.call 166 [.t 43]), m' 41 44, o' 45 (.ext (.t 41) 0), o' 46 (.ext (.t 41) 1), o' 47 (.ext (.t 41) 2), m' 3 45, m' 4 46, m' 5 47] [1, 3, 4, 5]) (c133x13)
def c133x15 : AC := .seq (.reg [o' 2 (.mv (i' 0))] [2]) (.ret)
def c133x16 : AC := .seq (.reg [o' 2 (.mv (i' 1))] [2]) (.ret)
def c133x17 : AC := .cond (.t 40) (c133x16) (.skip)
def c133x18 : AC := .seq (.reg [o' 18 (.fad 1 (.t 1)), o' 19 (.ld none (.t 18)), o' 20 (.bin .neq (.t 19) (i' 0)), m' 21 20, ⟨(some 22), .fad 2 (.t 1), (some (21, false))⟩, ⟨(some 23), .ld none (.t 22), (some (21, false))⟩, ⟨(some 24), .bin .lss (.t 23) (i' 0), (some (21, false))⟩, o' 25 (.pick (.t 21) (.k (.bool true)) (.t 24)), m' 26 25, ⟨(some 27), .fad 2 (.t 1), (some (26, false))⟩, ⟨(some 28), .ld none (.t 27), (some (26, false))⟩, ⟨(some 29), .bin .gtr (.t 28) (i' 1), (some (26, false))⟩, o' 30 (.pick (.t 26) (.k (.bool true)) (.t 29)), m' 31 30, ⟨(some 32), .fad 3 (.t 1), (some (31, false))⟩, ⟨(some 33), .ld none (.t 32), (some (31, false))⟩, ⟨(some 34), .bin .lss (.t 33) (i' 0), (some (31, false))⟩, o' 35 (.pick (.t 31) (.k (.bool true)) (.t 34)), m' 36 35, ⟨(some 37), .fad 3 (.t 1), (some (36, false))⟩, ⟨(some 38), .ld none (.t 37), (some (36, false))⟩, ⟨(some 39), .bin .gtr (.t 38) (i' 255), (some (36, false))⟩, o' 40 (.pick (.t 36) (.k (.bool true)) (.t 39))] [40]) (c133x17)
def c133x19 : AC := .seq (c133x18) (c133x15)
def c133x20 : AC := .cond (.t 17) (c133x19) (.skip)
def c133x21 : AC := .seq (.reg [o' 15 (.fad 0 (.t 1)), o' 16 (.ld none (.t 15)), o' 17 (.bin .eql (.t 16) (i' 24))] [1, 17]) (c133x20)
def c133x22 : AC := .seq (c133x21) (c133x14)
def c133x23 : AC := .seq (.reg [o' 2 (.mv (i' 8))] [2]) (.ret)
def c133x24 : AC := .cond (.t 14) (c133x23) (.skip)
def c133x25 : AC := .seq (.reg [o' 7 (.fad 0 (.t 1)), o' 8 (.ld none (.t 7)), o' 9 (.bin .lss (.t 8) (i' 0)), m' 10 9, ⟨(some 11), .fad 0 (.t 1), (some (10, false))⟩, ⟨(some 12), .ld none (.t 11), (some (10, false))⟩, ⟨(some 13), .bin .geq (.t 12) (i' 25), (some (10, false))⟩, o' 14 (.pick (.t 10) (.k (.bool true)) (.t 13))] [1, 14]) (c133x24)
def c133x26 : AC := .seq (c133x25) (c133x22)
def c133 : AC := .seq (.reg [o' 1 (.new 4 (.t 0)), o' 2 (.mv (i' 0))] [1]) (c133x26)
theorem k133 : Try.f133.body.bind (compC Try.prog Try.f133.ntmps v133) = some c133 := by kernel_rfl
theorem e133 : enters Try.prog 133 = true := by kernel_rfl
theorem q133 : Try.f133.results.toList.mapM (compRes Try.prog) = some r133 := by kernel_rfl
def v166 : List (Nat × List Nat) := [(0, [0]), (1, [5]), (2, [5, 6]), (3, [2, 3, 4]), (4, [5, 8]), (5, [2, 3, 4]), (6, [5, 10]), (7, [5, 10]), (8, [5, 10]), (9, [5, 10]), (10, [5, 10]), (11, [2, 3, 4]), (12, [5, 16]), (13, [5, 16]), (14, [5, 16]), (15, [5, 16]), (16, [5, 16]), (17, [5, 16]), (18, [2, 3, 4]), (19, [5, 23]), (20, [5, 23]), (21, [2, 3, 4]), (22, [5, 26]), (23, [5, 26]), (24, [2, 3, 4]), (25, [5, 29]), (26, [5, 29]), (27, [5, 29]), (28, [5, 29]), (29, [2, 3, 4]), (30, [5, 34]), (31, [34]), (32, [2, 3, 4]), (33, [2, 3, 4])]
def r166 : List AR := [.t 2, .t 3, .t 4]
def c166x0 : AC := .seq (.reg [o' 2 (.mv (.k (.int .u8 0))), o' 3 (.mv (.k (.int .u8 0))), o' 4 (.mv (.k (.bool false)))] [2, 3, 4]) (.ret)
def c166x1 : AC := .seq (.reg [o' 2 (.mv (.k (.int .u8 115))), o' 3 (.mv (.k (.int .u8 115))), o' 4 (.mv (.k (.bool false)))] [2, 3, 4]) (.ret)
def c166x2 : AC := .seq (.reg [o' 2 (.mv (.k (.int .u8 97))), o' 3 (.mv (.k (.int .u8 0))), o' 4 (.mv (.k (.bool true)))] [2, 3, 4]) (.ret)
def c166x3 : AC := .seq (.reg [o' 2 (.mv (.k (.int .u8 98))), o' 3 (.mv (.k (.int .u8 0))), o' 4 (.mv (.k (.bool false)))] [2, 3, 4]) (.ret)
def c166x4 : AC := .seq (.reg [o' 2 (.mv (.k (.int .u8 98))), o' 3 (.mv (.k (.int .u8 98))), o' 4 (.mv (.k (.bool false)))] [2, 3, 4]) (.ret)
def c166x5 : AC := .seq (.reg [o' 2 (.mv (.k (.int .u8 97))), o' 3 (.mv (.k (.int .u8 0))), o' 4 (.mv (.k (.bool false)))] [2, 3, 4]) (.ret)
def c166x6 : AC := .seq (.reg [o' 2 (.mv (.k (.int .u8 0))), o' 3 (.mv (.k (.int .u8 0))), o' 4 (.mv (.k (.bool true)))] [2, 3, 4]) (.ret)
def c166x7 : AC := .seq (.reg [o' 2 (.mv (.k (.int .u8 119))), o' 3 (.mv (.k (.int .u8 98))), o' 4 (.mv (.k (.bool false)))] [2, 3, 4]) (.ret)
def c166x8 : AC := .seq (.reg [o' 2 (.mv (.k (.int .u8 98))), o' 3 (.mv (.k (.int .u8 119))), o' 4 (.mv (.k (.bool false)))] [2, 3, 4]) (.ret)
def c166x9 : AC := .cond (.t 34) (c166x8) (.skip)
def c166x10 : AC := .reg [o' 36 (.bin .eql (.t 5) (i' 21)), m' 34 36] [34]
def c166x11 : AC := .cond (.t 34) (.skip) (c166x10)
def c166x12 : AC := .seq (.reg [o' 35 (.bin .eql (.t 5) (i' 20)), m' 34 35] [5, 34]) (c166x11)
def c166x13 : AC := .seq (c166x12) (c166x9)
def c166x14 : AC := .cond (.t 29) (c166x7) (c166x13)
def c166x15 : AC := .reg [o' 33 (.bin .eql (.t 5) (i' 23)), m' 29 33] [5, 29]
def c166x16 : AC := .cond (.t 29) (.skip) (c166x15)
def c166x17 : AC := .seq (.reg [o' 32 (.bin .eql (.t 5) (i' 22)), m' 29 32] [5, 29]) (c166x16)
def c166x18 : AC := .cond (.t 29) (.skip) (c166x17)
def c166x19 : AC := .seq (.reg [o' 31 (.bin .eql (.t 5) (i' 19)), m' 29 31] [5, 29]) (c166x18)
def c166x20 : AC := .cond (.t 29) (.skip) (c166x19)
def c166x21 : AC := .seq (.reg [o' 30 (.bin .eql (.t 5) (i' 18)), m' 29 30] [5, 29]) (c166x20)
def c166x22 : AC := .seq (c166x21) (c166x14)
def c166x23 : AC := .cond (.t 26) (c166x6) (c166x22)
def c166x24 : AC := .reg [o' 28 (.bin .eql (.t 5) (i' 17)), m' 26 28] [5, 26]
def c166x25 : AC := .cond (.t 26) (.skip) (c166x24)
def c166x26 : AC := .seq (.reg [o' 27 (.bin .eql (.t 5) (i' 16)), m' 26 27] [5, 26]) (c166x25)
def c166x27 : AC := .seq (c166x26) (c166x23)
def c166x28 : AC := .cond (.t 23) (c166x5) (c166x27)
def c166x29 : AC := .reg [o' 25 (.bin .eql (.t 5) (i' 11)), m' 23 25] [5, 23]
def c166x30 : AC := .cond (.t 23) (.skip) (c166x29)
def c166x31 : AC := .seq (.reg [o' 24 (.bin .eql (.t 5) (i' 10)), m' 23 24] [5, 23]) (c166x30)
def c166x32 : AC := .seq (c166x31) (c166x28)
def c166x33 : AC := .cond (.t 16) (c166x4) (c166x32)
def c166x34 : AC := .reg [o' 22 (.bin .eql (.t 5) (i' 9)), m' 16 22] [5, 16]
def c166x35 : AC := .cond (.t 16) (.skip) (c166x34)
def c166x36 : AC := .seq (.reg [o' 21 (.bin .eql (.t 5) (i' 8)), m' 16 21] [5, 16]) (c166x35)
def c166x37 : AC := .cond (.t 16) (.skip) (c166x36)
def c166x38 : AC := .seq (.reg [o' 20 (.bin .eql (.t 5) (i' 7)), m' 16 20] [5, 16]) (c166x37)
def c166x39 : AC := .cond (.t 16) (.skip) (c166x38)
def c166x40 : AC := .seq (.reg [o' 19 (.bin .eql (.t 5) (i' 6)), m' 16 19] [5, 16]) (c166x39)
def c166x41 : AC := .cond (.t 16) (.skip) (c166x40)
def c166x42 : AC := .seq (.reg [o' 18 (.bin .eql (.t 5) (i' 5)), m' 16 18] [5, 16]) (c166x41)
def c166x43 : AC := .cond (.t 16) (.skip) (c166x42)
def c166x44 : AC := .seq (.reg [o' 17 (.bin .eql (.t 5) (i' 4)), m' 16 17] [5, 16]) (c166x43)
def c166x45 : AC := .seq (c166x44) (c166x33)
def c166x46 : AC := .cond (.t 10) (c166x3) (c166x45)
def c166x47 : AC := .reg [o' 15 (.bin .eql (.t 5) (i' 15)), m' 10 15] [5, 10]
def c166x48 : AC := .cond (.t 10) (.skip) (c166x47)
def c166x49 : AC := .seq (.reg [o' 14 (.bin .eql (.t 5) (i' 14)), m' 10 14] [5, 10]) (c166x48)
def c166x50 : AC := .cond (.t 10) (.skip) (c166x49)
def c166x51 : AC := .seq (.reg [o' 13 (.bin .eql (.t 5) (i' 13)), m' 10 13] [5, 10]) (c166x50)
def c166x52 : AC := .cond (.t 10) (.skip) (c166x51)
def c166x53 : AC := .seq (.reg [o' 12 (.bin .eql (.t 5) (i' 12)), m' 10 12] [5, 10]) (c166x52)
def c166x54 : AC := .cond (.t 10) (.skip) (c166x53)
def c166x55 : AC := .seq (.reg [o' 11 (.bin .eql (.t 5) (i' 3)), m' 10 11] [5, 10]) (c166x54)
def c166x56 : AC := .seq (c166x55) (c166x46)
def c166x57 : AC := .cond (.t 8) (c166x2) (c166x56)
def c166x58 : AC := .seq (.reg [o' 9 (.bin .eql (.t 5) (i' 2)), m' 8 9] [5, 8]) (c166x57)
def c166x59 : AC := .cond (.t 6) (c166x1) (c166x58)
def c166x60 : AC := .seq (.reg [o' 7 (.bin .eql (.t 5) (i' 1)), m' 6 7] [5, 6]) (c166x59)
def c166x61 : AC := .block 0 (c166x60)
def c166x62 : AC := .seq (.reg [m' 5 0] [5]) (c166x61)
def c166x63 : AC := .seq (c166x62) (c166x0)
def c166 : AC := .seq (.reg [o' 2 (.mv (.k (.int .u8 0))), o' 3 (.mv (.k (.int .u8 0))), o' 4 (.mv (.k (.bool false)))] [0]) (c166x63)
theorem k166 : Try.f166.body.bind (compC Try.prog Try.f166.ntmps v166) = some c166 := by kernel_rfl
theorem e166 : enters Try.prog 166 = true := by kernel_rfl
theorem q166 : Try.f166.results.toList.mapM (compRes Try.prog) = some r166 := by kernel_rfl
def v167 : List (Nat × List Nat) := [(0, [0, 1]), (1, [0, 5]), (2, [0, 5, 6]), (3, [4]), (4, [0, 5, 10]), (5, [4]), (6, [0, 18]), (7, [4]), (8, [4])]
def r167 : List AR := [.t 4]
def c167x0 : AC := .seq (.reg [m' 27 0, o' 28 (.call 131 [.t 27]), m' 4 28] [4]) (.ret)
def c167x1 : AC := .seq (.reg [m' 8 0, o' 9 (.bin .eql (.t 8) (i' 0)), m' 4 9] [4]) (.ret)
def c167x2 : AC := .seq (.reg [m' 12 0, o' 13 (.call 131 [.t 12]), m' 14 13, ⟨(some 15), .mv (.t 0), (some (14, true))⟩, ⟨(some 16), .call 132 [.t 15], (some (14, true))⟩, o' 17 (.pick (.t 14) (.t 16) (.k (.bool false))), m' 4 17] [4]) (.ret)
def c167x3 : AC := .seq (.reg [m' 20 0, o' 21 (.call 131 [.t 20]), m' 22 21, ⟨(some 23), .mv (.t 0), (some (22, true))⟩, ⟨(some 24), .call 132 [.t 23], (some (22, true))⟩, ⟨(some 25), .not (.t 24), (some (22, true))⟩, o' 26 (.pick (.t 22) (.t 25) (.k (.bool false))), m' 4 26] [4]) (.ret)
def c167x4 : AC := .cond (.t 18) (c167x3) (.skip)
def c167x5 : AC := .seq (.reg [o' 19 (.bin .eql (.t 5) (.k (.int .u8 98))), m' 18 19] [0, 18]) (c167x4)
def c167x6 : AC := .cond (.t 10) (c167x2) (c167x5)
def c167x7 : AC := .seq (.reg [o' 11 (.bin .eql (.t 5) (.k (.int .u8 119))), m' 10 11] [0, 5, 10]) (c167x6)
def c167x8 : AC := .cond (.t 6) (c167x1) (c167x7)
def c167x9 : AC := .seq (.reg [o' 7 (.bin .eql (.t 5) (.k (.int .u8 0))), m' 6 7] [0, 5, 6]) (c167x8)
def c167x10 : AC := .block 0 (c167x9)
def c167x11 : AC := .seq (.reg [m' 5 1] [0, 5]) (c167x10)
def c167x12 : AC := .seq (c167x11) (c167x0)
def c167 : AC := .seq (.reg [o' 4 (.mv (.k (.bool false)))] [0, 1]) (c167x12)
theorem k167 : Try.f167.body.bind (compC Try.prog Try.f167.ntmps v167) = some c167 := by kernel_rfl
theorem e167 : enters Try.prog 167 = true := by kernel_rfl
theorem q167 : Try.f167.results.toList.mapM (compRes Try.prog) = some r167 := by kernel_rfl
end Go.Proofs.Ytolmklnijjfppaa.Code

namespace Go.Proofs.Ytolmklnijjfppaa.Code
open Go Go.Proofs.Ytolmklnijjfppaa.Calc
set_option maxRecDepth 100000
theorem e9 : enters Try.prog 9 = true := by kernel_rfl
theorem e10 : enters Try.prog 10 = true := by kernel_rfl
def v40 : List (Nat × List Nat) := [(0, [0, 1]), (1, [4])]
def r40 : List AR := [.t 4]
def c40x0 : AC := .seq (.reg [m' 5 0, m' 6 1, o' 7 (.call 75 [.t 5, .t 6]), o' 8 (.bin .geq (.t 7) (i' 0)), m' 4 8] [4]) (.ret)
def c40 : AC := .seq (.reg [o' 4 (.mv (.k (.bool false)))] [0, 1]) (c40x0)
theorem k40 : Try.f40.body.bind (compC Try.prog Try.f40.ntmps v40) = some c40 := by kernel_rfl
theorem e40 : enters Try.prog 40 = true := by kernel_rfl
theorem q40 : Try.f40.results.toList.mapM (compRes Try.prog) = some r40 := by kernel_rfl
theorem e51 : enters Try.prog 51 = true := by kernel_rfl
def v60 : List (Nat × List Nat) := [(0, [0, 1]), (1, [0, 1, 10]), (2, [4]), (3, [0, 1, 12, 13]), (4, [0, 1, 12, 13, 14]), (5, [0, 1, 5, 12, 13]), (6, [0, 1, 12, 13, 24]), (7, [4]), (8, [0, 1, 12, 13]), (9, [4])]
def r60 : List AR := [.t 4]
def c60x0 : AC := .seq (.reg [o' 4 (.mv (.k (.bool true)))] [4]) (.ret)
def c60x1 : AC := .reg [o' 25 (.bin .add (.t 13) (i' 1)), m' 13 25] [0, 1, 12, 13]
def c60x2 : AC := .seq (.reg [o' 4 (.mv (.k (.bool false)))] [4]) (.ret)
def c60x3 : AC := .cond (.t 24) (c60x2) (.skip)
def c60x4 : AC := .seq (.dreg [m' 16 0, m' 17 5, o' 18 (.idx 1 none (.t 16) (.t 17)), o' 19 (.ld none (.t 18)), m' 20 1, m' 21 5, o' 22 (.idx 1 none (.t 20) (.t 21)), o' 23 (.ld none (.t 22)), o' 24 (.bin .neq (.t 19) (.t 23))] [[], [], [0, 1], [0, 1, 2], [], [], [4, 5], [4, 5, 6], [0, 1, 2, 3, 4, 5, 6, 7]] [0, 1, 12, 13, 24]) (c60x3)
def c60x5 : AC := .seq (.reg [m' 15 13, m' 5 15] [0, 1, 5, 12, 13]) (c60x4)
def c60x6 : AC := .block 1 (c60x5)
def c60x7 : AC := .seq (c60x6) (c60x1)
def c60x8 : AC := .cond (.t 14) (.skip) (.exit 0)
def c60x9 : AC := .seq (c60x8) (c60x7)
def c60x10 : AC := .seq (.reg [o' 14 (.bin .lss (.t 13) (.t 12))] [0, 1, 12, 13, 14]) (c60x9)
def c60x11 : AC := .loop (c60x10)
def c60x12 : AC := .block 0 (c60x11)
def c60x13 : AC := .seq (.reg [m' 11 0, o' 12 (.len (.t 11)), o' 13 (.mv (i' 0))] [0, 1, 12, 13]) (c60x12)
def c60x14 : AC := .seq (c60x13) (c60x0)
def c60x15 : AC := .seq (.reg [o' 4 (.mv (.k (.bool false)))] [4]) (.ret)
def c60x16 : AC := .cond (.t 10) (c60x15) (.skip)
def c60x17 : AC := .seq (.reg [m' 6 0, o' 7 (.len (.t 6)), m' 8 1, o' 9 (.len (.t 8)), o' 10 (.bin .neq (.t 7) (.t 9))] [0, 1, 10]) (c60x16)
def c60x18 : AC := .seq (c60x17) (c60x14)
def c60 : AC := .seq (.reg [o' 4 (.mv (.k (.bool false)))] [0, 1]) (c60x18)
def v72 : List (Nat × List Nat) := [(0, [0, 1]), (1, [0, 1, 10]), (2, [4]), (3, [0, 1, 12, 13]), (4, [0, 1, 12, 13, 14]), (5, [0, 1, 5, 12, 13]), (6, [0, 1, 12, 13, 24]), (7, [4]), (8, [0, 1, 12, 13]), (9, [4])]
def r72 : List AR := [.t 4]
def c72x0 : AC := .seq (.reg [o' 4 (.mv (.k (.bool true)))] [4]) (.ret)
def c72x1 : AC := .reg [o' 25 (.bin .add (.t 13) (i' 1)), m' 13 25] [0, 1, 12, 13]
def c72x2 : AC := .seq (.reg [o' 4 (.mv (.k (.bool false)))] [4]) (.ret)
def c72x3 : AC := .cond (.t 24) (c72x2) (.skip)
def c72x4 : AC := .seq (.dreg [m' 16 0, m' 17 5, o' 18 (.idx 1 none (.t 16) (.t 17)), o' 19 (.ld none (.t 18)), m' 20 1, m' 21 5, o' 22 (.idx 1 none (.t 20) (.t 21)), o' 23 (.ld none (.t 22)), o' 24 (.bin .neq (.t 19) (.t 23))] [[], [], [0, 1], [0, 1, 2], [], [], [4, 5], [4, 5, 6], [0, 1, 2, 3, 4, 5, 6, 7]] [0, 1, 12, 13, 24]) (c72x3)
def c72x5 : AC := .seq (.reg [m' 15 13, m' 5 15] [0, 1, 5, 12, 13]) (c72x4)
def c72x6 : AC := .block 1 (c72x5)
def c72x7 : AC := .seq (c72x6) (c72x1)
def c72x8 : AC := .cond (.t 14) (.skip) (.exit 0)
def c72x9 : AC := .seq (c72x8) (c72x7)
def c72x10 : AC := .seq (.reg [o' 14 (.bin .lss (.t 13) (.t 12))] [0, 1, 12, 13, 14]) (c72x9)
def c72x11 : AC := .loop (c72x10)
def c72x12 : AC := .block 0 (c72x11)
def c72x13 : AC := .seq (.reg [m' 11 0, o' 12 (.len (.t 11)), o' 13 (.mv (i' 0))] [0, 1, 12, 13]) (c72x12)
def c72x14 : AC := .seq (c72x13) (c72x0)
def c72x15 : AC := .seq (.reg [o' 4 (.mv (.k (.bool false)))] [4]) (.ret)
def c72x16 : AC := .cond (.t 10) (c72x15) (.skip)
def c72x17 : AC := .seq (.reg [m' 6 0, o' 7 (.len (.t 6)), m' 8 1, o' 9 (.len (.t 8)), o' 10 (.bin .neq (.t 7) (.t 9))] [0, 1, 10]) (c72x16)
def c72x18 : AC := .seq (c72x17) (c72x14)
def c72 : AC := .seq (.reg [o' 4 (.mv (.k (.bool false)))] [0, 1]) (c72x18)
def v75 : List (Nat × List Nat) := [(0, [0, 1]), (1, [0, 1, 7, 8]), (2, [0, 1, 7, 8, 9]), (3, [0, 1, 5, 7, 8]), (4, [0, 1, 5, 7, 8, 16]), (5, [4]), (6, [0, 1, 7, 8]), (7, [4])]
def r75 : List AR := [.t 4]
def c75x0 : AC := .seq (.reg [o' 4 (.mv (.k (.int .i64 (-1))))] [4]) (.ret)
def c75x1 : AC := .reg [o' 18 (.bin .add (.t 8) (i' 1)), m' 8 18] [0, 1, 7, 8]
def c75x2 : AC := .seq (.reg [m' 17 5, m' 4 17] [4]) (.ret)
def c75x3 : AC := .cond (.t 16) (c75x2) (.skip)
def c75x4 : AC := .seq (.reg [m' 11 1, m' 12 0, m' 13 5, o' 14 (.idx 4 none (.t 12) (.t 13)), o' 15 (.ld (some 4) (.t 14)), o' 16 (.callc (.t 11) [.t 15])] [0, 1, 5, 7, 8, 16]) (c75x3)
def c75x5 : AC := .seq (.reg [m' 10 8, m' 5 10] [0, 1, 5, 7, 8]) (c75x4)
def c75x6 : AC := .block 1 (c75x5)
def c75x7 : AC := .seq (c75x6) (c75x1)
def c75x8 : AC := .cond (.t 9) (.skip) (.exit 0)
def c75x9 : AC := .seq (c75x8) (c75x7)
def c75x10 : AC := .seq (.reg [o' 9 (.bin .lss (.t 8) (.t 7))] [0, 1, 7, 8, 9]) (c75x9)
def c75x11 : AC := .loop (c75x10)
def c75x12 : AC := .block 0 (c75x11)
def c75x13 : AC := .seq (.reg [m' 6 0, o' 7 (.len (.t 6)), o' 8 (.mv (i' 0))] [0, 1, 7, 8]) (c75x12)
def c75x14 : AC := .seq (c75x13) (c75x0)
def c75 : AC := .seq (.reg [o' 4 (.mv (i' 0))] [0, 1]) (c75x14)
theorem k75 : Try.f75.body.bind (compC Try.prog Try.f75.ntmps v75) = some c75 := by kernel_rfl
theorem e75 : enters Try.prog 75 = true := by kernel_rfl
theorem q75 : Try.f75.results.toList.mapM (compRes Try.prog) = some r75 := by kernel_rfl
def v148 : List (Nat × List Nat) := [(0, [0]), (1, [0, 4]), (2, [2]), (3, [2])]
def r148 : List AR := [.t 2]
def c148x0 : AC := .seq (.reg [o' 5 (.bsl [(.int .i64 0), (.int .i64 0), (.int .i64 0), (.slice none 0 0)] 0 []), m' 6 0, o' 7 (.app 4 48 (.t 5) (.t 6)), m' 2 7] [2]) (.ret)
def c148x1 : AC := .seq (.reg [o' 2 (.mv (.k (.slice none 0 0)))] [2]) (.ret)
def c148x2 : AC := .cond (.t 4) (c148x1) (.skip)
def c148x3 : AC := .seq (.reg [m' 3 0, o' 4 (.eqn false (.t 3))] [0, 4]) (c148x2)
def c148x4 : AC := .seq (c148x3) (c148x0)
def c148 : AC := .seq (.reg [o' 2 (.mv (.k (.slice none 0 0)))] [0]) (c148x4)
def v149 : List (Nat × List Nat) := [(0, [0]), (1, [0, 4]), (2, [2]), (3, [2])]
def r149 : List AR := [.t 2]
def c149x0 : AC := .seq (.reg [o' 5 (.bsl [(.int .i64 0), (.int .i64 0), (.int .i64 0), (.int .i64 0)] 0 []), m' 6 0, o' 7 (.app 4 32 (.t 5) (.t 6)), m' 2 7] [2]) (.ret)
def c149x1 : AC := .seq (.reg [o' 2 (.mv (.k (.slice none 0 0)))] [2]) (.ret)
def c149x2 : AC := .cond (.t 4) (c149x1) (.skip)
def c149x3 : AC := .seq (.reg [m' 3 0, o' 4 (.eqn false (.t 3))] [0, 4]) (c149x2)
def c149x4 : AC := .seq (c149x3) (c149x0)
def c149 : AC := .seq (.reg [o' 2 (.mv (.k (.slice none 0 0)))] [0]) (c149x4)
end Go.Proofs.Ytolmklnijjfppaa.Code

namespace Go.Proofs.Ytolmklnijjfppaa.Code
open Go Go.Proofs.Ytolmklnijjfppaa.Calc
set_option maxRecDepth 100000
def v46 : List (Nat × List Nat) := [(0, [0]), (1, [0, 1]), (2, [0, 1]), (3, [0, 1]), (4, [0, 1]), (5, [0, 1, 2]), (6, [0])]
def r46 : List AR := [.cell (some 5) 0]
def c46x0 : AC := .seq (.dreg [m' 18 1, o' 19 (.nilc (.t 18)), o' 20 (.fad 0 (.t 19)), o' 21 (.ld none (.t 20)), m' 22 2, o' 23 (.call 83 [i' 6, i' 7]), o' 24 (.call 83 [i' 8, i' 9]), o' 25 (.build [(.string ⟨#[]⟩), (.slice none 0 0), (.slice none 0 0), (.slice none 0 0), (.slice none 0 0)] [(0, 1, (.k (.string ⟨#[115, 116, 100]⟩))), (1, 1, (.t 21)), (2, 1, (.t 22)), (3, 1, (.t 23)), (4, 1, (.t 24))]), n' (.st 5 (.t 0) (.t 25))] [[], [0], [0, 1], [0, 1, 2], [], [], [5], [0, 1, 2, 3, 4, 5, 6], [0, 1, 2, 3, 4, 5, 6, 7]] [0]) (.ret)
def c46x1 : AC := .seq (.reg [o' 11 (.call 81 [i' 10, i' 5, (.k (.slice none 0 0))]), o' 12 (.call 82 [i' 7]), o' 13 (.build [(.int .i64 0), (.int .i64 0), (.int .i64 0), (.int .i64 0)] [(0, 1, (i' 2)), (1, 1, (i' 3)), (3, 1, (i' 255))]), o' 14 (.bsl [(.int .i64 0), (.int .i64 0), (.int .i64 0), (.int .i64 0)] 1 [(0, (.t 13))]), o' 15 (.app 4 32 (.t 12) (.t 14)), o' 16 (.call 81 [i' 11, i' 6, .t 15]), o' 17 (.bsl [(.int .i64 0), (.int .i64 0), (.int .i64 0), (.slice none 0 0)] 2 [(0, (.t 11)), (1, (.t 16))]), m' 2 17] [0, 1, 2]) (c46x0)
def c46x2 : AC := .seq (.reg [m' 9 1, o' 10 (.call 80 [.t 9])] [0, 1]) (c46x1)
def c46x3 : AC := .seq (.reg [m' 7 1, o' 8 (.call 79 [.t 7])] [0, 1]) (c46x2)
def c46x4 : AC := .seq (.reg [m' 5 1, o' 6 (.call 78 [.t 5])] [0, 1]) (c46x3)
def c46x5 : AC := .seq (.reg [o' 3 (.build [(.slice none 0 0)] []), o' 4 (.new 1 (.t 3)), m' 1 4] [0, 1]) (c46x4)
def c46 : AC := .seq (.reg [o' 0 (.zero [(.string ⟨#[]⟩), (.slice none 0 0), (.slice none 0 0), (.slice none 0 0), (.slice none 0 0)])] [0]) (c46x5)
theorem k46 : Try.f46.body.bind (compC Try.prog Try.f46.ntmps v46) = some c46 := by kernel_rfl
theorem e46 : enters Try.prog 46 = true := by kernel_rfl
theorem q46 : Try.f46.results.toList.mapM (compRes Try.prog) = some r46 := by kernel_rfl
def v78 : List (Nat × List Nat) := [(0, [0]), (1, [0]), (2, [0]), (3, [0]), (4, [0]), (5, [0]), (6, [0, 28, 29, 30]), (7, [0, 28, 29, 30, 31]), (8, [0, 3, 28, 29, 30]), (9, [0, 28, 29, 30]), (10, [0, 28, 29, 30]), (11, [0]), (12, [0]), (13, [0]), (14, [0]), (15, [0]), (16, [0]), (17, [0]), (18, [])]
def r78 : List AR := []
def c78x0 : AC := .reg [m' 63 0, o' 64 (.bsl [(.int .i64 0)] 2 [(0, (i' 0)), (1, (i' 2))]), o' 65 (.call 138 [.t 63, (.k (.string ⟨#[114, 111, 114]⟩)), (i' 15), (.t 64)])] []
def c78x1 : AC := .seq (.reg [m' 60 0, o' 61 (.bsl [(.int .i64 0)] 2 [(0, (i' 0)), (1, (i' 2))]), o' 62 (.call 138 [.t 60, (.k (.string ⟨#[114, 111, 108]⟩)), (i' 14), (.t 61)])] [0]) (c78x0)
def c78x2 : AC := .seq (.reg [m' 57 0, o' 58 (.bsl [(.int .i64 0)] 2 [(0, (i' 0)), (1, (i' 2))]), o' 59 (.call 138 [.t 57, (.k (.string ⟨#[108, 115, 114]⟩)), (i' 13), (.t 58)])] [0]) (c78x1)
def c78x3 : AC := .seq (.reg [m' 54 0, o' 55 (.bsl [(.int .i64 0)] 2 [(0, (i' 0)), (1, (i' 2))]), o' 56 (.call 138 [.t 54, (.k (.string ⟨#[97, 115, 108]⟩)), (i' 12), (.t 55)])] [0]) (c78x2)
def c78x4 : AC := .seq (.reg [m' 51 0, o' 52 (.bsl [(.int .i64 0)] 2 [(0, (i' 2)), (1, (i' 4))]), o' 53 (.call 138 [.t 51, (.k (.string ⟨#[100, 101, 99]⟩)), (i' 11), (.t 52)])] [0]) (c78x3)
def c78x5 : AC := .seq (.reg [m' 48 0, o' 49 (.bsl [(.int .i64 0)] 2 [(0, (i' 2)), (1, (i' 4))]), o' 50 (.call 138 [.t 48, (.k (.string ⟨#[105, 110, 99]⟩)), (i' 10), (.t 49)])] [0]) (c78x4)
def c78x6 : AC := .seq (.reg [m' 45 0, o' 46 (.bsl [(.int .i64 0)] 2 [(0, (i' 1)), (1, (i' 2))]), o' 47 (.call 137 [.t 45, (.k (.string ⟨#[99, 112, 121]⟩)), (i' 6), (i' 2), (.t 46)])] [0]) (c78x5)
def c78x7 : AC := .seq (.reg [m' 42 0, o' 43 (.bsl [(.int .i64 0)] 2 [(0, (i' 1)), (1, (i' 2))]), o' 44 (.call 137 [.t 42, (.k (.string ⟨#[99, 112, 120]⟩)), (i' 6), (i' 1), (.t 43)])] [0]) (c78x6)
def c78x8 : AC := .reg [o' 41 (.bin .add (.t 30) (i' 1)), m' 30 41] [0, 28, 29, 30]
def c78x9 : AC := .reg [m' 34 0, o' 35 (.fad 0 (.t 3)), o' 36 (.ld none (.t 35)), o' 37 (.fad 1 (.t 3)), o' 38 (.ld none (.t 37)), o' 39 (.bsl [(.int .i64 0)] 4 [(0, (i' 1)), (1, (i' 2)), (2, (i' 4)), (3, (i' 5))]), o' 40 (.call 137 [.t 34, .t 36, .t 38, i' 0, .t 39])] [0, 28, 29, 30]
def c78x10 : AC := .seq (.reg [o' 32 (.idx 2 none (.t 28) (.t 30)), o' 33 (.ld (some 2) (.t 32)), o' 3 (.zero [(.string ⟨#[]⟩), (.int .i64 0)]), n' (.st 2 (.t 3) (.t 33))] [0, 3, 28, 29, 30]) (c78x9)
def c78x11 : AC := .block 1 (c78x10)
def c78x12 : AC := .seq (c78x11) (c78x8)
def c78x13 : AC := .cond (.t 31) (.skip) (.exit 0)
def c78x14 : AC := .seq (c78x13) (c78x12)
def c78x15 : AC := .seq (.reg [o' 31 (.bin .lss (.t 30) (.t 29))] [0, 28, 29, 30, 31]) (c78x14)
def c78x16 : AC := .loop (c78x15)
def c78x17 : AC := .block 0 (c78x16)
def c78x18 : AC := .seq (.reg [o' 22 (.build [(.string ⟨#[]⟩), (.int .i64 0)] [(0, 1, (.k (.string ⟨#[97, 100, 99]⟩))), (1, 1, (i' 4))]), o' 23 (.build [(.string ⟨#[]⟩), (.int .i64 0)] [(0, 1, (.k (.string ⟨#[115, 98, 99]⟩))), (1, 1, (i' 5))]), o' 24 (.build [(.string ⟨#[]⟩), (.int .i64 0)] [(0, 1, (.k (.string ⟨#[97, 110, 100]⟩))), (1, 1, (i' 7))]), o' 25 (.build [(.string ⟨#[]⟩), (.int .i64 0)] [(0, 1, (.k (.string ⟨#[111, 114, 97]⟩))), (1, 1, (i' 8))]), o' 26 (.build [(.string ⟨#[]⟩), (.int .i64 0)] [(0, 1, (.k (.string ⟨#[101, 111, 114]⟩))), (1, 1, (i' 9))]), o' 27 (.build [(.string ⟨#[]⟩), (.int .i64 0)] [(0, 1, (.k (.string ⟨#[99, 109, 112]⟩))), (1, 1, (i' 6))]), o' 28 (.bsl [(.string ⟨#[]⟩), (.int .i64 0)] 6 [(0, (.t 22)), (1, (.t 23)), (2, (.t 24)), (3, (.t 25)), (4, (.t 26)), (5, (.t 27))]), o' 29 (.len (.t 28)), o' 30 (.mv (i' 0))] [0, 28, 29, 30]) (c78x17)
def c78x19 : AC := .seq (c78x18) (c78x7)
def c78x20 : AC := .seq (.reg [m' 19 0, o' 20 (.bsl [(.int .i64 0)] 2 [(0, (i' 2)), (1, (i' 4))]), o' 21 (.call 136 [.t 19, (.k (.string ⟨#[115, 116, 121]⟩)), (i' 2), (.t 20)])] [0]) (c78x19)
def c78x21 : AC := .seq (.reg [m' 16 0, o' 17 (.bsl [(.int .i64 0)] 2 [(0, (i' 2)), (1, (i' 4))]), o' 18 (.call 136 [.t 16, (.k (.string ⟨#[115, 116, 120]⟩)), (i' 1), (.t 17)])] [0]) (c78x20)
def c78x22 : AC := .seq (.reg [m' 13 0, o' 14 (.bsl [(.int .i64 0)] 6 [(0, (i' 2)), (1, (i' 3)), (2, (i' 4)), (3, (i' 5)), (4, (i' 6)), (5, (i' 8))]), o' 15 (.call 136 [.t 13, (.k (.string ⟨#[115, 116, 97]⟩)), (i' 0), (.t 14)])] [0]) (c78x21)
def c78x23 : AC := .seq (.reg [m' 10 0, o' 11 (.bsl [(.int .i64 0)] 3 [(0, (i' 1)), (1, (i' 2)), (2, (i' 4))]), o' 12 (.call 135 [.t 10, (.k (.string ⟨#[108, 100, 121]⟩)), (i' 2), (.t 11)])] [0]) (c78x22)
def c78x24 : AC := .seq (.reg [m' 7 0, o' 8 (.bsl [(.int .i64 0)] 3 [(0, (i' 1)), (1, (i' 2)), (2, (i' 4))]), o' 9 (.call 135 [.t 7, (.k (.string ⟨#[108, 100, 120]⟩)), (i' 1), (.t 8)])] [0]) (c78x23)
def c78 : AC := .seq (.reg [m' 4 0, o' 5 (.bsl [(.int .i64 0)] 7 [(0, (i' 1)), (1, (i' 2)), (2, (i' 3)), (3, (i' 4)), (4, (i' 5)), (5, (i' 6)), (6, (i' 8))]), o' 6 (.call 135 [.t 4, (.k (.string ⟨#[108, 100, 97]⟩)), (i' 0), (.t 5)])] [0]) (c78x24)
theorem k78 : Try.f78.body.bind (compC Try.prog Try.f78.ntmps v78) = some c78 := by kernel_rfl
theorem e78 : enters Try.prog 78 = true := by kernel_rfl
theorem q78 : Try.f78.results.toList.mapM (compRes Try.prog) = some r78 := by kernel_rfl
def v79 : List (Nat × List Nat) := [(0, [0, 9, 10, 11]), (1, [0, 9, 10, 11, 12]), (2, [0, 3, 9, 10, 11]), (3, [0, 9, 10, 11]), (4, [0, 9, 10, 11]), (5, [0]), (6, [0]), (7, [0]), (8, [0]), (9, [0]), (10, [0]), (11, [0]), (12, [0]), (13, [0]), (14, [0]), (15, [0]), (16, [0]), (17, [0]), (18, [])]
def r79 : List AR := []
def c79x0 : AC := .reg [m' 103 0, o' 104 (.call 81 [i' 5, i' 4, (.k (.slice none 0 0))]), o' 105 (.bsl [(.int .i64 0), (.int .i64 0), (.int .i64 0), (.slice none 0 0)] 1 [(0, (.t 104))]), o' 106 (.call 139 [.t 103, (.k (.string ⟨#[112, 108, 112]⟩)), (i' 0), (.t 105)])] []
def c79x1 : AC := .seq (.reg [m' 99 0, o' 100 (.call 143 [i' 4, i' 4, (.k (.slice none 0 0))]), o' 101 (.bsl [(.int .i64 0), (.int .i64 0), (.int .i64 0), (.slice none 0 0)] 1 [(0, (.t 100))]), o' 102 (.call 139 [.t 99, (.k (.string ⟨#[112, 104, 112]⟩)), (i' 0), (.t 101)])] [0]) (c79x0)
def c79x2 : AC := .seq (.reg [m' 93 0, o' 94 (.call 142 [i' 3, i' 0]), o' 95 (.bsl [(.int .i64 0), (.int .i64 0), (.int .i64 0), (.int .i64 0)] 1 [(0, (.t 94))]), o' 96 (.call 81 [i' 5, i' 0, .t 95]), o' 97 (.bsl [(.int .i64 0), (.int .i64 0), (.int .i64 0), (.slice none 0 0)] 1 [(0, (.t 96))]), o' 98 (.call 139 [.t 93, (.k (.string ⟨#[112, 108, 97]⟩)), (i' 0), (.t 97)])] [0]) (c79x1)
def c79x3 : AC := .seq (.reg [m' 89 0, o' 90 (.call 143 [i' 4, i' 0, (.k (.slice none 0 0))]), o' 91 (.bsl [(.int .i64 0), (.int .i64 0), (.int .i64 0), (.slice none 0 0)] 1 [(0, (.t 90))]), o' 92 (.call 139 [.t 89, (.k (.string ⟨#[112, 104, 97]⟩)), (i' 0), (.t 91)])] [0]) (c79x2)
def c79x4 : AC := .seq (.reg [m' 85 0, o' 86 (.call 140 [(.k (.slice none 0 0))]), o' 87 (.bsl [(.int .i64 0), (.int .i64 0), (.int .i64 0), (.slice none 0 0)] 1 [(0, (.t 86))]), o' 88 (.call 139 [.t 85, (.k (.string ⟨#[110, 111, 112]⟩)), (i' 0), (.t 87)])] [0]) (c79x3)
def c79x5 : AC := .seq (.reg [m' 79 0, o' 80 (.build [(.int .i64 0), (.int .i64 0), (.int .i64 0), (.int .i64 0)] [(0, 1, (i' 16)), (3, 1, (i' 4))]), o' 81 (.bsl [(.int .i64 0), (.int .i64 0), (.int .i64 0), (.int .i64 0)] 1 [(0, (.t 80))]), o' 82 (.call 140 [.t 81]), o' 83 (.bsl [(.int .i64 0), (.int .i64 0), (.int .i64 0), (.slice none 0 0)] 1 [(0, (.t 82))]), o' 84 (.call 139 [.t 79, (.k (.string ⟨#[115, 101, 105]⟩)), (i' 0), (.t 83)])] [0]) (c79x4)
def c79x6 : AC := .seq (.reg [m' 73 0, o' 74 (.build [(.int .i64 0), (.int .i64 0), (.int .i64 0), (.int .i64 0)] [(0, 1, (i' 17)), (3, 1, (i' 4))]), o' 75 (.bsl [(.int .i64 0), (.int .i64 0), (.int .i64 0), (.int .i64 0)] 1 [(0, (.t 74))]), o' 76 (.call 140 [.t 75]), o' 77 (.bsl [(.int .i64 0), (.int .i64 0), (.int .i64 0), (.slice none 0 0)] 1 [(0, (.t 76))]), o' 78 (.call 139 [.t 73, (.k (.string ⟨#[99, 108, 105]⟩)), (i' 0), (.t 77)])] [0]) (c79x5)
def c79x7 : AC := .seq (.reg [m' 67 0, o' 68 (.build [(.int .i64 0), (.int .i64 0), (.int .i64 0), (.int .i64 0)] [(0, 1, (i' 16)), (3, 1, (i' 1))]), o' 69 (.bsl [(.int .i64 0), (.int .i64 0), (.int .i64 0), (.int .i64 0)] 1 [(0, (.t 68))]), o' 70 (.call 140 [.t 69]), o' 71 (.bsl [(.int .i64 0), (.int .i64 0), (.int .i64 0), (.slice none 0 0)] 1 [(0, (.t 70))]), o' 72 (.call 139 [.t 67, (.k (.string ⟨#[115, 101, 99]⟩)), (i' 0), (.t 71)])] [0]) (c79x6)
def c79x8 : AC := .seq (.reg [m' 61 0, o' 62 (.build [(.int .i64 0), (.int .i64 0), (.int .i64 0), (.int .i64 0)] [(0, 1, (i' 17)), (3, 1, (i' 1))]), o' 63 (.bsl [(.int .i64 0), (.int .i64 0), (.int .i64 0), (.int .i64 0)] 1 [(0, (.t 62))]), o' 64 (.call 140 [.t 63]), o' 65 (.bsl [(.int .i64 0), (.int .i64 0), (.int .i64 0), (.slice none 0 0)] 1 [(0, (.t 64))]), o' 66 (.call 139 [.t 61, (.k (.string ⟨#[99, 108, 99]⟩)), (i' 0), (.t 65)])] [0]) (c79x7)
def c79x9 : AC := .seq (.reg [m' 55 0, o' 56 (.call 142 [i' 11, i' 2]), o' 57 (.bsl [(.int .i64 0), (.int .i64 0), (.int .i64 0), (.int .i64 0)] 1 [(0, (.t 56))]), o' 58 (.call 140 [.t 57]), o' 59 (.bsl [(.int .i64 0), (.int .i64 0), (.int .i64 0), (.slice none 0 0)] 1 [(0, (.t 58))]), o' 60 (.call 139 [.t 55, (.k (.string ⟨#[100, 101, 121]⟩)), (i' 0), (.t 59)])] [0]) (c79x8)
def c79x10 : AC := .seq (.reg [m' 49 0, o' 50 (.call 142 [i' 11, i' 1]), o' 51 (.bsl [(.int .i64 0), (.int .i64 0), (.int .i64 0), (.int .i64 0)] 1 [(0, (.t 50))]), o' 52 (.call 140 [.t 51]), o' 53 (.bsl [(.int .i64 0), (.int .i64 0), (.int .i64 0), (.slice none 0 0)] 1 [(0, (.t 52))]), o' 54 (.call 139 [.t 49, (.k (.string ⟨#[100, 101, 120]⟩)), (i' 0), (.t 53)])] [0]) (c79x9)
def c79x11 : AC := .seq (.reg [m' 43 0, o' 44 (.call 142 [i' 10, i' 2]), o' 45 (.bsl [(.int .i64 0), (.int .i64 0), (.int .i64 0), (.int .i64 0)] 1 [(0, (.t 44))]), o' 46 (.call 140 [.t 45]), o' 47 (.bsl [(.int .i64 0), (.int .i64 0), (.int .i64 0), (.slice none 0 0)] 1 [(0, (.t 46))]), o' 48 (.call 139 [.t 43, (.k (.string ⟨#[105, 110, 121]⟩)), (i' 0), (.t 47)])] [0]) (c79x10)
def c79x12 : AC := .seq (.reg [m' 37 0, o' 38 (.call 142 [i' 10, i' 1]), o' 39 (.bsl [(.int .i64 0), (.int .i64 0), (.int .i64 0), (.int .i64 0)] 1 [(0, (.t 38))]), o' 40 (.call 140 [.t 39]), o' 41 (.bsl [(.int .i64 0), (.int .i64 0), (.int .i64 0), (.slice none 0 0)] 1 [(0, (.t 40))]), o' 42 (.call 139 [.t 37, (.k (.string ⟨#[105, 110, 120]⟩)), (i' 0), (.t 41)])] [0]) (c79x11)
def c79x13 : AC := .seq (.reg [m' 31 0, o' 32 (.call 141 [i' 1, i' 3, i' 1]), o' 33 (.bsl [(.int .i64 0), (.int .i64 0), (.int .i64 0), (.int .i64 0)] 1 [(0, (.t 32))]), o' 34 (.call 140 [.t 33]), o' 35 (.bsl [(.int .i64 0), (.int .i64 0), (.int .i64 0), (.slice none 0 0)] 1 [(0, (.t 34))]), o' 36 (.call 139 [.t 31, (.k (.string ⟨#[116, 120, 115]⟩)), (i' 0), (.t 35)])] [0]) (c79x12)
def c79x14 : AC := .reg [o' 30 (.bin .add (.t 11) (i' 1)), m' 11 30] [0, 9, 10, 11]
def c79x15 : AC := .dreg [m' 15 0, o' 16 (.fad 0 (.t 3)), o' 17 (.ld none (.t 16)), o' 18 (.fad 1 (.t 3)), o' 19 (.ld none (.t 18)), o' 20 (.fad 2 (.t 3)), o' 21 (.ld none (.t 20)), o' 22 (.call 141 [i' 1, .t 19, .t 21]), o' 23 (.fad 1 (.t 3)), o' 24 (.ld none (.t 23)), o' 25 (.call 142 [i' 3, .t 24]), o' 26 (.bsl [(.int .i64 0), (.int .i64 0), (.int .i64 0), (.int .i64 0)] 2 [(0, (.t 22)), (1, (.t 25))]), o' 27 (.call 140 [.t 26]), o' 28 (.bsl [(.int .i64 0), (.int .i64 0), (.int .i64 0), (.slice none 0 0)] 1 [(0, (.t 27))]), o' 29 (.call 139 [.t 15, .t 17, i' 0, .t 28])] [[], [], [1], [], [3], [], [5], [3, 4, 5, 6], [], [8], [3, 4, 5, 6, 7, 8, 9], [3, 4, 5, 6, 7, 8, 9, 10], [3, 4, 5, 6, 7, 8, 9, 10, 11], [3, 4, 5, 6, 7, 8, 9, 10, 11, 12], [0, 1, 2, 3, 4, 5, 6, 7, 8, 9, 10, 11, 12, 13]] [0, 9, 10, 11]
def c79x16 : AC := .seq (.reg [o' 13 (.idx 3 none (.t 9) (.t 11)), o' 14 (.ld (some 3) (.t 13)), o' 3 (.zero [(.string ⟨#[]⟩), (.int .i64 0), (.int .i64 0)]), n' (.st 3 (.t 3) (.t 14))] [0, 3, 9, 10, 11]) (c79x15)
def c79x17 : AC := .block 1 (c79x16)
def c79x18 : AC := .seq (c79x17) (c79x14)
def c79x19 : AC := .cond (.t 12) (.skip) (.exit 0)
def c79x20 : AC := .seq (c79x19) (c79x18)
def c79x21 : AC := .seq (.reg [o' 12 (.bin .lss (.t 11) (.t 10))] [0, 9, 10, 11, 12]) (c79x20)
def c79x22 : AC := .loop (c79x21)
def c79x23 : AC := .block 0 (c79x22)
def c79x24 : AC := .seq (.reg [o' 4 (.build [(.string ⟨#[]⟩), (.int .i64 0), (.int .i64 0)] [(0, 1, (.k (.string ⟨#[116, 97, 120]⟩))), (1, 1, (i' 1)), (2, 1, (i' 0))]), o' 5 (.build [(.string ⟨#[]⟩), (.int .i64 0), (.int .i64 0)] [(0, 1, (.k (.string ⟨#[116, 97, 121]⟩))), (1, 1, (i' 2)), (2, 1, (i' 0))]), o' 6 (.build [(.string ⟨#[]⟩), (.int .i64 0), (.int .i64 0)] [(0, 1, (.k (.string ⟨#[116, 120, 97]⟩))), (1, 1, (i' 0)), (2, 1, (i' 1))]), o' 7 (.build [(.string ⟨#[]⟩), (.int .i64 0), (.int .i64 0)] [(0, 1, (.k (.string ⟨#[116, 121, 97]⟩))), (1, 1, (i' 0)), (2, 1, (i' 2))]), o' 8 (.build [(.string ⟨#[]⟩), (.int .i64 0), (.int .i64 0)] [(0, 1, (.k (.string ⟨#[116, 115, 120]⟩))), (1, 1, (i' 1)), (2, 1, (i' 3))]), o' 9 (.bsl [(.string ⟨#[]⟩), (.int .i64 0), (.int .i64 0)] 5 [(0, (.t 4)), (1, (.t 5)), (2, (.t 6)), (3, (.t 7)), (4, (.t 8))]), o' 10 (.len (.t 9)), o' 11 (.mv (i' 0))] [0, 9, 10, 11]) (c79x23)
def c79 : AC := .seq (c79x24) (c79x13)
theorem k79 : Try.f79.body.bind (compC Try.prog Try.f79.ntmps v79) = some c79 := by kernel_rfl
theorem e79 : enters Try.prog 79 = true := by kernel_rfl
theorem q79 : Try.f79.results.toList.mapM (compRes Try.prog) = some r79 := by kernel_rfl
def v80 : List (Nat × List Nat) := [(0, [0]), (1, [0]), (2, [0]), (3, [0]), (4, [0, 45, 46, 47]), (5, [0, 45, 46, 47, 48]), (6, [0, 3, 45, 46, 47]), (7, [0, 45, 46, 47]), (8, [0, 45, 46, 47])]
def r80 : List AR := []
def c80x0 : AC := .reg [o' 66 (.bin .add (.t 47) (i' 1)), m' 47 66] [0, 45, 46, 47]
def c80x1 : AC := .dreg [m' 51 0, o' 52 (.fad 0 (.t 3)), o' 53 (.ld none (.t 52)), o' 54 (.fad 2 (.t 3)), o' 55 (.ld none (.t 54)), o' 56 (.fad 1 (.t 3)), o' 57 (.ld none (.t 56)), o' 58 (.build [(.int .i64 0), (.int .i64 0), (.int .i64 0), (.int .i64 0)] [(0, 1, (i' 24)), (2, 1, (.t 55)), (3, 1, (.t 57))]), o' 59 (.bsl [(.int .i64 0), (.int .i64 0), (.int .i64 0), (.int .i64 0)] 1 [(0, (.t 58))]), o' 60 (.call 81 [i' 0, i' 5, .t 59]), o' 61 (.call 141 [i' 23, i' 7, i' 5]), o' 62 (.bsl [(.int .i64 0), (.int .i64 0), (.int .i64 0), (.int .i64 0)] 1 [(0, (.t 61))]), o' 63 (.call 140 [.t 62]), o' 64 (.bsl [(.int .i64 0), (.int .i64 0), (.int .i64 0), (.slice none 0 0)] 2 [(0, (.t 60)), (1, (.t 63))]), o' 65 (.call 139 [.t 51, .t 53, i' 7, .t 64])] [[], [], [1], [], [3], [], [5], [3, 4, 5, 6], [3, 4, 5, 6, 7], [3, 4, 5, 6, 7, 8], [3, 4, 5, 6, 7, 8, 9], [3, 4, 5, 6, 7, 8, 9, 10], [3, 4, 5, 6, 7, 8, 9, 10, 11], [3, 4, 5, 6, 7, 8, 9, 10, 11, 12], [0, 1, 2, 3, 4, 5, 6, 7, 8, 9, 10, 11, 12, 13]] [0, 45, 46, 47]
def c80x2 : AC := .seq (.reg [o' 49 (.idx 3 none (.t 45) (.t 47)), o' 50 (.ld (some 3) (.t 49)), o' 3 (.zero [(.string ⟨#[]⟩), (.int .i64 0), (.int .i64 0)]), n' (.st 3 (.t 3) (.t 50))] [0, 3, 45, 46, 47]) (c80x1)
def c80x3 : AC := .block 1 (c80x2)
def c80x4 : AC := .seq (c80x3) (c80x0)
def c80x5 : AC := .cond (.t 48) (.skip) (.exit 0)
def c80x6 : AC := .seq (c80x5) (c80x4)
def c80x7 : AC := .seq (.reg [o' 48 (.bin .lss (.t 47) (.t 46))] [0, 45, 46, 47, 48]) (c80x6)
def c80x8 : AC := .loop (c80x7)
def c80x9 : AC := .block 0 (c80x8)
def c80x10 : AC := .seq (.reg [o' 39 (.build [(.string ⟨#[]⟩), (.int .i64 0), (.int .i64 0)] [(0, 1, (.k (.string ⟨#[98, 101, 113]⟩))), (1, 1, (i' 2)), (2, 1, (i' 1))]), o' 40 (.build [(.string ⟨#[]⟩), (.int .i64 0), (.int .i64 0)] [(0, 1, (.k (.string ⟨#[98, 110, 101]⟩))), (1, 1, (i' 2)), (2, 1, (i' 0))]), o' 41 (.build [(.string ⟨#[]⟩), (.int .i64 0), (.int .i64 0)] [(0, 1, (.k (.string ⟨#[98, 99, 115]⟩))), (1, 1, (i' 1)), (2, 1, (i' 1))]), o' 42 (.build [(.string ⟨#[]⟩), (.int .i64 0), (.int .i64 0)] [(0, 1, (.k (.string ⟨#[98, 99, 99]⟩))), (1, 1, (i' 1)), (2, 1, (i' 0))]), o' 43 (.build [(.string ⟨#[]⟩), (.int .i64 0), (.int .i64 0)] [(0, 1, (.k (.string ⟨#[98, 109, 105]⟩))), (1, 1, (i' 128)), (2, 1, (i' 1))]), o' 44 (.build [(.string ⟨#[]⟩), (.int .i64 0), (.int .i64 0)] [(0, 1, (.k (.string ⟨#[98, 112, 108]⟩))), (1, 1, (i' 128)), (2, 1, (i' 0))]), o' 45 (.bsl [(.string ⟨#[]⟩), (.int .i64 0), (.int .i64 0)] 6 [(0, (.t 39)), (1, (.t 40)), (2, (.t 41)), (3, (.t 42)), (4, (.t 43)), (5, (.t 44))]), o' 46 (.len (.t 45)), o' 47 (.mv (i' 0))] [0, 45, 46, 47]) (c80x9)
def c80x11 : AC := .seq (.reg [m' 32 0, o' 33 (.call 81 [i' 5, i' 4, (.k (.slice none 0 0))]), o' 34 (.call 81 [i' 5, i' 5, (.k (.slice none 0 0))]), o' 35 (.call 82 [i' 7]), o' 36 (.call 81 [i' 5, i' 6, .t 35]), o' 37 (.bsl [(.int .i64 0), (.int .i64 0), (.int .i64 0), (.slice none 0 0)] 3 [(0, (.t 33)), (1, (.t 34)), (2, (.t 36))]), o' 38 (.call 139 [.t 32, (.k (.string ⟨#[114, 116, 105]⟩)), (i' 0), (.t 37)])] [0]) (c80x10)
def c80x12 : AC := .seq (.reg [m' 26 0, o' 27 (.call 81 [i' 5, i' 5, (.k (.slice none 0 0))]), o' 28 (.call 82 [i' 7]), o' 29 (.call 81 [i' 5, i' 6, .t 28]), o' 30 (.bsl [(.int .i64 0), (.int .i64 0), (.int .i64 0), (.slice none 0 0)] 2 [(0, (.t 27)), (1, (.t 29))]), o' 31 (.call 139 [.t 26, (.k (.string ⟨#[114, 116, 115]⟩)), (i' 0), (.t 30)])] [0]) (c80x11)
def c80x13 : AC := .seq (.reg [m' 10 0, o' 11 (.call 141 [i' 18, i' 8, i' 5]), o' 12 (.bsl [(.int .i64 0), (.int .i64 0), (.int .i64 0), (.int .i64 0)] 1 [(0, (.t 11))]), o' 13 (.call 81 [i' 0, i' 5, .t 12]), o' 14 (.call 141 [i' 19, i' 8, i' 5]), o' 15 (.call 141 [i' 21, i' 5, i' 7]), o' 16 (.bsl [(.int .i64 0), (.int .i64 0), (.int .i64 0), (.int .i64 0)] 2 [(0, (.t 14)), (1, (.t 15))]), o' 17 (.call 81 [i' 0, i' 5, .t 16]), o' 18 (.call 141 [i' 20, i' 5, i' 7]), o' 19 (.bsl [(.int .i64 0), (.int .i64 0), (.int .i64 0), (.int .i64 0)] 1 [(0, (.t 18))]), o' 20 (.call 143 [i' 4, i' 5, .t 19]), o' 21 (.call 141 [i' 1, i' 7, i' 8]), o' 22 (.bsl [(.int .i64 0), (.int .i64 0), (.int .i64 0), (.int .i64 0)] 1 [(0, (.t 21))]), o' 23 (.call 143 [i' 4, i' 5, .t 22]), o' 24 (.bsl [(.int .i64 0), (.int .i64 0), (.int .i64 0), (.slice none 0 0)] 4 [(0, (.t 13)), (1, (.t 17)), (2, (.t 20)), (3, (.t 23))]), o' 25 (.call 139 [.t 10, (.k (.string ⟨#[106, 115, 114]⟩)), (i' 4), (.t 24)])] [0]) (c80x12)
def c80 : AC := .seq (.reg [m' 4 0, o' 5 (.call 81 [i' 0, i' 5, (.k (.slice none 0 0))]), o' 6 (.call 82 [i' 7]), o' 7 (.call 81 [i' 0, i' 6, .t 6]), o' 8 (.bsl [(.int .i64 0), (.int .i64 0), (.int .i64 0), (.slice none 0 0)] 2 [(0, (.t 5)), (1, (.t 7))]), o' 9 (.call 139 [.t 4, (.k (.string ⟨#[106, 109, 112]⟩)), (i' 4), (.t 8)])] [0]) (c80x13)
theorem k80 : Try.f80.body.bind (compC Try.prog Try.f80.ntmps v80) = some c80 := by kernel_rfl
theorem e80 : enters Try.prog 80 = true := by kernel_rfl
theorem q80 : Try.f80.results.toList.mapM (compRes Try.prog) = some r80 := by kernel_rfl
def v81 : List (Nat × List Nat) := [(0, [0, 1, 2, 6]), (1, [6])]
def r81 : List AR := [.cell (some 4) 6]
def c81x0 : AC := .seq (.reg [m' 7 0, m' 8 1, m' 9 2, o' 10 (.build [(.int .i64 0), (.int .i64 0), (.int .i64 0), (.slice none 0 0)] [(0, 1, (i' 1)), (1, 1, (.t 7)), (2, 1, (.t 8)), (3, 1, (.t 9))]), n' (.st 4 (.t 6) (.t 10))] [6]) (.ret)
def c81 : AC := .seq (.reg [o' 6 (.zero [(.int .i64 0), (.int .i64 0), (.int .i64 0), (.slice none 0 0)])] [0, 1, 2, 6]) (c81x0)
theorem k81 : Try.f81.body.bind (compC Try.prog Try.f81.ntmps v81) = some c81 := by kernel_rfl
theorem e81 : enters Try.prog 81 = true := by kernel_rfl
theorem q81 : Try.f81.results.toList.mapM (compRes Try.prog) = some r81 := by kernel_rfl
def v82 : List (Nat × List Nat) := [(0, [0]), (1, [2])]
def r82 : List AR := [.t 2]
def c82x0 : AC := .seq (.reg [m' 3 0, o' 4 (.call 141 [i' 18, .t 3, i' 5]), m' 5 0, o' 6 (.call 141 [i' 19, .t 5, i' 6]), o' 7 (.bsl [(.int .i64 0), (.int .i64 0), (.int .i64 0), (.int .i64 0)] 2 [(0, (.t 4)), (1, (.t 6))]), m' 2 7] [2]) (.ret)
def c82 : AC := .seq (.reg [o' 2 (.mv (.k (.slice none 0 0)))] [0]) (c82x0)
theorem k82 : Try.f82.body.bind (compC Try.prog Try.f82.ntmps v82) = some c82 := by kernel_rfl
theorem e82 : enters Try.prog 82 = true := by kernel_rfl
theorem q82 : Try.f82.results.toList.mapM (compRes Try.prog) = some r82 := by kernel_rfl
def v83 : List (Nat × List Nat) := [(0, [0, 1]), (1, [4])]
def r83 : List AR := [.t 4]
def c83x0 : AC := .seq (.reg [o' 5 (.call 141 [i' 21, i' 5, i' 7]), o' 6 (.bsl [(.int .i64 0), (.int .i64 0), (.int .i64 0), (.int .i64 0)] 1 [(0, (.t 5))]), o' 7 (.call 140 [.t 6]), o' 8 (.call 141 [i' 20, i' 5, i' 7]), o' 9 (.bsl [(.int .i64 0), (.int .i64 0), (.int .i64 0), (.int .i64 0)] 1 [(0, (.t 8))]), o' 10 (.call 143 [i' 4, i' 5, .t 9]), o' 11 (.call 143 [i' 4, i' 5, (.k (.slice none 0 0))]), o' 12 (.build [(.int .i64 0), (.int .i64 0), (.int .i64 0), (.int .i64 0)] [(0, 1, (i' 16)), (3, 1, (i' 4))]), o' 13 (.bsl [(.int .i64 0), (.int .i64 0), (.int .i64 0), (.int .i64 0)] 1 [(0, (.t 12))]), o' 14 (.call 143 [i' 4, i' 4, .t 13]), m' 15 0, o' 16 (.call 81 [.t 15, i' 5, (.k (.slice none 0 0))]), m' 17 1, o' 18 (.call 82 [i' 7]), o' 19 (.call 81 [.t 17, i' 6, .t 18]), o' 20 (.bsl [(.int .i64 0), (.int .i64 0), (.int .i64 0), (.slice none 0 0)] 6 [(0, (.t 7)), (1, (.t 10)), (2, (.t 11)), (3, (.t 14)), (4, (.t 16)), (5, (.t 19))]), m' 4 20] [4]) (.ret)
def c83 : AC := .seq (.reg [o' 4 (.mv (.k (.slice none 0 0)))] [0, 1]) (c83x0)
theorem k83 : Try.f83.body.bind (compC Try.prog Try.f83.ntmps v83) = some c83 := by kernel_rfl
theorem e83 : enters Try.prog 83 = true := by kernel_rfl
theorem q83 : Try.f83.results.toList.mapM (compRes Try.prog) = some r83 := by kernel_rfl
def v135 : List (Nat × List Nat) := [(0, [0, 1, 2, 10, 11, 12]), (1, [0, 1, 2, 10, 11, 12, 13]), (2, [0, 1, 2, 9, 10, 11, 12]), (3, [0, 1, 2, 10, 11, 12]), (4, [0, 1, 2, 10, 11, 12])]
def r135 : List AR := []
def c135x0 : AC := .reg [o' 27 (.bin .add (.t 12) (i' 1)), m' 12 27] [0, 1, 2, 10, 11, 12]
def c135x1 : AC := .reg [m' 16 0, m' 17 1, m' 18 9, m' 19 9, m' 20 2, o' 21 (.call 141 [i' 1, .t 20, i' 5]), m' 22 2, o' 23 (.call 142 [i' 3, .t 22]), o' 24 (.bsl [(.int .i64 0), (.int .i64 0), (.int .i64 0), (.int .i64 0)] 2 [(0, (.t 21)), (1, (.t 23))]), o' 25 (.call 168 [.t 19, .t 24]), o' 26 (.call 139 [.t 16, .t 17, .t 18, .t 25])] [0, 1, 2, 10, 11, 12]
def c135x2 : AC := .seq (.reg [o' 14 (.idx 1 none (.t 10) (.t 12)), o' 15 (.ld none (.t 14)), m' 9 15] [0, 1, 2, 9, 10, 11, 12]) (c135x1)
def c135x3 : AC := .block 1 (c135x2)
def c135x4 : AC := .seq (c135x3) (c135x0)
def c135x5 : AC := .cond (.t 13) (.skip) (.exit 0)
def c135x6 : AC := .seq (c135x5) (c135x4)
def c135x7 : AC := .seq (.reg [o' 13 (.bin .lss (.t 12) (.t 11))] [0, 1, 2, 10, 11, 12, 13]) (c135x6)
def c135x8 : AC := .loop (c135x7)
def c135x9 : AC := .block 0 (c135x8)
def c135 : AC := .seq (.reg [m' 10 3, o' 11 (.len (.t 10)), o' 12 (.mv (i' 0))] [0, 1, 2, 10, 11, 12]) (c135x9)
theorem k135 : Try.f135.body.bind (compC Try.prog Try.f135.ntmps v135) = some c135 := by kernel_rfl
theorem e135 : enters Try.prog 135 = true := by kernel_rfl
theorem q135 : Try.f135.results.toList.mapM (compRes Try.prog) = some r135 := by kernel_rfl
def v136 : List (Nat × List Nat) := [(0, [0, 1, 2, 10, 11, 12]), (1, [0, 1, 2, 10, 11, 12, 13]), (2, [0, 1, 2, 9, 10, 11, 12]), (3, [0, 1, 2, 10, 11, 12]), (4, [0, 1, 2, 10, 11, 12])]
def r136 : List AR := []
def c136x0 : AC := .reg [o' 26 (.bin .add (.t 12) (i' 1)), m' 12 26] [0, 1, 2, 10, 11, 12]
def c136x1 : AC := .reg [m' 16 0, m' 17 1, m' 18 9, m' 19 9, o' 20 (.call 169 [.t 19]), m' 21 2, o' 22 (.call 143 [i' 2, .t 21, (.k (.slice none 0 0))]), o' 23 (.bsl [(.int .i64 0), (.int .i64 0), (.int .i64 0), (.slice none 0 0)] 1 [(0, (.t 22))]), o' 24 (.app 4 48 (.t 20) (.t 23)), o' 25 (.call 139 [.t 16, .t 17, .t 18, .t 24])] [0, 1, 2, 10, 11, 12]
def c136x2 : AC := .seq (.reg [o' 14 (.idx 1 none (.t 10) (.t 12)), o' 15 (.ld none (.t 14)), m' 9 15] [0, 1, 2, 9, 10, 11, 12]) (c136x1)
def c136x3 : AC := .block 1 (c136x2)
def c136x4 : AC := .seq (c136x3) (c136x0)
def c136x5 : AC := .cond (.t 13) (.skip) (.exit 0)
def c136x6 : AC := .seq (c136x5) (c136x4)
def c136x7 : AC := .seq (.reg [o' 13 (.bin .lss (.t 12) (.t 11))] [0, 1, 2, 10, 11, 12, 13]) (c136x6)
def c136x8 : AC := .loop (c136x7)
def c136x9 : AC := .block 0 (c136x8)
def c136 : AC := .seq (.reg [m' 10 3, o' 11 (.len (.t 10)), o' 12 (.mv (i' 0))] [0, 1, 2, 10, 11, 12]) (c136x9)
theorem k136 : Try.f136.body.bind (compC Try.prog Try.f136.ntmps v136) = some c136 := by kernel_rfl
theorem e136 : enters Try.prog 136 = true := by kernel_rfl
theorem q136 : Try.f136.results.toList.mapM (compRes Try.prog) = some r136 := by kernel_rfl
def v137 : List (Nat × List Nat) := [(0, [0, 1, 2, 3, 12, 13, 14]), (1, [0, 1, 2, 3, 12, 13, 14, 15]), (2, [0, 1, 2, 3, 11, 12, 13, 14]), (3, [0, 1, 2, 3, 12, 13, 14]), (4, [0, 1, 2, 3, 12, 13, 14])]
def r137 : List AR := []
def c137x0 : AC := .reg [o' 28 (.bin .add (.t 14) (i' 1)), m' 14 28] [0, 1, 2, 3, 12, 13, 14]
def c137x1 : AC := .reg [m' 18 0, m' 19 1, m' 20 11, m' 21 11, m' 22 2, m' 23 3, o' 24 (.call 141 [.t 22, .t 23, i' 5]), o' 25 (.bsl [(.int .i64 0), (.int .i64 0), (.int .i64 0), (.int .i64 0)] 1 [(0, (.t 24))]), o' 26 (.call 168 [.t 21, .t 25]), o' 27 (.call 139 [.t 18, .t 19, .t 20, .t 26])] [0, 1, 2, 3, 12, 13, 14]
def c137x2 : AC := .seq (.reg [o' 16 (.idx 1 none (.t 12) (.t 14)), o' 17 (.ld none (.t 16)), m' 11 17] [0, 1, 2, 3, 11, 12, 13, 14]) (c137x1)
def c137x3 : AC := .block 1 (c137x2)
def c137x4 : AC := .seq (c137x3) (c137x0)
def c137x5 : AC := .cond (.t 15) (.skip) (.exit 0)
def c137x6 : AC := .seq (c137x5) (c137x4)
def c137x7 : AC := .seq (.reg [o' 15 (.bin .lss (.t 14) (.t 13))] [0, 1, 2, 3, 12, 13, 14, 15]) (c137x6)
def c137x8 : AC := .loop (c137x7)
def c137x9 : AC := .block 0 (c137x8)
def c137 : AC := .seq (.reg [m' 12 4, o' 13 (.len (.t 12)), o' 14 (.mv (i' 0))] [0, 1, 2, 3, 12, 13, 14]) (c137x9)
theorem k137 : Try.f137.body.bind (compC Try.prog Try.f137.ntmps v137) = some c137 := by kernel_rfl
theorem e137 : enters Try.prog 137 = true := by kernel_rfl
theorem q137 : Try.f137.results.toList.mapM (compRes Try.prog) = some r137 := by kernel_rfl
def v138 : List (Nat × List Nat) := [(0, [0, 1, 2, 10, 11, 12]), (1, [0, 1, 2, 10, 11, 12, 13]), (2, [0, 1, 2, 9, 10, 11, 12]), (3, [0, 1, 2, 9, 10, 11, 12, 17]), (4, [0, 1, 2, 10, 11, 12]), (5, [0, 1, 2, 10, 11, 12]), (6, [0, 1, 2, 10, 11, 12])]
def r138 : List AR := []
def c138x0 : AC := .reg [o' 40 (.bin .add (.t 12) (i' 1)), m' 12 40] [0, 1, 2, 10, 11, 12]
def c138x1 : AC := .reg [m' 27 0, m' 28 1, m' 29 9, m' 30 9, o' 31 (.call 169 [.t 30]), m' 32 2, o' 33 (.call 142 [.t 32, i' 5]), o' 34 (.bsl [(.int .i64 0), (.int .i64 0), (.int .i64 0), (.int .i64 0)] 1 [(0, (.t 33))]), o' 35 (.call 81 [i' 2, i' 5, .t 34]), o' 36 (.call 143 [i' 2, i' 5, (.k (.slice none 0 0))]), o' 37 (.bsl [(.int .i64 0), (.int .i64 0), (.int .i64 0), (.slice none 0 0)] 2 [(0, (.t 35)), (1, (.t 36))]), o' 38 (.app 4 48 (.t 31) (.t 37)), o' 39 (.call 139 [.t 27, .t 28, .t 29, .t 38])] [0, 1, 2, 10, 11, 12]
def c138x2 : AC := .seq (.reg [m' 18 0, m' 19 1, m' 20 9, m' 21 2, o' 22 (.call 142 [.t 21, i' 0]), o' 23 (.bsl [(.int .i64 0), (.int .i64 0), (.int .i64 0), (.int .i64 0)] 1 [(0, (.t 22))]), o' 24 (.call 140 [.t 23]), o' 25 (.bsl [(.int .i64 0), (.int .i64 0), (.int .i64 0), (.slice none 0 0)] 1 [(0, (.t 24))]), o' 26 (.call 139 [.t 18, .t 19, .t 20, .t 25])] [0, 1, 2, 10, 11, 12]) (.exit 1)
def c138x3 : AC := .cond (.t 17) (c138x2) (.skip)
def c138x4 : AC := .seq (.reg [m' 16 9, o' 17 (.bin .eql (.t 16) (i' 0))] [0, 1, 2, 9, 10, 11, 12, 17]) (c138x3)
def c138x5 : AC := .seq (c138x4) (c138x1)
def c138x6 : AC := .seq (.reg [o' 14 (.idx 1 none (.t 10) (.t 12)), o' 15 (.ld none (.t 14)), m' 9 15] [0, 1, 2, 9, 10, 11, 12]) (c138x5)
def c138x7 : AC := .block 1 (c138x6)
def c138x8 : AC := .seq (c138x7) (c138x0)
def c138x9 : AC := .cond (.t 13) (.skip) (.exit 0)
def c138x10 : AC := .seq (c138x9) (c138x8)
def c138x11 : AC := .seq (.reg [o' 13 (.bin .lss (.t 12) (.t 11))] [0, 1, 2, 10, 11, 12, 13]) (c138x10)
def c138x12 : AC := .loop (c138x11)
def c138x13 : AC := .block 0 (c138x12)
def c138 : AC := .seq (.reg [m' 10 3, o' 11 (.len (.t 10)), o' 12 (.mv (i' 0))] [0, 1, 2, 10, 11, 12]) (c138x13)
theorem k138 : Try.f138.body.bind (compC Try.prog Try.f138.ntmps v138) = some c138 := by kernel_rfl
theorem e138 : enters Try.prog 138 = true := by kernel_rfl
theorem q138 : Try.f138.results.toList.mapM (compRes Try.prog) = some r138 := by kernel_rfl
def v139 : List (Nat × List Nat) := [(0, [])]
def r139 : List AR := []

def c139 : AC := .dreg [m' 8 0, m' 9 0, o' 10 (.nilc (.t 9)), o' 11 (.fad 0 (.t 10)), o' 12 (.ld none (.t 11)), m' 13 0, o' 14 (.nilc (.t 13)), o' 15 (.fad 0 (.t 14)), o' 16 (.ld none (.t 15)), o' 17 (.len (.t 16)), o' 18 (.bin .add (.t 17) (i' 1)), m' 19 1, m' 20 2, m' 21 3, o' 22 (.build [(.int .i64 0), (.string ⟨#[]⟩), (.int .i64 0), (.slice none 0 0)] [(0, 1, (.t 18)), (1, 1, (.t 19)), (2, 1, (.t 20)), (3, 1, (.t 21))]), o' 23 (.bsl [(.int .i64 0), (.string ⟨#[]⟩), (.int .i64 0), (.slice none 0 0)] 1 [(0, (.t 22))]), o' 24 (.app 4 56 (.t 12) (.t 23)), o' 25 (.nilc (.t 8)), o' 26 (.fad 0 (.t 25)), n' (.st 1 (.t 26) (.t 24))] [[], [], [1], [1, 2], [1, 2, 3], [], [5], [5, 6], [5, 6, 7], [5, 6, 7, 8], [5, 6, 7, 8, 9], [], [], [], [5, 6, 7, 8, 9, 10, 11, 12, 13], [5, 6, 7, 8, 9, 10, 11, 12, 13, 14], [1, 2, 3, 4, 5, 6, 7, 8, 9, 10, 11, 12, 13, 14, 15], [0, 1, 2, 3, 4, 5, 6, 7, 8, 9, 10, 11, 12, 13, 14, 15, 16], [0, 1, 2, 3, 4, 5, 6, 7, 8, 9, 10, 11, 12, 13, 14, 15, 16, 17], [0, 1, 2, 3, 4, 5, 6, 7, 8, 9, 10, 11, 12, 13, 14, 15, 16, 17, 18]] []
theorem k139 : Try.f139.body.bind (compC Try.prog Try.f139.ntmps v139) = some c139 := by kernel_rfl
theorem e139 : enters Try.prog 139 = true := by kernel_rfl
theorem q139 : Try.f139.results.toList.mapM (compRes Try.prog) = some r139 := by kernel_rfl
def v140 : List (Nat × List Nat) := [(0, [0, 2]), (1, [2])]
def r140 : List AR := [.cell (some 4) 2]
def c140x0 : AC := .seq (.reg [m' 3 0, o' 4 (.build [(.int .i64 0), (.int .i64 0), (.int .i64 0), (.slice none 0 0)] [(3, 1, (.t 3))]), n' (.st 4 (.t 2) (.t 4))] [2]) (.ret)
def c140 : AC := .seq (.reg [o' 2 (.zero [(.int .i64 0), (.int .i64 0), (.int .i64 0), (.slice none 0 0)])] [0, 2]) (c140x0)
theorem k140 : Try.f140.body.bind (compC Try.prog Try.f140.ntmps v140) = some c140 := by kernel_rfl
theorem e140 : enters Try.prog 140 = true := by kernel_rfl
theorem q140 : Try.f140.results.toList.mapM (compRes Try.prog) = some r140 := by kernel_rfl
def v141 : List (Nat × List Nat) := [(0, [0, 1, 2, 6]), (1, [6])]
def r141 : List AR := [.cell (some 4) 6]
def c141x0 : AC := .seq (.reg [m' 7 0, m' 8 1, m' 9 2, o' 10 (.build [(.int .i64 0), (.int .i64 0), (.int .i64 0), (.int .i64 0)] [(0, 1, (.t 7)), (1, 1, (.t 8)), (2, 1, (.t 9))]), n' (.st 4 (.t 6) (.t 10))] [6]) (.ret)
def c141 : AC := .seq (.reg [o' 6 (.zero [(.int .i64 0), (.int .i64 0), (.int .i64 0), (.int .i64 0)])] [0, 1, 2, 6]) (c141x0)
theorem k141 : Try.f141.body.bind (compC Try.prog Try.f141.ntmps v141) = some c141 := by kernel_rfl
theorem e141 : enters Try.prog 141 = true := by kernel_rfl
theorem q141 : Try.f141.results.toList.mapM (compRes Try.prog) = some r141 := by kernel_rfl
def v142 : List (Nat × List Nat) := [(0, [0, 1, 4]), (1, [4])]
def r142 : List AR := [.cell (some 4) 4]
def c142x0 : AC := .seq (.reg [m' 5 0, m' 6 1, o' 7 (.build [(.int .i64 0), (.int .i64 0), (.int .i64 0), (.int .i64 0)] [(0, 1, (.t 5)), (1, 1, (.t 6))]), n' (.st 4 (.t 4) (.t 7))] [4]) (.ret)
def c142 : AC := .seq (.reg [o' 4 (.zero [(.int .i64 0), (.int .i64 0), (.int .i64 0), (.int .i64 0)])] [0, 1, 4]) (c142x0)
theorem k142 : Try.f142.body.bind (compC Try.prog Try.f142.ntmps v142) = some c142 := by kernel_rfl
theorem e142 : enters Try.prog 142 = true := by kernel_rfl
theorem q142 : Try.f142.results.toList.mapM (compRes Try.prog) = some r142 := by kernel_rfl
def v143 : List (Nat × List Nat) := [(0, [0, 1, 2, 6]), (1, [6])]
def r143 : List AR := [.cell (some 4) 6]
def c143x0 : AC := .seq (.reg [m' 7 0, m' 8 1, m' 9 2, o' 10 (.build [(.int .i64 0), (.int .i64 0), (.int .i64 0), (.slice none 0 0)] [(0, 1, (i' 2)), (1, 1, (.t 7)), (2, 1, (.t 8)), (3, 1, (.t 9))]), n' (.st 4 (.t 6) (.t 10))] [6]) (.ret)
def c143 : AC := .seq (.reg [o' 6 (.zero [(.int .i64 0), (.int .i64 0), (.int .i64 0), (.slice none 0 0)])] [0, 1, 2, 6]) (c143x0)
theorem k143 : Try.f143.body.bind (compC Try.prog Try.f143.ntmps v143) = some c143 := by kernel_rfl
theorem e143 : enters Try.prog 143 = true := by kernel_rfl
theorem q143 : Try.f143.results.toList.mapM (compRes Try.prog) = some r143 := by kernel_rfl
def v168 : List (Nat × List Nat) := [(0, [0, 1]), (1, [0, 1, 5]), (2, [0, 1, 5, 7]), (3, [0, 1, 5]), (4, [4])]
def r168 : List AR := [.t 4]
def c168x0 : AC := .seq (.reg [m' 8 0, o' 9 (.call 169 [.t 8]), m' 10 5, m' 11 1, o' 12 (.call 81 [.t 10, i' 5, .t 11]), o' 13 (.bsl [(.int .i64 0), (.int .i64 0), (.int .i64 0), (.slice none 0 0)] 1 [(0, (.t 12))]), o' 14 (.app 4 48 (.t 9) (.t 13)), m' 4 14] [4]) (.ret)
def c168x1 : AC := .reg [o' 5 (.mv (i' 0))] [0, 1, 5]
def c168x2 : AC := .cond (.t 7) (c168x1) (.skip)
def c168x3 : AC := .seq (.reg [m' 6 0, o' 7 (.bin .eql (.t 6) (i' 1))] [0, 1, 5, 7]) (c168x2)
def c168x4 : AC := .seq (c168x3) (c168x0)
def c168x5 : AC := .seq (.reg [o' 5 (.mv (i' 2))] [0, 1, 5]) (c168x4)
def c168 : AC := .seq (.reg [o' 4 (.mv (.k (.slice none 0 0)))] [0, 1]) (c168x5)
theorem k168 : Try.f168.body.bind (compC Try.prog Try.f168.ntmps v168) = some c168 := by kernel_rfl
theorem e168 : enters Try.prog 168 = true := by kernel_rfl
theorem q168 : Try.f168.results.toList.mapM (compRes Try.prog) = some r168 := by kernel_rfl
def v169 : List (Nat × List Nat) := [(0, [0]), (1, [0, 3]), (2, [0, 3, 4]), (3, [0, 3, 4, 5]), (4, [3, 4, 5, 16]), (5, [3, 4, 5, 16, 17]), (6, [2]), (7, [3, 4, 5, 16, 21]), (8, [3]), (9, [2]), (10, [3, 4, 5, 16, 36]), (11, [2]), (12, [3, 4, 5, 16, 41]), (13, [2]), (14, [3, 4, 5, 16, 49]), (15, [2]), (16, [3, 57]), (17, [2]), (18, [2])]
def r169 : List AR := [.t 2]
def c169x0 : AC := .seq (.reg [o' 2 (.mv (.k (.slice none 0 0)))] [2]) (.ret)
def c169x1 : AC := .seq (.reg [o' 19 (.ld (some 4) (.t 3)), o' 20 (.bsl [(.int .i64 0), (.int .i64 0), (.int .i64 0), (.slice none 0 0)] 1 [(0, (.t 19))]), m' 2 20] [2]) (.ret)
def c169x2 : AC := .seq (.dreg [o' 29 (.ld (some 4) (.t 3)), o' 30 (.call 141 [i' 20, i' 5, i' 8]), o' 31 (.call 172 []), o' 32 (.call 141 [i' 18, i' 8, i' 5]), o' 33 (.bsl [(.int .i64 0), (.int .i64 0), (.int .i64 0), (.int .i64 0)] 3 [(0, (.t 30)), (1, (.t 31)), (2, (.t 32))]), o' 34 (.call 140 [.t 33]), o' 35 (.bsl [(.int .i64 0), (.int .i64 0), (.int .i64 0), (.slice none 0 0)] 2 [(0, (.t 29)), (1, (.t 34))]), m' 2 35] [[], [], [1], [1, 2], [1, 2, 3], [1, 2, 3, 4], [0, 1, 2, 3, 4, 5], [0, 1, 2, 3, 4, 5, 6]] [2]) (.ret)
def c169x3 : AC := .seq (.dreg [o' 23 (.fad 3 (.t 3)), o' 24 (.ld none (.t 23)), o' 25 (.call 141 [i' 22, i' 8, i' 1]), o' 26 (.bsl [(.int .i64 0), (.int .i64 0), (.int .i64 0), (.int .i64 0)] 1 [(0, (.t 25))]), o' 27 (.app 4 32 (.t 24) (.t 26)), o' 28 (.fad 3 (.t 3)), n' (.st 1 (.t 28) (.t 27))] [[], [0], [], [2], [0, 1, 2, 3], [0, 1, 2, 3, 4], [0, 1, 2, 3, 4, 5]] [3]) (c169x2)
def c169x4 : AC := .seq (.reg [o' 38 (.ld (some 4) (.t 4)), o' 39 (.ld (some 4) (.t 5)), o' 40 (.bsl [(.int .i64 0), (.int .i64 0), (.int .i64 0), (.slice none 0 0)] 2 [(0, (.t 38)), (1, (.t 39))]), m' 2 40] [2]) (.ret)
def c169x5 : AC := .seq (.dreg [o' 43 (.ld (some 4) (.t 4)), o' 44 (.ld (some 4) (.t 5)), o' 45 (.call 141 [i' 22, i' 8, i' 1]), o' 46 (.bsl [(.int .i64 0), (.int .i64 0), (.int .i64 0), (.int .i64 0)] 1 [(0, (.t 45))]), o' 47 (.call 140 [.t 46]), o' 48 (.bsl [(.int .i64 0), (.int .i64 0), (.int .i64 0), (.slice none 0 0)] 3 [(0, (.t 43)), (1, (.t 44)), (2, (.t 47))]), m' 2 48] [[], [], [], [2], [2, 3], [0, 1, 2, 3, 4], [0, 1, 2, 3, 4, 5]] [2]) (.ret)
def c169x6 : AC := .seq (.dreg [o' 51 (.ld (some 4) (.t 4)), o' 52 (.ld (some 4) (.t 5)), o' 53 (.call 141 [i' 22, i' 8, i' 2]), o' 54 (.bsl [(.int .i64 0), (.int .i64 0), (.int .i64 0), (.int .i64 0)] 1 [(0, (.t 53))]), o' 55 (.call 140 [.t 54]), o' 56 (.bsl [(.int .i64 0), (.int .i64 0), (.int .i64 0), (.slice none 0 0)] 3 [(0, (.t 51)), (1, (.t 52)), (2, (.t 55))]), m' 2 56] [[], [], [], [2], [2, 3], [0, 1, 2, 3, 4], [0, 1, 2, 3, 4, 5]] [2]) (.ret)
def c169x7 : AC := .seq (.dreg [o' 59 (.ld (some 4) (.t 3)), o' 60 (.call 81 [i' 2, i' 5, (.k (.slice none 0 0))]), o' 61 (.call 82 [i' 8]), o' 62 (.call 141 [i' 22, i' 8, i' 2]), o' 63 (.bsl [(.int .i64 0), (.int .i64 0), (.int .i64 0), (.int .i64 0)] 1 [(0, (.t 62))]), o' 64 (.app 4 32 (.t 61) (.t 63)), o' 65 (.call 81 [i' 3, i' 6, .t 64]), o' 66 (.bsl [(.int .i64 0), (.int .i64 0), (.int .i64 0), (.slice none 0 0)] 3 [(0, (.t 59)), (1, (.t 60)), (2, (.t 65))]), m' 2 66] [[], [], [1], [1, 2], [1, 2, 3], [1, 2, 3, 4], [1, 2, 3, 4, 5], [0, 1, 2, 3, 4, 5, 6], [0, 1, 2, 3, 4, 5, 6, 7]] [2]) (.ret)
def c169x8 : AC := .cond (.t 57) (c169x7) (.skip)
def c169x9 : AC := .seq (.reg [o' 58 (.bin .eql (.t 16) (i' 8)), m' 57 58] [3, 57]) (c169x8)
def c169x10 : AC := .cond (.t 49) (c169x6) (c169x9)
def c169x11 : AC := .seq (.reg [o' 50 (.bin .eql (.t 16) (i' 6)), m' 49 50] [3, 4, 5, 16, 49]) (c169x10)
def c169x12 : AC := .cond (.t 41) (c169x5) (c169x11)
def c169x13 : AC := .seq (.reg [o' 42 (.bin .eql (.t 16) (i' 5)), m' 41 42] [3, 4, 5, 16, 41]) (c169x12)
def c169x14 : AC := .cond (.t 36) (c169x4) (c169x13)
def c169x15 : AC := .seq (.reg [o' 37 (.bin .eql (.t 16) (i' 4)), m' 36 37] [3, 4, 5, 16, 36]) (c169x14)
def c169x16 : AC := .cond (.t 21) (c169x3) (c169x15)
def c169x17 : AC := .seq (.reg [o' 22 (.bin .eql (.t 16) (i' 3)), m' 21 22] [3, 4, 5, 16, 21]) (c169x16)
def c169x18 : AC := .cond (.t 17) (c169x1) (c169x17)
def c169x19 : AC := .seq (.reg [o' 18 (.bin .eql (.t 16) (i' 2)), m' 17 18] [3, 4, 5, 16, 17]) (c169x18)
def c169x20 : AC := .block 0 (c169x19)
def c169x21 : AC := .seq (.reg [m' 16 0] [3, 4, 5, 16]) (c169x20)
def c169x22 : AC := .seq (c169x21) (c169x0)
def c169x23 : AC := .seq (.reg [o' 13 (.call 141 [i' 19, i' 8, i' 5]), o' 14 (.bsl [(.int .i64 0), (.int .i64 0), (.int .i64 0), (.int .i64 0)] 1 [(0, (.t 13))]), o' 15 (.call 81 [i' 0, i' 5, .t 14]), o' 5 (.zero [(.int .i64 0), (.int .i64 0), (.int .i64 0), (.slice none 0 0)]), n' (.st 4 (.t 5) (.t 15))] [0, 3, 4, 5]) (c169x22)
def c169x24 : AC := .seq (.reg [o' 10 (.call 141 [i' 18, i' 8, i' 5]), o' 11 (.bsl [(.int .i64 0), (.int .i64 0), (.int .i64 0), (.int .i64 0)] 1 [(0, (.t 10))]), o' 12 (.call 81 [i' 0, i' 5, .t 11]), o' 4 (.zero [(.int .i64 0), (.int .i64 0), (.int .i64 0), (.slice none 0 0)]), n' (.st 4 (.t 4) (.t 12))] [0, 3, 4]) (c169x23)
def c169x25 : AC := .seq (.reg [o' 6 (.call 172 []), o' 7 (.call 141 [i' 18, i' 8, i' 5]), o' 8 (.bsl [(.int .i64 0), (.int .i64 0), (.int .i64 0), (.int .i64 0)] 2 [(0, (.t 6)), (1, (.t 7))]), o' 9 (.call 81 [i' 0, i' 5, .t 8]), o' 3 (.zero [(.int .i64 0), (.int .i64 0), (.int .i64 0), (.slice none 0 0)]), n' (.st 4 (.t 3) (.t 9))] [0, 3]) (c169x24)
def c169 : AC := .seq (.reg [o' 2 (.mv (.k (.slice none 0 0)))] [0]) (c169x25)
theorem k169 : Try.f169.body.bind (compC Try.prog Try.f169.ntmps v169) = some c169 := by kernel_rfl
theorem e169 : enters Try.prog 169 = true := by kernel_rfl
theorem q169 : Try.f169.results.toList.mapM (compRes Try.prog) = some r169 := by kernel_rfl
def v172 : List (Nat × List Nat) := [(0, [0]), (1, [0])]
def r172 : List AR := [.cell (some 4) 0]
def c172x0 : AC := .seq (.reg [o' 1 (.build [(.int .i64 0), (.int .i64 0), (.int .i64 0), (.int .i64 0)] [(0, 1, (i' 2)), (1, 1, (i' 8))]), n' (.st 4 (.t 0) (.t 1))] [0]) (.ret)
def c172 : AC := .seq (.reg [o' 0 (.zero [(.int .i64 0), (.int .i64 0), (.int .i64 0), (.int .i64 0)])] [0]) (c172x0)
theorem k172 : Try.f172.body.bind (compC Try.prog Try.f172.ntmps v172) = some c172 := by kernel_rfl
theorem e172 : enters Try.prog 172 = true := by kernel_rfl
theorem q172 : Try.f172.results.toList.mapM (compRes Try.prog) = some r172 := by kernel_rfl
end Go.Proofs.Ytolmklnijjfppaa.Code

namespace Go.Proofs.Ytolmklnijjfppaa.Code
open Go Go.Proofs.Ytolmklnijjfppaa.Calc
set_option maxRecDepth 100000
def v70 : List (Nat × List Nat) := [(0, [1, 2, 4]), (1, [1, 4, 5, 6]), (2, [1, 4, 5, 6, 19]), (3, [1, 4, 5, 6, 29]), (4, [4, 5, 6]), (5, [1, 4, 5, 6, 36]), (6, [4, 5, 6]), (7, [1, 4, 5, 6]), (8, [1, 4, 5, 6]), (9, [1, 4, 5, 6]), (10, [4])]
def r70 : List AR := [.cell (some 2) 4]
def c70x0 : AC := .seq (.reg [m' 54 5, m' 55 6, o' 56 (.build [(.slice none 0 0), (.slice none 0 0)] [(0, 1, (.t 54)), (1, 1, (.t 55))]), n' (.st 2 (.t 4) (.t 56))] [4]) (.ret)
def c70x1 : AC := .reg [m' 51 5, m' 52 6, o' 53 (.call 123 [.t 51, .t 52])] [1, 4, 5, 6]
def c70x2 : AC := .seq (.reg [m' 49 5, o' 50 (.idx 1 none (.t 49) (i' 5)), n' (.st 1 (.t 50) (i' 0))] [1, 4, 5, 6]) (c70x1)
def c70x3 : AC := .seq (.reg [m' 43 1, m' 44 5, o' 45 (.idx 1 none (.t 44) (i' 5)), o' 46 (.ld none (.t 45)), o' 47 (.mnx true [i' 1, .t 46]), o' 48 (.bin .sub (.t 43) (.t 47)), m' 1 48] [1, 4, 5, 6]) (c70x2)
def c70x4 : AC := .seq (.reg [m' 37 5, o' 38 (.idx 1 none (.t 37) (i' 5)), o' 39 (.ld none (.t 38)), m' 40 1, o' 41 (.bin .sub (.t 39) (.t 40)), o' 42 (.idx 1 none (.t 37) (i' 5)), n' (.st 1 (.t 42) (.t 41))] [4, 5, 6]) (.exit 0)
def c70x5 : AC := .cond (.t 36) (c70x4) (.skip)
def c70x6 : AC := .seq (.reg [m' 32 1, m' 33 5, o' 34 (.idx 1 none (.t 33) (i' 5)), o' 35 (.ld none (.t 34)), o' 36 (.bin .lss (.t 32) (.t 35))] [1, 4, 5, 6, 36]) (c70x5)
def c70x7 : AC := .seq (c70x6) (c70x3)
def c70x8 : AC := .seq (.reg [m' 30 5, o' 31 (.idx 1 none (.t 30) (i' 2)), n' (.st 1 (.t 31) (i' 0))] [4, 5, 6]) (.exit 0)
def c70x9 : AC := .cond (.t 29) (c70x8) (.skip)
def c70x10 : AC := .seq (.reg [m' 20 5, o' 21 (.idx 1 none (.t 20) (i' 2)), o' 22 (.ld none (.t 21)), o' 23 (.bin .geq (.t 22) (i' 3)), m' 24 23, ⟨(some 25), .mv (.t 5), (some (24, true))⟩, ⟨(some 26), .idx 1 none (.t 25) (i' 0), (some (24, true))⟩, ⟨(some 27), .ld none (.t 26), (some (24, true))⟩, ⟨(some 28), .bin .eql (.t 27) (i' 0), (some (24, true))⟩, o' 29 (.pick (.t 24) (.t 28) (.k (.bool false)))] [1, 4, 5, 6, 29]) (c70x9)
def c70x11 : AC := .seq (c70x10) (c70x7)
def c70x12 : AC := .block 1 (c70x11)
def c70x13 : AC := .cond (.t 19) (.skip) (.exit 0)
def c70x14 : AC := .seq (.reg [m' 12 1, o' 13 (.bin .gtr (.t 12) (i' 0)), m' 14 13, ⟨(some 15), .mv (.t 5), (some (14, true))⟩, ⟨(some 16), .idx 1 none (.t 15) (i' 2), (some (14, true))⟩, ⟨(some 17), .ld none (.t 16), (some (14, true))⟩, ⟨(some 18), .bin .gtr (.t 17) (i' 0), (some (14, true))⟩, o' 19 (.pick (.t 14) (.t 18) (.k (.bool false)))] [1, 4, 5, 6, 19]) (c70x13)
def c70x15 : AC := .seq (c70x14) (c70x12)
def c70x16 : AC := .loop (c70x15)
def c70x17 : AC := .block 0 (c70x16)
def c70x18 : AC := .seq (c70x17) (c70x0)
def c70x19 : AC := .seq (.reg [o' 8 (.ld (some 2) (.t 2)), o' 9 (.call 122 [.t 8]), m' 7 9, o' 10 (.ext (.t 7) 0), o' 11 (.ext (.t 7) 1), m' 5 10, m' 6 11] [1, 4, 5, 6]) (c70x18)
def c70 : AC := .seq (.reg [o' 2 (.new 2 (.t 0)), o' 4 (.zero [(.slice none 0 0), (.slice none 0 0)])] [1, 2, 4]) (c70x19)
def v103 : List (Nat × List Nat) := [(0, [0, 2]), (1, [0, 2, 3]), (2, [2, 3]), (3, [2])]
def r103 : List AR := [.cell (some 2) 2]
def c103x0 : AC := .seq (.reg [o' 12 (.mksl [(.int .i64 0)] 8 (i' 10) (i' 10)), m' 13 3, o' 14 (.build [(.slice none 0 0), (.slice none 0 0)] [(0, 1, (.t 12)), (1, 1, (.t 13))]), n' (.st 2 (.t 2) (.t 14))] [2]) (.ret)
def c103x1 : AC := .seq (.reg [m' 9 3, m' 10 0, o' 11 (.copy 1 (.t 9) (.t 10))] [2, 3]) (c103x0)
def c103x2 : AC := .seq (.reg [m' 4 0, o' 5 (.len (.t 4)), o' 6 (.bin .quo (.t 5) (i' 256)), o' 7 (.bin .mul (.t 6) (i' 256)), o' 8 (.mksl [(.int .u8 0)] 1 (.t 7) (.t 7)), m' 3 8] [0, 2, 3]) (c103x1)
def c103 : AC := .seq (.reg [o' 2 (.zero [(.slice none 0 0), (.slice none 0 0)])] [0, 2]) (c103x2)
def v110 : List (Nat × List Nat) := [(0, [1, 2, 3, 6]), (1, [1, 2, 6, 7, 8]), (2, [2, 6, 7, 8, 14]), (3, [2, 6, 7, 8, 14, 15]), (4, [6, 7, 8]), (5, [2, 6, 7, 8, 14, 21]), (6, [6, 7, 8]), (7, [6, 7, 8, 30]), (8, [6, 7, 8]), (9, [2, 6, 7, 8, 33]), (10, [6, 7, 8]), (11, [6])]
def r110 : List AR := [.cell (some 2) 6]
def c110x0 : AC := .seq (.reg [m' 39 7, m' 40 8, o' 41 (.build [(.slice none 0 0), (.slice none 0 0)] [(0, 1, (.t 39)), (1, 1, (.t 40))]), n' (.st 2 (.t 6) (.t 41))] [6]) (.ret)
def c110x1 : AC := .reg [m' 17 7, m' 18 2, o' 19 (.call 114 [.t 18, i' 8]), o' 20 (.call 157 [.t 17, .t 19])] [6, 7, 8]
def c110x2 : AC := .reg [m' 31 7, o' 32 (.idx 1 none (.t 31) (i' 7)), n' (.st 1 (.t 32) (i' 0))] [6, 7, 8]
def c110x3 : AC := .cond (.t 30) (c110x2) (.skip)
def c110x4 : AC := .seq (.reg [m' 27 7, o' 28 (.idx 1 none (.t 27) (i' 2)), o' 29 (.ld none (.t 28)), o' 30 (.bin .eql (.t 29) (i' 4))] [6, 7, 8, 30]) (c110x3)
def c110x5 : AC := .seq (.reg [m' 23 7, m' 24 2, o' 25 (.call 114 [.t 24, i' 8]), o' 26 (.idx 1 none (.t 23) (i' 6)), n' (.st 1 (.t 26) (.t 25))] [6, 7, 8]) (c110x4)
def c110x6 : AC := .reg [m' 35 7, m' 36 2, o' 37 (.call 114 [.t 36, i' 1]), o' 38 (.idx 1 none (.t 35) (i' 9)), n' (.st 1 (.t 38) (.t 37))] [6, 7, 8]
def c110x7 : AC := .cond (.t 33) (c110x6) (.skip)
def c110x8 : AC := .seq (.reg [o' 34 (.bin .eql (.t 14) (i' 3)), m' 33 34] [2, 6, 7, 8, 33]) (c110x7)
def c110x9 : AC := .cond (.t 21) (c110x5) (c110x8)
def c110x10 : AC := .seq (.reg [o' 22 (.bin .eql (.t 14) (i' 1)), m' 21 22] [2, 6, 7, 8, 14, 21]) (c110x9)
def c110x11 : AC := .cond (.t 15) (c110x1) (c110x10)
def c110x12 : AC := .seq (.reg [o' 16 (.bin .eql (.t 14) (i' 0)), m' 15 16] [2, 6, 7, 8, 14, 15]) (c110x11)
def c110x13 : AC := .block 0 (c110x12)
def c110x14 : AC := .seq (.reg [m' 14 1] [2, 6, 7, 8, 14]) (c110x13)
def c110x15 : AC := .seq (c110x14) (c110x0)
def c110x16 : AC := .seq (.reg [o' 10 (.ld (some 2) (.t 3)), o' 11 (.call 122 [.t 10]), m' 9 11, o' 12 (.ext (.t 9) 0), o' 13 (.ext (.t 9) 1), m' 7 12, m' 8 13] [1, 2, 6, 7, 8]) (c110x15)
def c110 : AC := .seq (.reg [o' 3 (.new 2 (.t 0)), o' 6 (.zero [(.slice none 0 0), (.slice none 0 0)])] [1, 2, 3, 6]) (c110x16)
def v122 : List (Nat × List Nat) := [(0, [1]), (1, [1, 4]), (2, [1, 4]), (3, [1, 4, 13, 14]), (4, [1, 4, 13, 14, 15]), (5, [1, 4, 5, 6, 13, 14]), (6, [1, 4, 13, 14]), (7, [1, 4, 13, 14]), (8, [1, 4, 7]), (9, [4, 7]), (10, [4, 7, 44]), (11, [4, 7]), (12, [4, 7, 50]), (13, [4, 7]), (14, [2, 3])]
def r122 : List AR := [.t 2, .t 3]
def c122x0 : AC := .seq (.reg [m' 53 4, m' 54 7, m' 2 53, m' 3 54] [2, 3]) (.ret)
def c122x1 : AC := .reg [m' 51 4, o' 52 (.idx 1 none (.t 51) (i' 2)), n' (.st 1 (.t 52) (i' 0))] [4, 7]
def c122x2 : AC := .cond (.t 50) (c122x1) (.skip)
def c122x3 : AC := .seq (.reg [m' 47 4, o' 48 (.idx 1 none (.t 47) (i' 2)), o' 49 (.ld none (.t 48)), o' 50 (.bin .gtr (.t 49) (i' 4))] [4, 7, 50]) (c122x2)
def c122x4 : AC := .seq (c122x3) (c122x0)
def c122x5 : AC := .reg [m' 45 4, o' 46 (.idx 1 none (.t 45) (i' 0)), n' (.st 1 (.t 46) (i' 0))] [4, 7]
def c122x6 : AC := .cond (.t 44) (c122x5) (.skip)
def c122x7 : AC := .seq (.reg [m' 38 4, o' 39 (.idx 1 none (.t 38) (i' 0)), o' 40 (.ld none (.t 39)), m' 41 7, o' 42 (.len (.t 41)), o' 43 (.bin .quo (.t 42) (i' 256)), o' 44 (.bin .gtr (.t 40) (.t 43))] [4, 7, 44]) (c122x6)
def c122x8 : AC := .seq (c122x7) (c122x4)
def c122x9 : AC := .seq (.reg [m' 34 7, o' 35 (.fad 1 (.t 1)), o' 36 (.ld none (.t 35)), o' 37 (.copy 1 (.t 34) (.t 36))] [4, 7]) (c122x8)
def c122x10 : AC := .seq (.reg [o' 28 (.fad 1 (.t 1)), o' 29 (.ld none (.t 28)), o' 30 (.len (.t 29)), o' 31 (.bin .quo (.t 30) (i' 256)), o' 32 (.bin .mul (.t 31) (i' 256)), o' 33 (.mksl [(.int .u8 0)] 1 (.t 32) (.t 32)), m' 7 33] [1, 4, 7]) (c122x9)
def c122x11 : AC := .reg [o' 27 (.bin .add (.t 14) (i' 1)), m' 14 27] [1, 4, 13, 14]
def c122x12 : AC := .reg [m' 18 4, m' 19 5, m' 20 4, m' 21 5, o' 22 (.idx 1 none (.t 20) (.t 21)), o' 23 (.ld none (.t 22)), m' 24 6, o' 25 (.call 114 [.t 23, .t 24]), o' 26 (.idx 1 none (.t 18) (.t 19)), n' (.st 1 (.t 26) (.t 25))] [1, 4, 13, 14]
def c122x13 : AC := .seq (.reg [m' 16 14, o' 17 (.ixa 10 1 none (.t 13) (.t 14)), m' 5 16, m' 6 17] [1, 4, 5, 6, 13, 14]) (c122x12)
def c122x14 : AC := .block 1 (c122x13)
def c122x15 : AC := .seq (c122x14) (c122x11)
def c122x16 : AC := .cond (.t 15) (.skip) (.exit 0)
def c122x17 : AC := .seq (c122x16) (c122x15)
def c122x18 : AC := .seq (.reg [o' 15 (.bin .lss (.t 14) (i' 10))] [1, 4, 13, 14, 15]) (c122x17)
def c122x19 : AC := .loop (c122x18)
def c122x20 : AC := .block 0 (c122x19)
def c122x21 : AC := .seq (.reg [o' 13 (.build [(.int .i64 0), (.int .i64 0), (.int .i64 0), (.int .i64 0), (.int .i64 0), (.int .i64 0), (.int .i64 0), (.int .i64 0), (.int .i64 0), (.int .i64 0)] [(0, 1, (i' 8)), (1, 1, (i' 2)), (2, 1, (i' 3)), (3, 1, (i' 2)), (4, 1, (i' 4)), (5, 1, (i' 6)), (6, 1, (i' 8)), (7, 1, (i' 1)), (8, 1, (i' 1)), (9, 1, (i' 1))]), o' 14 (.mv (i' 0))] [1, 4, 13, 14]) (c122x20)
def c122x22 : AC := .seq (c122x21) (c122x10)
def c122x23 : AC := .seq (.reg [m' 9 4, o' 10 (.fad 0 (.t 1)), o' 11 (.ld none (.t 10)), o' 12 (.copy 1 (.t 9) (.t 11))] [1, 4]) (c122x22)
def c122x24 : AC := .seq (.reg [o' 8 (.mksl [(.int .i64 0)] 8 (i' 10) (i' 10)), m' 4 8] [1, 4]) (c122x23)
def c122 : AC := .seq (.reg [o' 1 (.new 2 (.t 0)), o' 2 (.mv (.k (.slice none 0 0))), o' 3 (.mv (.k (.slice none 0 0)))] [1]) (c122x24)
def v123 : List (Nat × List Nat) := [(0, [0, 1, 6]), (1, [0, 1]), (2, [0]), (3, [0]), (4, [0, 1, 6, 25]), (5, [0, 1, 6, 25]), (6, [0]), (7, []), (8, [0, 1, 43]), (9, [0, 1]), (10, [0]), (11, [0]), (12, [0]), (13, [0, 73]), (14, [0, 77]), (15, [0]), (16, [])]
def r123 : List AR := []
def c123x0 : AC := .reg [m' 80 0, m' 81 0, m' 82 0, o' 83 (.idx 1 none (.t 80) (i' 2)), n' (.st 1 (.t 83) (i' 0)), o' 84 (.idx 1 none (.t 81) (i' 4)), n' (.st 1 (.t 84) (i' 0)), o' 85 (.idx 1 none (.t 82) (i' 5)), n' (.st 1 (.t 85) (i' 0))] []
def c123x1 : AC := .reg [m' 78 0, o' 79 (.idx 1 none (.t 78) (i' 7)), n' (.st 1 (.t 79) (i' 0))] [0]
def c123x2 : AC := .cond (.t 77) (c123x1) (.skip)
def c123x3 : AC := .seq (.reg [m' 74 0, o' 75 (.idx 1 none (.t 74) (i' 2)), o' 76 (.ld none (.t 75)), o' 77 (.bin .eql (.t 76) (i' 4))] [0, 77]) (c123x2)
def c123x4 : AC := .seq (c123x3) (c123x0)
def c123x5 : AC := .cond (.t 73) (c123x4) (.skip)
def c123x6 : AC := .seq (.reg [m' 70 0, o' 71 (.idx 1 none (.t 70) (i' 4)), o' 72 (.ld none (.t 71)), o' 73 (.bin .eql (.t 72) (i' 16))] [0, 73]) (c123x5)
def c123x7 : AC := .seq (.reg [m' 65 0, o' 66 (.idx 1 none (.t 65) (i' 4)), o' 67 (.ld none (.t 66)), o' 68 (.bin .add (.t 67) (i' 1)), o' 69 (.idx 1 none (.t 65) (i' 4)), n' (.st 1 (.t 69) (.t 68))] [0]) (c123x6)
def c123x8 : AC := .seq (.reg [m' 63 0, o' 64 (.idx 1 none (.t 63) (i' 5)), n' (.st 1 (.t 64) (i' 20))] [0]) (c123x7)
def c123x9 : AC := .seq (.reg [m' 41 0, o' 42 (.idx 1 none (.t 41) (i' 2)), n' (.st 1 (.t 42) (i' 0))] []) (.ret)
def c123x10 : AC := .seq (.dreg [m' 28 0, m' 29 0, o' 30 (.idx 1 none (.t 29) (i' 1)), o' 31 (.ld none (.t 30)), o' 32 (.bin .add (.t 31) (i' 3)), m' 33 0, o' 34 (.idx 1 none (.t 33) (i' 2)), o' 35 (.ld none (.t 34)), o' 36 (.bin .mul (i' 2) (.t 35)), o' 37 (.bin .sub (.t 32) (.t 36)), o' 38 (.mnx false [.t 37, i' 3]), o' 39 (.mnx true [i' 0, .t 38]), o' 40 (.idx 1 none (.t 28) (i' 1)), n' (.st 1 (.t 40) (.t 39))] [[], [], [1], [1, 2], [1, 2, 3], [], [5], [5, 6], [5, 6, 7], [1, 2, 3, 4, 5, 6, 7, 8], [1, 2, 3, 4, 5, 6, 7, 8, 9], [1, 2, 3, 4, 5, 6, 7, 8, 9, 10], [0, 1, 2, 3, 4, 5, 6, 7, 8, 9, 10, 11], [0, 1, 2, 3, 4, 5, 6, 7, 8, 9, 10, 11, 12]] [0]) (c123x9)
def c123x11 : AC := .reg [m' 53 0, m' 54 0, m' 55 1, m' 56 0, o' 57 (.call 162 [.t 56]), o' 58 (.idx 1 none (.t 55) (.t 57)), o' 59 (.ld none (.t 58)), o' 60 (.cvt .i64 (.t 59)), o' 61 (.idx 1 none (.t 53) (i' 6)), n' (.st 1 (.t 61) (.t 60)), o' 62 (.idx 1 none (.t 54) (i' 7)), n' (.st 1 (.t 62) (i' 1))] [0]
def c123x12 : AC := .seq (.dreg [m' 45 0, o' 46 (.idx 1 none (.t 45) (i' 8)), o' 47 (.ld none (.t 46)), m' 48 0, o' 49 (.idx 1 none (.t 48) (i' 7)), o' 50 (.ld none (.t 49)), o' 51 (.bin .or (.t 47) (.t 50)), o' 52 (.idx 1 none (.t 45) (i' 8)), n' (.st 1 (.t 52) (.t 51))] [[], [0], [0, 1], [], [3], [3, 4], [0, 1, 2, 3, 4, 5], [0, 1, 2, 3, 4, 5, 6], [0, 1, 2, 3, 4, 5, 6, 7]] [0, 1]) (c123x11)
def c123x13 : AC := .reg [m' 23 0, o' 24 (.idx 1 none (.t 23) (i' 7)), n' (.st 1 (.t 24) (i' 1))] [0]
def c123x14 : AC := .seq (.dreg [m' 15 1, m' 16 0, o' 17 (.call 162 [.t 16]), m' 18 0, o' 19 (.idx 1 none (.t 18) (i' 6)), o' 20 (.ld none (.t 19)), o' 21 (.cvt .u8 (.t 20)), o' 22 (.idx 1 none (.t 15) (.t 17)), n' (.st 1 (.t 22) (.t 21))] [[], [], [1], [], [3], [3, 4], [3, 4, 5], [0, 1, 2, 3, 4, 5, 6], [0, 1, 2, 3, 4, 5, 6, 7]] [0]) (c123x13)
def c123x15 : AC := .seq (.dreg [m' 7 0, o' 8 (.idx 1 none (.t 7) (i' 8)), o' 9 (.ld none (.t 8)), m' 10 0, o' 11 (.idx 1 none (.t 10) (i' 7)), o' 12 (.ld none (.t 11)), o' 13 (.bin .or (.t 9) (.t 12)), o' 14 (.idx 1 none (.t 7) (i' 8)), n' (.st 1 (.t 14) (.t 13))] [[], [0], [0, 1], [], [3], [3, 4], [0, 1, 2, 3, 4, 5], [0, 1, 2, 3, 4, 5, 6], [0, 1, 2, 3, 4, 5, 6, 7]] [0, 1]) (c123x14)
def c123x16 : AC := .cond (.t 43) (c123x12) (c123x15)
def c123x17 : AC := .seq (.reg [o' 44 (.bin .eql (.t 6) (i' 3)), m' 43 44] [0, 1, 43]) (c123x16)
def c123x18 : AC := .cond (.t 25) (c123x10) (c123x17)
def c123x19 : AC := .reg [o' 27 (.bin .eql (.t 6) (i' 2)), m' 25 27] [0, 1, 6, 25]
def c123x20 : AC := .cond (.t 25) (.skip) (c123x19)
def c123x21 : AC := .seq (.reg [o' 26 (.bin .eql (.t 6) (i' 1)), m' 25 26] [0, 1, 6, 25]) (c123x20)
def c123x22 : AC := .seq (c123x21) (c123x18)
def c123x23 : AC := .block 0 (c123x22)
def c123x24 : AC := .seq (.reg [m' 4 0, o' 5 (.idx 1 none (.t 4) (i' 2)), o' 6 (.ld none (.t 5))] [0, 1, 6]) (c123x23)
def c123 : AC := .seq (c123x24) (c123x8)
def v130 : List (Nat × List Nat) := [(0, [1, 2, 4]), (1, [1, 4, 6, 7]), (2, [1, 4, 6, 7, 8]), (3, [4, 6, 7, 8, 15]), (4, [4, 6, 7, 8, 15, 16]), (5, [4, 6, 7, 9]), (6, [4, 6, 7, 9, 21]), (7, [4, 6, 7, 9]), (8, [4, 6, 7, 8]), (9, [4, 6, 7, 8]), (10, [4, 6, 7, 8, 15, 38]), (11, [4, 6, 7, 8]), (12, [4, 6, 7, 8, 46]), (13, [4, 6, 7, 8]), (14, [4, 6, 7, 8, 15, 49]), (15, [4, 6, 7, 8]), (16, [4, 6, 7, 8, 54]), (17, [4, 6, 7, 8]), (18, [4, 5])]
def r130 : List AR := [.cell (some 2) 4, .t 5]
def c130x0 : AC := .seq (.reg [m' 59 6, m' 60 7, o' 61 (.build [(.slice none 0 0), (.slice none 0 0)] [(0, 1, (.t 59)), (1, 1, (.t 60))]), m' 62 8, n' (.st 2 (.t 4) (.t 61)), m' 5 62] [4, 5]) (.ret)
def c130x1 : AC := .reg [m' 36 6, o' 37 (.idx 1 none (.t 36) (i' 8)), n' (.st 1 (.t 37) (i' 0))] [4, 6, 7, 8]
def c130x2 : AC := .seq (.dreg [m' 22 6, o' 23 (.call 165 [.t 22]), m' 24 6, o' 25 (.idx 1 none (.t 24) (i' 7)), o' 26 (.ld none (.t 25)), o' 27 (.bin .shl (.t 26) (.k (.int .u64 1))), o' 28 (.bin .or (.t 23) (.t 27)), m' 29 6, o' 30 (.idx 1 none (.t 29) (i' 8)), o' 31 (.ld none (.t 30)), o' 32 (.bin .shl (.t 31) (.k (.int .u64 2))), o' 33 (.bin .or (.t 28) (.t 32)), m' 34 9, o' 35 (.bin .or (.t 33) (.t 34)), m' 8 35] [[], [0], [], [2], [2, 3], [2, 3, 4], [0, 1, 2, 3, 4, 5], [], [7], [7, 8], [7, 8, 9], [0, 1, 2, 3, 4, 5, 6, 7, 8, 9, 10], [], [0, 1, 2, 3, 4, 5, 6, 7, 8, 9, 10, 11, 12], [0, 1, 2, 3, 4, 5, 6, 7, 8, 9, 10, 11, 12, 13]] [4, 6, 7, 8]) (c130x1)
def c130x3 : AC := .reg [o' 9 (.mv (i' 8))] [4, 6, 7, 9]
def c130x4 : AC := .cond (.t 21) (c130x3) (.skip)
def c130x5 : AC := .seq (.reg [m' 18 6, o' 19 (.idx 1 none (.t 18) (i' 0)), o' 20 (.ld none (.t 19)), o' 21 (.bin .eql (.t 20) (i' 0))] [4, 6, 7, 9, 21]) (c130x4)
def c130x6 : AC := .seq (c130x5) (c130x2)
def c130x7 : AC := .seq (.reg [o' 9 (.mv (i' 0))] [4, 6, 7, 9]) (c130x6)
def c130x8 : AC := .reg [m' 47 6, o' 48 (.idx 1 none (.t 47) (i' 7)), n' (.st 1 (.t 48) (i' 0))] [4, 6, 7, 8]
def c130x9 : AC := .cond (.t 46) (c130x8) (.skip)
def c130x10 : AC := .seq (.reg [m' 43 6, o' 44 (.idx 1 none (.t 43) (i' 2)), o' 45 (.ld none (.t 44)), o' 46 (.bin .neq (.t 45) (i' 4))] [4, 6, 7, 8, 46]) (c130x9)
def c130x11 : AC := .seq (.reg [m' 40 6, o' 41 (.idx 1 none (.t 40) (i' 6)), o' 42 (.ld none (.t 41)), m' 8 42] [4, 6, 7, 8]) (c130x10)
def c130x12 : AC := .reg [m' 51 6, o' 52 (.idx 1 none (.t 51) (i' 1)), o' 53 (.ld none (.t 52)), m' 8 53] [4, 6, 7, 8]
def c130x13 : AC := .reg [m' 56 6, o' 57 (.idx 1 none (.t 56) (i' 9)), o' 58 (.ld none (.t 57)), m' 8 58] [4, 6, 7, 8]
def c130x14 : AC := .cond (.t 54) (c130x13) (.skip)
def c130x15 : AC := .seq (.reg [o' 55 (.bin .eql (.t 15) (i' 3)), m' 54 55] [4, 6, 7, 8, 54]) (c130x14)
def c130x16 : AC := .cond (.t 49) (c130x12) (c130x15)
def c130x17 : AC := .seq (.reg [o' 50 (.bin .eql (.t 15) (i' 2)), m' 49 50] [4, 6, 7, 8, 15, 49]) (c130x16)
def c130x18 : AC := .cond (.t 38) (c130x11) (c130x17)
def c130x19 : AC := .seq (.reg [o' 39 (.bin .eql (.t 15) (i' 1)), m' 38 39] [4, 6, 7, 8, 15, 38]) (c130x18)
def c130x20 : AC := .cond (.t 16) (c130x7) (c130x19)
def c130x21 : AC := .seq (.reg [o' 17 (.bin .eql (.t 15) (i' 0)), m' 16 17] [4, 6, 7, 8, 15, 16]) (c130x20)
def c130x22 : AC := .block 0 (c130x21)
def c130x23 : AC := .seq (.reg [m' 15 1] [4, 6, 7, 8, 15]) (c130x22)
def c130x24 : AC := .seq (c130x23) (c130x0)
def c130x25 : AC := .seq (.reg [o' 8 (.mv (i' 0))] [1, 4, 6, 7, 8]) (c130x24)
def c130x26 : AC := .seq (.reg [o' 11 (.ld (some 2) (.t 2)), o' 12 (.call 122 [.t 11]), m' 10 12, o' 13 (.ext (.t 10) 0), o' 14 (.ext (.t 10) 1), m' 6 13, m' 7 14] [1, 4, 6, 7]) (c130x25)
def c130 : AC := .seq (.reg [o' 2 (.new 2 (.t 0)), o' 4 (.zero [(.slice none 0 0), (.slice none 0 0)]), o' 5 (.mv (i' 0))] [1, 2, 4]) (c130x26)
def v157 : List (Nat × List Nat) := [(0, [0, 1, 4]), (1, [0, 1, 4, 28]), (2, [0, 4]), (3, [0, 4]), (4, [0, 44]), (5, [])]
def r157 : List AR := []
def c157x0 : AC := .reg [m' 45 0, o' 46 (.idx 1 none (.t 45) (i' 7)), n' (.st 1 (.t 46) (i' 1))] []
def c157x1 : AC := .cond (.t 44) (c157x0) (.skip)
def c157x2 : AC := .seq (.reg [m' 43 4, o' 44 (.bin .eql (.t 43) (i' 4))] [0, 44]) (c157x1)
def c157x3 : AC := .seq (.reg [m' 41 0, o' 42 (.idx 1 none (.t 41) (i' 7)), n' (.st 1 (.t 42) (i' 0))] [0, 4]) (c157x2)
def c157x4 : AC := .seq (.reg [m' 29 0, m' 30 0, m' 31 0, m' 32 0, m' 33 4, m' 34 1, o' 35 (.bin .shr (.t 34) (.k (.int .u64 4))), o' 36 (.bin .and (.t 35) (i' 3)), o' 37 (.idx 1 none (.t 29) (i' 2)), n' (.st 1 (.t 37) (.t 33)), o' 38 (.idx 1 none (.t 30) (i' 3)), n' (.st 1 (.t 38) (.t 36)), o' 39 (.idx 1 none (.t 31) (i' 4)), n' (.st 1 (.t 39) (i' 0)), o' 40 (.idx 1 none (.t 32) (i' 5)), n' (.st 1 (.t 40) (i' 30))] [0, 4]) (c157x3)
def c157x5 : AC := .cond (.t 28) (.ret) (.skip)
def c157x6 : AC := .seq (.reg [m' 7 0, o' 8 (.idx 1 none (.t 7) (i' 2)), o' 9 (.ld none (.t 8)), o' 10 (.bin .gtr (.t 9) (i' 0)), m' 11 10, ⟨(some 12), .mv (.t 4), (some (11, false))⟩, ⟨(some 13), .bin .lss (.t 12) (i' 1), (some (11, false))⟩, o' 14 (.pick (.t 11) (.k (.bool true)) (.t 13)), m' 15 14, ⟨(some 16), .mv (.t 4), (some (15, false))⟩, ⟨(some 17), .bin .gtr (.t 16) (i' 4), (some (15, false))⟩, o' 18 (.pick (.t 15) (.k (.bool true)) (.t 17)), m' 19 18, ⟨(some 20), .mv (.t 4), (some (19, false))⟩, ⟨(some 21), .bin .geq (.t 20) (i' 3), (some (19, false))⟩, ⟨(some 22), .mv (.t 21), (some (19, false))⟩, ⟨(some 23), .mv (.t 0), (some (22, true))⟩, ⟨(some 24), .idx 1 none (.t 23) (i' 0), (some (22, true))⟩, ⟨(some 25), .ld none (.t 24), (some (22, true))⟩, ⟨(some 26), .bin .eql (.t 25) (i' 0), (some (22, true))⟩, ⟨(some 27), .pick (.t 22) (.t 26) (.k (.bool false)), (some (19, false))⟩, o' 28 (.pick (.t 19) (.k (.bool true)) (.t 27))] [0, 1, 4, 28]) (c157x5)
def c157x7 : AC := .seq (c157x6) (c157x4)
def c157 : AC := .seq (.reg [m' 5 1, o' 6 (.bin .and (.t 5) (i' 15)), m' 4 6] [0, 1, 4]) (c157x7)
def v162 : List (Nat × List Nat) := [(0, [0]), (1, [2])]
def r162 : List AR := [.t 2]
def c162x0 : AC := .seq (.dreg [m' 3 0, o' 4 (.idx 1 none (.t 3) (i' 0)), o' 5 (.ld none (.t 4)), o' 6 (.bin .sub (.t 5) (i' 1)), o' 7 (.bin .mul (.t 6) (i' 256)), m' 8 0, o' 9 (.idx 1 none (.t 8) (i' 1)), o' 10 (.ld none (.t 9)), o' 11 (.bin .mul (.t 10) (i' 4)), m' 12 0, o' 13 (.idx 1 none (.t 12) (i' 3)), o' 14 (.ld none (.t 13)), o' 15 (.bin .add (.t 11) (.t 14)), o' 16 (.bin .mul (.t 15) (i' 16)), o' 17 (.bin .add (.t 7) (.t 16)), m' 18 0, o' 19 (.idx 1 none (.t 18) (i' 4)), o' 20 (.ld none (.t 19)), o' 21 (.bin .add (.t 17) (.t 20)), m' 2 21] [[], [0], [0, 1], [0, 1, 2], [0, 1, 2, 3], [], [5], [5, 6], [5, 6, 7], [], [9], [9, 10], [5, 6, 7, 8, 9, 10, 11], [5, 6, 7, 8, 9, 10, 11, 12], [0, 1, 2, 3, 4, 5, 6, 7, 8, 9, 10, 11, 12, 13], [], [15], [15, 16], [0, 1, 2, 3, 4, 5, 6, 7, 8, 9, 10, 11, 12, 13, 14, 15, 16, 17], [0, 1, 2, 3, 4, 5, 6, 7, 8, 9, 10, 11, 12, 13, 14, 15, 16, 17, 18]] [2]) (.ret)
def c162 : AC := .seq (.reg [o' 2 (.mv (i' 0))] [0]) (c162x0)
def v165 : List (Nat × List Nat) := [(0, [0]), (1, [2])]
def r165 : List AR := [.t 2]
def c165x0 : AC := .seq (.reg [m' 3 0, o' 4 (.idx 1 none (.t 3) (i' 2)), o' 5 (.ld none (.t 4)), o' 6 (.mnx false [i' 1, .t 5]), m' 2 6] [2]) (.ret)
def c165 : AC := .seq (.reg [o' 2 (.mv (i' 0))] [0]) (c165x0)
end Go.Proofs.Ytolmklnijjfppaa.Code

namespace Go.Proofs.Ytolmklnijjfppaa.Code
open Go Go.Proofs.Ytolmklnijjfppaa.Calc
set_option maxRecDepth 100000
def v29 : List (Nat × List Nat) := [(0, [2, 3, 4, 6]), (1, [2, 3, 4, 6, 8]), (2, [2, 3, 4, 6, 8, 9]), (3, [2, 3, 4, 6, 8, 9]), (4, [2, 3, 4, 6, 8, 9]), (5, [6]), (6, [2, 4, 6, 8, 16]), (7, [6]), (8, [2, 4, 6, 8, 21]), (9, [6]), (10, [2, 4, 6, 8, 27]), (11, [6]), (12, [2, 4, 6, 8, 32]), (13, [6]), (14, [2, 4, 6, 8, 37]), (15, [6]), (16, [2, 4, 6, 42]), (17, [6]), (18, [6])]
def r29 : List AR := [.cell (some 2) 6]
def c29x0 : AC := .seq (.reg [o' 47 (.build [(.slice none 0 0), (.slice none 0 0)] []), n' (.st 2 (.t 6) (.t 47))] [6]) (.ret)
def c29x1 : AC := .seq (.reg [o' 13 (.ld (some 5) (.t 3)), o' 14 (.ld (some 2) (.t 4)), o' 15 (.call 63 [.t 13, .t 14]), n' (.st 2 (.t 6) (.t 15))] [6]) (.ret)
def c29x2 : AC := .seq (.reg [o' 18 (.ld (some 2) (.t 4)), m' 19 2, o' 20 (.call 64 [.t 18, .t 19]), n' (.st 2 (.t 6) (.t 20))] [6]) (.ret)
def c29x3 : AC := .seq (.dreg [o' 23 (.ld (some 2) (.t 4)), o' 24 (.ld (some 2) (.t 4)), o' 25 (.call 66 [.t 24]), o' 26 (.call 65 [.t 23, .t 25]), n' (.st 2 (.t 6) (.t 26))] [[], [], [1], [0, 1, 2], [0, 1, 2, 3]] [6]) (.ret)
def c29x4 : AC := .seq (.reg [o' 29 (.ld (some 2) (.t 4)), m' 30 2, o' 31 (.call 67 [.t 29, .t 30]), n' (.st 2 (.t 6) (.t 31))] [6]) (.ret)
def c29x5 : AC := .seq (.reg [o' 34 (.ld (some 2) (.t 4)), m' 35 2, o' 36 (.call 68 [.t 34, .t 35]), n' (.st 2 (.t 6) (.t 36))] [6]) (.ret)
def c29x6 : AC := .seq (.reg [o' 39 (.ld (some 2) (.t 4)), m' 40 2, o' 41 (.call 69 [.t 39, .t 40]), n' (.st 2 (.t 6) (.t 41))] [6]) (.ret)
def c29x7 : AC := .seq (.reg [o' 44 (.ld (some 2) (.t 4)), m' 45 2, o' 46 (.call 70 [.t 44, .t 45]), n' (.st 2 (.t 6) (.t 46))] [6]) (.ret)
def c29x8 : AC := .cond (.t 42) (c29x7) (.skip)
def c29x9 : AC := .seq (.reg [o' 43 (.bin .eql (.t 8) (i' 8)), m' 42 43] [2, 4, 6, 42]) (c29x8)
def c29x10 : AC := .cond (.t 37) (c29x6) (c29x9)
def c29x11 : AC := .seq (.reg [o' 38 (.bin .eql (.t 8) (i' 7)), m' 37 38] [2, 4, 6, 8, 37]) (c29x10)
def c29x12 : AC := .cond (.t 32) (c29x5) (c29x11)
def c29x13 : AC := .seq (.reg [o' 33 (.bin .eql (.t 8) (i' 6)), m' 32 33] [2, 4, 6, 8, 32]) (c29x12)
def c29x14 : AC := .cond (.t 27) (c29x4) (c29x13)
def c29x15 : AC := .seq (.reg [o' 28 (.bin .eql (.t 8) (i' 5)), m' 27 28] [2, 4, 6, 8, 27]) (c29x14)
def c29x16 : AC := .cond (.t 21) (c29x3) (c29x15)
def c29x17 : AC := .seq (.reg [o' 22 (.bin .eql (.t 8) (i' 4)), m' 21 22] [2, 4, 6, 8, 21]) (c29x16)
def c29x18 : AC := .cond (.t 16) (c29x2) (c29x17)
def c29x19 : AC := .seq (.reg [o' 17 (.bin .eql (.t 8) (i' 3)), m' 16 17] [2, 4, 6, 8, 16]) (c29x18)
def c29x20 : AC := .cond (.t 9) (c29x1) (c29x19)
def c29x21 : AC := .reg [o' 12 (.bin .eql (.t 8) (i' 2)), m' 9 12] [2, 3, 4, 6, 8, 9]
def c29x22 : AC := .cond (.t 9) (.skip) (c29x21)
def c29x23 : AC := .seq (.reg [o' 11 (.bin .eql (.t 8) (i' 1)), m' 9 11] [2, 3, 4, 6, 8, 9]) (c29x22)
def c29x24 : AC := .cond (.t 9) (.skip) (c29x23)
def c29x25 : AC := .seq (.reg [o' 10 (.bin .eql (.t 8) (i' 0)), m' 9 10] [2, 3, 4, 6, 8, 9]) (c29x24)
def c29x26 : AC := .seq (c29x25) (c29x20)
def c29x27 : AC := .block 0 (c29x26)
def c29x28 : AC := .seq (.reg [o' 7 (.fad 1 (.t 3)), o' 8 (.ld none (.t 7))] [2, 3, 4, 6, 8]) (c29x27)
def c29x29 : AC := .seq (c29x28) (c29x0)
def c29 : AC := .seq (.reg [o' 3 (.new 5 (.t 0)), o' 4 (.new 2 (.t 1)), o' 6 (.zero [(.slice none 0 0), (.slice none 0 0)])] [2, 3, 4, 6]) (c29x29)
def v32 : List (Nat × List Nat) := [(0, [2, 3, 4]), (1, [4])]
def r32 : List AR := [.cell (some 2) 4]
def c32x0 : AC := .seq (.reg [o' 5 (.ld (some 5) (.t 2)), o' 6 (.ld (some 2) (.t 3)), o' 7 (.call 29 [.t 5, .t 6, i' 1]), n' (.st 2 (.t 4) (.t 7))] [4]) (.ret)
def c32 : AC := .seq (.reg [o' 2 (.new 5 (.t 0)), o' 3 (.new 2 (.t 1)), o' 4 (.zero [(.slice none 0 0), (.slice none 0 0)])] [2, 3, 4]) (c32x0)
def v49 : List (Nat × List Nat) := [(0, [1]), (1, [1, 3]), (2, [1, 3, 6]), (3, [1, 3]), (4, [1, 3, 7]), (5, [2]), (6, [1, 3, 12]), (7, [2]), (8, [1, 3, 16]), (9, [2]), (10, [1, 25]), (11, [2]), (12, [1, 49]), (13, [2]), (14, [1, 59]), (15, [2]), (16, [71]), (17, [2]), (18, [2])]
def r49 : List AR := [.t 2]
def c49x0 : AC := .seq (.reg [o' 2 (.mv (i' 0))] [2]) (.ret)
def c49x1 : AC := .seq (.reg [o' 2 (.mv (i' 15))] [2]) (.ret)
def c49x2 : AC := .seq (.reg [o' 2 (.mv (i' 20))] [2]) (.ret)
def c49x3 : AC := .seq (.reg [o' 2 (.mv (i' 8))] [2]) (.ret)
def c49x4 : AC := .seq (.reg [o' 2 (.mv (i' 1))] [2]) (.ret)
def c49x5 : AC := .seq (.reg [o' 2 (.mv (i' 2))] [2]) (.ret)
def c49x6 : AC := .seq (.reg [o' 2 (.mv (i' 19))] [2]) (.ret)
def c49x7 : AC := .seq (.reg [o' 2 (.mv (i' 3))] [2]) (.ret)
def c49x8 : AC := .cond (.t 71) (c49x7) (.skip)
def c49x9 : AC := .seq (.reg [o' 72 (.fad 1 (.t 1)), o' 73 (.ld none (.t 72)), o' 74 (.bin .eql (.t 73) (i' 0)), m' 75 74, ⟨(some 76), .fad 1 (.t 1), (some (75, false))⟩, ⟨(some 77), .ld none (.t 76), (some (75, false))⟩, ⟨(some 78), .bin .eql (.t 77) (i' 1), (some (75, false))⟩, o' 79 (.pick (.t 75) (.k (.bool true)) (.t 78)), m' 80 79, ⟨(some 81), .fad 4 (.t 1), (some (80, true))⟩, ⟨(some 82), .ld none (.t 81), (some (80, true))⟩, ⟨(some 83), .len (.t 82), (some (80, true))⟩, ⟨(some 84), .fad 3 (.t 1), (some (80, true))⟩, ⟨(some 85), .ld none (.t 84), (some (80, true))⟩, ⟨(some 86), .bin .gtr (.t 83) (.t 85), (some (80, true))⟩, o' 87 (.pick (.t 80) (.t 86) (.k (.bool false))), m' 88 87, ⟨(some 89), .fad 1 (.t 1), (some (88, false))⟩, ⟨(some 90), .ld none (.t 89), (some (88, false))⟩, ⟨(some 91), .call 87 [.t 90], (some (88, false))⟩, ⟨(some 92), .not (.t 91), (some (88, false))⟩, ⟨(some 93), .mv (.t 92), (some (88, false))⟩, ⟨(some 94), .fad 1 (.t 1), (some (93, true))⟩, ⟨(some 95), .ld none (.t 94), (some (93, true))⟩, ⟨(some 96), .bin .neq (.t 95) (i' 8), (some (93, true))⟩, ⟨(some 97), .pick (.t 93) (.t 96) (.k (.bool false)), (some (88, false))⟩, ⟨(some 98), .mv (.t 97), (some (88, false))⟩, ⟨(some 99), .fad 4 (.t 1), (some (98, true))⟩, ⟨(some 100), .ld none (.t 99), (some (98, true))⟩, ⟨(some 101), .len (.t 100), (some (98, true))⟩, ⟨(some 102), .bin .gtr (.t 101) (i' 0), (some (98, true))⟩, ⟨(some 103), .pick (.t 98) (.t 102) (.k (.bool false)), (some (88, false))⟩, o' 104 (.pick (.t 88) (.k (.bool true)) (.t 103)), m' 105 104, ⟨(some 106), .fad 1 (.t 1), (some (105, false))⟩, ⟨(some 107), .ld none (.t 106), (some (105, false))⟩, ⟨(some 108), .bin .eql (.t 107) (i' 8), (some (105, false))⟩, ⟨(some 109), .mv (.t 108), (some (105, false))⟩, ⟨(some 110), .fad 4 (.t 1), (some (109, true))⟩, ⟨(some 111), .ld none (.t 110), (some (109, true))⟩, ⟨(some 112), .len (.t 111), (some (109, true))⟩, ⟨(some 113), .bin .rem (.t 112) (i' 256), (some (109, true))⟩, ⟨(some 114), .bin .neq (.t 113) (i' 0), (some (109, true))⟩, ⟨(some 115), .pick (.t 109) (.t 114) (.k (.bool false)), (some (105, false))⟩, o' 116 (.pick (.t 105) (.k (.bool true)) (.t 115)), m' 71 116] [71]) (c49x8)
def c49x10 : AC := .cond (.t 59) (c49x6) (c49x9)
def c49x11 : AC := .seq (.reg [o' 60 (.fad 2 (.t 1)), o' 61 (.ld none (.t 60)), o' 62 (.bin .lss (.t 61) (i' 0)), m' 63 62, ⟨(some 64), .fad 2 (.t 1), (some (63, false))⟩, ⟨(some 65), .ld none (.t 64), (some (63, false))⟩, ⟨(some 66), .fad 3 (.t 1), (some (63, false))⟩, ⟨(some 67), .ld none (.t 66), (some (63, false))⟩, ⟨(some 68), .bin .sub (i' 65536) (.t 67), (some (63, false))⟩, ⟨(some 69), .bin .gtr (.t 65) (.t 68), (some (63, false))⟩, o' 70 (.pick (.t 63) (.k (.bool true)) (.t 69)), m' 59 70] [1, 59]) (c49x10)
def c49x12 : AC := .cond (.t 49) (c49x5) (c49x11)
def c49x13 : AC := .seq (.reg [o' 50 (.fad 3 (.t 1)), o' 51 (.ld none (.t 50)), o' 52 (.bin .gtr (.t 51) (i' 4096)), m' 53 52, ⟨(some 54), .fad 4 (.t 1), (some (53, false))⟩, ⟨(some 55), .ld none (.t 54), (some (53, false))⟩, ⟨(some 56), .len (.t 55), (some (53, false))⟩, ⟨(some 57), .bin .gtr (.t 56) (i' 4096), (some (53, false))⟩, o' 58 (.pick (.t 53) (.k (.bool true)) (.t 57)), m' 49 58] [1, 49]) (c49x12)
def c49x14 : AC := .cond (.t 25) (c49x4) (c49x13)
def c49x15 : AC := .seq (.dreg [o' 26 (.fad 1 (.t 1)), o' 27 (.ld none (.t 26)), o' 28 (.call 87 [.t 27]), m' 29 28, ⟨(some 30), .fad 3 (.t 1), (some (29, true))⟩, ⟨(some 31), .ld none (.t 30), (some (29, true))⟩, ⟨(some 32), .mv (.t 3), (some (29, true))⟩, ⟨(some 33), .bin .lss (.t 31) (.t 32), (some (29, true))⟩, o' 34 (.pick (.t 29) (.t 33) (.k (.bool false))), m' 35 34, ⟨(some 36), .fad 1 (.t 1), (some (35, false))⟩, ⟨(some 37), .ld none (.t 36), (some (35, false))⟩, ⟨(some 38), .call 87 [.t 37], (some (35, false))⟩, ⟨(some 39), .not (.t 38), (some (35, false))⟩, ⟨(some 40), .mv (.t 39), (some (35, false))⟩, ⟨(some 41), .fad 3 (.t 1), (some (40, true))⟩, ⟨(some 42), .ld none (.t 41), (some (40, true))⟩, ⟨(some 43), .fad 1 (.t 1), (some (40, true))⟩, ⟨(some 44), .ld none (.t 43), (some (40, true))⟩, ⟨(some 45), .call 88 [.t 44], (some (40, true))⟩, ⟨(some 46), .bin .neq (.t 42) (.t 45), (some (40, true))⟩, ⟨(some 47), .pick (.t 40) (.t 46) (.k (.bool false)), (some (35, false))⟩, o' 48 (.pick (.t 35) (.k (.bool true)) (.t 47)), m' 25 48] [[], [0], [0, 1], [0, 1, 2], [0, 1, 2, 3], [0, 1, 2, 3, 4], [0, 1, 2, 3], [0, 1, 2, 3, 4, 5, 6], [0, 1, 2, 3, 4, 5, 6, 7], [0, 1, 2, 3, 4, 5, 6, 7, 8], [0, 1, 2, 3, 4, 5, 6, 7, 8, 9], [0, 1, 2, 3, 4, 5, 6, 7, 8, 9, 10], [0, 1, 2, 3, 4, 5, 6, 7, 8, 9, 10, 11], [0, 1, 2, 3, 4, 5, 6, 7, 8, 9, 10, 11, 12], [0, 1, 2, 3, 4, 5, 6, 7, 8, 9, 10, 11, 12, 13], [0, 1, 2, 3, 4, 5, 6, 7, 8, 9, 10, 11, 12, 13, 14], [0, 1, 2, 3, 4, 5, 6, 7, 8, 9, 10, 11, 12, 13, 14, 15], [0, 1, 2, 3, 4, 5, 6, 7, 8, 9, 10, 11, 12, 13, 14], [0, 1, 2, 3, 4, 5, 6, 7, 8, 9, 10, 11, 12, 13, 14, 17], [0, 1, 2, 3, 4, 5, 6, 7, 8, 9, 10, 11, 12, 13, 14, 17, 18], [0, 1, 2, 3, 4, 5, 6, 7, 8, 9, 10, 11, 12, 13, 14, 15, 16, 17, 18, 19], [0, 1, 2, 3, 4, 5, 6, 7, 8, 9, 10, 11, 12, 13, 14, 15, 16, 17, 18, 19, 20], [0, 1, 2, 3, 4, 5, 6, 7, 8, 9, 10, 11, 12, 13, 14, 15, 16, 17, 18, 19, 20, 21], [0, 1, 2, 3, 4, 5, 6, 7, 8, 9, 10, 11, 12, 13, 14, 15, 16, 17, 18, 19, 20, 21, 22]] [1, 25]) (c49x14)
def c49x16 : AC := .cond (.t 16) (c49x3) (c49x15)
def c49x17 : AC := .seq (.reg [o' 17 (.fad 1 (.t 1)), o' 18 (.ld none (.t 17)), o' 19 (.bin .lss (.t 18) (i' 0)), m' 20 19, ⟨(some 21), .fad 1 (.t 1), (some (20, false))⟩, ⟨(some 22), .ld none (.t 21), (some (20, false))⟩, ⟨(some 23), .bin .geq (.t 22) (i' 9), (some (20, false))⟩, o' 24 (.pick (.t 20) (.k (.bool true)) (.t 23)), m' 16 24] [1, 3, 16]) (c49x16)
def c49x18 : AC := .cond (.t 12) (c49x2) (c49x17)
def c49x19 : AC := .seq (.reg [o' 13 (.fad 0 (.t 1)), o' 14 (.ld none (.t 13)), o' 15 (.bin .eql (.t 14) (.k (.string ⟨#[99, 112, 117]⟩))), m' 12 15] [1, 3, 12]) (c49x18)
def c49x20 : AC := .cond (.t 7) (c49x1) (c49x19)
def c49x21 : AC := .seq (.reg [o' 8 (.fad 0 (.t 1)), o' 9 (.ld none (.t 8)), o' 10 (.call 39 [.t 9]), o' 11 (.not (.t 10)), m' 7 11] [1, 3, 7]) (c49x20)
def c49x22 : AC := .block 0 (c49x21)
def c49x23 : AC := .seq (c49x22) (c49x0)
def c49x24 : AC := .reg [o' 3 (.mv (i' 2))] [1, 3]
def c49x25 : AC := .cond (.t 6) (c49x24) (.skip)
def c49x26 : AC := .seq (.reg [o' 4 (.fad 1 (.t 1)), o' 5 (.ld none (.t 4)), o' 6 (.bin .eql (.t 5) (i' 2))] [1, 3, 6]) (c49x25)
def c49x27 : AC := .seq (c49x26) (c49x23)
def c49x28 : AC := .seq (.reg [o' 3 (.mv (i' 1))] [1, 3]) (c49x27)
def c49 : AC := .seq (.reg [o' 1 (.new 5 (.t 0)), o' 2 (.mv (i' 0))] [1]) (c49x28)
theorem k49 : Try.f49.body.bind (compC Try.prog Try.f49.ntmps v49) = some c49 := by kernel_rfl
theorem e49 : enters Try.prog 49 = true := by kernel_rfl
theorem q49 : Try.f49.results.toList.mapM (compRes Try.prog) = some r49 := by kernel_rfl
def v61 : List (Nat × List Nat) := [(0, [1, 2]), (1, [1, 2, 5]), (2, [1, 2, 5, 6]), (3, [1, 2, 5, 6]), (4, [1, 2, 5, 6]), (5, [1, 2, 3]), (6, [1, 2, 3]), (7, [2, 3, 21]), (8, [2, 3]), (9, [2]), (10, [1, 2, 5, 25]), (11, [2]), (12, [1, 2, 5, 28]), (13, [2]), (14, [1, 2, 5, 31]), (15, [2]), (16, [1, 2, 5, 34]), (17, [2]), (18, [1, 2, 5, 37]), (19, [2]), (20, [1, 2, 40]), (21, [2]), (22, [2])]
def r61 : List AR := [.cell (some 2) 2]
def c61x0 : AC := .seq (.reg [o' 45 (.build [(.slice none 0 0), (.slice none 0 0)] []), n' (.st 2 (.t 2) (.t 45))] [2]) (.ret)
def c61x1 : AC := .seq (.reg [o' 24 (.ld (some 2) (.t 3)), n' (.st 2 (.t 2) (.t 24))] [2]) (.ret)
def c61x2 : AC := .reg [o' 22 (.bsl [(.int .i64 0)] 1 [(0, (i' 0))]), o' 23 (.fad 0 (.t 3)), n' (.st 1 (.t 23) (.t 22))] [2, 3]
def c61x3 : AC := .cond (.t 21) (c61x2) (.skip)
def c61x4 : AC := .seq (.reg [o' 19 (.fad 1 (.t 1)), o' 20 (.ld none (.t 19)), o' 21 (.bin .eql (.t 20) (i' 2))] [2, 3, 21]) (c61x3)
def c61x5 : AC := .seq (c61x4) (c61x1)
def c61x6 : AC := .seq (.reg [o' 14 (.fad 1 (.t 3)), o' 15 (.ld none (.t 14)), o' 16 (.fad 4 (.t 1)), o' 17 (.ld none (.t 16)), o' 18 (.copy 1 (.t 15) (.t 17))] [1, 2, 3]) (c61x5)
def c61x7 : AC := .seq (.reg [o' 10 (.ld (some 5) (.t 1)), o' 11 (.call 97 [.t 10]), o' 12 (.mksl [(.int .u8 0)] 1 (.t 11) (.t 11)), o' 13 (.build [(.slice none 0 0), (.slice none 0 0)] [(1, 1, (.t 12))]), o' 3 (.zero [(.slice none 0 0), (.slice none 0 0)]), n' (.st 2 (.t 3) (.t 13))] [1, 2, 3]) (c61x6)
def c61x8 : AC := .seq (.reg [o' 27 (.call 98 []), n' (.st 2 (.t 2) (.t 27))] [2]) (.ret)
def c61x9 : AC := .seq (.reg [o' 30 (.call 99 []), n' (.st 2 (.t 2) (.t 30))] [2]) (.ret)
def c61x10 : AC := .seq (.reg [o' 33 (.call 100 []), n' (.st 2 (.t 2) (.t 33))] [2]) (.ret)
def c61x11 : AC := .seq (.reg [o' 36 (.call 101 []), n' (.st 2 (.t 2) (.t 36))] [2]) (.ret)
def c61x12 : AC := .seq (.reg [o' 39 (.call 102 []), n' (.st 2 (.t 2) (.t 39))] [2]) (.ret)
def c61x13 : AC := .seq (.reg [o' 42 (.fad 4 (.t 1)), o' 43 (.ld none (.t 42)), o' 44 (.call 103 [.t 43]), n' (.st 2 (.t 2) (.t 44))] [2]) (.ret)
def c61x14 : AC := .cond (.t 40) (c61x13) (.skip)
def c61x15 : AC := .seq (.reg [o' 41 (.bin .eql (.t 5) (i' 8)), m' 40 41] [1, 2, 40]) (c61x14)
def c61x16 : AC := .cond (.t 37) (c61x12) (c61x15)
def c61x17 : AC := .seq (.reg [o' 38 (.bin .eql (.t 5) (i' 7)), m' 37 38] [1, 2, 5, 37]) (c61x16)
def c61x18 : AC := .cond (.t 34) (c61x11) (c61x17)
def c61x19 : AC := .seq (.reg [o' 35 (.bin .eql (.t 5) (i' 6)), m' 34 35] [1, 2, 5, 34]) (c61x18)
def c61x20 : AC := .cond (.t 31) (c61x10) (c61x19)
def c61x21 : AC := .seq (.reg [o' 32 (.bin .eql (.t 5) (i' 5)), m' 31 32] [1, 2, 5, 31]) (c61x20)
def c61x22 : AC := .cond (.t 28) (c61x9) (c61x21)
def c61x23 : AC := .seq (.reg [o' 29 (.bin .eql (.t 5) (i' 4)), m' 28 29] [1, 2, 5, 28]) (c61x22)
def c61x24 : AC := .cond (.t 25) (c61x8) (c61x23)
def c61x25 : AC := .seq (.reg [o' 26 (.bin .eql (.t 5) (i' 3)), m' 25 26] [1, 2, 5, 25]) (c61x24)
def c61x26 : AC := .cond (.t 6) (c61x7) (c61x25)
def c61x27 : AC := .reg [o' 9 (.bin .eql (.t 5) (i' 2)), m' 6 9] [1, 2, 5, 6]
def c61x28 : AC := .cond (.t 6) (.skip) (c61x27)
def c61x29 : AC := .seq (.reg [o' 8 (.bin .eql (.t 5) (i' 1)), m' 6 8] [1, 2, 5, 6]) (c61x28)
def c61x30 : AC := .cond (.t 6) (.skip) (c61x29)
def c61x31 : AC := .seq (.reg [o' 7 (.bin .eql (.t 5) (i' 0)), m' 6 7] [1, 2, 5, 6]) (c61x30)
def c61x32 : AC := .seq (c61x31) (c61x26)
def c61x33 : AC := .block 0 (c61x32)
def c61x34 : AC := .seq (.reg [o' 4 (.fad 1 (.t 1)), o' 5 (.ld none (.t 4))] [1, 2, 5]) (c61x33)
def c61x35 : AC := .seq (c61x34) (c61x0)
def c61 : AC := .seq (.reg [o' 1 (.new 5 (.t 0)), o' 2 (.zero [(.slice none 0 0), (.slice none 0 0)])] [1, 2]) (c61x35)
def v62 : List (Nat × List Nat) := [(0, [2, 3, 4, 5, 8]), (1, [2, 3, 4, 5, 8, 10]), (2, [2, 3, 4, 5, 8, 10, 11]), (3, [2, 3, 4, 5, 8, 10, 11]), (4, [2, 3, 4, 5, 8, 10, 11]), (5, [8]), (6, [2, 3, 5, 8, 10, 20]), (7, [8]), (8, [2, 3, 5, 8, 10, 26]), (9, [8]), (10, [2, 3, 5, 8, 10, 32]), (11, [8]), (12, [2, 3, 5, 8, 10, 38]), (13, [8]), (14, [2, 3, 5, 8, 10, 44]), (15, [8]), (16, [2, 3, 5, 8, 50]), (17, [8]), (18, [8])]
def r62 : List AR := [.cell (some 2) 8]
def c62x0 : AC := .seq (.reg [o' 56 (.build [(.slice none 0 0), (.slice none 0 0)] []), n' (.st 2 (.t 8) (.t 56))] [8]) (.ret)
def c62x1 : AC := .seq (.reg [o' 15 (.ld (some 5) (.t 4)), o' 16 (.ld (some 2) (.t 5)), m' 17 2, m' 18 3, o' 19 (.call 104 [.t 15, .t 16, .t 17, .t 18]), n' (.st 2 (.t 8) (.t 19))] [8]) (.ret)
def c62x2 : AC := .seq (.reg [o' 22 (.ld (some 2) (.t 5)), m' 23 2, m' 24 3, o' 25 (.call 105 [.t 22, .t 23, .t 24]), n' (.st 2 (.t 8) (.t 25))] [8]) (.ret)
def c62x3 : AC := .seq (.reg [o' 28 (.ld (some 2) (.t 5)), m' 29 2, m' 30 3, o' 31 (.call 106 [.t 28, .t 29, .t 30]), n' (.st 2 (.t 8) (.t 31))] [8]) (.ret)
def c62x4 : AC := .seq (.reg [o' 34 (.ld (some 2) (.t 5)), m' 35 2, m' 36 3, o' 37 (.call 107 [.t 34, .t 35, .t 36]), n' (.st 2 (.t 8) (.t 37))] [8]) (.ret)
def c62x5 : AC := .seq (.reg [o' 40 (.ld (some 2) (.t 5)), m' 41 2, m' 42 3, o' 43 (.call 108 [.t 40, .t 41, .t 42]), n' (.st 2 (.t 8) (.t 43))] [8]) (.ret)
def c62x6 : AC := .seq (.reg [o' 46 (.ld (some 2) (.t 5)), m' 47 2, m' 48 3, o' 49 (.call 109 [.t 46, .t 47, .t 48]), n' (.st 2 (.t 8) (.t 49))] [8]) (.ret)
def c62x7 : AC := .seq (.reg [o' 52 (.ld (some 2) (.t 5)), m' 53 2, m' 54 3, o' 55 (.call 110 [.t 52, .t 53, .t 54]), n' (.st 2 (.t 8) (.t 55))] [8]) (.ret)
def c62x8 : AC := .cond (.t 50) (c62x7) (.skip)
def c62x9 : AC := .seq (.reg [o' 51 (.bin .eql (.t 10) (i' 8)), m' 50 51] [2, 3, 5, 8, 50]) (c62x8)
def c62x10 : AC := .cond (.t 44) (c62x6) (c62x9)
def c62x11 : AC := .seq (.reg [o' 45 (.bin .eql (.t 10) (i' 7)), m' 44 45] [2, 3, 5, 8, 10, 44]) (c62x10)
def c62x12 : AC := .cond (.t 38) (c62x5) (c62x11)
def c62x13 : AC := .seq (.reg [o' 39 (.bin .eql (.t 10) (i' 6)), m' 38 39] [2, 3, 5, 8, 10, 38]) (c62x12)
def c62x14 : AC := .cond (.t 32) (c62x4) (c62x13)
def c62x15 : AC := .seq (.reg [o' 33 (.bin .eql (.t 10) (i' 5)), m' 32 33] [2, 3, 5, 8, 10, 32]) (c62x14)
def c62x16 : AC := .cond (.t 26) (c62x3) (c62x15)
def c62x17 : AC := .seq (.reg [o' 27 (.bin .eql (.t 10) (i' 4)), m' 26 27] [2, 3, 5, 8, 10, 26]) (c62x16)
def c62x18 : AC := .cond (.t 20) (c62x2) (c62x17)
def c62x19 : AC := .seq (.reg [o' 21 (.bin .eql (.t 10) (i' 3)), m' 20 21] [2, 3, 5, 8, 10, 20]) (c62x18)
def c62x20 : AC := .cond (.t 11) (c62x1) (c62x19)
def c62x21 : AC := .reg [o' 14 (.bin .eql (.t 10) (i' 2)), m' 11 14] [2, 3, 4, 5, 8, 10, 11]
def c62x22 : AC := .cond (.t 11) (.skip) (c62x21)
def c62x23 : AC := .seq (.reg [o' 13 (.bin .eql (.t 10) (i' 1)), m' 11 13] [2, 3, 4, 5, 8, 10, 11]) (c62x22)
def c62x24 : AC := .cond (.t 11) (.skip) (c62x23)
def c62x25 : AC := .seq (.reg [o' 12 (.bin .eql (.t 10) (i' 0)), m' 11 12] [2, 3, 4, 5, 8, 10, 11]) (c62x24)
def c62x26 : AC := .seq (c62x25) (c62x20)
def c62x27 : AC := .block 0 (c62x26)
def c62x28 : AC := .seq (.reg [o' 9 (.fad 1 (.t 4)), o' 10 (.ld none (.t 9))] [2, 3, 4, 5, 8, 10]) (c62x27)
def c62x29 : AC := .seq (c62x28) (c62x0)
def c62 : AC := .seq (.reg [o' 4 (.new 5 (.t 0)), o' 5 (.new 2 (.t 1)), o' 8 (.zero [(.slice none 0 0), (.slice none 0 0)])] [2, 3, 4, 5, 8]) (c62x29)
def v63 : List (Nat × List Nat) := [(0, [2, 3, 4]), (1, [2, 3, 4, 5]), (2, [2, 3, 4, 5]), (3, [2, 3, 4, 5, 17]), (4, [2, 3, 4, 5]), (5, [2, 3, 4, 5, 23]), (6, [4, 5]), (7, [4])]
def r63 : List AR := [.cell (some 2) 4]
def c63x0 : AC := .seq (.reg [o' 40 (.ld (some 2) (.t 5)), n' (.st 2 (.t 4) (.t 40))] [4]) (.ret)
def c63x1 : AC := .dreg [o' 24 (.fad 0 (.t 5)), o' 25 (.ld none (.t 24)), o' 26 (.fad 0 (.t 3)), o' 27 (.ld none (.t 26)), o' 28 (.idx 1 none (.t 27) (i' 0)), o' 29 (.ld none (.t 28)), o' 30 (.ld (some 5) (.t 2)), o' 31 (.call 111 [.t 30]), o' 32 (.bin .rem (.t 29) (.t 31)), o' 33 (.ld (some 5) (.t 2)), o' 34 (.call 111 [.t 33]), o' 35 (.bin .add (.t 32) (.t 34)), o' 36 (.ld (some 5) (.t 2)), o' 37 (.call 111 [.t 36]), o' 38 (.bin .rem (.t 35) (.t 37)), o' 39 (.idx 1 none (.t 25) (i' 0)), n' (.st 1 (.t 39) (.t 38))] [[], [0], [], [2], [2, 3], [2, 3, 4], [], [6], [2, 3, 4, 5, 6, 7], [], [6, 7, 9], [2, 3, 4, 5, 6, 7, 8, 9, 10], [], [6, 7, 9, 10, 12], [2, 3, 4, 5, 6, 7, 8, 9, 10, 11, 12, 13], [0, 1, 2, 3, 4, 5, 6, 7, 8, 9, 10, 11, 12, 13, 14], [0, 1, 2, 3, 4, 5, 6, 7, 8, 9, 10, 11, 12, 13, 14, 15]] [4, 5]
def c63x2 : AC := .cond (.t 23) (c63x1) (.skip)
def c63x3 : AC := .seq (.reg [o' 20 (.fad 0 (.t 3)), o' 21 (.ld none (.t 20)), o' 22 (.len (.t 21)), o' 23 (.bin .gtr (.t 22) (i' 0))] [2, 3, 4, 5, 23]) (c63x2)
def c63x4 : AC := .seq (.reg [o' 18 (.bsl [(.int .i64 0)] 1 [(0, (i' 0))]), o' 19 (.fad 0 (.t 5)), n' (.st 1 (.t 19) (.t 18))] [2, 3, 4, 5]) (c63x3)
def c63x5 : AC := .cond (.t 17) (c63x4) (.skip)
def c63x6 : AC := .seq (.reg [o' 15 (.fad 1 (.t 2)), o' 16 (.ld none (.t 15)), o' 17 (.bin .eql (.t 16) (i' 2))] [2, 3, 4, 5, 17]) (c63x5)
def c63x7 : AC := .seq (c63x6) (c63x0)
def c63x8 : AC := .seq (.reg [o' 10 (.fad 1 (.t 5)), o' 11 (.ld none (.t 10)), o' 12 (.fad 1 (.t 3)), o' 13 (.ld none (.t 12)), o' 14 (.copy 1 (.t 11) (.t 13))] [2, 3, 4, 5]) (c63x7)
def c63x9 : AC := .seq (.reg [o' 6 (.ld (some 5) (.t 2)), o' 7 (.call 97 [.t 6]), o' 8 (.mksl [(.int .u8 0)] 1 (.t 7) (.t 7)), o' 9 (.build [(.slice none 0 0), (.slice none 0 0)] [(1, 1, (.t 8))]), o' 5 (.zero [(.slice none 0 0), (.slice none 0 0)]), n' (.st 2 (.t 5) (.t 9))] [2, 3, 4, 5]) (c63x8)
def c63 : AC := .seq (.reg [o' 2 (.new 5 (.t 0)), o' 3 (.new 2 (.t 1)), o' 4 (.zero [(.slice none 0 0), (.slice none 0 0)])] [2, 3, 4]) (c63x9)
def v66 : List (Nat × List Nat) := [(0, [1]), (1, [1, 6]), (2, [2]), (3, [2])]
def r66 : List AR := [.t 2]
def c66x0 : AC := .seq (.reg [o' 7 (.fad 0 (.t 1)), o' 8 (.ld none (.t 7)), o' 9 (.idx 1 none (.t 8) (i' 0)), o' 10 (.ld none (.t 9)), m' 2 10] [2]) (.ret)
def c66x1 : AC := .seq (.reg [o' 2 (.mv (i' 0))] [2]) (.ret)
def c66x2 : AC := .cond (.t 6) (c66x1) (.skip)
def c66x3 : AC := .seq (.reg [o' 3 (.fad 0 (.t 1)), o' 4 (.ld none (.t 3)), o' 5 (.len (.t 4)), o' 6 (.bin .eql (.t 5) (i' 0))] [1, 6]) (c66x2)
def c66x4 : AC := .seq (c66x3) (c66x0)
def c66 : AC := .seq (.reg [o' 1 (.new 2 (.t 0)), o' 2 (.mv (i' 0))] [1]) (c66x4)
def v71 : List (Nat × List Nat) := [(0, [2, 3, 4, 6]), (1, [2, 3, 4, 6, 9]), (2, [2, 3, 4, 6, 9, 10]), (3, [2, 3, 4, 6, 9, 10]), (4, [2, 3, 4, 6, 9, 10]), (5, [6, 7]), (6, [2, 4, 6, 9, 20]), (7, [6, 7]), (8, [2, 4, 6, 9, 27]), (9, [6, 7]), (10, [2, 4, 6, 9, 34]), (11, [6, 7]), (12, [2, 4, 6, 9, 41]), (13, [6, 7]), (14, [2, 4, 6, 9, 48]), (15, [6, 7]), (16, [2, 4, 6, 55]), (17, [6, 7]), (18, [6, 7])]
def r71 : List AR := [.cell (some 2) 6, .t 7]
def c71x0 : AC := .seq (.reg [o' 62 (.build [(.slice none 0 0), (.slice none 0 0)] []), n' (.st 2 (.t 6) (.t 62)), o' 7 (.mv (i' 0))] [6, 7]) (.ret)
def c71x1 : AC := .seq (.reg [o' 14 (.ld (some 5) (.t 3)), o' 15 (.ld (some 2) (.t 4)), m' 16 2, o' 17 (.call 124 [.t 14, .t 15, .t 16]), o' 18 (.ext (.t 17) 0), o' 19 (.ext (.t 17) 1), n' (.st 2 (.t 6) (.t 18)), m' 7 19] [6, 7]) (.ret)
def c71x2 : AC := .seq (.reg [o' 22 (.ld (some 2) (.t 4)), m' 23 2, o' 24 (.call 125 [.t 22, .t 23]), o' 25 (.ext (.t 24) 0), o' 26 (.ext (.t 24) 1), n' (.st 2 (.t 6) (.t 25)), m' 7 26] [6, 7]) (.ret)
def c71x3 : AC := .seq (.reg [o' 29 (.ld (some 2) (.t 4)), m' 30 2, o' 31 (.call 126 [.t 29, .t 30]), o' 32 (.ext (.t 31) 0), o' 33 (.ext (.t 31) 1), n' (.st 2 (.t 6) (.t 32)), m' 7 33] [6, 7]) (.ret)
def c71x4 : AC := .seq (.reg [o' 36 (.ld (some 2) (.t 4)), m' 37 2, o' 38 (.call 127 [.t 36, .t 37]), o' 39 (.ext (.t 38) 0), o' 40 (.ext (.t 38) 1), n' (.st 2 (.t 6) (.t 39)), m' 7 40] [6, 7]) (.ret)
def c71x5 : AC := .seq (.reg [o' 43 (.ld (some 2) (.t 4)), m' 44 2, o' 45 (.call 128 [.t 43, .t 44]), o' 46 (.ext (.t 45) 0), o' 47 (.ext (.t 45) 1), n' (.st 2 (.t 6) (.t 46)), m' 7 47] [6, 7]) (.ret)
def c71x6 : AC := .seq (.reg [o' 50 (.ld (some 2) (.t 4)), m' 51 2, o' 52 (.call 129 [.t 50, .t 51]), o' 53 (.ext (.t 52) 0), o' 54 (.ext (.t 52) 1), n' (.st 2 (.t 6) (.t 53)), m' 7 54] [6, 7]) (.ret)
def c71x7 : AC := .seq (.reg [o' 57 (.ld (some 2) (.t 4)), m' 58 2, o' 59 (.call 130 [.t 57, .t 58]), o' 60 (.ext (.t 59) 0), o' 61 (.ext (.t 59) 1), n' (.st 2 (.t 6) (.t 60)), m' 7 61] [6, 7]) (.ret)
def c71x8 : AC := .cond (.t 55) (c71x7) (.skip)
def c71x9 : AC := .seq (.reg [o' 56 (.bin .eql (.t 9) (i' 8)), m' 55 56] [2, 4, 6, 55]) (c71x8)
def c71x10 : AC := .cond (.t 48) (c71x6) (c71x9)
def c71x11 : AC := .seq (.reg [o' 49 (.bin .eql (.t 9) (i' 7)), m' 48 49] [2, 4, 6, 9, 48]) (c71x10)
def c71x12 : AC := .cond (.t 41) (c71x5) (c71x11)
def c71x13 : AC := .seq (.reg [o' 42 (.bin .eql (.t 9) (i' 6)), m' 41 42] [2, 4, 6, 9, 41]) (c71x12)
def c71x14 : AC := .cond (.t 34) (c71x4) (c71x13)
def c71x15 : AC := .seq (.reg [o' 35 (.bin .eql (.t 9) (i' 5)), m' 34 35] [2, 4, 6, 9, 34]) (c71x14)
def c71x16 : AC := .cond (.t 27) (c71x3) (c71x15)
def c71x17 : AC := .seq (.reg [o' 28 (.bin .eql (.t 9) (i' 4)), m' 27 28] [2, 4, 6, 9, 27]) (c71x16)
def c71x18 : AC := .cond (.t 20) (c71x2) (c71x17)
def c71x19 : AC := .seq (.reg [o' 21 (.bin .eql (.t 9) (i' 3)), m' 20 21] [2, 4, 6, 9, 20]) (c71x18)
def c71x20 : AC := .cond (.t 10) (c71x1) (c71x19)
def c71x21 : AC := .reg [o' 13 (.bin .eql (.t 9) (i' 2)), m' 10 13] [2, 3, 4, 6, 9, 10]
def c71x22 : AC := .cond (.t 10) (.skip) (c71x21)
def c71x23 : AC := .seq (.reg [o' 12 (.bin .eql (.t 9) (i' 1)), m' 10 12] [2, 3, 4, 6, 9, 10]) (c71x22)
def c71x24 : AC := .cond (.t 10) (.skip) (c71x23)
def c71x25 : AC := .seq (.reg [o' 11 (.bin .eql (.t 9) (i' 0)), m' 10 11] [2, 3, 4, 6, 9, 10]) (c71x24)
def c71x26 : AC := .seq (c71x25) (c71x20)
def c71x27 : AC := .block 0 (c71x26)
def c71x28 : AC := .seq (.reg [o' 8 (.fad 1 (.t 3)), o' 9 (.ld none (.t 8))] [2, 3, 4, 6, 9]) (c71x27)
def c71x29 : AC := .seq (c71x28) (c71x0)
def c71 : AC := .seq (.reg [o' 3 (.new 5 (.t 0)), o' 4 (.new 2 (.t 1)), o' 6 (.zero [(.slice none 0 0), (.slice none 0 0)]), o' 7 (.mv (i' 0))] [2, 3, 4, 6]) (c71x29)
def v87 : List (Nat × List Nat) := [(0, [0]), (1, [2])]
def r87 : List AR := [.t 2]
def c87x0 : AC := .seq (.reg [m' 3 0, o' 4 (.bin .eql (.t 3) (i' 0)), m' 5 4, ⟨(some 6), .mv (.t 0), (some (5, false))⟩, ⟨(some 7), .bin .eql (.t 6) (i' 1), (some (5, false))⟩, o' 8 (.pick (.t 5) (.k (.bool true)) (.t 7)), m' 9 8, ⟨(some 10), .mv (.t 0), (some (9, false))⟩, ⟨(some 11), .bin .eql (.t 10) (i' 2), (some (9, false))⟩, o' 12 (.pick (.t 9) (.k (.bool true)) (.t 11)), m' 2 12] [2]) (.ret)
def c87 : AC := .seq (.reg [o' 2 (.mv (.k (.bool false)))] [0]) (c87x0)
theorem k87 : Try.f87.body.bind (compC Try.prog Try.f87.ntmps v87) = some c87 := by kernel_rfl
theorem e87 : enters Try.prog 87 = true := by kernel_rfl
theorem q87 : Try.f87.results.toList.mapM (compRes Try.prog) = some r87 := by kernel_rfl
def v88 : List (Nat × List Nat) := [(0, [0]), (1, [3]), (2, [3, 4]), (3, [2]), (4, [3, 6]), (5, [2]), (6, [3, 8]), (7, [2]), (8, [3, 10]), (9, [2]), (10, [3, 12]), (11, [2]), (12, [14]), (13, [2]), (14, [2])]
def r88 : List AR := [.t 2]
def c88x0 : AC := .seq (.reg [o' 2 (.mv (i' 0))] [2]) (.ret)
def c88x1 : AC := .seq (.reg [o' 2 (.mv (i' 4))] [2]) (.ret)
def c88x2 : AC := .seq (.reg [o' 2 (.mv (i' 2))] [2]) (.ret)
def c88x3 : AC := .seq (.reg [o' 2 (.mv (i' 3))] [2]) (.ret)
def c88x4 : AC := .seq (.reg [o' 2 (.mv (i' 32))] [2]) (.ret)
def c88x5 : AC := .seq (.reg [o' 2 (.mv (i' 8))] [2]) (.ret)
def c88x6 : AC := .seq (.reg [o' 2 (.mv (i' 4))] [2]) (.ret)
def c88x7 : AC := .cond (.t 14) (c88x6) (.skip)
def c88x8 : AC := .seq (.reg [o' 15 (.bin .eql (.t 3) (i' 8)), m' 14 15] [14]) (c88x7)
def c88x9 : AC := .cond (.t 12) (c88x5) (c88x8)
def c88x10 : AC := .seq (.reg [o' 13 (.bin .eql (.t 3) (i' 7)), m' 12 13] [3, 12]) (c88x9)
def c88x11 : AC := .cond (.t 10) (c88x4) (c88x10)
def c88x12 : AC := .seq (.reg [o' 11 (.bin .eql (.t 3) (i' 6)), m' 10 11] [3, 10]) (c88x11)
def c88x13 : AC := .cond (.t 8) (c88x3) (c88x12)
def c88x14 : AC := .seq (.reg [o' 9 (.bin .eql (.t 3) (i' 5)), m' 8 9] [3, 8]) (c88x13)
def c88x15 : AC := .cond (.t 6) (c88x2) (c88x14)
def c88x16 : AC := .seq (.reg [o' 7 (.bin .eql (.t 3) (i' 4)), m' 6 7] [3, 6]) (c88x15)
def c88x17 : AC := .cond (.t 4) (c88x1) (c88x16)
def c88x18 : AC := .seq (.reg [o' 5 (.bin .eql (.t 3) (i' 3)), m' 4 5] [3, 4]) (c88x17)
def c88x19 : AC := .block 0 (c88x18)
def c88x20 : AC := .seq (.reg [m' 3 0] [3]) (c88x19)
def c88x21 : AC := .seq (c88x20) (c88x0)
def c88 : AC := .seq (.reg [o' 2 (.mv (i' 0))] [0]) (c88x21)
theorem k88 : Try.f88.body.bind (compC Try.prog Try.f88.ntmps v88) = some c88 := by kernel_rfl
theorem e88 : enters Try.prog 88 = true := by kernel_rfl
theorem q88 : Try.f88.results.toList.mapM (compRes Try.prog) = some r88 := by kernel_rfl
def v97 : List (Nat × List Nat) := [(0, [1]), (1, [1, 5]), (2, [2]), (3, [2])]
def r97 : List AR := [.t 2]
def c97x0 : AC := .seq (.reg [o' 11 (.fad 3 (.t 1)), o' 12 (.ld none (.t 11)), o' 13 (.mnx false [.t 12, i' 65536]), o' 14 (.mnx true [i' 0, .t 13]), m' 2 14] [2]) (.ret)
def c97x1 : AC := .seq (.dreg [o' 6 (.ld (some 5) (.t 1)), o' 7 (.call 111 [.t 6]), o' 8 (.ld (some 5) (.t 1)), o' 9 (.call 153 [.t 8]), o' 10 (.bin .mul (.t 7) (.t 9)), m' 2 10] [[], [0], [], [0, 1, 2], [0, 1, 2, 3], [0, 1, 2, 3, 4]] [2]) (.ret)
def c97x2 : AC := .cond (.t 5) (c97x1) (.skip)
def c97x3 : AC := .seq (.reg [o' 3 (.fad 1 (.t 1)), o' 4 (.ld none (.t 3)), o' 5 (.bin .eql (.t 4) (i' 2))] [1, 5]) (c97x2)
def c97x4 : AC := .seq (c97x3) (c97x0)
def c97 : AC := .seq (.reg [o' 1 (.new 5 (.t 0)), o' 2 (.mv (i' 0))] [1]) (c97x4)
def v104 : List (Nat × List Nat) := [(0, [2, 3, 4, 5, 8]), (1, [2, 3, 4, 5, 8]), (2, [2, 3, 4, 5, 8, 9]), (3, [2, 3, 4, 5, 8, 9, 17]), (4, [2, 3, 4, 5, 8, 9, 21]), (5, [5, 8]), (6, [3, 4, 5, 8, 31]), (7, [5, 8]), (8, [8])]
def r104 : List AR := [.cell (some 2) 8]
def c104x0 : AC := .seq (.reg [o' 47 (.ld (some 2) (.t 5)), n' (.st 2 (.t 8) (.t 47))] [8]) (.ret)
def c104x1 : AC := .dreg [o' 24 (.fad 1 (.t 5)), o' 25 (.ld none (.t 24)), m' 26 9, m' 27 3, o' 28 (.call 114 [.t 27, i' 8]), o' 29 (.cvt .u8 (.t 28)), o' 30 (.idx 1 none (.t 25) (.t 26)), n' (.st 1 (.t 30) (.t 29))] [[], [0], [], [], [3], [3, 4], [0, 1, 2, 3, 4, 5], [0, 1, 2, 3, 4, 5, 6]] [5, 8]
def c104x2 : AC := .dreg [o' 39 (.fad 0 (.t 5)), o' 40 (.ld none (.t 39)), m' 41 3, o' 42 (.call 114 [.t 41, i' 8]), o' 43 (.ld (some 5) (.t 4)), o' 44 (.call 111 [.t 43]), o' 45 (.bin .rem (.t 42) (.t 44)), o' 46 (.idx 1 none (.t 40) (i' 0)), n' (.st 1 (.t 46) (.t 45))] [[], [0], [], [2], [], [2, 3, 4], [2, 3, 4, 5], [0, 1, 2, 3, 4, 5, 6], [0, 1, 2, 3, 4, 5, 6, 7]] [5, 8]
def c104x3 : AC := .cond (.t 31) (c104x2) (.skip)
def c104x4 : AC := .seq (.reg [o' 32 (.fad 1 (.t 4)), o' 33 (.ld none (.t 32)), o' 34 (.bin .eql (.t 33) (i' 2)), m' 35 34, ⟨(some 36), .mv (.t 2), (some (35, true))⟩, ⟨(some 37), .bin .eql (.t 36) (i' 0), (some (35, true))⟩, o' 38 (.pick (.t 35) (.t 37) (.k (.bool false))), m' 31 38] [3, 4, 5, 8, 31]) (c104x3)
def c104x5 : AC := .cond (.t 21) (c104x1) (c104x4)
def c104x6 : AC := .seq (.reg [m' 22 9, o' 23 (.bin .geq (.t 22) (i' 0)), m' 21 23] [2, 3, 4, 5, 8, 9, 21]) (c104x5)
def c104x7 : AC := .cond (.t 17) (.skip) (c104x6)
def c104x8 : AC := .seq (.reg [o' 18 (.fad 1 (.t 4)), o' 19 (.ld none (.t 18)), o' 20 (.bin .eql (.t 19) (i' 1)), m' 17 20] [2, 3, 4, 5, 8, 9, 17]) (c104x7)
def c104x9 : AC := .block 0 (c104x8)
def c104x10 : AC := .seq (.reg [o' 13 (.ld (some 5) (.t 4)), o' 14 (.ld (some 2) (.t 5)), m' 15 2, o' 16 (.call 154 [.t 13, .t 14, .t 15]), m' 9 16] [2, 3, 4, 5, 8, 9]) (c104x9)
def c104x11 : AC := .seq (c104x10) (c104x0)
def c104x12 : AC := .seq (.reg [o' 10 (.ld (some 5) (.t 4)), o' 11 (.ld (some 2) (.t 5)), o' 12 (.call 63 [.t 10, .t 11]), n' (.st 2 (.t 5) (.t 12))] [2, 3, 4, 5, 8]) (c104x11)
def c104 : AC := .seq (.reg [o' 4 (.new 5 (.t 0)), o' 5 (.new 2 (.t 1)), o' 8 (.zero [(.slice none 0 0), (.slice none 0 0)])] [2, 3, 4, 5, 8]) (c104x12)
def v111 : List (Nat × List Nat) := [(0, [1]), (1, [1, 3]), (2, [2])]
def r111 : List AR := [.t 2]
def c111x0 : AC := .seq (.reg [o' 6 (.fad 4 (.t 1)), o' 7 (.ld none (.t 6)), o' 8 (.len (.t 7)), m' 9 3, o' 10 (.bin .add (.t 8) (.t 9)), o' 11 (.bin .sub (.t 10) (i' 1)), m' 12 3, o' 13 (.bin .quo (.t 11) (.t 12)), o' 14 (.mnx true [i' 1, .t 13]), m' 2 14] [2]) (.ret)
def c111x1 : AC := .seq (.reg [o' 4 (.ld (some 5) (.t 1)), o' 5 (.call 153 [.t 4]), m' 3 5] [1, 3]) (c111x0)
def c111 : AC := .seq (.reg [o' 1 (.new 5 (.t 0)), o' 2 (.mv (i' 0))] [1]) (c111x1)
def v124 : List (Nat × List Nat) := [(0, [2, 3, 4, 6]), (1, [2, 3, 4, 6]), (2, [2, 3, 4, 6, 8]), (3, [2, 3, 4, 6, 8, 16]), (4, [6, 7]), (5, [4, 6, 26]), (6, [6, 7]), (7, [6, 7])]
def r124 : List AR := [.cell (some 2) 6, .t 7]
def c124x0 : AC := .seq (.reg [o' 39 (.ld (some 2) (.t 4)), n' (.st 2 (.t 6) (.t 39)), o' 7 (.mv (i' 0))] [6, 7]) (.ret)
def c124x1 : AC := .seq (.dreg [o' 19 (.ld (some 2) (.t 4)), o' 20 (.fad 1 (.t 4)), o' 21 (.ld none (.t 20)), m' 22 8, o' 23 (.idx 1 none (.t 21) (.t 22)), o' 24 (.ld none (.t 23)), o' 25 (.cvt .i64 (.t 24)), n' (.st 2 (.t 6) (.t 19)), m' 7 25] [[], [], [1], [], [1, 2, 3], [1, 2, 3, 4], [1, 2, 3, 4, 5], [0], [0, 1, 2, 3, 4, 5, 6, 7]] [6, 7]) (.ret)
def c124x2 : AC := .seq (.dreg [o' 34 (.ld (some 2) (.t 4)), o' 35 (.fad 0 (.t 4)), o' 36 (.ld none (.t 35)), o' 37 (.idx 1 none (.t 36) (i' 0)), o' 38 (.ld none (.t 37)), n' (.st 2 (.t 6) (.t 34)), m' 7 38] [[], [], [1], [1, 2], [1, 2, 3], [0], [0, 1, 2, 3, 4, 5]] [6, 7]) (.ret)
def c124x3 : AC := .cond (.t 26) (c124x2) (.skip)
def c124x4 : AC := .seq (.reg [o' 27 (.fad 1 (.t 3)), o' 28 (.ld none (.t 27)), o' 29 (.bin .eql (.t 28) (i' 2)), m' 30 29, ⟨(some 31), .mv (.t 2), (some (30, true))⟩, ⟨(some 32), .bin .eql (.t 31) (i' 0), (some (30, true))⟩, o' 33 (.pick (.t 30) (.t 32) (.k (.bool false))), m' 26 33] [4, 6, 26]) (c124x3)
def c124x5 : AC := .cond (.t 16) (c124x1) (c124x4)
def c124x6 : AC := .seq (.reg [m' 17 8, o' 18 (.bin .geq (.t 17) (i' 0)), m' 16 18] [2, 3, 4, 6, 8, 16]) (c124x5)
def c124x7 : AC := .block 0 (c124x6)
def c124x8 : AC := .seq (.reg [o' 12 (.ld (some 5) (.t 3)), o' 13 (.ld (some 2) (.t 4)), m' 14 2, o' 15 (.call 154 [.t 12, .t 13, .t 14]), m' 8 15] [2, 3, 4, 6, 8]) (c124x7)
def c124x9 : AC := .seq (c124x8) (c124x0)
def c124x10 : AC := .seq (.reg [o' 9 (.ld (some 5) (.t 3)), o' 10 (.ld (some 2) (.t 4)), o' 11 (.call 63 [.t 9, .t 10]), n' (.st 2 (.t 4) (.t 11))] [2, 3, 4, 6]) (c124x9)
def c124 : AC := .seq (.reg [o' 3 (.new 5 (.t 0)), o' 4 (.new 2 (.t 1)), o' 6 (.zero [(.slice none 0 0), (.slice none 0 0)]), o' 7 (.mv (i' 0))] [2, 3, 4, 6]) (c124x10)
def v153 : List (Nat × List Nat) := [(0, [1]), (1, [2])]
def r153 : List AR := [.t 2]
def c153x0 : AC := .seq (.reg [o' 3 (.fad 3 (.t 1)), o' 4 (.ld none (.t 3)), o' 5 (.mnx true [.t 4, i' 1]), o' 6 (.mnx false [.t 5, i' 4097]), o' 7 (.bin .sub (.t 6) (i' 1)), o' 8 (.mnx true [i' 1, .t 7]), m' 2 8] [2]) (.ret)
def c153 : AC := .seq (.reg [o' 1 (.new 5 (.t 0)), o' 2 (.mv (i' 0))] [1]) (c153x0)
def v154 : List (Nat × List Nat) := [(0, [2, 3, 4]), (1, [2, 3, 4, 9]), (2, [2, 3, 4, 17]), (3, [6]), (4, [6]), (5, [2, 36]), (6, [6]), (7, [6])]
def r154 : List AR := [.t 6]
def c154x0 : AC := .seq (.reg [m' 37 2, m' 6 37] [6]) (.ret)
def c154x1 : AC := .seq (.reg [o' 6 (.mv (.k (.int .i64 (-1))))] [6]) (.ret)
def c154x2 : AC := .cond (.t 36) (c154x1) (.skip)
def c154x3 : AC := .seq (.reg [m' 28 2, o' 29 (.bin .lss (.t 28) (i' 0)), m' 30 29, ⟨(some 31), .mv (.t 2), (some (30, false))⟩, ⟨(some 32), .fad 1 (.t 4), (some (30, false))⟩, ⟨(some 33), .ld none (.t 32), (some (30, false))⟩, ⟨(some 34), .len (.t 33), (some (30, false))⟩, ⟨(some 35), .bin .geq (.t 31) (.t 34), (some (30, false))⟩, o' 36 (.pick (.t 30) (.k (.bool true)) (.t 35))] [2, 36]) (c154x2)
def c154x4 : AC := .seq (c154x3) (c154x0)
def c154x5 : AC := .seq (.dreg [o' 18 (.fad 0 (.t 4)), o' 19 (.ld none (.t 18)), o' 20 (.idx 1 none (.t 19) (i' 0)), o' 21 (.ld none (.t 20)), o' 22 (.ld (some 5) (.t 3)), o' 23 (.call 153 [.t 22]), o' 24 (.bin .mul (.t 21) (.t 23)), m' 25 2, o' 26 (.bin .add (.t 24) (.t 25)), o' 27 (.bin .sub (.t 26) (i' 1)), m' 6 27] [[], [0], [0, 1], [0, 1, 2], [], [4], [0, 1, 2, 3, 4, 5], [], [0, 1, 2, 3, 4, 5, 6, 7], [0, 1, 2, 3, 4, 5, 6, 7, 8], [0, 1, 2, 3, 4, 5, 6, 7, 8, 9]] [6]) (.ret)
def c154x6 : AC := .seq (.reg [o' 6 (.mv (.k (.int .i64 (-1))))] [6]) (.ret)
def c154x7 : AC := .cond (.t 17) (c154x6) (.skip)
def c154x8 : AC := .seq (.reg [m' 10 2, o' 11 (.bin .lss (.t 10) (i' 1)), m' 12 11, ⟨(some 13), .mv (.t 2), (some (12, false))⟩, ⟨(some 14), .ld (some 5) (.t 3), (some (12, false))⟩, ⟨(some 15), .call 153 [.t 14], (some (12, false))⟩, ⟨(some 16), .bin .gtr (.t 13) (.t 15), (some (12, false))⟩, o' 17 (.pick (.t 12) (.k (.bool true)) (.t 16))] [2, 3, 4, 17]) (c154x7)
def c154x9 : AC := .seq (c154x8) (c154x5)
def c154x10 : AC := .cond (.t 9) (c154x9) (.skip)
def c154x11 : AC := .seq (.reg [o' 7 (.fad 1 (.t 3)), o' 8 (.ld none (.t 7)), o' 9 (.bin .eql (.t 8) (i' 2))] [2, 3, 4, 9]) (c154x10)
def c154x12 : AC := .seq (c154x11) (c154x4)
def c154 : AC := .seq (.reg [o' 3 (.new 5 (.t 0)), o' 4 (.new 2 (.t 1)), o' 6 (.mv (i' 0))] [2, 3, 4]) (c154x12)
end Go.Proofs.Ytolmklnijjfppaa.Code

namespace Go.Proofs.Ytolmklnijjfppaa.Code
open Go Go.Proofs.Ytolmklnijjfppaa.Calc
set_option maxRecDepth 100000
def v64 : List (Nat × List Nat) := [(0, [1, 2, 4]), (1, [1, 4, 5]), (2, [4, 5]), (3, [4, 5]), (4, [1, 4, 5, 18]), (5, [1, 4, 5, 28]), (6, [4, 5]), (7, [1, 4, 5, 40]), (8, [4, 5, 6]), (9, [4, 5]), (10, [4])]
def r64 : List AR := [.cell (some 2) 4]
def c64x0 : AC := .seq (.reg [m' 66 5, o' 67 (.build [(.slice none 0 0), (.slice none 0 0)] [(0, 1, (.t 66))]), n' (.st 2 (.t 4) (.t 67))] [4]) (.ret)
def c64x1 : AC := .reg [m' 34 5, o' 35 (.idx 1 none (.t 34) (i' 0)), o' 36 (.ld none (.t 35)), m' 37 1, o' 38 (.bin .sub (.t 36) (.t 37)), o' 39 (.idx 1 none (.t 34) (i' 0)), n' (.st 1 (.t 39) (.t 38))] [4, 5]
def c64x2 : AC := .reg [m' 57 5, m' 58 5, m' 59 5, o' 60 (.idx 1 none (.t 59) (i' 1)), o' 61 (.ld none (.t 60)), m' 62 6, o' 63 (.bin .sub (.t 61) (.t 62)), o' 64 (.idx 1 none (.t 57) (i' 3)), n' (.st 1 (.t 64) (i' 1)), o' 65 (.idx 1 none (.t 58) (i' 0)), n' (.st 1 (.t 65) (.t 63))] [4, 5]
def c64x3 : AC := .seq (.dreg [m' 46 1, m' 47 5, o' 48 (.idx 1 none (.t 47) (i' 0)), o' 49 (.ld none (.t 48)), o' 50 (.bin .sub (.t 46) (.t 49)), o' 51 (.bin .sub (.t 50) (i' 1)), m' 52 5, o' 53 (.idx 1 none (.t 52) (i' 1)), o' 54 (.ld none (.t 53)), o' 55 (.bin .add (.t 54) (i' 1)), o' 56 (.bin .rem (.t 51) (.t 55)), m' 6 56] [[], [], [1], [1, 2], [0, 1, 2, 3], [0, 1, 2, 3, 4], [], [6], [6, 7], [6, 7, 8], [0, 1, 2, 3, 4, 5, 6, 7, 8, 9], [0, 1, 2, 3, 4, 5, 6, 7, 8, 9, 10]] [4, 5, 6]) (c64x2)
def c64x4 : AC := .reg [m' 13 5, o' 14 (.idx 1 none (.t 13) (i' 2)), o' 15 (.ld none (.t 14)), o' 16 (.bin .andNot (.t 15) (i' 1)), o' 17 (.idx 1 none (.t 13) (i' 2)), n' (.st 1 (.t 17) (.t 16))] [4, 5]
def c64x5 : AC := .seq (.reg [m' 9 5, m' 10 5, o' 11 (.idx 1 none (.t 9) (i' 3)), n' (.st 1 (.t 11) (i' 1)), o' 12 (.idx 1 none (.t 10) (i' 0)), n' (.st 1 (.t 12) (i' 0))] [4, 5]) (c64x4)
def c64x6 : AC := .cond (.t 40) (c64x3) (c64x5)
def c64x7 : AC := .seq (.reg [m' 41 5, o' 42 (.idx 1 none (.t 41) (i' 2)), o' 43 (.ld none (.t 42)), o' 44 (.bin .and (.t 43) (i' 2)), o' 45 (.bin .neq (.t 44) (i' 0)), m' 40 45] [1, 4, 5, 40]) (c64x6)
def c64x8 : AC := .cond (.t 28) (c64x1) (c64x7)
def c64x9 : AC := .seq (.reg [m' 29 1, m' 30 5, o' 31 (.idx 1 none (.t 30) (i' 0)), o' 32 (.ld none (.t 31)), o' 33 (.bin .leq (.t 29) (.t 32)), m' 28 33] [1, 4, 5, 28]) (c64x8)
def c64x10 : AC := .cond (.t 18) (.skip) (c64x9)
def c64x11 : AC := .seq (.reg [m' 19 1, o' 20 (.bin .leq (.t 19) (i' 0)), m' 21 20, ⟨(some 22), .mv (.t 5), (some (21, false))⟩, ⟨(some 23), .idx 1 none (.t 22) (i' 2), (some (21, false))⟩, ⟨(some 24), .ld none (.t 23), (some (21, false))⟩, ⟨(some 25), .bin .and (.t 24) (i' 1), (some (21, false))⟩, ⟨(some 26), .bin .eql (.t 25) (i' 0), (some (21, false))⟩, o' 27 (.pick (.t 21) (.k (.bool true)) (.t 26)), m' 18 27] [1, 4, 5, 18]) (c64x10)
def c64x12 : AC := .block 0 (c64x11)
def c64x13 : AC := .seq (c64x12) (c64x0)
def c64x14 : AC := .seq (.reg [o' 7 (.ld (some 2) (.t 2)), o' 8 (.call 112 [.t 7]), m' 5 8] [1, 4, 5]) (c64x13)
def c64 : AC := .seq (.reg [o' 2 (.new 2 (.t 0)), o' 4 (.zero [(.slice none 0 0), (.slice none 0 0)])] [1, 2, 4]) (c64x14)
def v98 : List (Nat × List Nat) := [(0, [0]), (1, [0])]
def r98 : List AR := [.cell (some 2) 0]
def c98x0 : AC := .seq (.reg [o' 1 (.mksl [(.int .i64 0)] 8 (i' 4) (i' 4)), o' 2 (.build [(.slice none 0 0), (.slice none 0 0)] [(0, 1, (.t 1))]), n' (.st 2 (.t 0) (.t 2))] [0]) (.ret)
def c98 : AC := .seq (.reg [o' 0 (.zero [(.slice none 0 0), (.slice none 0 0)])] [0]) (c98x0)
def v105 : List (Nat × List Nat) := [(0, [1, 2, 3, 6]), (1, [1, 2, 6, 7]), (2, [1, 2, 6, 7, 10]), (3, [1, 2, 6, 7, 10, 11]), (4, [1, 2, 6, 7, 10, 11]), (5, [6, 7]), (6, [2, 6, 7, 23]), (7, [2, 6, 7]), (8, [6, 7, 31]), (9, [6, 7]), (10, [6])]
def r105 : List AR := [.cell (some 2) 6]
def c105x0 : AC := .seq (.reg [m' 37 7, o' 38 (.build [(.slice none 0 0), (.slice none 0 0)] [(0, 1, (.t 37))]), n' (.st 2 (.t 6) (.t 38))] [6]) (.ret)
def c105x1 : AC := .reg [m' 14 7, m' 15 7, o' 16 (.idx 1 none (.t 15) (i' 1)), o' 17 (.ld none (.t 16)), m' 18 1, o' 19 (.bin .mul (i' 8) (.t 18)), m' 20 2, o' 21 (.call 155 [.t 17, .t 19, i' 8, .t 20]), o' 22 (.idx 1 none (.t 14) (i' 1)), n' (.st 1 (.t 22) (.t 21))] [6, 7]
def c105x2 : AC := .reg [m' 32 7, m' 33 7, o' 34 (.idx 1 none (.t 33) (i' 1)), o' 35 (.ld none (.t 34)), o' 36 (.idx 1 none (.t 32) (i' 0)), n' (.st 1 (.t 36) (.t 35))] [6, 7]
def c105x3 : AC := .cond (.t 31) (c105x2) (.skip)
def c105x4 : AC := .seq (.reg [m' 29 2, o' 30 (.bin .and (.t 29) (i' 128)), o' 31 (.bin .neq (.t 30) (i' 0))] [6, 7, 31]) (c105x3)
def c105x5 : AC := .seq (.reg [m' 25 7, m' 26 2, o' 27 (.call 114 [.t 26, i' 3]), o' 28 (.idx 1 none (.t 25) (i' 2)), n' (.st 1 (.t 28) (.t 27))] [2, 6, 7]) (c105x4)
def c105x6 : AC := .cond (.t 23) (c105x5) (.skip)
def c105x7 : AC := .seq (.reg [o' 24 (.bin .eql (.t 10) (i' 2)), m' 23 24] [2, 6, 7, 23]) (c105x6)
def c105x8 : AC := .cond (.t 11) (c105x1) (c105x7)
def c105x9 : AC := .reg [o' 13 (.bin .eql (.t 10) (i' 1)), m' 11 13] [1, 2, 6, 7, 10, 11]
def c105x10 : AC := .cond (.t 11) (.skip) (c105x9)
def c105x11 : AC := .seq (.reg [o' 12 (.bin .eql (.t 10) (i' 0)), m' 11 12] [1, 2, 6, 7, 10, 11]) (c105x10)
def c105x12 : AC := .seq (c105x11) (c105x8)
def c105x13 : AC := .block 0 (c105x12)
def c105x14 : AC := .seq (.reg [m' 10 1] [1, 2, 6, 7, 10]) (c105x13)
def c105x15 : AC := .seq (c105x14) (c105x0)
def c105x16 : AC := .seq (.reg [o' 8 (.ld (some 2) (.t 3)), o' 9 (.call 112 [.t 8]), m' 7 9] [1, 2, 6, 7]) (c105x15)
def c105 : AC := .seq (.reg [o' 3 (.new 2 (.t 0)), o' 6 (.zero [(.slice none 0 0), (.slice none 0 0)])] [1, 2, 3, 6]) (c105x16)
def v112 : List (Nat × List Nat) := [(0, [1]), (1, [1, 3]), (2, [3]), (3, [3]), (4, [2])]
def r112 : List AR := [.t 2]
def c112x0 : AC := .seq (.reg [m' 33 3, m' 2 33] [2]) (.ret)
def c112x1 : AC := .seq (.dreg [m' 9 3, m' 10 3, m' 11 3, m' 12 3, m' 13 3, o' 14 (.idx 1 none (.t 13) (i' 0)), o' 15 (.ld none (.t 14)), o' 16 (.call 114 [.t 15, i' 16]), m' 17 3, o' 18 (.idx 1 none (.t 17) (i' 1)), o' 19 (.ld none (.t 18)), o' 20 (.call 114 [.t 19, i' 16]), m' 21 3, o' 22 (.idx 1 none (.t 21) (i' 2)), o' 23 (.ld none (.t 22)), o' 24 (.call 114 [.t 23, i' 3]), m' 25 3, o' 26 (.idx 1 none (.t 25) (i' 3)), o' 27 (.ld none (.t 26)), o' 28 (.call 114 [.t 27, i' 1]), o' 29 (.idx 1 none (.t 9) (i' 0)), n' (.st 1 (.t 29) (.t 16)), o' 30 (.idx 1 none (.t 10) (i' 1)), n' (.st 1 (.t 30) (.t 20)), o' 31 (.idx 1 none (.t 11) (i' 2)), n' (.st 1 (.t 31) (.t 24)), o' 32 (.idx 1 none (.t 12) (i' 3)), n' (.st 1 (.t 32) (.t 28))] [[], [], [], [], [], [4], [4, 5], [4, 5, 6], [], [8], [8, 9], [4, 5, 6, 7, 8, 9, 10], [], [12], [12, 13], [4, 5, 6, 7, 8, 9, 10, 11, 12, 13, 14], [], [16], [16, 17], [4, 5, 6, 7, 8, 9, 10, 11, 12, 13, 14, 15, 16, 17, 18], [0, 4, 5, 6, 7, 8, 9, 10, 11, 12, 13, 14, 15, 16, 17, 18, 19], [0, 4, 5, 6, 7, 8, 9, 10, 11, 12, 13, 14, 15, 16, 17, 18, 19, 20], [0, 1, 4, 5, 6, 7, 8, 9, 10, 11, 12, 13, 14, 15, 16, 17, 18, 19, 20, 21], [0, 1, 4, 5, 6, 7, 8, 9, 10, 11, 12, 13, 14, 15, 16, 17, 18, 19, 20, 21, 22], [0, 1, 2, 4, 5, 6, 7, 8, 9, 10, 11, 12, 13, 14, 15, 16, 17, 18, 19, 20, 21, 22, 23], [0, 1, 2, 4, 5, 6, 7, 8, 9, 10, 11, 12, 13, 14, 15, 16, 17, 18, 19, 20, 21, 22, 23, 24], [0, 1, 2, 3, 4, 5, 6, 7, 8, 9, 10, 11, 12, 13, 14, 15, 16, 17, 18, 19, 20, 21, 22, 23, 24, 25], [0, 1, 2, 3, 4, 5, 6, 7, 8, 9, 10, 11, 12, 13, 14, 15, 16, 17, 18, 19, 20, 21, 22, 23, 24, 25, 26]] [3]) (c112x0)
def c112x2 : AC := .seq (.reg [m' 5 3, o' 6 (.fad 0 (.t 1)), o' 7 (.ld none (.t 6)), o' 8 (.copy 1 (.t 5) (.t 7))] [3]) (c112x1)
def c112x3 : AC := .seq (.reg [o' 4 (.mksl [(.int .i64 0)] 8 (i' 4) (i' 4)), m' 3 4] [1, 3]) (c112x2)
def c112 : AC := .seq (.reg [o' 1 (.new 2 (.t 0)), o' 2 (.mv (.k (.slice none 0 0)))] [1]) (c112x3)
def v125 : List (Nat × List Nat) := [(0, [1, 2, 4]), (1, [1, 4, 6]), (2, [1, 4, 6, 7]), (3, [1, 4, 6, 7, 10]), (4, [1, 4, 6, 7, 10, 11]), (5, [1, 4, 6, 7, 10, 11]), (6, [4, 6, 7]), (7, [4, 6, 7, 10, 20]), (8, [4, 6, 7]), (9, [4, 6, 7, 25]), (10, [4, 6, 7]), (11, [4, 5])]
def r125 : List AR := [.cell (some 2) 4, .t 5]
def c125x0 : AC := .seq (.reg [m' 32 6, o' 33 (.build [(.slice none 0 0), (.slice none 0 0)] [(0, 1, (.t 32))]), m' 34 7, n' (.st 2 (.t 4) (.t 33)), m' 5 34] [4, 5]) (.ret)
def c125x1 : AC := .reg [m' 14 6, o' 15 (.idx 1 none (.t 14) (i' 0)), o' 16 (.ld none (.t 15)), m' 17 1, o' 18 (.bin .mul (i' 8) (.t 17)), o' 19 (.call 163 [.t 16, .t 18, i' 8]), m' 7 19] [4, 6, 7]
def c125x2 : AC := .reg [m' 22 6, o' 23 (.idx 1 none (.t 22) (i' 2)), o' 24 (.ld none (.t 23)), m' 7 24] [4, 6, 7]
def c125x3 : AC := .reg [m' 27 6, m' 28 6, o' 29 (.idx 1 none (.t 28) (i' 3)), o' 30 (.ld none (.t 29)), m' 7 30, o' 31 (.idx 1 none (.t 27) (i' 3)), n' (.st 1 (.t 31) (i' 0))] [4, 6, 7]
def c125x4 : AC := .cond (.t 25) (c125x3) (.skip)
def c125x5 : AC := .seq (.reg [o' 26 (.bin .eql (.t 10) (i' 3)), m' 25 26] [4, 6, 7, 25]) (c125x4)
def c125x6 : AC := .cond (.t 20) (c125x2) (c125x5)
def c125x7 : AC := .seq (.reg [o' 21 (.bin .eql (.t 10) (i' 2)), m' 20 21] [4, 6, 7, 10, 20]) (c125x6)
def c125x8 : AC := .cond (.t 11) (c125x1) (c125x7)
def c125x9 : AC := .reg [o' 13 (.bin .eql (.t 10) (i' 1)), m' 11 13] [1, 4, 6, 7, 10, 11]
def c125x10 : AC := .cond (.t 11) (.skip) (c125x9)
def c125x11 : AC := .seq (.reg [o' 12 (.bin .eql (.t 10) (i' 0)), m' 11 12] [1, 4, 6, 7, 10, 11]) (c125x10)
def c125x12 : AC := .seq (c125x11) (c125x8)
def c125x13 : AC := .block 0 (c125x12)
def c125x14 : AC := .seq (.reg [m' 10 1] [1, 4, 6, 7, 10]) (c125x13)
def c125x15 : AC := .seq (c125x14) (c125x0)
def c125x16 : AC := .seq (.reg [o' 7 (.mv (i' 0))] [1, 4, 6, 7]) (c125x15)
def c125x17 : AC := .seq (.reg [o' 8 (.ld (some 2) (.t 2)), o' 9 (.call 112 [.t 8]), m' 6 9] [1, 4, 6]) (c125x16)
def c125 : AC := .seq (.reg [o' 2 (.new 2 (.t 0)), o' 4 (.zero [(.slice none 0 0), (.slice none 0 0)]), o' 5 (.mv (i' 0))] [1, 2, 4]) (c125x17)
end Go.Proofs.Ytolmklnijjfppaa.Code

namespace Go.Proofs.Ytolmklnijjfppaa.Code
open Go Go.Proofs.Ytolmklnijjfppaa.Calc
set_option maxRecDepth 100000
def v67 : List (Nat × List Nat) := [(0, [1, 2, 4]), (1, [1, 4, 5]), (2, [4, 5]), (3, [1, 4, 5, 22]), (4, [1, 4, 5, 31]), (5, [4, 5]), (6, [4])]
def r67 : List AR := [.cell (some 2) 4]
def c67x0 : AC := .seq (.reg [m' 43 5, o' 44 (.build [(.slice none 0 0), (.slice none 0 0)] [(0, 1, (.t 43))]), n' (.st 2 (.t 4) (.t 44))] [4]) (.ret)
def c67x1 : AC := .reg [m' 37 5, o' 38 (.idx 1 none (.t 37) (i' 1)), o' 39 (.ld none (.t 38)), m' 40 1, o' 41 (.bin .sub (.t 39) (.t 40)), o' 42 (.idx 1 none (.t 37) (i' 1)), n' (.st 1 (.t 42) (.t 41))] [4, 5]
def c67x2 : AC := .dreg [m' 8 5, m' 9 5, m' 10 5, m' 11 5, o' 12 (.idx 1 none (.t 11) (i' 0)), o' 13 (.ld none (.t 12)), m' 14 5, o' 15 (.idx 1 none (.t 14) (i' 6)), o' 16 (.ld none (.t 15)), o' 17 (.bin .add (.t 16) (i' 1)), o' 18 (.call 114 [.t 17, i' 20]), o' 19 (.idx 1 none (.t 8) (i' 1)), n' (.st 1 (.t 19) (i' 0)), o' 20 (.idx 1 none (.t 9) (i' 7)), n' (.st 1 (.t 20) (.t 13)), o' 21 (.idx 1 none (.t 10) (i' 6)), n' (.st 1 (.t 21) (.t 18))] [[], [], [], [], [3], [3, 4], [], [6], [6, 7], [6, 7, 8], [6, 7, 8, 9], [0, 3, 4, 5, 6, 7, 8, 9, 10], [0, 3, 4, 5, 6, 7, 8, 9, 10, 11], [0, 1, 3, 4, 5, 6, 7, 8, 9, 10, 11, 12], [0, 1, 3, 4, 5, 6, 7, 8, 9, 10, 11, 12, 13], [0, 1, 2, 3, 4, 5, 6, 7, 8, 9, 10, 11, 12, 13, 14], [0, 1, 2, 3, 4, 5, 6, 7, 8, 9, 10, 11, 12, 13, 14, 15]] [4, 5]
def c67x3 : AC := .cond (.t 31) (c67x1) (c67x2)
def c67x4 : AC := .seq (.reg [m' 32 1, m' 33 5, o' 34 (.idx 1 none (.t 33) (i' 1)), o' 35 (.ld none (.t 34)), o' 36 (.bin .lss (.t 32) (.t 35)), m' 31 36] [1, 4, 5, 31]) (c67x3)
def c67x5 : AC := .cond (.t 22) (.skip) (c67x4)
def c67x6 : AC := .seq (.reg [m' 23 1, o' 24 (.bin .leq (.t 23) (i' 0)), m' 25 24, ⟨(some 26), .mv (.t 5), (some (25, false))⟩, ⟨(some 27), .idx 1 none (.t 26) (i' 1), (some (25, false))⟩, ⟨(some 28), .ld none (.t 27), (some (25, false))⟩, ⟨(some 29), .bin .eql (.t 28) (i' 0), (some (25, false))⟩, o' 30 (.pick (.t 25) (.k (.bool true)) (.t 29)), m' 22 30] [1, 4, 5, 22]) (c67x5)
def c67x7 : AC := .block 0 (c67x6)
def c67x8 : AC := .seq (c67x7) (c67x0)
def c67x9 : AC := .seq (.reg [o' 6 (.ld (some 2) (.t 2)), o' 7 (.call 115 [.t 6]), m' 5 7] [1, 4, 5]) (c67x8)
def c67 : AC := .seq (.reg [o' 2 (.new 2 (.t 0)), o' 4 (.zero [(.slice none 0 0), (.slice none 0 0)])] [1, 2, 4]) (c67x9)
def v100 : List (Nat × List Nat) := [(0, [0]), (1, [0])]
def r100 : List AR := [.cell (some 2) 0]
def c100x0 : AC := .seq (.reg [o' 1 (.mksl [(.int .i64 0)] 8 (i' 8) (i' 8)), o' 2 (.build [(.slice none 0 0), (.slice none 0 0)] [(0, 1, (.t 1))]), n' (.st 2 (.t 0) (.t 2))] [0]) (.ret)
def c100 : AC := .seq (.reg [o' 0 (.zero [(.slice none 0 0), (.slice none 0 0)])] [0]) (c100x0)
def v107 : List (Nat × List Nat) := [(0, [1, 2, 3, 6]), (1, [1, 2, 6, 7]), (2, [1, 2, 6, 7, 10]), (3, [6, 7]), (4, [2, 6, 7, 25]), (5, [6, 7]), (6, [6])]
def r107 : List AR := [.cell (some 2) 6]
def c107x0 : AC := .seq (.reg [m' 32 7, o' 33 (.build [(.slice none 0 0), (.slice none 0 0)] [(0, 1, (.t 32))]), n' (.st 2 (.t 6) (.t 33))] [6]) (.ret)
def c107x1 : AC := .reg [m' 19 7, m' 20 7, m' 21 2, o' 22 (.call 114 [.t 21, i' 8]), o' 23 (.idx 1 none (.t 19) (i' 0)), n' (.st 1 (.t 23) (.t 22)), o' 24 (.idx 1 none (.t 20) (i' 1)), n' (.st 1 (.t 24) (i' 40))] [6, 7]
def c107x2 : AC := .reg [m' 28 7, m' 29 2, o' 30 (.call 114 [.t 29, i' 2]), o' 31 (.idx 1 none (.t 28) (i' 5)), n' (.st 1 (.t 31) (.t 30))] [6, 7]
def c107x3 : AC := .cond (.t 25) (c107x2) (.skip)
def c107x4 : AC := .seq (.reg [m' 26 1, o' 27 (.bin .eql (.t 26) (i' 2)), m' 25 27] [2, 6, 7, 25]) (c107x3)
def c107x5 : AC := .cond (.t 10) (c107x1) (c107x4)
def c107x6 : AC := .seq (.reg [m' 11 1, o' 12 (.bin .eql (.t 11) (i' 0)), m' 13 12, ⟨(some 14), .mv (.t 7), (some (13, true))⟩, ⟨(some 15), .idx 1 none (.t 14) (i' 1), (some (13, true))⟩, ⟨(some 16), .ld none (.t 15), (some (13, true))⟩, ⟨(some 17), .bin .eql (.t 16) (i' 0), (some (13, true))⟩, o' 18 (.pick (.t 13) (.t 17) (.k (.bool false))), m' 10 18] [1, 2, 6, 7, 10]) (c107x5)
def c107x7 : AC := .block 0 (c107x6)
def c107x8 : AC := .seq (c107x7) (c107x0)
def c107x9 : AC := .seq (.reg [o' 8 (.ld (some 2) (.t 3)), o' 9 (.call 115 [.t 8]), m' 7 9] [1, 2, 6, 7]) (c107x8)
def c107 : AC := .seq (.reg [o' 3 (.new 2 (.t 0)), o' 6 (.zero [(.slice none 0 0), (.slice none 0 0)])] [1, 2, 3, 6]) (c107x9)
def v115 : List (Nat × List Nat) := [(0, [1]), (1, [1, 3]), (2, [3]), (3, [3, 11, 12]), (4, [3, 11, 12, 13]), (5, [3, 4, 5, 11, 12]), (6, [3, 11, 12]), (7, [3, 11, 12]), (8, [2])]
def r115 : List AR := [.t 2]
def c115x0 : AC := .seq (.reg [m' 26 3, m' 2 26] [2]) (.ret)
def c115x1 : AC := .reg [o' 25 (.bin .add (.t 12) (i' 1)), m' 12 25] [3, 11, 12]
def c115x2 : AC := .reg [m' 16 3, m' 17 4, m' 18 3, m' 19 4, o' 20 (.idx 1 none (.t 18) (.t 19)), o' 21 (.ld none (.t 20)), m' 22 5, o' 23 (.call 114 [.t 21, .t 22]), o' 24 (.idx 1 none (.t 16) (.t 17)), n' (.st 1 (.t 24) (.t 23))] [3, 11, 12]
def c115x3 : AC := .seq (.reg [m' 14 12, o' 15 (.ixa 8 1 none (.t 11) (.t 12)), m' 4 14, m' 5 15] [3, 4, 5, 11, 12]) (c115x2)
def c115x4 : AC := .block 1 (c115x3)
def c115x5 : AC := .seq (c115x4) (c115x1)
def c115x6 : AC := .cond (.t 13) (.skip) (.exit 0)
def c115x7 : AC := .seq (c115x6) (c115x5)
def c115x8 : AC := .seq (.reg [o' 13 (.bin .lss (.t 12) (i' 8))] [3, 11, 12, 13]) (c115x7)
def c115x9 : AC := .loop (c115x8)
def c115x10 : AC := .block 0 (c115x9)
def c115x11 : AC := .seq (.reg [o' 11 (.build [(.int .i64 0), (.int .i64 0), (.int .i64 0), (.int .i64 0), (.int .i64 0), (.int .i64 0), (.int .i64 0), (.int .i64 0)] [(0, 1, (i' 8)), (1, 1, (i' 6)), (2, 1, (i' 8)), (3, 1, (i' 1)), (4, 1, (i' 1)), (5, 1, (i' 2)), (6, 1, (i' 20)), (7, 1, (i' 8))]), o' 12 (.mv (i' 0))] [3, 11, 12]) (c115x10)
def c115x12 : AC := .seq (c115x11) (c115x0)
def c115x13 : AC := .seq (.reg [m' 7 3, o' 8 (.fad 0 (.t 1)), o' 9 (.ld none (.t 8)), o' 10 (.copy 1 (.t 7) (.t 9))] [3]) (c115x12)
def c115x14 : AC := .seq (.reg [o' 6 (.mksl [(.int .i64 0)] 8 (i' 8) (i' 8)), m' 3 6] [1, 3]) (c115x13)
def c115 : AC := .seq (.reg [o' 1 (.new 2 (.t 0)), o' 2 (.mv (.k (.slice none 0 0)))] [1]) (c115x14)
def v127 : List (Nat × List Nat) := [(0, [1, 2, 4]), (1, [1, 4, 6]), (2, [1, 4, 6, 7]), (3, [4, 6, 7, 10]), (4, [4, 6, 7, 10, 11]), (5, [4, 6, 7]), (6, [4, 6, 7, 10, 18]), (7, [4, 6, 7]), (8, [4, 6, 7]), (9, [4, 6, 7, 37]), (10, [4, 6, 7]), (11, [4, 5])]
def r127 : List AR := [.cell (some 2) 4, .t 5]
def c127x0 : AC := .seq (.reg [m' 42 6, o' 43 (.build [(.slice none 0 0), (.slice none 0 0)] [(0, 1, (.t 42))]), m' 44 7, n' (.st 2 (.t 4) (.t 43)), m' 5 44] [4, 5]) (.ret)
def c127x1 : AC := .reg [m' 13 6, m' 14 6, o' 15 (.idx 1 none (.t 14) (i' 2)), o' 16 (.ld none (.t 15)), m' 7 16, o' 17 (.idx 1 none (.t 13) (i' 3)), n' (.st 1 (.t 17) (i' 0))] [4, 6, 7]
def c127x2 : AC := .reg [m' 35 6, o' 36 (.idx 1 none (.t 35) (i' 4)), n' (.st 1 (.t 36) (i' 0))] [4, 6, 7]
def c127x3 : AC := .seq (.dreg [m' 20 6, o' 21 (.idx 1 none (.t 20) (i' 3)), o' 22 (.ld none (.t 21)), m' 23 6, o' 24 (.idx 1 none (.t 23) (i' 1)), o' 25 (.ld none (.t 24)), o' 26 (.bin .gtr (.t 25) (i' 0)), o' 27 (.call 164 [.t 26]), o' 28 (.bin .shl (.t 27) (.k (.int .u64 1))), o' 29 (.bin .or (.t 22) (.t 28)), m' 30 6, o' 31 (.idx 1 none (.t 30) (i' 4)), o' 32 (.ld none (.t 31)), o' 33 (.bin .shl (.t 32) (.k (.int .u64 2))), o' 34 (.bin .or (.t 29) (.t 33)), m' 7 34] [[], [0], [0, 1], [], [3], [3, 4], [3, 4, 5], [3, 4, 5, 6], [3, 4, 5, 6, 7], [0, 1, 2, 3, 4, 5, 6, 7, 8], [], [10], [10, 11], [10, 11, 12], [0, 1, 2, 3, 4, 5, 6, 7, 8, 9, 10, 11, 12, 13], [0, 1, 2, 3, 4, 5, 6, 7, 8, 9, 10, 11, 12, 13, 14]] [4, 6, 7]) (c127x2)
def c127x4 : AC := .reg [m' 39 6, o' 40 (.idx 1 none (.t 39) (i' 5)), o' 41 (.ld none (.t 40)), m' 7 41] [4, 6, 7]
def c127x5 : AC := .cond (.t 37) (c127x4) (.skip)
def c127x6 : AC := .seq (.reg [o' 38 (.bin .eql (.t 10) (i' 2)), m' 37 38] [4, 6, 7, 37]) (c127x5)
def c127x7 : AC := .cond (.t 18) (c127x3) (c127x6)
def c127x8 : AC := .seq (.reg [o' 19 (.bin .eql (.t 10) (i' 1)), m' 18 19] [4, 6, 7, 10, 18]) (c127x7)
def c127x9 : AC := .cond (.t 11) (c127x1) (c127x8)
def c127x10 : AC := .seq (.reg [o' 12 (.bin .eql (.t 10) (i' 0)), m' 11 12] [4, 6, 7, 10, 11]) (c127x9)
def c127x11 : AC := .block 0 (c127x10)
def c127x12 : AC := .seq (.reg [m' 10 1] [4, 6, 7, 10]) (c127x11)
def c127x13 : AC := .seq (c127x12) (c127x0)
def c127x14 : AC := .seq (.reg [o' 7 (.mv (i' 0))] [1, 4, 6, 7]) (c127x13)
def c127x15 : AC := .seq (.reg [o' 8 (.ld (some 2) (.t 2)), o' 9 (.call 115 [.t 8]), m' 6 9] [1, 4, 6]) (c127x14)
def c127 : AC := .seq (.reg [o' 2 (.new 2 (.t 0)), o' 4 (.zero [(.slice none 0 0), (.slice none 0 0)]), o' 5 (.mv (i' 0))] [1, 2, 4]) (c127x15)
def v164 : List (Nat × List Nat) := [(0, [0]), (1, [3]), (2, [2]), (3, [2])]
def r164 : List AR := [.t 2]
def c164x0 : AC := .seq (.reg [o' 2 (.mv (i' 0))] [2]) (.ret)
def c164x1 : AC := .seq (.reg [o' 2 (.mv (i' 1))] [2]) (.ret)
def c164x2 : AC := .cond (.t 3) (c164x1) (.skip)
def c164x3 : AC := .seq (.reg [m' 3 0] [3]) (c164x2)
def c164x4 : AC := .seq (c164x3) (c164x0)
def c164 : AC := .seq (.reg [o' 2 (.mv (i' 0))] [0]) (c164x4)
end Go.Proofs.Ytolmklnijjfppaa.Code

namespace Go.Proofs.Ytolmklnijjfppaa.Code
open Go Go.Proofs.Ytolmklnijjfppaa.Calc
set_option maxRecDepth 100000
def v68 : List (Nat × List Nat) := [(0, [1, 2, 4]), (1, [1, 4, 5, 6, 7]), (2, [1, 4, 5, 6, 7, 15]), (3, [1, 4, 5, 6, 7]), (4, [4, 5, 6, 7, 19, 20]), (5, [4, 5, 6, 7, 19, 20, 21]), (6, [4, 5, 6, 7, 19, 20]), (7, [4, 5, 6, 7, 19, 20, 27]), (8, [4, 5, 6, 7, 19, 20]), (9, [4, 5, 6, 7, 19, 20]), (10, [4])]
def r68 : List AR := [.cell (some 2) 4]
def c68x0 : AC := .seq (.reg [m' 29 5, m' 30 6, m' 31 7, o' 32 (.call 118 [.t 29, .t 30, .t 31]), n' (.st 2 (.t 4) (.t 32))] [4]) (.ret)
def c68x1 : AC := .reg [o' 28 (.bin .add (.t 20) (i' 1)), m' 20 28] [4, 5, 6, 7, 19, 20]
def c68x2 : AC := .reg [o' 6 (.mv (i' 1))] [4, 5, 6, 7, 19, 20]
def c68x3 : AC := .cond (.t 27) (c68x2) (.skip)
def c68x4 : AC := .seq (.reg [m' 25 7, m' 26 5, o' 27 (.call 117 [.t 25, .t 26])] [4, 5, 6, 7, 19, 20, 27]) (c68x3)
def c68x5 : AC := .seq (.reg [m' 22 5, o' 23 (.bin .add (.t 22) (i' 1)), o' 24 (.bin .rem (.t 23) (i' 2560)), m' 5 24] [4, 5, 6, 7, 19, 20]) (c68x4)
def c68x6 : AC := .block 1 (c68x5)
def c68x7 : AC := .seq (c68x6) (c68x1)
def c68x8 : AC := .cond (.t 21) (.skip) (.exit 0)
def c68x9 : AC := .seq (c68x8) (c68x7)
def c68x10 : AC := .seq (.reg [o' 21 (.bin .lss (.t 20) (.t 19))] [4, 5, 6, 7, 19, 20, 21]) (c68x9)
def c68x11 : AC := .loop (c68x10)
def c68x12 : AC := .block 0 (c68x11)
def c68x13 : AC := .seq (.reg [m' 19 1, o' 20 (.mv (i' 0))] [4, 5, 6, 7, 19, 20]) (c68x12)
def c68x14 : AC := .seq (c68x13) (c68x0)
def c68x15 : AC := .reg [m' 16 1, o' 17 (.bin .rem (.t 16) (i' 2560)), o' 18 (.bin .add (i' 2560) (.t 17)), m' 1 18] [1, 4, 5, 6, 7]
def c68x16 : AC := .cond (.t 15) (c68x15) (.skip)
def c68x17 : AC := .seq (.reg [m' 14 1, o' 15 (.bin .gtr (.t 14) (i' 5120))] [1, 4, 5, 6, 7, 15]) (c68x16)
def c68x18 : AC := .seq (c68x17) (c68x14)
def c68x19 : AC := .seq (.reg [o' 9 (.ld (some 2) (.t 2)), o' 10 (.call 116 [.t 9]), m' 8 10, o' 11 (.ext (.t 8) 0), o' 12 (.ext (.t 8) 1), o' 13 (.ext (.t 8) 2), m' 5 11, m' 6 12, m' 7 13] [1, 4, 5, 6, 7]) (c68x18)
def c68 : AC := .seq (.reg [o' 2 (.new 2 (.t 0)), o' 4 (.zero [(.slice none 0 0), (.slice none 0 0)])] [1, 2, 4]) (c68x19)
def v101 : List (Nat × List Nat) := [(0, [0]), (1, [0])]
def r101 : List AR := [.cell (some 2) 0]
def c101x0 : AC := .seq (.reg [o' 1 (.mksl [(.int .u8 0)] 1 (i' 32) (i' 32)), o' 2 (.call 118 [i' 2559, i' 0, .t 1]), n' (.st 2 (.t 0) (.t 2))] [0]) (.ret)
def c101 : AC := .seq (.reg [o' 0 (.zero [(.slice none 0 0), (.slice none 0 0)])] [0]) (c101x0)
def v108 : List (Nat × List Nat) := [(0, [1, 2, 3, 6]), (1, [1, 2, 6, 7, 8, 9]), (2, [1, 2, 6, 7, 8, 9, 29]), (3, [6, 7, 8, 9]), (4, [6])]
def r108 : List AR := [.cell (some 2) 6]
def c108x0 : AC := .seq (.reg [m' 36 7, m' 37 8, m' 38 9, o' 39 (.call 118 [.t 36, .t 37, .t 38]), n' (.st 2 (.t 6) (.t 39))] [6]) (.ret)
def c108x1 : AC := .reg [m' 30 9, m' 31 1, m' 32 2, o' 33 (.call 114 [.t 32, i' 8]), o' 34 (.cvt .u8 (.t 33)), o' 35 (.idx 1 none (.t 30) (.t 31)), n' (.st 1 (.t 35) (.t 34))] [6, 7, 8, 9]
def c108x2 : AC := .cond (.t 29) (c108x1) (.skip)
def c108x3 : AC := .seq (.reg [m' 16 1, o' 17 (.bin .geq (.t 16) (i' 0)), m' 18 17, ⟨(some 19), .mv (.t 1), (some (18, true))⟩, ⟨(some 20), .bin .lss (.t 19) (i' 32), (some (18, true))⟩, o' 21 (.pick (.t 18) (.t 20) (.k (.bool false))), m' 22 21, ⟨(some 23), .mv (.t 1), (some (22, true))⟩, ⟨(some 24), .bin .lss (.t 23) (i' 5), (some (22, true))⟩, ⟨(some 25), .mv (.t 24), (some (22, true))⟩, ⟨(some 26), .mv (.t 1), (some (25, false))⟩, ⟨(some 27), .bin .gtr (.t 26) (i' 7), (some (25, false))⟩, ⟨(some 28), .pick (.t 25) (.k (.bool true)) (.t 27), (some (22, true))⟩, o' 29 (.pick (.t 22) (.t 28) (.k (.bool false)))] [1, 2, 6, 7, 8, 9, 29]) (c108x2)
def c108x4 : AC := .seq (c108x3) (c108x0)
def c108x5 : AC := .seq (.reg [o' 11 (.ld (some 2) (.t 3)), o' 12 (.call 116 [.t 11]), m' 10 12, o' 13 (.ext (.t 10) 0), o' 14 (.ext (.t 10) 1), o' 15 (.ext (.t 10) 2), m' 7 13, m' 8 14, m' 9 15] [1, 2, 6, 7, 8, 9]) (c108x4)
def c108 : AC := .seq (.reg [o' 3 (.new 2 (.t 0)), o' 6 (.zero [(.slice none 0 0), (.slice none 0 0)])] [1, 2, 3, 6]) (c108x5)
def v116 : List (Nat × List Nat) := [(0, [1]), (1, [1, 5, 6]), (2, [1, 5, 6, 11]), (3, [1, 5, 6]), (4, [1, 5, 6, 22]), (5, [1, 5, 6]), (6, [1, 5, 6, 7]), (7, [5, 6, 7]), (8, [2, 3, 4])]
def r116 : List AR := [.t 2, .t 3, .t 4]
def c116x0 : AC := .seq (.reg [m' 33 5, m' 34 6, m' 35 7, m' 2 33, m' 3 34, m' 4 35] [2, 3, 4]) (.ret)
def c116x1 : AC := .seq (.reg [m' 29 7, o' 30 (.fad 1 (.t 1)), o' 31 (.ld none (.t 30)), o' 32 (.copy 1 (.t 29) (.t 31))] [5, 6, 7]) (c116x0)
def c116x2 : AC := .seq (.reg [o' 28 (.mksl [(.int .u8 0)] 1 (i' 32) (i' 32)), m' 7 28] [1, 5, 6, 7]) (c116x1)
def c116x3 : AC := .reg [o' 23 (.fad 0 (.t 1)), o' 24 (.ld none (.t 23)), o' 25 (.idx 1 none (.t 24) (i' 1)), o' 26 (.ld none (.t 25)), o' 27 (.call 114 [.t 26, i' 1]), m' 6 27] [1, 5, 6]
def c116x4 : AC := .cond (.t 22) (c116x3) (.skip)
def c116x5 : AC := .seq (.reg [o' 19 (.fad 0 (.t 1)), o' 20 (.ld none (.t 19)), o' 21 (.len (.t 20)), o' 22 (.bin .gtr (.t 21) (i' 1))] [1, 5, 6, 22]) (c116x4)
def c116x6 : AC := .seq (c116x5) (c116x2)
def c116x7 : AC := .reg [o' 12 (.fad 0 (.t 1)), o' 13 (.ld none (.t 12)), o' 14 (.idx 1 none (.t 13) (i' 0)), o' 15 (.ld none (.t 14)), o' 16 (.bin .rem (.t 15) (i' 2560)), o' 17 (.bin .add (.t 16) (i' 2560)), o' 18 (.bin .rem (.t 17) (i' 2560)), m' 5 18] [1, 5, 6]
def c116x8 : AC := .cond (.t 11) (c116x7) (.skip)
def c116x9 : AC := .seq (.reg [o' 8 (.fad 0 (.t 1)), o' 9 (.ld none (.t 8)), o' 10 (.len (.t 9)), o' 11 (.bin .gtr (.t 10) (i' 0))] [1, 5, 6, 11]) (c116x8)
def c116x10 : AC := .seq (c116x9) (c116x6)
def c116x11 : AC := .seq (.reg [o' 5 (.mv (i' 2559)), o' 6 (.mv (i' 0))] [1, 5, 6]) (c116x10)
def c116 : AC := .seq (.reg [o' 1 (.new 2 (.t 0)), o' 2 (.mv (i' 0)), o' 3 (.mv (i' 0)), o' 4 (.mv (.k (.slice none 0 0)))] [1]) (c116x11)
def v117 : List (Nat × List Nat) := [(0, [0, 1]), (1, [4])]
def r117 : List AR := [.t 4]
def c117x0 : AC := .seq (.reg [m' 5 1, o' 6 (.call 159 [.t 5]), m' 7 6, ⟨(some 8), .mv (.t 0), (some (7, true))⟩, ⟨(some 9), .mv (.t 1), (some (7, true))⟩, ⟨(some 10), .call 160 [.t 8, .t 9], (some (7, true))⟩, o' 11 (.pick (.t 7) (.t 10) (.k (.bool false))), m' 12 11, ⟨(some 13), .mv (.t 0), (some (12, true))⟩, ⟨(some 14), .mv (.t 1), (some (12, true))⟩, ⟨(some 15), .call 161 [.t 13, .t 14], (some (12, true))⟩, ⟨(some 16), .bin .neq (.t 15) (i' 0), (some (12, true))⟩, o' 17 (.pick (.t 12) (.t 16) (.k (.bool false))), m' 4 17] [4]) (.ret)
def c117 : AC := .seq (.reg [o' 4 (.mv (.k (.bool false)))] [0, 1]) (c117x0)
def v118 : List (Nat × List Nat) := [(0, [0, 1, 2, 6]), (1, [6])]
def r118 : List AR := [.cell (some 2) 6]
def c118x0 : AC := .seq (.reg [m' 7 0, m' 8 1, o' 9 (.bsl [(.int .i64 0)] 2 [(0, (.t 7)), (1, (.t 8))]), m' 10 2, o' 11 (.build [(.slice none 0 0), (.slice none 0 0)] [(0, 1, (.t 9)), (1, 1, (.t 10))]), n' (.st 2 (.t 6) (.t 11))] [6]) (.ret)
def c118 : AC := .seq (.reg [o' 6 (.zero [(.slice none 0 0), (.slice none 0 0)])] [0, 1, 2, 6]) (c118x0)
def v128 : List (Nat × List Nat) := [(0, [1, 2, 4]), (1, [1, 4, 6, 7, 8]), (2, [1, 4, 6, 7, 8, 9]), (3, [1, 4, 6, 7, 8, 9, 16]), (4, [4, 6, 7, 8, 9]), (5, [1, 4, 6, 7, 8, 9, 21]), (6, [4, 6, 7, 8, 9]), (7, [1, 4, 6, 7, 8, 9, 26]), (8, [4, 6, 7, 8, 9]), (9, [1, 4, 6, 7, 8, 9, 30]), (10, [4, 6, 7, 8, 9]), (11, [4, 5])]
def r128 : List AR := [.cell (some 2) 4, .t 5]
def c128x0 : AC := .seq (.reg [m' 42 6, m' 43 7, m' 44 8, o' 45 (.call 118 [.t 42, .t 43, .t 44]), m' 46 9, n' (.st 2 (.t 4) (.t 45)), m' 5 46] [4, 5]) (.ret)
def c128x1 : AC := .reg [m' 19 6, o' 20 (.bin .quo (.t 19) (i' 64)), m' 9 20] [4, 6, 7, 8, 9]
def c128x2 : AC := .reg [m' 24 6, o' 25 (.bin .rem (.t 24) (i' 64)), m' 9 25] [4, 6, 7, 8, 9]
def c128x3 : AC := .reg [m' 29 7, m' 9 29, o' 7 (.mv (i' 0))] [4, 6, 7, 8, 9]
def c128x4 : AC := .reg [m' 37 8, m' 38 1, o' 39 (.idx 1 none (.t 37) (.t 38)), o' 40 (.ld none (.t 39)), o' 41 (.cvt .i64 (.t 40)), m' 9 41] [4, 6, 7, 8, 9]
def c128x5 : AC := .cond (.t 30) (c128x4) (.skip)
def c128x6 : AC := .seq (.reg [m' 31 1, o' 32 (.bin .geq (.t 31) (i' 0)), m' 33 32, ⟨(some 34), .mv (.t 1), (some (33, true))⟩, ⟨(some 35), .bin .lss (.t 34) (i' 32), (some (33, true))⟩, o' 36 (.pick (.t 33) (.t 35) (.k (.bool false))), m' 30 36] [1, 4, 6, 7, 8, 9, 30]) (c128x5)
def c128x7 : AC := .cond (.t 26) (c128x3) (c128x6)
def c128x8 : AC := .seq (.reg [m' 27 1, o' 28 (.bin .eql (.t 27) (i' 7)), m' 26 28] [1, 4, 6, 7, 8, 9, 26]) (c128x7)
def c128x9 : AC := .cond (.t 21) (c128x2) (c128x8)
def c128x10 : AC := .seq (.reg [m' 22 1, o' 23 (.bin .eql (.t 22) (i' 6)), m' 21 23] [1, 4, 6, 7, 8, 9, 21]) (c128x9)
def c128x11 : AC := .cond (.t 16) (c128x1) (c128x10)
def c128x12 : AC := .seq (.reg [m' 17 1, o' 18 (.bin .eql (.t 17) (i' 5)), m' 16 18] [1, 4, 6, 7, 8, 9, 16]) (c128x11)
def c128x13 : AC := .block 0 (c128x12)
def c128x14 : AC := .seq (c128x13) (c128x0)
def c128x15 : AC := .seq (.reg [o' 9 (.mv (i' 0))] [1, 4, 6, 7, 8, 9]) (c128x14)
def c128x16 : AC := .seq (.reg [o' 11 (.ld (some 2) (.t 2)), o' 12 (.call 116 [.t 11]), m' 10 12, o' 13 (.ext (.t 10) 0), o' 14 (.ext (.t 10) 1), o' 15 (.ext (.t 10) 2), m' 6 13, m' 7 14, m' 8 15] [1, 4, 6, 7, 8]) (c128x15)
def c128 : AC := .seq (.reg [o' 2 (.new 2 (.t 0)), o' 4 (.zero [(.slice none 0 0), (.slice none 0 0)]), o' 5 (.mv (i' 0))] [1, 2, 4]) (c128x16)
def v159 : List (Nat × List Nat) := [(0, [0]), (1, [2])]
def r159 : List AR := [.t 2]
def c159x0 : AC := .seq (.reg [m' 3 0, o' 4 (.bin .rem (.t 3) (i' 64)), o' 5 (.bin .lss (.t 4) (i' 48)), m' 6 5, ⟨(some 7), .mv (.t 0), (some (6, true))⟩, ⟨(some 8), .bin .quo (.t 7) (i' 64), (some (6, true))⟩, ⟨(some 9), .bin .lss (.t 8) (i' 32), (some (6, true))⟩, o' 10 (.pick (.t 6) (.t 9) (.k (.bool false))), m' 2 10] [2]) (.ret)
def c159 : AC := .seq (.reg [o' 2 (.mv (.k (.bool false)))] [0]) (c159x0)
def v160 : List (Nat × List Nat) := [(0, [0, 1]), (1, [0, 5, 6]), (2, [4])]
def r160 : List AR := [.t 4]
def c160x0 : AC := .seq (.reg [m' 21 5, o' 22 (.bin .geq (.t 21) (i' 0)), m' 23 22, ⟨(some 24), .mv (.t 5), (some (23, true))⟩, ⟨(some 25), .bin .lss (.t 24) (i' 8), (some (23, true))⟩, o' 26 (.pick (.t 23) (.t 25) (.k (.bool false))), m' 27 26, ⟨(some 28), .mv (.t 6), (some (27, true))⟩, ⟨(some 29), .bin .geq (.t 28) (i' 0), (some (27, true))⟩, o' 30 (.pick (.t 27) (.t 29) (.k (.bool false))), m' 31 30, ⟨(some 32), .mv (.t 6), (some (31, true))⟩, ⟨(some 33), .bin .lss (.t 32) (i' 8), (some (31, true))⟩, o' 34 (.pick (.t 31) (.t 33) (.k (.bool false))), m' 35 34, ⟨(some 36), .mv (.t 0), (some (35, true))⟩, ⟨(some 37), .idx 1 none (.t 36) (i' 4), (some (35, true))⟩, ⟨(some 38), .ld none (.t 37), (some (35, true))⟩, ⟨(some 39), .mv (.t 5), (some (35, true))⟩, ⟨(some 40), .bin .sub (i' 7) (.t 39), (some (35, true))⟩, ⟨(some 41), .bin .shr (.t 38) (.t 40), (some (35, true))⟩, ⟨(some 42), .bin .and (.t 41) (.k (.int .u8 1)), (some (35, true))⟩, ⟨(some 43), .bin .eql (.t 42) (.k (.int .u8 1)), (some (35, true))⟩, o' 44 (.pick (.t 35) (.t 43) (.k (.bool false))), m' 4 44] [4]) (.ret)
def c160x1 : AC := .seq (.dreg [m' 7 1, o' 8 (.bin .rem (.t 7) (i' 64)), m' 9 0, o' 10 (.idx 1 none (.t 9) (i' 1)), o' 11 (.ld none (.t 10)), o' 12 (.cvt .i64 (.t 11)), o' 13 (.bin .sub (.t 8) (.t 12)), m' 14 1, o' 15 (.bin .quo (.t 14) (i' 64)), m' 16 0, o' 17 (.idx 1 none (.t 16) (i' 2)), o' 18 (.ld none (.t 17)), o' 19 (.cvt .i64 (.t 18)), o' 20 (.bin .sub (.t 15) (.t 19)), m' 5 13, m' 6 20] [[], [0], [], [2], [2, 3], [2, 3, 4], [0, 1, 2, 3, 4, 5], [], [7], [], [9], [9, 10], [9, 10, 11], [7, 8, 9, 10, 11, 12], [0, 1, 2, 3, 4, 5, 6], [0, 1, 2, 3, 4, 5, 6, 7, 8, 9, 10, 11, 12, 13, 14]] [0, 5, 6]) (c160x0)
def c160 : AC := .seq (.reg [o' 4 (.mv (.k (.bool false)))] [0, 1]) (c160x1)
def v161 : List (Nat × List Nat) := [(0, [0, 1]), (1, [4])]
def r161 : List AR := [.t 4]
def c161x0 : AC := .seq (.reg [m' 5 0, m' 6 1, o' 7 (.bin .quo (.t 6) (i' 64)), o' 8 (.bin .quo (.t 7) (i' 8)), o' 9 (.bin .mul (.t 8) (i' 6)), o' 10 (.bin .add (i' 8) (.t 9)), m' 11 1, o' 12 (.bin .rem (.t 11) (i' 64)), o' 13 (.bin .quo (.t 12) (i' 8)), o' 14 (.bin .add (.t 10) (.t 13)), o' 15 (.idx 1 none (.t 5) (.t 14)), o' 16 (.ld none (.t 15)), o' 17 (.cvt .i64 (.t 16)), o' 18 (.bin .and (.t 17) (i' 15)), m' 4 18] [4]) (.ret)
def c161 : AC := .seq (.reg [o' 4 (.mv (i' 0))] [0, 1]) (c161x0)
end Go.Proofs.Ytolmklnijjfppaa.Code

namespace Go.Proofs.Ytolmklnijjfppaa.Code
open Go Go.Proofs.Ytolmklnijjfppaa.Calc
set_option maxRecDepth 100000
def v69 : List (Nat × List Nat) := [(0, [1, 2, 4]), (1, [1, 4, 5]), (2, [1, 4, 5]), (3, [1, 4, 5, 14]), (4, [1, 4, 5, 14, 15]), (5, [1, 4, 5, 6, 14]), (6, [1, 4, 5, 7, 14]), (7, [1, 4, 5, 7, 8, 14]), (8, [1, 4, 5, 7, 8, 14, 26]), (9, [1, 4, 5, 7, 8, 9, 14]), (10, [1, 4, 5, 7, 8, 9, 14, 35]), (11, [1, 4, 5, 14]), (12, [1, 4, 5, 7, 8, 9, 14]), (13, [1, 4, 5, 7, 8, 14]), (14, [1, 4, 5, 14]), (15, [4])]
def r69 : List AR := [.cell (some 2) 4]
def c69x0 : AC := .seq (.reg [m' 48 5, o' 49 (.build [(.slice none 0 0), (.slice none 0 0)] [(0, 1, (.t 48))]), n' (.st 2 (.t 4) (.t 49))] [4]) (.ret)
def c69x1 : AC := .reg [o' 47 (.bin .add (.t 14) (i' 1)), m' 14 47] [1, 4, 5, 14]
def c69x2 : AC := .reg [m' 43 8, m' 44 9, o' 45 (.bin .add (.t 44) (i' 1)), o' 46 (.bin .sub (.t 43) (.t 45)), m' 8 46] [1, 4, 5, 7, 8, 14]
def c69x3 : AC := .seq (.reg [m' 39 7, m' 40 9, o' 41 (.bin .add (.t 40) (i' 1)), o' 42 (.call 121 [.t 39, .t 41])] [1, 4, 5, 7, 8, 9, 14]) (c69x2)
def c69x4 : AC := .seq (.reg [m' 36 7, m' 37 8, o' 38 (.call 121 [.t 36, .t 37])] [1, 4, 5, 14]) (.exit 2)
def c69x5 : AC := .cond (.t 35) (c69x4) (.skip)
def c69x6 : AC := .seq (.reg [m' 29 9, m' 30 8, o' 31 (.bin .geq (.t 29) (.t 30)), m' 32 31, ⟨(some 33), .mv (.t 9), (some (32, false))⟩, ⟨(some 34), .bin .eql (.t 33) (i' 100000), (some (32, false))⟩, o' 35 (.pick (.t 32) (.k (.bool true)) (.t 34))] [1, 4, 5, 7, 8, 9, 14, 35]) (c69x5)
def c69x7 : AC := .seq (c69x6) (c69x3)
def c69x8 : AC := .seq (.reg [m' 27 7, o' 28 (.call 120 [.t 27]), m' 9 28] [1, 4, 5, 7, 8, 9, 14]) (c69x7)
def c69x9 : AC := .block 3 (c69x8)
def c69x10 : AC := .cond (.t 26) (.skip) (.exit 2)
def c69x11 : AC := .seq (.reg [m' 25 8, o' 26 (.bin .gtr (.t 25) (i' 0))] [1, 4, 5, 7, 8, 14, 26]) (c69x10)
def c69x12 : AC := .seq (c69x11) (c69x9)
def c69x13 : AC := .loop (c69x12)
def c69x14 : AC := .block 2 (c69x13)
def c69x15 : AC := .seq (.reg [m' 24 1, m' 8 24] [1, 4, 5, 7, 8, 14]) (c69x14)
def c69x16 : AC := .seq (.reg [m' 17 5, m' 18 6, o' 19 (.bin .mul (.t 18) (i' 6)), m' 20 6, o' 21 (.bin .mul (.t 20) (i' 6)), o' 22 (.bin .add (.t 21) (i' 6)), o' 23 (.slc 1 (.t 17) (some (.t 19)) (some (.t 22))), m' 7 23] [1, 4, 5, 7, 14]) (c69x15)
def c69x17 : AC := .seq (.reg [m' 16 14, m' 6 16] [1, 4, 5, 6, 14]) (c69x16)
def c69x18 : AC := .block 1 (c69x17)
def c69x19 : AC := .seq (c69x18) (c69x1)
def c69x20 : AC := .cond (.t 15) (.skip) (.exit 0)
def c69x21 : AC := .seq (c69x20) (c69x19)
def c69x22 : AC := .seq (.reg [o' 15 (.bin .lss (.t 14) (i' 2))] [1, 4, 5, 14, 15]) (c69x21)
def c69x23 : AC := .loop (c69x22)
def c69x24 : AC := .block 0 (c69x23)
def c69x25 : AC := .seq (.reg [o' 14 (.mv (i' 0))] [1, 4, 5, 14]) (c69x24)
def c69x26 : AC := .seq (c69x25) (c69x0)
def c69x27 : AC := .seq (.reg [m' 12 1, o' 13 (.mnx false [.t 12, i' 10000000]), m' 1 13] [1, 4, 5]) (c69x26)
def c69x28 : AC := .seq (.reg [o' 10 (.ld (some 2) (.t 2)), o' 11 (.call 119 [.t 10]), m' 5 11] [1, 4, 5]) (c69x27)
def c69 : AC := .seq (.reg [o' 2 (.new 2 (.t 0)), o' 4 (.zero [(.slice none 0 0), (.slice none 0 0)])] [1, 2, 4]) (c69x28)
def v102 : List (Nat × List Nat) := [(0, [0]), (1, [0])]
def r102 : List AR := [.cell (some 2) 0]
def c102x0 : AC := .seq (.reg [o' 1 (.mksl [(.int .i64 0)] 8 (i' 12) (i' 12)), o' 2 (.build [(.slice none 0 0), (.slice none 0 0)] [(0, 1, (.t 1))]), n' (.st 2 (.t 0) (.t 2))] [0]) (.ret)
def c102 : AC := .seq (.reg [o' 0 (.zero [(.slice none 0 0), (.slice none 0 0)])] [0]) (c102x0)
def v109 : List (Nat × List Nat) := [(0, [1, 2, 3, 6]), (1, [1, 2, 6, 7]), (2, [1, 2, 6, 7, 8]), (3, [1, 2, 6, 7, 8, 15]), (4, [2, 6, 7, 8, 17]), (5, [6, 7]), (6, [2, 6, 7, 8, 17, 22]), (7, [6, 7]), (8, [2, 6, 7, 8, 17, 31]), (9, [6, 7]), (10, [2, 6, 7, 8, 40]), (11, [6, 7]), (12, [6])]
def r109 : List AR := [.cell (some 2) 6]
def c109x0 : AC := .seq (.reg [m' 48 7, o' 49 (.build [(.slice none 0 0), (.slice none 0 0)] [(0, 1, (.t 48))]), n' (.st 2 (.t 6) (.t 49))] [6]) (.ret)
def c109x1 : AC := .reg [m' 24 8, m' 25 8, o' 26 (.idx 1 none (.t 25) (i' 0)), o' 27 (.ld none (.t 26)), m' 28 2, o' 29 (.call 155 [.t 27, i' 0, i' 8, .t 28]), o' 30 (.idx 1 none (.t 24) (i' 0)), n' (.st 1 (.t 30) (.t 29))] [6, 7]
def c109x2 : AC := .reg [m' 33 8, m' 34 8, o' 35 (.idx 1 none (.t 34) (i' 0)), o' 36 (.ld none (.t 35)), m' 37 2, o' 38 (.call 155 [.t 36, i' 8, i' 4, .t 37]), o' 39 (.idx 1 none (.t 33) (i' 0)), n' (.st 1 (.t 39) (.t 38))] [6, 7]
def c109x3 : AC := .reg [m' 42 8, m' 43 8, m' 44 2, o' 45 (.call 114 [.t 44, i' 4]), o' 46 (.idx 1 none (.t 42) (i' 1)), n' (.st 1 (.t 46) (.t 45)), o' 47 (.idx 1 none (.t 43) (i' 5)), n' (.st 1 (.t 47) (i' 0))] [6, 7]
def c109x4 : AC := .reg [m' 18 8, m' 19 2, o' 20 (.call 114 [.t 19, i' 8]), o' 21 (.idx 1 none (.t 18) (i' 2)), n' (.st 1 (.t 21) (.t 20))] [6, 7]
def c109x5 : AC := .cond (.t 40) (c109x3) (c109x4)
def c109x6 : AC := .seq (.reg [o' 41 (.bin .eql (.t 17) (i' 2)), m' 40 41] [2, 6, 7, 8, 40]) (c109x5)
def c109x7 : AC := .cond (.t 31) (c109x2) (c109x6)
def c109x8 : AC := .seq (.reg [o' 32 (.bin .eql (.t 17) (i' 1)), m' 31 32] [2, 6, 7, 8, 17, 31]) (c109x7)
def c109x9 : AC := .cond (.t 22) (c109x1) (c109x8)
def c109x10 : AC := .seq (.reg [o' 23 (.bin .eql (.t 17) (i' 0)), m' 22 23] [2, 6, 7, 8, 17, 22]) (c109x9)
def c109x11 : AC := .block 0 (c109x10)
def c109x12 : AC := .seq (.reg [m' 16 1, o' 17 (.bin .rem (.t 16) (i' 4))] [2, 6, 7, 8, 17]) (c109x11)
def c109x13 : AC := .cond (.t 15) (c109x12) (.skip)
def c109x14 : AC := .seq (.reg [m' 14 8, o' 15 (.eqn true (.t 14))] [1, 2, 6, 7, 8, 15]) (c109x13)
def c109x15 : AC := .seq (.reg [m' 11 7, m' 12 1, o' 13 (.call 156 [.t 11, .t 12]), m' 8 13] [1, 2, 6, 7, 8]) (c109x14)
def c109x16 : AC := .seq (c109x15) (c109x0)
def c109x17 : AC := .seq (.reg [o' 9 (.ld (some 2) (.t 3)), o' 10 (.call 119 [.t 9]), m' 7 10] [1, 2, 6, 7]) (c109x16)
def c109 : AC := .seq (.reg [o' 3 (.new 2 (.t 0)), o' 6 (.zero [(.slice none 0 0), (.slice none 0 0)])] [1, 2, 3, 6]) (c109x17)
def v119 : List (Nat × List Nat) := [(0, [1]), (1, [1, 3]), (2, [3]), (3, [3, 12]), (4, [3, 12, 13]), (5, [3, 4, 12]), (6, [3, 4, 12, 15, 16]), (7, [3, 4, 12, 15, 16, 17]), (8, [3, 4, 5, 6, 12, 15, 16]), (9, [3, 4, 12, 15, 16]), (10, [3, 4, 12, 15, 16]), (11, [3, 12]), (12, [2])]
def r119 : List AR := [.t 2]
def c119x0 : AC := .seq (.reg [m' 37 3, m' 2 37] [2]) (.ret)
def c119x1 : AC := .reg [o' 36 (.bin .add (.t 12) (i' 1)), m' 12 36] [3, 12]
def c119x2 : AC := .reg [o' 35 (.bin .add (.t 16) (i' 1)), m' 16 35] [3, 4, 12, 15, 16]
def c119x3 : AC := .reg [m' 20 3, m' 21 4, o' 22 (.bin .mul (.t 21) (i' 6)), m' 23 5, o' 24 (.bin .add (.t 22) (.t 23)), m' 25 3, m' 26 4, o' 27 (.bin .mul (.t 26) (i' 6)), m' 28 5, o' 29 (.bin .add (.t 27) (.t 28)), o' 30 (.idx 1 none (.t 25) (.t 29)), o' 31 (.ld none (.t 30)), m' 32 6, o' 33 (.call 114 [.t 31, .t 32]), o' 34 (.idx 1 none (.t 20) (.t 24)), n' (.st 1 (.t 34) (.t 33))] [3, 4, 12, 15, 16]
def c119x4 : AC := .seq (.reg [m' 18 16, o' 19 (.ixa 6 1 none (.t 15) (.t 16)), m' 5 18, m' 6 19] [3, 4, 5, 6, 12, 15, 16]) (c119x3)
def c119x5 : AC := .block 3 (c119x4)
def c119x6 : AC := .seq (c119x5) (c119x2)
def c119x7 : AC := .cond (.t 17) (.skip) (.exit 2)
def c119x8 : AC := .seq (c119x7) (c119x6)
def c119x9 : AC := .seq (.reg [o' 17 (.bin .lss (.t 16) (i' 6))] [3, 4, 12, 15, 16, 17]) (c119x8)
def c119x10 : AC := .loop (c119x9)
def c119x11 : AC := .block 2 (c119x10)
def c119x12 : AC := .seq (.reg [o' 15 (.build [(.int .i64 0), (.int .i64 0), (.int .i64 0), (.int .i64 0), (.int .i64 0), (.int .i64 0)] [(0, 1, (i' 12)), (1, 1, (i' 4)), (2, 1, (i' 8)), (3, 1, (i' 12)), (4, 1, (i' 1)), (5, 1, (i' 14))]), o' 16 (.mv (i' 0))] [3, 4, 12, 15, 16]) (c119x11)
def c119x13 : AC := .seq (.reg [m' 14 12, m' 4 14] [3, 4, 12]) (c119x12)
def c119x14 : AC := .block 1 (c119x13)
def c119x15 : AC := .seq (c119x14) (c119x1)
def c119x16 : AC := .cond (.t 13) (.skip) (.exit 0)
def c119x17 : AC := .seq (c119x16) (c119x15)
def c119x18 : AC := .seq (.reg [o' 13 (.bin .lss (.t 12) (i' 2))] [3, 12, 13]) (c119x17)
def c119x19 : AC := .loop (c119x18)
def c119x20 : AC := .block 0 (c119x19)
def c119x21 : AC := .seq (.reg [o' 12 (.mv (i' 0))] [3, 12]) (c119x20)
def c119x22 : AC := .seq (c119x21) (c119x0)
def c119x23 : AC := .seq (.reg [m' 8 3, o' 9 (.fad 0 (.t 1)), o' 10 (.ld none (.t 9)), o' 11 (.copy 1 (.t 8) (.t 10))] [3]) (c119x22)
def c119x24 : AC := .seq (.reg [o' 7 (.mksl [(.int .i64 0)] 8 (i' 12) (i' 12)), m' 3 7] [1, 3]) (c119x23)
def c119 : AC := .seq (.reg [o' 1 (.new 2 (.t 0)), o' 2 (.mv (.k (.slice none 0 0)))] [1]) (c119x24)
def v120 : List (Nat × List Nat) := [(0, [0]), (1, [0, 3]), (2, [0, 3, 7]), (3, [0, 3]), (4, [0, 3, 28]), (5, [3]), (6, [2])]
def r120 : List AR := [.t 2]
def c120x0 : AC := .seq (.reg [m' 41 3, m' 2 41] [2]) (.ret)
def c120x1 : AC := .dreg [m' 29 3, m' 30 0, o' 31 (.idx 1 none (.t 30) (i' 2)), o' 32 (.ld none (.t 31)), o' 33 (.bin .mul (.t 32) (i' 64)), m' 34 0, o' 35 (.idx 1 none (.t 34) (i' 5)), o' 36 (.ld none (.t 35)), o' 37 (.bin .sub (.t 33) (.t 36)), o' 38 (.mnx true [i' 1, .t 37]), o' 39 (.bin .sub (.t 38) (i' 1)), o' 40 (.mnx false [.t 29, .t 39]), m' 3 40] [[], [], [1], [1, 2], [1, 2, 3], [], [5], [5, 6], [1, 2, 3, 4, 5, 6, 7], [1, 2, 3, 4, 5, 6, 7, 8], [1, 2, 3, 4, 5, 6, 7, 8, 9], [0, 1, 2, 3, 4, 5, 6, 7, 8, 9, 10], [0, 1, 2, 3, 4, 5, 6, 7, 8, 9, 10, 11]] [3]
def c120x2 : AC := .cond (.t 28) (c120x1) (.skip)
def c120x3 : AC := .seq (.reg [m' 19 0, o' 20 (.idx 1 none (.t 19) (i' 2)), o' 21 (.ld none (.t 20)), o' 22 (.bin .gtr (.t 21) (i' 0)), m' 23 22, ⟨(some 24), .mv (.t 0), (some (23, true))⟩, ⟨(some 25), .idx 1 none (.t 24) (i' 1), (some (23, true))⟩, ⟨(some 26), .ld none (.t 25), (some (23, true))⟩, ⟨(some 27), .bin .gtr (.t 26) (i' 0), (some (23, true))⟩, o' 28 (.pick (.t 23) (.t 27) (.k (.bool false)))] [0, 3, 28]) (c120x2)
def c120x4 : AC := .seq (c120x3) (c120x0)
def c120x5 : AC := .dreg [m' 8 3, m' 9 0, o' 10 (.idx 1 none (.t 9) (i' 0)), o' 11 (.ld none (.t 10)), m' 12 0, o' 13 (.idx 1 none (.t 12) (i' 3)), o' 14 (.ld none (.t 13)), o' 15 (.bin .sub (.t 11) (.t 14)), o' 16 (.mnx true [i' 1, .t 15]), o' 17 (.bin .sub (.t 16) (i' 1)), o' 18 (.mnx false [.t 8, .t 17]), m' 3 18] [[], [], [1], [1, 2], [], [4], [4, 5], [1, 2, 3, 4, 5, 6], [1, 2, 3, 4, 5, 6, 7], [1, 2, 3, 4, 5, 6, 7, 8], [0, 1, 2, 3, 4, 5, 6, 7, 8, 9], [0, 1, 2, 3, 4, 5, 6, 7, 8, 9, 10]] [0, 3]
def c120x6 : AC := .cond (.t 7) (c120x5) (.skip)
def c120x7 : AC := .seq (.reg [m' 4 0, o' 5 (.idx 1 none (.t 4) (i' 0)), o' 6 (.ld none (.t 5)), o' 7 (.bin .gtr (.t 6) (i' 0))] [0, 3, 7]) (c120x6)
def c120x8 : AC := .seq (c120x7) (c120x4)
def c120x9 : AC := .seq (.reg [o' 3 (.mv (i' 100000))] [0, 3]) (c120x8)
def c120 : AC := .seq (.reg [o' 2 (.mv (i' 0))] [0]) (c120x9)
def v121 : List (Nat × List Nat) := [(0, [0, 1, 7]), (1, [0, 1]), (2, [0, 1, 20]), (3, [0, 1]), (4, [0, 1, 38]), (5, [0]), (6, [0, 52]), (7, [0]), (8, [])]
def r121 : List AR := []
def c121x0 : AC := .reg [m' 55 0, o' 56 (.idx 1 none (.t 55) (i' 1)), o' 57 (.ld none (.t 56)), o' 58 (.bin .sub (.t 57) (i' 1)), o' 59 (.idx 1 none (.t 55) (i' 1)), n' (.st 1 (.t 59) (.t 58))] []
def c121x1 : AC := .seq (.reg [m' 53 0, o' 54 (.idx 1 none (.t 53) (i' 5)), n' (.st 1 (.t 54) (i' 0))] [0]) (c121x0)
def c121x2 : AC := .cond (.t 52) (c121x1) (.skip)
def c121x3 : AC := .seq (.dreg [m' 45 0, o' 46 (.idx 1 none (.t 45) (i' 5)), o' 47 (.ld none (.t 46)), m' 48 0, o' 49 (.idx 1 none (.t 48) (i' 2)), o' 50 (.ld none (.t 49)), o' 51 (.bin .mul (.t 50) (i' 64)), o' 52 (.bin .geq (.t 47) (.t 51))] [[], [0], [0, 1], [], [3], [3, 4], [3, 4, 5], [0, 1, 2, 3, 4, 5, 6]] [0, 52]) (c121x2)
def c121x4 : AC := .seq (.reg [m' 39 0, o' 40 (.idx 1 none (.t 39) (i' 5)), o' 41 (.ld none (.t 40)), m' 42 1, o' 43 (.bin .add (.t 41) (.t 42)), o' 44 (.idx 1 none (.t 39) (i' 5)), n' (.st 1 (.t 44) (.t 43))] [0]) (c121x3)
def c121x5 : AC := .cond (.t 38) (c121x4) (.skip)
def c121x6 : AC := .seq (.reg [m' 29 0, o' 30 (.idx 1 none (.t 29) (i' 2)), o' 31 (.ld none (.t 30)), o' 32 (.bin .gtr (.t 31) (i' 0)), m' 33 32, ⟨(some 34), .mv (.t 0), (some (33, true))⟩, ⟨(some 35), .idx 1 none (.t 34) (i' 1), (some (33, true))⟩, ⟨(some 36), .ld none (.t 35), (some (33, true))⟩, ⟨(some 37), .bin .gtr (.t 36) (i' 0), (some (33, true))⟩, o' 38 (.pick (.t 33) (.t 37) (.k (.bool false)))] [0, 1, 38]) (c121x5)
def c121x7 : AC := .reg [m' 21 0, m' 22 0, m' 23 0, o' 24 (.idx 1 none (.t 23) (i' 4)), o' 25 (.ld none (.t 24)), o' 26 (.bin .sub (i' 1) (.t 25)), o' 27 (.idx 1 none (.t 21) (i' 3)), n' (.st 1 (.t 27) (i' 0)), o' 28 (.idx 1 none (.t 22) (i' 4)), n' (.st 1 (.t 28) (.t 26))] [0, 1]
def c121x8 : AC := .cond (.t 20) (c121x7) (.skip)
def c121x9 : AC := .seq (.dreg [m' 14 0, o' 15 (.idx 1 none (.t 14) (i' 3)), o' 16 (.ld none (.t 15)), m' 17 0, o' 18 (.idx 1 none (.t 17) (i' 0)), o' 19 (.ld none (.t 18)), o' 20 (.bin .geq (.t 16) (.t 19))] [[], [0], [0, 1], [], [3], [3, 4], [0, 1, 2, 3, 4, 5]] [0, 1, 20]) (c121x8)
def c121x10 : AC := .seq (.reg [m' 8 0, o' 9 (.idx 1 none (.t 8) (i' 3)), o' 10 (.ld none (.t 9)), m' 11 1, o' 12 (.bin .add (.t 10) (.t 11)), o' 13 (.idx 1 none (.t 8) (i' 3)), n' (.st 1 (.t 13) (.t 12))] [0, 1]) (c121x9)
def c121x11 : AC := .cond (.t 7) (c121x10) (.skip)
def c121x12 : AC := .seq (.reg [m' 4 0, o' 5 (.idx 1 none (.t 4) (i' 0)), o' 6 (.ld none (.t 5)), o' 7 (.bin .gtr (.t 6) (i' 0))] [0, 1, 7]) (c121x11)
def c121 : AC := .seq (c121x12) (c121x6)
def v129 : List (Nat × List Nat) := [(0, [1, 2, 4]), (1, [1, 4, 6]), (2, [1, 4, 6, 7]), (3, [1, 4, 6, 7, 8]), (4, [1, 4, 6, 7, 8, 15]), (5, [4, 6, 7]), (6, [4, 5])]
def r129 : List AR := [.cell (some 2) 4, .t 5]
def c129x0 : AC := .seq (.reg [m' 35 6, o' 36 (.build [(.slice none 0 0), (.slice none 0 0)] [(0, 1, (.t 35))]), m' 37 7, n' (.st 2 (.t 4) (.t 36)), m' 5 37] [4, 5]) (.ret)
def c129x1 : AC := .dreg [m' 16 8, o' 17 (.idx 1 none (.t 16) (i' 0)), o' 18 (.ld none (.t 17)), o' 19 (.call 163 [.t 18, i' 0, i' 8]), m' 20 8, o' 21 (.idx 1 none (.t 20) (i' 0)), o' 22 (.ld none (.t 21)), o' 23 (.call 163 [.t 22, i' 8, i' 4]), m' 24 8, o' 25 (.idx 1 none (.t 24) (i' 1)), o' 26 (.ld none (.t 25)), m' 27 8, o' 28 (.idx 1 none (.t 27) (i' 2)), o' 29 (.ld none (.t 28)), o' 30 (.bsl [(.int .i64 0)] 4 [(0, (.t 19)), (1, (.t 23)), (2, (.t 26)), (3, (.t 29))]), m' 31 1, o' 32 (.bin .rem (.t 31) (i' 4)), o' 33 (.idx 1 none (.t 30) (.t 32)), o' 34 (.ld none (.t 33)), m' 7 34] [[], [0], [0, 1], [0, 1, 2], [], [4], [4, 5], [0, 1, 2, 3, 4, 5, 6], [], [8], [8, 9], [], [11], [11, 12], [0, 1, 2, 3, 4, 5, 6, 7, 8, 9, 10, 11, 12, 13], [], [15], [0, 1, 2, 3, 4, 5, 6, 7, 8, 9, 10, 11, 12, 13, 14, 15, 16], [0, 1, 2, 3, 4, 5, 6, 7, 8, 9, 10, 11, 12, 13, 14, 15, 16, 17], [0, 1, 2, 3, 4, 5, 6, 7, 8, 9, 10, 11, 12, 13, 14, 15, 16, 17, 18]] [4, 6, 7]
def c129x2 : AC := .cond (.t 15) (c129x1) (.skip)
def c129x3 : AC := .seq (.reg [m' 14 8, o' 15 (.eqn true (.t 14))] [1, 4, 6, 7, 8, 15]) (c129x2)
def c129x4 : AC := .seq (.reg [m' 11 6, m' 12 1, o' 13 (.call 156 [.t 11, .t 12]), m' 8 13] [1, 4, 6, 7, 8]) (c129x3)
def c129x5 : AC := .seq (c129x4) (c129x0)
def c129x6 : AC := .seq (.reg [o' 7 (.mv (i' 0))] [1, 4, 6, 7]) (c129x5)
def c129x7 : AC := .seq (.reg [o' 9 (.ld (some 2) (.t 2)), o' 10 (.call 119 [.t 9]), m' 6 10] [1, 4, 6]) (c129x6)
def c129 : AC := .seq (.reg [o' 2 (.new 2 (.t 0)), o' 4 (.zero [(.slice none 0 0), (.slice none 0 0)]), o' 5 (.mv (i' 0))] [1, 2, 4]) (c129x7)
def v156 : List (Nat × List Nat) := [(0, [0, 1]), (1, [0, 1, 10]), (2, [4]), (3, [4])]
def r156 : List AR := [.t 4]
def c156x0 : AC := .seq (.reg [m' 11 0, m' 12 1, o' 13 (.bin .quo (.t 12) (i' 4)), o' 14 (.bin .mul (.t 13) (i' 6)), m' 15 1, o' 16 (.bin .quo (.t 15) (i' 4)), o' 17 (.bin .mul (.t 16) (i' 6)), o' 18 (.bin .add (.t 17) (i' 6)), o' 19 (.slc 1 (.t 11) (some (.t 14)) (some (.t 18))), m' 4 19] [4]) (.ret)
def c156x1 : AC := .seq (.reg [o' 4 (.mv (.k (.slice none 0 0)))] [4]) (.ret)
def c156x2 : AC := .cond (.t 10) (c156x1) (.skip)
def c156x3 : AC := .seq (.reg [m' 5 1, o' 6 (.bin .lss (.t 5) (i' 0)), m' 7 6, ⟨(some 8), .mv (.t 1), (some (7, false))⟩, ⟨(some 9), .bin .geq (.t 8) (i' 8), (some (7, false))⟩, o' 10 (.pick (.t 7) (.k (.bool true)) (.t 9))] [0, 1, 10]) (c156x2)
def c156x4 : AC := .seq (c156x3) (c156x0)
def c156 : AC := .seq (.reg [o' 4 (.mv (.k (.slice none 0 0)))] [0, 1]) (c156x4)
end Go.Proofs.Ytolmklnijjfppaa.Code

namespace Go.Proofs.Ytolmklnijjfppaa.Code
open Go Go.Proofs.Ytolmklnijjfppaa.Calc
set_option maxRecDepth 100000
def v65 : List (Nat × List Nat) := [(0, [1, 2, 4]), (1, [1, 4, 5]), (2, [4, 5]), (3, [4])]
def r65 : List AR := [.cell (some 2) 4]
def c65x0 : AC := .seq (.reg [m' 12 5, o' 13 (.build [(.slice none 0 0), (.slice none 0 0)] [(0, 1, (.t 12))]), n' (.st 2 (.t 4) (.t 13))] [4]) (.ret)
def c65x1 : AC := .seq (.reg [m' 8 5, m' 9 1, o' 10 (.call 114 [.t 9, i' 8]), o' 11 (.idx 1 none (.t 8) (i' 0)), n' (.st 1 (.t 11) (.t 10))] [4, 5]) (c65x0)
def c65x2 : AC := .seq (.reg [o' 6 (.ld (some 2) (.t 2)), o' 7 (.call 113 [.t 6]), m' 5 7] [1, 4, 5]) (c65x1)
def c65 : AC := .seq (.reg [o' 2 (.new 2 (.t 0)), o' 4 (.zero [(.slice none 0 0), (.slice none 0 0)])] [1, 2, 4]) (c65x2)
def v99 : List (Nat × List Nat) := [(0, [0]), (1, [0])]
def r99 : List AR := [.cell (some 2) 0]
def c99x0 : AC := .seq (.reg [o' 1 (.bsl [(.int .i64 0)] 3 [(0, (i' 255)), (1, (i' 0)), (2, (i' 0))]), o' 2 (.build [(.slice none 0 0), (.slice none 0 0)] [(0, 1, (.t 1))]), n' (.st 2 (.t 0) (.t 2))] [0]) (.ret)
def c99 : AC := .seq (.reg [o' 0 (.zero [(.slice none 0 0), (.slice none 0 0)])] [0]) (c99x0)
def v106 : List (Nat × List Nat) := [(0, [1, 2, 3, 6]), (1, [1, 2, 6, 7]), (2, [1, 2, 6, 7, 15]), (3, [6, 7]), (4, [6])]
def r106 : List AR := [.cell (some 2) 6]
def c106x0 : AC := .seq (.reg [m' 22 7, o' 23 (.build [(.slice none 0 0), (.slice none 0 0)] [(0, 1, (.t 22))]), n' (.st 2 (.t 6) (.t 23))] [6]) (.ret)
def c106x1 : AC := .reg [m' 16 7, m' 17 1, o' 18 (.bin .add (i' 1) (.t 17)), m' 19 2, o' 20 (.call 114 [.t 19, i' 8]), o' 21 (.idx 1 none (.t 16) (.t 18)), n' (.st 1 (.t 21) (.t 20))] [6, 7]
def c106x2 : AC := .cond (.t 15) (c106x1) (.skip)
def c106x3 : AC := .seq (.reg [m' 10 1, o' 11 (.bin .eql (.t 10) (i' 0)), m' 12 11, ⟨(some 13), .mv (.t 1), (some (12, false))⟩, ⟨(some 14), .bin .eql (.t 13) (i' 1), (some (12, false))⟩, o' 15 (.pick (.t 12) (.k (.bool true)) (.t 14))] [1, 2, 6, 7, 15]) (c106x2)
def c106x4 : AC := .seq (c106x3) (c106x0)
def c106x5 : AC := .seq (.reg [o' 8 (.ld (some 2) (.t 3)), o' 9 (.call 113 [.t 8]), m' 7 9] [1, 2, 6, 7]) (c106x4)
def c106 : AC := .seq (.reg [o' 3 (.new 2 (.t 0)), o' 6 (.zero [(.slice none 0 0), (.slice none 0 0)])] [1, 2, 3, 6]) (c106x5)
def v113 : List (Nat × List Nat) := [(0, [1]), (1, [1, 3]), (2, [3]), (3, [3, 11, 12]), (4, [3, 11, 12, 13]), (5, [3, 4, 11, 12]), (6, [3, 11, 12]), (7, [3, 11, 12]), (8, [2])]
def r113 : List AR := [.t 2]
def c113x0 : AC := .seq (.reg [m' 24 3, m' 2 24] [2]) (.ret)
def c113x1 : AC := .reg [o' 23 (.bin .add (.t 12) (i' 1)), m' 12 23] [3, 11, 12]
def c113x2 : AC := .reg [m' 15 3, m' 16 4, m' 17 3, m' 18 4, o' 19 (.idx 1 none (.t 17) (.t 18)), o' 20 (.ld none (.t 19)), o' 21 (.call 114 [.t 20, i' 8]), o' 22 (.idx 1 none (.t 15) (.t 16)), n' (.st 1 (.t 22) (.t 21))] [3, 11, 12]
def c113x3 : AC := .seq (.reg [m' 14 12, m' 4 14] [3, 4, 11, 12]) (c113x2)
def c113x4 : AC := .block 1 (c113x3)
def c113x5 : AC := .seq (c113x4) (c113x1)
def c113x6 : AC := .cond (.t 13) (.skip) (.exit 0)
def c113x7 : AC := .seq (c113x6) (c113x5)
def c113x8 : AC := .seq (.reg [o' 13 (.bin .lss (.t 12) (.t 11))] [3, 11, 12, 13]) (c113x7)
def c113x9 : AC := .loop (c113x8)
def c113x10 : AC := .block 0 (c113x9)
def c113x11 : AC := .seq (.reg [m' 10 3, o' 11 (.len (.t 10)), o' 12 (.mv (i' 0))] [3, 11, 12]) (c113x10)
def c113x12 : AC := .seq (c113x11) (c113x0)
def c113x13 : AC := .seq (.reg [m' 6 3, o' 7 (.fad 0 (.t 1)), o' 8 (.ld none (.t 7)), o' 9 (.copy 1 (.t 6) (.t 8))] [3]) (c113x12)
def c113x14 : AC := .seq (.reg [o' 5 (.mksl [(.int .i64 0)] 8 (i' 3) (i' 3)), m' 3 5] [1, 3]) (c113x13)
def c113 : AC := .seq (.reg [o' 1 (.new 2 (.t 0)), o' 2 (.mv (.k (.slice none 0 0)))] [1]) (c113x14)
def v126 : List (Nat × List Nat) := [(0, [1, 2, 4]), (1, [1, 4, 6]), (2, [1, 4, 6, 7]), (3, [4, 6, 7, 10]), (4, [4, 6, 7, 10, 11]), (5, [4, 6, 7]), (6, [4, 6, 7, 28]), (7, [4, 6, 7]), (8, [4, 5])]
def r126 : List AR := [.cell (some 2) 4, .t 5]
def c126x0 : AC := .seq (.reg [m' 33 6, o' 34 (.build [(.slice none 0 0), (.slice none 0 0)] [(0, 1, (.t 33))]), m' 35 7, n' (.st 2 (.t 4) (.t 34)), m' 5 35] [4, 5]) (.ret)
def c126x1 : AC := .dreg [m' 13 6, o' 14 (.idx 1 none (.t 13) (i' 1)), o' 15 (.ld none (.t 14)), m' 16 6, o' 17 (.idx 1 none (.t 16) (i' 2)), o' 18 (.ld none (.t 17)), o' 19 (.bin .and (.t 15) (.t 18)), m' 20 6, o' 21 (.idx 1 none (.t 20) (i' 0)), o' 22 (.ld none (.t 21)), m' 23 6, o' 24 (.idx 1 none (.t 23) (i' 2)), o' 25 (.ld none (.t 24)), o' 26 (.bin .andNot (.t 22) (.t 25)), o' 27 (.bin .or (.t 19) (.t 26)), m' 7 27] [[], [0], [0, 1], [], [3], [3, 4], [0, 1, 2, 3, 4, 5], [], [7], [7, 8], [], [10], [10, 11], [7, 8, 9, 10, 11, 12], [0, 1, 2, 3, 4, 5, 6, 7, 8, 9, 10, 11, 12, 13], [0, 1, 2, 3, 4, 5, 6, 7, 8, 9, 10, 11, 12, 13, 14]] [4, 6, 7]
def c126x2 : AC := .reg [m' 30 6, o' 31 (.idx 1 none (.t 30) (i' 2)), o' 32 (.ld none (.t 31)), m' 7 32] [4, 6, 7]
def c126x3 : AC := .cond (.t 28) (c126x2) (.skip)
def c126x4 : AC := .seq (.reg [o' 29 (.bin .eql (.t 10) (i' 1)), m' 28 29] [4, 6, 7, 28]) (c126x3)
def c126x5 : AC := .cond (.t 11) (c126x1) (c126x4)
def c126x6 : AC := .seq (.reg [o' 12 (.bin .eql (.t 10) (i' 0)), m' 11 12] [4, 6, 7, 10, 11]) (c126x5)
def c126x7 : AC := .block 0 (c126x6)
def c126x8 : AC := .seq (.reg [m' 10 1] [4, 6, 7, 10]) (c126x7)
def c126x9 : AC := .seq (c126x8) (c126x0)
def c126x10 : AC := .seq (.reg [o' 7 (.mv (i' 0))] [1, 4, 6, 7]) (c126x9)
def c126x11 : AC := .seq (.reg [o' 8 (.ld (some 2) (.t 2)), o' 9 (.call 113 [.t 8]), m' 6 9] [1, 4, 6]) (c126x10)
def c126 : AC := .seq (.reg [o' 2 (.new 2 (.t 0)), o' 4 (.zero [(.slice none 0 0), (.slice none 0 0)]), o' 5 (.mv (i' 0))] [1, 2, 4]) (c126x11)
end Go.Proofs.Ytolmklnijjfppaa.Code

namespace Go.Proofs.Ytolmklnijjfppaa.Code
open Go Go.Proofs.Ytolmklnijjfppaa.Calc
set_option maxRecDepth 100000
def v7 : List (Nat × List Nat) := [(0, [0, 1, 2, 3, 4]), (1, [3, 4, 11, 12]), (2, [3, 4, 11, 12]), (3, [3, 4, 11, 12, 13]), (4, [10])]
def r7 : List AR := [.t 10]
def c7x0 : AC := .seq (.dreg [o' 28 (.call 30 []), m' 29 28, ⟨(some 30), .ld (some 5) (.t 11), (some (29, true))⟩, ⟨(some 31), .ld (some 5) (.t 11), (some (29, true))⟩, ⟨(some 32), .ld (some 2) (.t 12), (some (29, true))⟩, ⟨(some 33), .mv (.t 3), (some (29, true))⟩, ⟨(some 34), .call 29 [.t 31, .t 32, .t 33], (some (29, true))⟩, ⟨(some 35), .mv (.t 4), (some (29, true))⟩, ⟨(some 36), .call 29 [.t 30, .t 34, .t 35], (some (29, true))⟩, ⟨(some 37), .ld (some 5) (.t 11), (some (29, true))⟩, ⟨(some 38), .ld (some 2) (.t 12), (some (29, true))⟩, ⟨(some 39), .mv (.t 3), (some (29, true))⟩, ⟨(some 40), .mv (.t 4), (some (29, true))⟩, ⟨(some 41), .bin .add (.t 39) (.t 40), (some (29, true))⟩, ⟨(some 42), .call 29 [.t 37, .t 38, .t 41], (some (29, true))⟩, ⟨(some 43), .call 31 [.t 36, .t 42], (some (29, true))⟩, o' 44 (.pick (.t 29) (.t 43) (.k (.bool false))), m' 45 44, ⟨(some 46), .ld (some 2) (.t 13), (some (45, true))⟩, ⟨(some 47), .ld (some 5) (.t 11), (some (45, true))⟩, ⟨(some 48), .ld (some 2) (.t 12), (some (45, true))⟩, ⟨(some 49), .call 32 [.t 47, .t 48], (some (45, true))⟩, ⟨(some 50), .call 31 [.t 46, .t 49], (some (45, true))⟩, o' 51 (.pick (.t 45) (.t 50) (.k (.bool false))), m' 10 51] [[], [0], [0, 1], [0, 1], [0, 1], [0, 1], [0, 1, 3, 4, 5], [0, 1], [0, 1, 2, 3, 4, 5, 6, 7], [0, 1], [0, 1], [0, 1], [0, 1], [0, 1, 11, 12], [0, 1, 2, 3, 4, 5, 6, 7, 8, 9, 10, 11, 12, 13], [0, 1, 2, 3, 4, 5, 6, 7, 8, 9, 10, 11, 12, 13, 14], [0, 1, 2, 3, 4, 5, 6, 7, 8, 9, 10, 11, 12, 13, 14, 15], [0, 1, 2, 3, 4, 5, 6, 7, 8, 9, 10, 11, 12, 13, 14, 15, 16], [0, 1, 2, 3, 4, 5, 6, 7, 8, 9, 10, 11, 12, 13, 14, 15, 16, 17], [0, 1, 2, 3, 4, 5, 6, 7, 8, 9, 10, 11, 12, 13, 14, 15, 16, 17], [0, 1, 2, 3, 4, 5, 6, 7, 8, 9, 10, 11, 12, 13, 14, 15, 16, 17], [0, 1, 2, 3, 4, 5, 6, 7, 8, 9, 10, 11, 12, 13, 14, 15, 16, 17, 19, 20], [0, 1, 2, 3, 4, 5, 6, 7, 8, 9, 10, 11, 12, 13, 14, 15, 16, 17, 18, 19, 20, 21], [0, 1, 2, 3, 4, 5, 6, 7, 8, 9, 10, 11, 12, 13, 14, 15, 16, 17, 18, 19, 20, 21, 22], [0, 1, 2, 3, 4, 5, 6, 7, 8, 9, 10, 11, 12, 13, 14, 15, 16, 17, 18, 19, 20, 21, 22, 23]] [10]) (.ret)
def c7x1 : AC := .seq (.reg [o' 25 (.ld (some 5) (.t 11)), o' 26 (.ld (some 2) (.t 12)), o' 27 (.call 29 [.t 25, .t 26, i' 1]), o' 13 (.zero [(.slice none 0 0), (.slice none 0 0)]), n' (.st 2 (.t 13) (.t 27))] [3, 4, 11, 12, 13]) (c7x0)
def c7x2 : AC := .seq (.reg [m' 21 3, o' 22 (.call 8 [.t 21, i' 300]), m' 23 4, o' 24 (.call 8 [.t 23, i' 300]), m' 3 22, m' 4 24] [3, 4, 11, 12]) (c7x1)
def c7x3 : AC := .seq (.reg [m' 15 0, m' 16 1, m' 17 2, o' 18 (.call 28 [.t 15, .t 16, .t 17]), m' 14 18, o' 19 (.ext (.t 14) 0), o' 20 (.ext (.t 14) 1), o' 11 (.zero [(.string ⟨#[]⟩), (.int .i64 0), (.int .i64 0), (.int .i64 0), (.slice none 0 0)]), o' 12 (.zero [(.slice none 0 0), (.slice none 0 0)]), n' (.st 5 (.t 11) (.t 19)), n' (.st 2 (.t 12) (.t 20))] [3, 4, 11, 12]) (c7x2)
def c7 : AC := .seq (.reg [o' 10 (.mv (.k (.bool false)))] [0, 1, 2, 3, 4]) (c7x3)
theorem e7 : enters Try.prog 7 = true := by kernel_rfl
def v28 : List (Nat × List Nat) := [(0, [0, 1, 2, 6, 7]), (1, [1, 2, 6, 7, 8]), (2, [2, 6, 7, 9]), (3, [2, 6, 7, 9, 10]), (4, [2, 6, 7, 9, 10, 11]), (5, [6, 7, 9, 10, 11, 31, 32]), (6, [6, 7, 9, 10, 11, 31, 32, 33]), (7, [6, 7, 9, 10, 11, 31, 32]), (8, [6, 7, 9, 10, 11, 31, 32]), (9, [6, 7, 9, 10, 11, 31, 32]), (10, [6, 7])]
def r28 : List AR := [.cell (some 5) 6, .cell (some 2) 7]
def c28x0 : AC := .seq (.dreg [o' 49 (.ld (some 5) (.t 9)), o' 50 (.ld (some 2) (.t 10)), n' (.st 5 (.t 6) (.t 49)), n' (.st 2 (.t 7) (.t 50))] [[], [], [0], [0, 1, 2]] [6, 7]) (.ret)
def c28x1 : AC := .reg [o' 48 (.bin .add (.t 32) (i' 1)), m' 32 48] [6, 7, 9, 10, 11, 31, 32]
def c28x2 : AC := .dreg [o' 43 (.ld (some 5) (.t 9)), o' 44 (.ld (some 2) (.t 10)), m' 45 11, o' 46 (.call 37 [.t 45, i' 70]), o' 47 (.call 29 [.t 43, .t 44, .t 46]), n' (.st 2 (.t 10) (.t 47))] [[], [], [], [2], [0, 1, 2, 3], [0, 1, 2, 3, 4]] [6, 7, 9, 10, 11, 31, 32]
def c28x3 : AC := .seq (.dreg [o' 34 (.ld (some 5) (.t 9)), o' 35 (.ld (some 2) (.t 10)), m' 36 11, o' 37 (.fad 3 (.t 9)), o' 38 (.ld none (.t 37)), o' 39 (.call 37 [.t 36, .t 38]), m' 40 11, o' 41 (.call 37 [.t 40, i' 256]), o' 42 (.call 62 [.t 34, .t 35, .t 39, .t 41]), n' (.st 2 (.t 10) (.t 42))] [[], [], [], [], [3], [2, 3, 4], [], [2, 3, 4, 5, 6], [0, 1, 2, 3, 4, 5, 6, 7], [0, 1, 2, 3, 4, 5, 6, 7, 8]] [6, 7, 9, 10, 11, 31, 32]) (c28x2)
def c28x4 : AC := .block 1 (c28x3)
def c28x5 : AC := .seq (c28x4) (c28x1)
def c28x6 : AC := .cond (.t 33) (.skip) (.exit 0)
def c28x7 : AC := .seq (c28x6) (c28x5)
def c28x8 : AC := .seq (.reg [o' 33 (.bin .lss (.t 32) (.t 31))] [6, 7, 9, 10, 11, 31, 32, 33]) (c28x7)
def c28x9 : AC := .loop (c28x8)
def c28x10 : AC := .block 0 (c28x9)
def c28x11 : AC := .seq (.reg [m' 28 2, o' 29 (.len (.t 28)), o' 30 (.bin .quo (.t 29) (i' 3)), o' 31 (.mnx false [.t 30, i' 12]), o' 32 (.mv (i' 0))] [6, 7, 9, 10, 11, 31, 32]) (c28x10)
def c28x12 : AC := .seq (c28x11) (c28x0)
def c28x13 : AC := .seq (.reg [m' 25 2, o' 26 (.build [(.slice none 0 0)] [(0, 1, (.t 25))]), o' 27 (.new 1 (.t 26)), m' 11 27] [2, 6, 7, 9, 10, 11]) (c28x12)
def c28x14 : AC := .seq (.reg [o' 23 (.ld (some 5) (.t 9)), o' 24 (.call 61 [.t 23]), o' 10 (.zero [(.slice none 0 0), (.slice none 0 0)]), n' (.st 2 (.t 10) (.t 24))] [2, 6, 7, 9, 10]) (c28x13)
def c28x15 : AC := .seq (.dreg [o' 14 (.fad 6 (.t 8)), o' 15 (.ld none (.t 14)), m' 16 1, o' 17 (.fad 6 (.t 8)), o' 18 (.ld none (.t 17)), o' 19 (.len (.t 18)), o' 20 (.call 8 [.t 16, .t 19]), o' 21 (.idx 5 none (.t 15) (.t 20)), o' 22 (.ld (some 5) (.t 21)), o' 9 (.zero [(.string ⟨#[]⟩), (.int .i64 0), (.int .i64 0), (.int .i64 0), (.slice none 0 0)]), n' (.st 5 (.t 9) (.t 22))] [[], [0], [], [], [3], [3, 4], [2, 3, 4, 5], [0, 1, 2, 3, 4, 5, 6], [0, 1, 2, 3, 4, 5, 6, 7], [], [0, 1, 2, 3, 4, 5, 6, 7, 8, 9]] [2, 6, 7, 9]) (c28x14)
def c28x16 : AC := .seq (.reg [m' 12 0, o' 13 (.call 21 [.t 12]), o' 8 (.zero [(.string ⟨#[]⟩), (.string ⟨#[]⟩), (.slice none 0 0), (.slice none 0 0), (.slice none 0 0), (.slice none 0 0), (.slice none 0 0), (.slice none 0 0)]), n' (.st 8 (.t 8) (.t 13))] [1, 2, 6, 7, 8]) (c28x15)
def c28 : AC := .seq (.reg [o' 6 (.zero [(.string ⟨#[]⟩), (.int .i64 0), (.int .i64 0), (.int .i64 0), (.slice none 0 0)]), o' 7 (.zero [(.slice none 0 0), (.slice none 0 0)])] [0, 1, 2, 6, 7]) (c28x16)
def v30 : List (Nat × List Nat) := [(0, []), (1, [1]), (2, [1, 3]), (3, [0])]
def r30 : List AR := [.t 0]
def c30x0 : AC := .seq (.reg [m' 14 3, o' 15 (.bin .eql (.t 14) (i' 9)), m' 16 15, ⟨(some 17), .ld (some 5) (.t 1), (some (16, true))⟩, ⟨(some 18), .call 49 [.t 17], (some (16, true))⟩, ⟨(some 19), .bin .eql (.t 18) (i' 0), (some (16, true))⟩, o' 20 (.pick (.t 16) (.t 19) (.k (.bool false))), m' 0 20] [0]) (.ret)
def c30x1 : AC := .seq (.dreg [o' 6 (.ld (some 5) (.t 1)), o' 7 (.ld (some 5) (.t 1)), o' 8 (.ld (some 5) (.t 1)), o' 9 (.call 61 [.t 8]), o' 10 (.call 62 [.t 7, .t 9, i' 2, i' 9]), o' 11 (.call 71 [.t 6, .t 10, i' 2]), m' 5 11, o' 12 (.ext (.t 5) 0), o' 13 (.ext (.t 5) 1), o' 2 (.zero [(.slice none 0 0), (.slice none 0 0)]), n' (.st 2 (.t 2) (.t 12)), m' 3 13] [[], [], [], [2], [1, 2, 3], [0, 1, 2, 3, 4], [0, 1, 2, 3, 4, 5], [0, 1, 2, 3, 4, 5, 6], [0, 1, 2, 3, 4, 5, 6], [], [0, 1, 2, 3, 4, 5, 6, 7, 9], [0, 1, 2, 3, 4, 5, 6, 7, 8, 9, 10]] [1, 3]) (c30x0)
def c30x2 : AC := .seq (.reg [o' 4 (.build [(.string ⟨#[]⟩), (.int .i64 0), (.int .i64 0), (.int .i64 0), (.slice none 0 0)] [(0, 1, (.k (.string ⟨#[97]⟩))), (1, 1, (i' 0)), (3, 1, (i' 4))]), o' 1 (.zero [(.string ⟨#[]⟩), (.int .i64 0), (.int .i64 0), (.int .i64 0), (.slice none 0 0)]), n' (.st 5 (.t 1) (.t 4))] [1]) (c30x1)
def c30 : AC := .seq (.reg [o' 0 (.mv (.k (.bool false)))] []) (c30x2)
def v31 : List (Nat × List Nat) := [(0, [2, 3]), (1, [4])]
def r31 : List AR := [.t 4]
def c31x0 : AC := .seq (.reg [o' 5 (.fad 0 (.t 2)), o' 6 (.ld none (.t 5)), o' 7 (.fad 0 (.t 3)), o' 8 (.ld none (.t 7)), o' 9 (.call 72 [.t 6, .t 8]), m' 10 9, ⟨(some 11), .fad 1 (.t 2), (some (10, true))⟩, ⟨(some 12), .ld none (.t 11), (some (10, true))⟩, ⟨(some 13), .fad 1 (.t 3), (some (10, true))⟩, ⟨(some 14), .ld none (.t 13), (some (10, true))⟩, ⟨(some 15), .call 60 [.t 12, .t 14], (some (10, true))⟩, o' 16 (.pick (.t 10) (.t 15) (.k (.bool false))), m' 4 16] [4]) (.ret)
def c31 : AC := .seq (.reg [o' 2 (.new 2 (.t 0)), o' 3 (.new 2 (.t 1)), o' 4 (.mv (.k (.bool false)))] [2, 3]) (c31x0)
end Go.Proofs.Ytolmklnijjfppaa.Code

namespace Go.Proofs.Ytolmklnijjfppaa.Code
open Go Go.Proofs.Ytolmklnijjfppaa.Calc
set_option maxRecDepth 100000
def v22 : List (Nat × List Nat) := [(0, [1, 2]), (1, [1, 10, 11, 12]), (2, [1, 10, 11, 12, 13]), (3, [1, 7, 8, 10, 11, 12]), (4, [1, 7, 8, 10, 11, 12, 37]), (5, [4, 5, 6]), (6, [1, 10, 11, 12]), (7, [4, 5, 6])]
def r22 : List AR := [.t 4, .t 5, .t 6]
def c22x0 : AC := .seq (.reg [o' 4 (.mv (i' 0)), o' 5 (.mv (i' 0)), o' 6 (.mv (.k (.bool false)))] [4, 5, 6]) (.ret)
def c22x1 : AC := .reg [o' 43 (.bin .add (.t 12) (i' 1)), m' 12 43] [1, 10, 11, 12]
def c22x2 : AC := .seq (.dreg [m' 38 7, m' 39 1, o' 40 (.fad 2 (.t 8)), o' 41 (.ld none (.t 40)), o' 42 (.bin .sub (.t 39) (.t 41)), m' 4 38, m' 5 42, o' 6 (.mv (.k (.bool true)))] [[], [], [], [2], [1, 2, 3], [0], [0, 1, 2, 3, 4, 5], [0, 1, 2, 3, 4, 5, 6]] [4, 5, 6]) (.ret)
def c22x3 : AC := .cond (.t 37) (c22x2) (.skip)
def c22x4 : AC := .seq (.reg [m' 17 1, o' 18 (.fad 2 (.t 8)), o' 19 (.ld none (.t 18)), o' 20 (.bin .geq (.t 17) (.t 19)), m' 21 20, ⟨(some 22), .fad 3 (.t 8), (some (21, true))⟩, ⟨(some 23), .ld none (.t 22), (some (21, true))⟩, ⟨(some 24), .bin .gtr (.t 23) (i' 0), (some (21, true))⟩, o' 25 (.pick (.t 21) (.t 24) (.k (.bool false))), m' 26 25, ⟨(some 27), .mv (.t 1), (some (26, true))⟩, ⟨(some 28), .cvt .u64 (.t 27), (some (26, true))⟩, ⟨(some 29), .fad 2 (.t 8), (some (26, true))⟩, ⟨(some 30), .ld none (.t 29), (some (26, true))⟩, ⟨(some 31), .cvt .u64 (.t 30), (some (26, true))⟩, ⟨(some 32), .bin .sub (.t 28) (.t 31), (some (26, true))⟩, ⟨(some 33), .fad 3 (.t 8), (some (26, true))⟩, ⟨(some 34), .ld none (.t 33), (some (26, true))⟩, ⟨(some 35), .cvt .u64 (.t 34), (some (26, true))⟩, ⟨(some 36), .bin .lss (.t 32) (.t 35), (some (26, true))⟩, o' 37 (.pick (.t 26) (.t 36) (.k (.bool false)))] [1, 7, 8, 10, 11, 12, 37]) (c22x3)
def c22x5 : AC := .seq (.reg [m' 14 12, o' 15 (.idx 5 none (.t 10) (.t 12)), o' 16 (.ld (some 5) (.t 15)), o' 8 (.zero [(.string ⟨#[]⟩), (.int .i64 0), (.int .i64 0), (.int .i64 0), (.slice none 0 0)]), m' 7 14, n' (.st 5 (.t 8) (.t 16))] [1, 7, 8, 10, 11, 12]) (c22x4)
def c22x6 : AC := .block 1 (c22x5)
def c22x7 : AC := .seq (c22x6) (c22x1)
def c22x8 : AC := .cond (.t 13) (.skip) (.exit 0)
def c22x9 : AC := .seq (c22x8) (c22x7)
def c22x10 : AC := .seq (.reg [o' 13 (.bin .lss (.t 12) (.t 11))] [1, 10, 11, 12, 13]) (c22x9)
def c22x11 : AC := .loop (c22x10)
def c22x12 : AC := .block 0 (c22x11)
def c22x13 : AC := .seq (.reg [o' 9 (.fad 6 (.t 2)), o' 10 (.ld none (.t 9)), o' 11 (.len (.t 10)), o' 12 (.mv (i' 0))] [1, 10, 11, 12]) (c22x12)
def c22x14 : AC := .seq (c22x13) (c22x0)
def c22 : AC := .seq (.reg [o' 2 (.new 8 (.t 0)), o' 4 (.mv (i' 0)), o' 5 (.mv (i' 0)), o' 6 (.mv (.k (.bool false)))] [1, 2]) (c22x14)
theorem k22 : Try.f22.body.bind (compC Try.prog Try.f22.ntmps v22) = some c22 := by kernel_rfl
theorem e22 : enters Try.prog 22 = true := by kernel_rfl
theorem q22 : Try.f22.results.toList.mapM (compRes Try.prog) = some r22 := by kernel_rfl
def v23 : List (Nat × List Nat) := [(0, [1]), (1, [1, 3]), (2, [1, 3, 9]), (3, [1, 3, 9, 10]), (4, [1, 3, 4, 9]), (5, [1, 3, 4, 5, 7, 9]), (6, [1, 3, 4, 5, 9, 20]), (7, [1, 3, 4, 5, 9]), (8, [1, 3, 4, 5, 8, 9]), (9, [1, 3, 4, 5, 8, 9, 34]), (10, [1, 3, 9]), (11, [1, 3, 9]), (12, [1, 3, 9]), (13, [2])]
def r23 : List AR := [.t 2]
def c23x0 : AC := .seq (.reg [m' 50 3, m' 2 50] [2]) (.ret)
def c23x1 : AC := .reg [o' 49 (.bin .add (.t 9) (i' 1)), m' 9 49] [1, 3, 9]
def c23x2 : AC := .reg [m' 35 3, m' 36 8, m' 37 4, o' 38 (.bin .add (.t 37) (i' 1)), o' 39 (.idx 3 none (.t 35) (.t 36)), o' 40 (.fad 1 (.t 39)), n' (.st 1 (.t 40) (.t 38))] [1, 3, 9]
def c23x3 : AC := .reg [m' 41 3, m' 42 4, m' 43 4, o' 44 (.bin .add (.t 43) (i' 1)), m' 45 5, o' 46 (.build [(.int .i64 0), (.int .i64 0), (.int .i64 0)] [(0, 1, (.t 42)), (1, 1, (.t 44)), (2, 1, (.t 45))]), o' 47 (.bsl [(.int .i64 0), (.int .i64 0), (.int .i64 0)] 1 [(0, (.t 46))]), o' 48 (.app 3 24 (.t 41) (.t 47)), m' 3 48] [1, 3, 9]
def c23x4 : AC := .cond (.t 34) (c23x2) (c23x3)
def c23x5 : AC := .seq (.reg [m' 24 8, o' 25 (.bin .geq (.t 24) (i' 0)), m' 26 25, ⟨(some 27), .mv (.t 3), (some (26, true))⟩, ⟨(some 28), .mv (.t 8), (some (26, true))⟩, ⟨(some 29), .idx 3 none (.t 27) (.t 28), (some (26, true))⟩, ⟨(some 30), .fad 2 (.t 29), (some (26, true))⟩, ⟨(some 31), .ld none (.t 30), (some (26, true))⟩, ⟨(some 32), .mv (.t 5), (some (26, true))⟩, ⟨(some 33), .bin .eql (.t 31) (.t 32), (some (26, true))⟩, o' 34 (.pick (.t 26) (.t 33) (.k (.bool false)))] [1, 3, 4, 5, 8, 9, 34]) (c23x4)
def c23x6 : AC := .seq (.reg [m' 21 3, o' 22 (.len (.t 21)), o' 23 (.bin .sub (.t 22) (i' 1)), m' 8 23] [1, 3, 4, 5, 8, 9]) (c23x5)
def c23x7 : AC := .reg [o' 5 (.mv (.k (.int .i64 (-1))))] [1, 3, 4, 5, 9]
def c23x8 : AC := .cond (.t 20) (c23x7) (.skip)
def c23x9 : AC := .seq (.reg [m' 19 7, o' 20 (.not (.t 19))] [1, 3, 4, 5, 9, 20]) (c23x8)
def c23x10 : AC := .seq (c23x9) (c23x6)
def c23x11 : AC := .seq (.reg [o' 13 (.ld (some 8) (.t 1)), m' 14 4, o' 15 (.call 22 [.t 13, .t 14]), m' 12 15, o' 16 (.ext (.t 12) 0), o' 17 (.ext (.t 12) 1), o' 18 (.ext (.t 12) 2), m' 5 16, m' 6 17, m' 7 18] [1, 3, 4, 5, 7, 9]) (c23x10)
def c23x12 : AC := .seq (.reg [m' 11 9, m' 4 11] [1, 3, 4, 9]) (c23x11)
def c23x13 : AC := .block 1 (c23x12)
def c23x14 : AC := .seq (c23x13) (c23x1)
def c23x15 : AC := .cond (.t 10) (.skip) (.exit 0)
def c23x16 : AC := .seq (c23x15) (c23x14)
def c23x17 : AC := .seq (.reg [o' 10 (.bin .lss (.t 9) (i' 65536))] [1, 3, 9, 10]) (c23x16)
def c23x18 : AC := .loop (c23x17)
def c23x19 : AC := .block 0 (c23x18)
def c23x20 : AC := .seq (.reg [o' 9 (.mv (i' 0))] [1, 3, 9]) (c23x19)
def c23x21 : AC := .seq (c23x20) (c23x0)
def c23x22 : AC := .seq (.reg [o' 3 (.mv (.k (.slice none 0 0)))] [1, 3]) (c23x21)
def c23 : AC := .seq (.reg [o' 1 (.new 8 (.t 0)), o' 2 (.mv (.k (.slice none 0 0)))] [1]) (c23x22)
theorem k23 : Try.f23.body.bind (compC Try.prog Try.f23.ntmps v23) = some c23 := by kernel_rfl
theorem e23 : enters Try.prog 23 = true := by kernel_rfl
theorem q23 : Try.f23.results.toList.mapM (compRes Try.prog) = some r23 := by kernel_rfl
def v25 : List (Nat × List Nat) := [(0, [1]), (1, [1, 15]), (2, [2]), (3, [1, 3]), (4, [1, 3, 20]), (5, [2]), (6, [1, 25]), (7, [2]), (8, [1, 27, 28, 29]), (9, [1, 27, 28, 29, 30]), (10, [1, 4, 5, 27, 28, 29]), (11, [1, 4, 5, 6, 27, 28, 29]), (12, [1, 4, 5, 6, 27, 28, 29, 37]), (13, [2]), (14, [1, 5, 27, 28, 29, 42, 43, 44]), (15, [1, 5, 27, 28, 29, 42, 43, 44, 45]), (16, [1, 5, 8, 27, 28, 29, 42, 43, 44]), (17, [1, 5, 8, 27, 28, 29, 42, 43, 44, 48]), (18, [2]), (19, [1, 5, 27, 28, 29, 42, 43, 44, 54]), (20, [2]), (21, [1, 5, 27, 28, 29, 42, 43, 44]), (22, [1, 27, 28, 29]), (23, [1, 78]), (24, [2]), (25, [1, 80, 81, 82]), (26, [1, 80, 81, 82, 83]), (27, [1, 9, 10, 80, 81, 82]), (28, [1, 9, 10, 11, 80, 81, 82]), (29, [1, 9, 10, 11, 80, 81, 82, 91]), (30, [2]), (31, [1, 80, 81, 82, 98]), (32, [2]), (33, [1, 80, 81, 82]), (34, [2])]
def r25 : List AR := [.t 2]
def c25x0 : AC := .seq (.reg [o' 2 (.mv (i' 0))] [2]) (.ret)
def c25x1 : AC := .reg [o' 99 (.bin .add (.t 82) (i' 1)), m' 82 99] [1, 80, 81, 82]
def c25x2 : AC := .seq (.reg [o' 2 (.mv (i' 5))] [2]) (.ret)
def c25x3 : AC := .cond (.t 98) (c25x2) (.skip)
def c25x4 : AC := .seq (.dreg [o' 93 (.fad 7 (.t 1)), o' 94 (.ld none (.t 93)), m' 95 9, o' 96 (.slc 2 (.t 94) none (some (.t 95))), o' 97 (.ld (some 2) (.t 10)), o' 98 (.call 51 [.t 96, .t 97])] [[], [0], [], [0, 1, 2], [], [0, 1, 2, 3, 4]] [1, 80, 81, 82, 98]) (c25x3)
def c25x5 : AC := .seq (.reg [m' 92 11, m' 2 92] [2]) (.ret)
def c25x6 : AC := .cond (.t 91) (c25x5) (.skip)
def c25x7 : AC := .seq (.reg [m' 90 11, o' 91 (.bin .neq (.t 90) (i' 0))] [1, 9, 10, 11, 80, 81, 82, 91]) (c25x6)
def c25x8 : AC := .seq (.reg [o' 87 (.ld (some 8) (.t 1)), o' 88 (.ld (some 2) (.t 10)), o' 89 (.call 50 [.t 87, .t 88]), m' 11 89] [1, 9, 10, 11, 80, 81, 82]) (c25x7)
def c25x9 : AC := .seq (c25x8) (c25x4)
def c25x10 : AC := .seq (.reg [m' 84 82, o' 85 (.idx 2 none (.t 80) (.t 82)), o' 86 (.ld (some 2) (.t 85)), o' 10 (.zero [(.string ⟨#[]⟩), (.string ⟨#[]⟩)]), m' 9 84, n' (.st 2 (.t 10) (.t 86))] [1, 9, 10, 80, 81, 82]) (c25x9)
def c25x11 : AC := .block 6 (c25x10)
def c25x12 : AC := .seq (c25x11) (c25x1)
def c25x13 : AC := .cond (.t 83) (.skip) (.exit 5)
def c25x14 : AC := .seq (c25x13) (c25x12)
def c25x15 : AC := .seq (.reg [o' 83 (.bin .lss (.t 82) (.t 81))] [1, 80, 81, 82, 83]) (c25x14)
def c25x16 : AC := .loop (c25x15)
def c25x17 : AC := .block 5 (c25x16)
def c25x18 : AC := .seq (.reg [o' 79 (.fad 7 (.t 1)), o' 80 (.ld none (.t 79)), o' 81 (.len (.t 80)), o' 82 (.mv (i' 0))] [1, 80, 81, 82]) (c25x17)
def c25x19 : AC := .seq (c25x18) (c25x0)
def c25x20 : AC := .seq (.reg [o' 2 (.mv (i' 2))] [2]) (.ret)
def c25x21 : AC := .cond (.t 78) (c25x20) (.skip)
def c25x22 : AC := .seq (.reg [o' 75 (.fad 7 (.t 1)), o' 76 (.ld none (.t 75)), o' 77 (.len (.t 76)), o' 78 (.bin .gtr (.t 77) (i' 40))] [1, 78]) (c25x21)
def c25x23 : AC := .seq (c25x22) (c25x19)
def c25x24 : AC := .reg [o' 74 (.bin .add (.t 29) (i' 1)), m' 29 74] [1, 27, 28, 29]
def c25x25 : AC := .reg [o' 73 (.bin .add (.t 44) (i' 1)), m' 44 73] [1, 5, 27, 28, 29, 42, 43, 44]
def c25x26 : AC := .seq (.reg [o' 2 (.mv (i' 5))] [2]) (.ret)
def c25x27 : AC := .seq (.reg [o' 2 (.mv (i' 16))] [2]) (.ret)
def c25x28 : AC := .cond (.t 54) (c25x27) (.skip)
def c25x29 : AC := .seq (.reg [o' 55 (.fad 2 (.t 5)), o' 56 (.ld none (.t 55)), o' 57 (.fad 2 (.t 8)), o' 58 (.ld none (.t 57)), o' 59 (.fad 3 (.t 8)), o' 60 (.ld none (.t 59)), o' 61 (.bin .add (.t 58) (.t 60)), o' 62 (.bin .lss (.t 56) (.t 61)), m' 63 62, ⟨(some 64), .fad 2 (.t 8), (some (63, true))⟩, ⟨(some 65), .ld none (.t 64), (some (63, true))⟩, ⟨(some 66), .fad 2 (.t 5), (some (63, true))⟩, ⟨(some 67), .ld none (.t 66), (some (63, true))⟩, ⟨(some 68), .fad 3 (.t 5), (some (63, true))⟩, ⟨(some 69), .ld none (.t 68), (some (63, true))⟩, ⟨(some 70), .bin .add (.t 67) (.t 69), (some (63, true))⟩, ⟨(some 71), .bin .lss (.t 65) (.t 70), (some (63, true))⟩, o' 72 (.pick (.t 63) (.t 71) (.k (.bool false))), m' 54 72] [1, 5, 27, 28, 29, 42, 43, 44, 54]) (c25x28)
def c25x30 : AC := .cond (.t 48) (c25x26) (c25x29)
def c25x31 : AC := .seq (.reg [o' 49 (.fad 0 (.t 8)), o' 50 (.ld none (.t 49)), o' 51 (.fad 0 (.t 5)), o' 52 (.ld none (.t 51)), o' 53 (.bin .eql (.t 50) (.t 52)), m' 48 53] [1, 5, 8, 27, 28, 29, 42, 43, 44, 48]) (c25x30)
def c25x32 : AC := .block 4 (c25x31)
def c25x33 : AC := .seq (.reg [o' 46 (.idx 5 none (.t 42) (.t 44)), o' 47 (.ld (some 5) (.t 46)), o' 8 (.zero [(.string ⟨#[]⟩), (.int .i64 0), (.int .i64 0), (.int .i64 0), (.slice none 0 0)]), n' (.st 5 (.t 8) (.t 47))] [1, 5, 8, 27, 28, 29, 42, 43, 44]) (c25x32)
def c25x34 : AC := .block 3 (c25x33)
def c25x35 : AC := .seq (c25x34) (c25x25)
def c25x36 : AC := .cond (.t 45) (.skip) (.exit 2)
def c25x37 : AC := .seq (c25x36) (c25x35)
def c25x38 : AC := .seq (.reg [o' 45 (.bin .lss (.t 44) (.t 43))] [1, 5, 27, 28, 29, 42, 43, 44, 45]) (c25x37)
def c25x39 : AC := .loop (c25x38)
def c25x40 : AC := .block 2 (c25x39)
def c25x41 : AC := .seq (.reg [o' 39 (.fad 6 (.t 1)), o' 40 (.ld none (.t 39)), m' 41 4, o' 42 (.slc 5 (.t 40) none (some (.t 41))), o' 43 (.len (.t 42)), o' 44 (.mv (i' 0))] [1, 5, 27, 28, 29, 42, 43, 44]) (c25x40)
def c25x42 : AC := .seq (.reg [m' 38 6, m' 2 38] [2]) (.ret)
def c25x43 : AC := .cond (.t 37) (c25x42) (.skip)
def c25x44 : AC := .seq (.reg [m' 36 6, o' 37 (.bin .neq (.t 36) (i' 0))] [1, 4, 5, 6, 27, 28, 29, 37]) (c25x43)
def c25x45 : AC := .seq (.reg [o' 34 (.ld (some 5) (.t 5)), o' 35 (.call 49 [.t 34]), m' 6 35] [1, 4, 5, 6, 27, 28, 29]) (c25x44)
def c25x46 : AC := .seq (c25x45) (c25x41)
def c25x47 : AC := .seq (.reg [m' 31 29, o' 32 (.idx 5 none (.t 27) (.t 29)), o' 33 (.ld (some 5) (.t 32)), o' 5 (.zero [(.string ⟨#[]⟩), (.int .i64 0), (.int .i64 0), (.int .i64 0), (.slice none 0 0)]), m' 4 31, n' (.st 5 (.t 5) (.t 33))] [1, 4, 5, 27, 28, 29]) (c25x46)
def c25x48 : AC := .block 1 (c25x47)
def c25x49 : AC := .seq (c25x48) (c25x24)
def c25x50 : AC := .cond (.t 30) (.skip) (.exit 0)
def c25x51 : AC := .seq (c25x50) (c25x49)
def c25x52 : AC := .seq (.reg [o' 30 (.bin .lss (.t 29) (.t 28))] [1, 27, 28, 29, 30]) (c25x51)
def c25x53 : AC := .loop (c25x52)
def c25x54 : AC := .block 0 (c25x53)
def c25x55 : AC := .seq (.reg [o' 26 (.fad 6 (.t 1)), o' 27 (.ld none (.t 26)), o' 28 (.len (.t 27)), o' 29 (.mv (i' 0))] [1, 27, 28, 29]) (c25x54)
def c25x56 : AC := .seq (c25x55) (c25x23)
def c25x57 : AC := .seq (.reg [o' 2 (.mv (i' 2))] [2]) (.ret)
def c25x58 : AC := .cond (.t 25) (c25x57) (.skip)
def c25x59 : AC := .seq (.reg [o' 22 (.fad 6 (.t 1)), o' 23 (.ld none (.t 22)), o' 24 (.len (.t 23)), o' 25 (.bin .gtr (.t 24) (i' 12))] [1, 25]) (c25x58)
def c25x60 : AC := .seq (c25x59) (c25x56)
def c25x61 : AC := .seq (.reg [m' 21 3, m' 2 21] [2]) (.ret)
def c25x62 : AC := .cond (.t 20) (c25x61) (.skip)
def c25x63 : AC := .seq (.reg [m' 19 3, o' 20 (.bin .neq (.t 19) (i' 0))] [1, 3, 20]) (c25x62)
def c25x64 : AC := .seq (.reg [o' 16 (.fad 1 (.t 1)), o' 17 (.ld (some 5) (.t 16)), o' 18 (.call 17 [.t 17]), m' 3 18] [1, 3]) (c25x63)
def c25x65 : AC := .seq (c25x64) (c25x60)
def c25x66 : AC := .seq (.reg [o' 2 (.mv (i' 15))] [2]) (.ret)
def c25x67 : AC := .cond (.t 15) (c25x66) (.skip)
def c25x68 : AC := .seq (.reg [o' 12 (.fad 0 (.t 1)), o' 13 (.ld none (.t 12)), o' 14 (.call 39 [.t 13]), o' 15 (.not (.t 14))] [1, 15]) (c25x67)
def c25x69 : AC := .seq (c25x68) (c25x65)
def c25 : AC := .seq (.reg [o' 1 (.new 8 (.t 0)), o' 2 (.mv (i' 0))] [1]) (c25x69)
theorem k25 : Try.f25.body.bind (compC Try.prog Try.f25.ntmps v25) = some c25 := by kernel_rfl
theorem e25 : enters Try.prog 25 = true := by kernel_rfl
theorem q25 : Try.f25.results.toList.mapM (compRes Try.prog) = some r25 := by kernel_rfl
theorem e50 : enters Try.prog 50 = true := by kernel_rfl
end Go.Proofs.Ytolmklnijjfppaa.Code

namespace Go.Proofs.Ytolmklnijjfppaa.Code
open Go Go.Proofs.Ytolmklnijjfppaa.Calc
set_option maxRecDepth 100000
def v3 : List (Nat × List Nat) := [(0, [0, 1, 2]), (1, [0, 1, 2, 7]), (2, [1, 2, 7, 12, 13, 14]), (3, [1, 2, 7, 12, 13, 14, 15]), (4, [1, 2, 7, 9, 12, 13, 14]), (5, [1, 2, 7, 12, 13, 14]), (6, [1, 2, 7, 12, 13, 14]), (7, [1, 2, 7]), (8, [1, 2, 7, 10]), (9, [1, 2, 7, 10]), (10, [2, 7, 10]), (11, [2, 10, 11]), (12, [6])]
def r3 : List AR := [.t 6]
def c3x0 : AC := .seq (.reg [o' 40 (.call 13 []), m' 41 40, ⟨(some 42), .mv (.t 10), (some (41, true))⟩, ⟨(some 43), .call 12 [.t 42], (some (41, true))⟩, ⟨(some 44), .mv (.t 11), (some (41, true))⟩, ⟨(some 45), .bin .eql (.t 43) (.t 44), (some (41, true))⟩, o' 46 (.pick (.t 41) (.t 45) (.k (.bool false))), m' 47 46, ⟨(some 48), .mv (.t 11), (some (47, true))⟩, ⟨(some 49), .mv (.t 2), (some (47, true))⟩, ⟨(some 50), .call 14 [.t 48, .t 49], (some (47, true))⟩, ⟨(some 51), .mv (.t 11), (some (47, true))⟩, ⟨(some 52), .bin .eql (.t 50) (.t 51), (some (47, true))⟩, ⟨(some 53), .mv (.t 11), (some (47, true))⟩, ⟨(some 54), .bin .neq (.t 53) (i' 2), (some (47, true))⟩, ⟨(some 55), .mv (.t 54), (some (47, true))⟩, ⟨(some 56), .mv (.t 2), (some (55, false))⟩, ⟨(some 57), .bin .eql (.t 56) (i' 2), (some (55, false))⟩, ⟨(some 58), .pick (.t 55) (.k (.bool true)) (.t 57), (some (47, true))⟩, ⟨(some 59), .eqb false (.t 52) (.t 58), (some (47, true))⟩, o' 60 (.pick (.t 47) (.t 59) (.k (.bool false))), m' 6 60] [6]) (.ret)
def c3x1 : AC := .seq (.reg [m' 38 7, o' 39 (.call 12 [.t 38]), m' 11 39] [2, 10, 11]) (c3x0)
def c3x2 : AC := .seq (.reg [m' 30 10, m' 31 1, m' 32 10, o' 33 (.len (.t 32)), o' 34 (.bin .add (.t 33) (i' 1)), o' 35 (.call 8 [.t 31, .t 34]), o' 36 (.bsl [(.int .i64 0)] 1 [(0, (i' 2))]), o' 37 (.call 11 [.t 30, .t 35, .t 36]), m' 10 37] [2, 7, 10]) (c3x1)
def c3x3 : AC := .seq (.reg [m' 28 10, o' 29 (.call 10 [.t 28])] [1, 2, 7, 10]) (c3x2)
def c3x4 : AC := .seq (.reg [m' 26 7, o' 27 (.call 9 [.t 26]), m' 10 27] [1, 2, 7, 10]) (c3x3)
def c3x5 : AC := .seq (.reg [m' 24 2, o' 25 (.call 8 [.t 24, i' 4]), m' 2 25] [1, 2, 7]) (c3x4)
def c3x6 : AC := .reg [o' 23 (.bin .add (.t 14) (i' 1)), m' 14 23] [1, 2, 7, 12, 13, 14]
def c3x7 : AC := .reg [m' 18 7, m' 19 9, o' 20 (.call 8 [.t 19, i' 4]), o' 21 (.bsl [(.int .i64 0)] 1 [(0, (.t 20))]), o' 22 (.app 1 8 (.t 18) (.t 21)), m' 7 22] [1, 2, 7, 12, 13, 14]
def c3x8 : AC := .seq (.reg [o' 16 (.idx 1 none (.t 12) (.t 14)), o' 17 (.ld none (.t 16)), m' 9 17] [1, 2, 7, 9, 12, 13, 14]) (c3x7)
def c3x9 : AC := .block 1 (c3x8)
def c3x10 : AC := .seq (c3x9) (c3x6)
def c3x11 : AC := .cond (.t 15) (.skip) (.exit 0)
def c3x12 : AC := .seq (c3x11) (c3x10)
def c3x13 : AC := .seq (.reg [o' 15 (.bin .lss (.t 14) (.t 13))] [1, 2, 7, 12, 13, 14, 15]) (c3x12)
def c3x14 : AC := .loop (c3x13)
def c3x15 : AC := .block 0 (c3x14)
def c3x16 : AC := .seq (.reg [m' 12 0, o' 13 (.len (.t 12)), o' 14 (.mv (i' 0))] [1, 2, 7, 12, 13, 14]) (c3x15)
def c3x17 : AC := .seq (c3x16) (c3x5)
def c3x18 : AC := .seq (.reg [o' 7 (.mv (.k (.slice none 0 0)))] [0, 1, 2, 7]) (c3x17)
def c3 : AC := .seq (.reg [o' 6 (.mv (.k (.bool false)))] [0, 1, 2]) (c3x18)
theorem e3 : enters Try.prog 3 = true := by kernel_rfl
theorem q3 : Try.f3.results.toList.mapM (compRes Try.prog) = some r3 := by kernel_rfl
def v5 : List (Nat × List Nat) := [(0, [0, 1]), (1, [1, 5]), (2, [1, 5]), (3, [1, 5, 6, 8]), (4, [1, 5, 6, 8, 9]), (5, [1, 5, 6, 8, 9, 10]), (6, [1, 5, 6, 8, 9, 10, 31, 32, 33]), (7, [1, 5, 6, 8, 9, 10, 31, 32, 33, 34]), (8, [1, 5, 6, 8, 9, 10, 12, 31, 32, 33]), (9, [1, 5, 6, 8, 9, 10, 12, 31, 32, 33, 46]), (10, [4]), (11, [1, 5, 6, 8, 9, 10, 12, 31, 32, 33, 49]), (12, [1, 5, 6, 8, 9, 10, 12, 31, 32, 33]), (13, [1, 5, 6, 8, 9, 10, 12, 31, 32, 33, 71]), (14, [1, 5, 6, 8, 9, 10, 31, 32, 33]), (15, [1, 5, 6, 8, 9, 10, 31, 32, 33]), (16, [9, 10, 89, 90, 91]), (17, [9, 10, 89, 90, 91, 92]), (18, [9, 10, 13, 14, 89, 90, 91]), (19, [9, 10, 89, 90, 91, 102]), (20, [4]), (21, [9, 10, 89, 90, 91]), (22, [4])]
def r5 : List AR := [.t 4]
def c5x0 : AC := .seq (.reg [o' 104 (.call 24 []), m' 105 104, ⟨(some 106), .mv (.t 10), (some (105, true))⟩, o' 107 (.pick (.t 105) (.t 106) (.k (.bool false))), m' 4 107] [4]) (.ret)
def c5x1 : AC := .reg [o' 103 (.bin .add (.t 91) (i' 1)), m' 91 103] [9, 10, 89, 90, 91]
def c5x2 : AC := .seq (.reg [o' 4 (.mv (.k (.bool false)))] [4]) (.ret)
def c5x3 : AC := .cond (.t 102) (c5x2) (.skip)
def c5x4 : AC := .seq (.dreg [m' 96 9, m' 97 13, o' 98 (.idx 1 none (.t 96) (.t 97)), o' 99 (.ld none (.t 98)), o' 100 (.fad 3 (.t 14)), o' 101 (.ld none (.t 100)), o' 102 (.bin .neq (.t 99) (.t 101))] [[], [], [0, 1], [0, 1, 2], [], [4], [0, 1, 2, 3, 4, 5]] [9, 10, 89, 90, 91, 102]) (c5x3)
def c5x5 : AC := .seq (.reg [m' 93 91, o' 94 (.idx 5 none (.t 89) (.t 91)), o' 95 (.ld (some 5) (.t 94)), o' 14 (.zero [(.string ⟨#[]⟩), (.int .i64 0), (.int .i64 0), (.int .i64 0), (.slice none 0 0)]), m' 13 93, n' (.st 5 (.t 14) (.t 95))] [9, 10, 13, 14, 89, 90, 91]) (c5x4)
def c5x6 : AC := .block 3 (c5x5)
def c5x7 : AC := .seq (c5x6) (c5x1)
def c5x8 : AC := .cond (.t 92) (.skip) (.exit 2)
def c5x9 : AC := .seq (c5x8) (c5x7)
def c5x10 : AC := .seq (.reg [o' 92 (.bin .lss (.t 91) (.t 90))] [9, 10, 89, 90, 91, 92]) (c5x9)
def c5x11 : AC := .loop (c5x10)
def c5x12 : AC := .block 2 (c5x11)
def c5x13 : AC := .seq (.reg [o' 88 (.fad 6 (.t 5)), o' 89 (.ld none (.t 88)), o' 90 (.len (.t 89)), o' 91 (.mv (i' 0))] [9, 10, 89, 90, 91]) (c5x12)
def c5x14 : AC := .seq (c5x13) (c5x0)
def c5x15 : AC := .reg [o' 87 (.bin .add (.t 33) (i' 1)), m' 33 87] [1, 5, 6, 8, 9, 10, 31, 32, 33]
def c5x16 : AC := .reg [m' 72 8, o' 73 (.fad 2 (.t 12)), o' 74 (.ld none (.t 73)), o' 75 (.bin .geq (.t 74) (i' 0)), o' 76 (.eqb false (.t 72) (.t 75)), m' 77 76, ⟨(some 78), .mv (.t 8), (some (77, true))⟩, ⟨(some 79), .not (.t 78), (some (77, true))⟩, ⟨(some 80), .mv (.t 79), (some (77, true))⟩, ⟨(some 81), .fad 2 (.t 12), (some (80, false))⟩, ⟨(some 82), .ld none (.t 81), (some (80, false))⟩, ⟨(some 83), .mv (.t 6), (some (80, false))⟩, ⟨(some 84), .bin .eql (.t 82) (.t 83), (some (80, false))⟩, ⟨(some 85), .pick (.t 80) (.k (.bool true)) (.t 84), (some (77, true))⟩, o' 86 (.pick (.t 77) (.t 85) (.k (.bool false))), m' 10 86] [1, 5, 6, 8, 9, 10, 31, 32, 33]
def c5x17 : AC := .cond (.t 71) (c5x16) (.skip)
def c5x18 : AC := .seq (.reg [o' 62 (.fad 0 (.t 12)), o' 63 (.ld none (.t 62)), m' 64 1, o' 65 (.bin .leq (.t 63) (.t 64)), m' 66 65, ⟨(some 67), .mv (.t 1), (some (66, true))⟩, ⟨(some 68), .fad 1 (.t 12), (some (66, true))⟩, ⟨(some 69), .ld none (.t 68), (some (66, true))⟩, ⟨(some 70), .bin .lss (.t 67) (.t 69), (some (66, true))⟩, o' 71 (.pick (.t 66) (.t 70) (.k (.bool false)))] [1, 5, 6, 8, 9, 10, 12, 31, 32, 33, 71]) (c5x17)
def c5x19 : AC := .dreg [m' 50 9, o' 51 (.fad 2 (.t 12)), o' 52 (.ld none (.t 51)), o' 53 (.idx 1 none (.t 50) (.t 52)), o' 54 (.ld none (.t 53)), o' 55 (.fad 1 (.t 12)), o' 56 (.ld none (.t 55)), o' 57 (.fad 0 (.t 12)), o' 58 (.ld none (.t 57)), o' 59 (.bin .sub (.t 56) (.t 58)), o' 60 (.bin .add (.t 54) (.t 59)), o' 61 (.idx 1 none (.t 50) (.t 52)), n' (.st 1 (.t 61) (.t 60))] [[], [], [1], [0, 1, 2], [0, 1, 2, 3], [], [5], [], [7], [5, 6, 7, 8], [0, 1, 2, 3, 4, 5, 6, 7, 8, 9], [0, 1, 2, 3, 4, 5, 6, 7, 8, 9, 10], [0, 1, 2, 3, 4, 5, 6, 7, 8, 9, 10, 11]] [1, 5, 6, 8, 9, 10, 12, 31, 32, 33]
def c5x20 : AC := .cond (.t 49) (c5x19) (.skip)
def c5x21 : AC := .seq (.reg [o' 47 (.fad 2 (.t 12)), o' 48 (.ld none (.t 47)), o' 49 (.bin .geq (.t 48) (i' 0))] [1, 5, 6, 8, 9, 10, 12, 31, 32, 33, 49]) (c5x20)
def c5x22 : AC := .seq (c5x21) (c5x18)
def c5x23 : AC := .seq (.reg [o' 4 (.mv (.k (.bool false)))] [4]) (.ret)
def c5x24 : AC := .cond (.t 46) (c5x23) (.skip)
def c5x25 : AC := .seq (.reg [o' 37 (.fad 2 (.t 12)), o' 38 (.ld none (.t 37)), m' 39 9, o' 40 (.len (.t 39)), o' 41 (.bin .geq (.t 38) (.t 40)), m' 42 41, ⟨(some 43), .fad 2 (.t 12), (some (42, false))⟩, ⟨(some 44), .ld none (.t 43), (some (42, false))⟩, ⟨(some 45), .bin .lss (.t 44) (.k (.int .i64 (-1))), (some (42, false))⟩, o' 46 (.pick (.t 42) (.k (.bool true)) (.t 45))] [1, 5, 6, 8, 9, 10, 12, 31, 32, 33, 46]) (c5x24)
def c5x26 : AC := .seq (c5x25) (c5x22)
def c5x27 : AC := .seq (.reg [o' 35 (.idx 3 none (.t 31) (.t 33)), o' 36 (.ld (some 3) (.t 35)), o' 12 (.zero [(.int .i64 0), (.int .i64 0), (.int .i64 0)]), n' (.st 3 (.t 12) (.t 36))] [1, 5, 6, 8, 9, 10, 12, 31, 32, 33]) (c5x26)
def c5x28 : AC := .block 1 (c5x27)
def c5x29 : AC := .seq (c5x28) (c5x15)
def c5x30 : AC := .cond (.t 34) (.skip) (.exit 0)
def c5x31 : AC := .seq (c5x30) (c5x29)
def c5x32 : AC := .seq (.reg [o' 34 (.bin .lss (.t 33) (.t 32))] [1, 5, 6, 8, 9, 10, 31, 32, 33, 34]) (c5x31)
def c5x33 : AC := .loop (c5x32)
def c5x34 : AC := .block 0 (c5x33)
def c5x35 : AC := .seq (.reg [o' 30 (.ld (some 8) (.t 5)), o' 31 (.call 23 [.t 30]), o' 32 (.len (.t 31)), o' 33 (.mv (i' 0))] [1, 5, 6, 8, 9, 10, 31, 32, 33]) (c5x34)
def c5x36 : AC := .seq (c5x35) (c5x14)
def c5x37 : AC := .seq (.reg [o' 10 (.mv (.k (.bool false)))] [1, 5, 6, 8, 9, 10]) (c5x36)
def c5x38 : AC := .seq (.reg [o' 26 (.fad 6 (.t 5)), o' 27 (.ld none (.t 26)), o' 28 (.len (.t 27)), o' 29 (.mksl [(.int .i64 0)] 8 (.t 28) (.t 28)), m' 9 29] [1, 5, 6, 8, 9]) (c5x37)
def c5x39 : AC := .seq (.reg [o' 20 (.ld (some 8) (.t 5)), m' 21 1, o' 22 (.call 22 [.t 20, .t 21]), m' 19 22, o' 23 (.ext (.t 19) 0), o' 24 (.ext (.t 19) 1), o' 25 (.ext (.t 19) 2), m' 6 23, m' 7 24, m' 8 25] [1, 5, 6, 8]) (c5x38)
def c5x40 : AC := .seq (.reg [m' 17 1, o' 18 (.call 8 [.t 17, i' 65536]), m' 1 18] [1, 5]) (c5x39)
def c5x41 : AC := .seq (.reg [m' 15 0, o' 16 (.call 21 [.t 15]), o' 5 (.zero [(.string ⟨#[]⟩), (.string ⟨#[]⟩), (.slice none 0 0), (.slice none 0 0), (.slice none 0 0), (.slice none 0 0), (.slice none 0 0), (.slice none 0 0)]), n' (.st 8 (.t 5) (.t 16))] [1, 5]) (c5x40)
def c5 : AC := .seq (.reg [o' 4 (.mv (.k (.bool false)))] [0, 1]) (c5x41)
theorem k5 : Try.f5.body.bind (compC Try.prog Try.f5.ntmps v5) = some c5 := by kernel_rfl
theorem e5 : enters Try.prog 5 = true := by kernel_rfl
theorem q5 : Try.f5.results.toList.mapM (compRes Try.prog) = some r5 := by kernel_rfl
theorem e6 : enters Try.prog 6 = true := by kernel_rfl
def v24 : List (Nat × List Nat) := [(0, []), (1, [1]), (2, [1, 2, 3, 4]), (3, [0])]
def r24 : List AR := [.t 0]
def c24x0 : AC := .seq (.reg [m' 15 4, m' 16 15, ⟨(some 17), .mv (.t 2), (some (16, true))⟩, ⟨(some 18), .bin .eql (.t 17) (i' 0), (some (16, true))⟩, o' 19 (.pick (.t 16) (.t 18) (.k (.bool false))), m' 20 19, ⟨(some 21), .mv (.t 3), (some (20, true))⟩, ⟨(some 22), .bin .eql (.t 21) (i' 1), (some (20, true))⟩, o' 23 (.pick (.t 20) (.t 22) (.k (.bool false))), m' 24 23, ⟨(some 25), .ld (some 8) (.t 1), (some (24, true))⟩, ⟨(some 26), .call 25 [.t 25], (some (24, true))⟩, ⟨(some 27), .bin .eql (.t 26) (i' 0), (some (24, true))⟩, o' 28 (.pick (.t 24) (.t 27) (.k (.bool false))), m' 0 28] [0]) (.ret)
def c24x1 : AC := .seq (.reg [o' 10 (.ld (some 8) (.t 1)), o' 11 (.call 22 [.t 10, i' 9]), m' 9 11, o' 12 (.ext (.t 9) 0), o' 13 (.ext (.t 9) 1), o' 14 (.ext (.t 9) 2), m' 2 12, m' 3 13, m' 4 14] [1, 2, 3, 4]) (c24x0)
def c24x2 : AC := .seq (.reg [o' 5 (.build [(.string ⟨#[]⟩), (.slice none 0 0), (.slice none 0 0), (.slice none 0 0), (.slice none 0 0)] [(0, 1, (.k (.string ⟨#[99]⟩)))]), o' 6 (.build [(.string ⟨#[]⟩), (.int .i64 0), (.int .i64 0), (.int .i64 0), (.slice none 0 0)] [(0, 1, (.k (.string ⟨#[114, 97, 109]⟩))), (1, 1, (i' 0)), (2, 1, (i' 8)), (3, 1, (i' 4))]), o' 7 (.bsl [(.string ⟨#[]⟩), (.int .i64 0), (.int .i64 0), (.int .i64 0), (.slice none 0 0)] 1 [(0, (.t 6))]), o' 8 (.build [(.string ⟨#[]⟩), (.string ⟨#[]⟩), (.slice none 0 0), (.slice none 0 0), (.slice none 0 0), (.slice none 0 0), (.slice none 0 0), (.slice none 0 0)] [(0, 1, (.k (.string ⟨#[98]⟩))), (1, 5, (.t 5)), (6, 1, (.t 7))]), o' 1 (.zero [(.string ⟨#[]⟩), (.string ⟨#[]⟩), (.slice none 0 0), (.slice none 0 0), (.slice none 0 0), (.slice none 0 0), (.slice none 0 0), (.slice none 0 0)]), n' (.st 8 (.t 1) (.t 8))] [1]) (c24x1)
def c24 : AC := .seq (.reg [o' 0 (.mv (.k (.bool false)))] []) (c24x2)
theorem k24 : Try.f24.body.bind (compC Try.prog Try.f24.ntmps v24) = some c24 := by kernel_rfl
theorem e24 : enters Try.prog 24 = true := by kernel_rfl
theorem q24 : Try.f24.results.toList.mapM (compRes Try.prog) = some r24 := by kernel_rfl
end Go.Proofs.Ytolmklnijjfppaa.Code

