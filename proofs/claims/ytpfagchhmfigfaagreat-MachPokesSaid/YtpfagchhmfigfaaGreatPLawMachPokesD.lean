/- Several texts in one (CdBit, CdBakemake, CdTable, CdSlices, CdStd, CdDrive, CdChip, CdTimer, CdSerial, CdVideo, CdSound, CdPort, CdKChip, CdBoard, CdMach, CdCore, CdInternalstringslite, CdStrings, CdKMore), for the proof of LawMachPokes. No condition beyond those in each lemma. -/
import Derived.Test.YtpfagchhmfigfaaGreatProg
import Derived.Test.YtpfagchhmfigfaaGreatPLawMachPokesC
import Derived.KernelRfl
namespace Go.Proofs.YtpfagchhmfigfaaGreat.Code
open Go Go.Proofs.YtpfagchhmfigfaaGreat.Calc
set_option maxRecDepth 100000
def c77x0 : AC := .seq (.reg [m' 5 0, m' 6 1, o' 7 (.call 126 [.t 6]), o' 8 (.bin .shl (i' 1) (.t 7)), o' 9 (.bin .sub (.t 8) (i' 1)), o' 10 (.bin .and (.t 5) (.t 9)), m' 4 10] [4]) .ret
def c77 : AC := .seq (.reg [o' 4 (.mv (i' 0))] [0, 1]) c77x0
theorem k77 : kS Tryz.prog Tryz.f77 (lvs c77) = some c77 := by kernel_rfl
theorem e77 : enters Tryz.prog 77 = true := by kernel_rfl
theorem q77 : qS Tryz.prog Tryz.f77 = some [.t 4] := by kernel_rfl
def c126x0 : AC := .seq (.reg [m' 3 0, o' 4 (.mnx false [.t 3, i' 62]), o' 5 (.mnx true [i' 0, .t 4]), m' 2 5] [2]) .ret
def c126 : AC := .seq (.reg [o' 2 (.mv (i' 0))] [0]) c126x0
theorem k126 : kS Tryz.prog Tryz.f126 (lvs c126) = some c126 := by kernel_rfl
theorem e126 : enters Tryz.prog 126 = true := by kernel_rfl
theorem q126 : qS Tryz.prog Tryz.f126 = some [.t 2] := by kernel_rfl
def c203x0 : AC := .seq (.reg [m' 21 0, o' 22 (.call 77 [.t 21, i' 62]), m' 23 9, o' 24 (.bin .andNot (.t 22) (.t 23)), m' 25 3, m' 26 2, o' 27 (.call 77 [.t 25, .t 26]), m' 28 1, o' 29 (.bin .shl (.t 27) (.t 28)), o' 30 (.bin .or (.t 24) (.t 29)), m' 8 30] [8]) .ret
def c203x1 : AC := .seq (.reg [m' 16 2, o' 17 (.bin .shl (i' 1) (.t 16)), o' 18 (.bin .sub (.t 17) (i' 1)), m' 19 1, o' 20 (.bin .shl (.t 18) (.t 19)), m' 9 20] [0, 1, 2, 3, 9]) c203x0
def c203x2 : AC := .seq (.reg [m' 11 1, m' 12 2, o' 13 (.call 238 [.t 11, .t 12]), m' 10 13, o' 14 (.ext (.t 10) 0), o' 15 (.ext (.t 10) 1), m' 1 14, m' 2 15] [0, 1, 2, 3]) c203x1
def c203 : AC := .seq (.reg [o' 8 (.mv (i' 0))] [0, 1, 2, 3]) c203x2
theorem k203 : kS Tryz.prog Tryz.f203 (lvs c203) = some c203 := by kernel_rfl
theorem e203 : enters Tryz.prog 203 = true := by kernel_rfl
theorem q203 : qS Tryz.prog Tryz.f203 = some [.t 8] := by kernel_rfl
def c238x0 : AC := .seq (.reg [m' 8 0, m' 9 1, m' 10 0, o' 11 (.bin .sub (i' 62) (.t 10)), o' 12 (.mnx false [.t 9, .t 11]), o' 13 (.mnx true [i' 0, .t 12]), m' 4 8, m' 5 13] [4, 5]) .ret
def c238x1 : AC := .seq (.reg [m' 6 0, o' 7 (.call 126 [.t 6]), m' 0 7] [0, 1]) c238x0
def c238 : AC := .seq (.reg [o' 4 (.mv (i' 0)), o' 5 (.mv (i' 0))] [0, 1]) c238x1
theorem k238 : kS Tryz.prog Tryz.f238 (lvs c238) = some c238 := by kernel_rfl
theorem e238 : enters Tryz.prog 238 = true := by kernel_rfl
theorem q238 : qS Tryz.prog Tryz.f238 = some [.t 4, .t 5] := by kernel_rfl
end Go.Proofs.YtpfagchhmfigfaaGreat.Code

namespace Go.Proofs.YtpfagchhmfigfaaGreat.Code
open Go Go.Proofs.YtpfagchhmfigfaaGreat.Calc
set_option maxRecDepth 100000
def c17x1 : AC := .reg [m' 10 0, m' 11 1, o' 12 (.bin .add (.t 10) (.t 11)), m' 0 12] [0]
def c17x3 : AC := .seq (.reg [m' 8 0, o' 9 (.bin .lss (.t 8) (i' 0))] [0, 1, 9]) (.cond (.t 9) c17x1 .skip)
def c17x4 : AC := .seq (.reg [m' 5 0, m' 6 1, o' 7 (.bin .rem (.t 5) (.t 6)), m' 0 7] [0, 1]) c17x3
def c17 : AC := .seq (.reg [o' 4 (.mv (i' 0))] [0, 1]) (.seq c17x4 (.seq (.reg [m' 13 0, m' 4 13] [4]) .ret))
theorem k17 : kS Tryz.prog Tryz.f17 (lvs c17) = some c17 := by kernel_rfl
theorem e17 : enters Tryz.prog 17 = true := by kernel_rfl
theorem q17 : qS Tryz.prog Tryz.f17 = some [.t 4] := by kernel_rfl
def c20x0 : AC := .seq (.reg [o' 129 (.ld (some 8) (.t 4)), n' (.st 8 (.t 2) (.t 129))] [2]) .ret
def c20x1 : AC := .seq (.dreg [o' 118 (.fad 6 (.t 4)), o' 119 (.ld none (.t 118)), m' 120 3, o' 121 (.nilc (.t 120)), o' 122 (.fad 0 (.t 121)), o' 123 (.ld none (.t 122)), o' 124 (.call 55 [.t 123]), o' 125 (.build [(.string ⟨#[]⟩), (.int .i64 0), (.int .i64 0), (.int .i64 0), (.slice none 0 0)] [(0, 1, (.k (.string ⟨#[114, 111, 109]⟩))), (1, 1, (i' 1)), (2, 1, (i' 65280)), (3, 1, (i' 256)), (4, 1, (.t 124))]), o' 126 (.bsl [(.string ⟨#[]⟩), (.int .i64 0), (.int .i64 0), (.int .i64 0), (.slice none 0 0)] 1 [(0, (.t 125))]), o' 127 (.app 5 64 (.t 119) (.t 126)), o' 128 (.fad 6 (.t 4)), n' (.st 1 (.t 128) (.t 127))] (bf [[], [0, 1], [], [2, 3], [2, 4], [2, 5], [2, 6], [2, 7], [2, 8], [0, 9], [0, 10], [0, 11]]) [2, 4]) c20x0
def c20x2 : AC := .reg [o' 117 (.bin .add (.t 23) (i' 1)), m' 23 117] [2, 3, 4, 5, 22, 23]
def c20x3 : AC := .reg [o' 108 (.fad 7 (.t 4)), o' 109 (.ld none (.t 108)), o' 110 (.fad 0 (.t 8)), o' 111 (.ld none (.t 110)), o' 112 (.bin .add (.t 111) (.k (.string ⟨#[46, 105, 114, 113]⟩))), o' 113 (.build [(.string ⟨#[]⟩), (.string ⟨#[]⟩)] [(0, 1, (.t 112)), (1, 1, (.k (.string ⟨#[99, 112, 117, 46, 105, 114, 113]⟩)))]), o' 114 (.bsl [(.string ⟨#[]⟩), (.string ⟨#[]⟩)] 1 [(0, (.t 113))]), o' 115 (.app 2 32 (.t 109) (.t 114)), o' 116 (.fad 7 (.t 4)), n' (.st 1 (.t 116) (.t 115))] [2, 3, 4, 5, 22, 23]
def c20x5 : AC := .seq (.reg [m' 93 7, o' 94 (.bin .eql (.t 93) (i' 3)), m' 95 94, gF' 96 95 (.mv (.t 7)), gF' 97 95 (.bin .eql (.t 96) (i' 5)), o' 98 (.pick (.t 95) kT' (.t 97)), m' 99 98, gF' 100 99 (.mv (.t 7)), gF' 101 99 (.bin .eql (.t 100) (i' 8)), o' 102 (.pick (.t 99) kT' (.t 101)), m' 103 102, gT' 104 103 (.mv (.t 3)), gT' 105 103 (.call 53 [.t 104, i' 3]), gT' 106 103 (.bin .gtr (.t 105) (i' 0)), o' 107 (.pick (.t 103) (.t 106) kF')] [2, 3, 4, 5, 8, 22, 23, 107]) (.cond (.t 107) c20x3 .skip)
def c20x6 : AC := .seq (.reg [m' 86 5, o' 87 (.fad 3 (.t 8)), o' 88 (.ld none (.t 87)), o' 89 (.bin .add (.t 88) (i' 15)), o' 90 (.bin .quo (.t 89) (i' 16)), o' 91 (.bin .mul (.t 90) (i' 16)), o' 92 (.bin .add (.t 86) (.t 91)), m' 5 92] [2, 3, 4, 5, 7, 8, 22, 23]) c20x5
def c20x7 : AC := .seq (.reg [o' 80 (.fad 6 (.t 4)), o' 81 (.ld none (.t 80)), o' 82 (.ld (some 5) (.t 8)), o' 83 (.bsl [(.string ⟨#[]⟩), (.int .i64 0), (.int .i64 0), (.int .i64 0), (.slice none 0 0)] 1 [(0, (.t 82))]), o' 84 (.app 5 64 (.t 81) (.t 83)), o' 85 (.fad 6 (.t 4)), n' (.st 1 (.t 85) (.t 84))] [2, 3, 4, 5, 7, 8, 22, 23]) c20x6
def c20x8 : AC := .reg [m' 69 3, o' 70 (.call 53 [.t 69, i' 256]), m' 71 3, o' 72 (.call 53 [.t 71, i' 256]), o' 73 (.bsl [(.int .i64 0)] 2 [(0, (.t 70)), (1, (.t 72))]), m' 74 3, o' 75 (.call 53 [.t 74, i' 3]), o' 76 (.bin .mul (i' 8) (.t 75)), o' 77 (.bin .add (i' 8) (.t 76)), o' 78 (.call 54 [.t 73, .t 77]), o' 79 (.fad 4 (.t 8)), n' (.st 1 (.t 79) (.t 78))] [2, 3, 4, 5, 7, 8, 22, 23]
def c20x10 : AC := .seq (.reg [m' 67 7, o' 68 (.bin .eql (.t 67) (i' 2))] [2, 3, 4, 5, 7, 8, 22, 23, 68]) (.cond (.t 68) c20x8 .skip)
def c20x12 : AC := .reg [o' 66 (.bin .add (.t 54) (i' 1)), m' 54 66] [2, 3, 4, 5, 6, 7, 8, 22, 23, 53, 54]
def c20x13 : AC := .reg [o' 57 (.fad 4 (.t 8)), o' 58 (.ld none (.t 57)), m' 59 9, m' 60 9, o' 61 (.bin .mul (.t 60) (i' 7)), m' 62 6, o' 63 (.bin .add (.t 61) (.t 62)), o' 64 (.cvt .u8 (.t 63)), o' 65 (.idx 1 none (.t 58) (.t 59)), n' (.st 1 (.t 65) (.t 64))] [2, 3, 4, 5, 6, 7, 8, 22, 23, 53, 54]
def c20x14 : AC := .seq (.reg [m' 56 54, m' 9 56] [2, 3, 4, 5, 6, 7, 8, 9, 22, 23, 53, 54]) c20x13
def c20x19 : AC := .seq (.reg [o' 55 (.bin .lss (.t 54) (.t 53))] [2, 3, 4, 5, 6, 7, 8, 22, 23, 53, 54, 55]) (.seq (.cond (.t 55) .skip (.exit 2)) (.seq (.block 3 c20x14) c20x12))
def c20x22 : AC := .seq (.reg [o' 51 (.fad 4 (.t 8)), o' 52 (.ld none (.t 51)), o' 53 (.len (.t 52)), o' 54 (.mv (i' 0))] [2, 3, 4, 5, 6, 7, 8, 22, 23, 53, 54]) (.block 2 (.loop c20x19))
def c20x23 : AC := .seq (.reg [m' 45 3, o' 46 (.call 53 [.t 45, i' 2]), o' 47 (.bin .add (i' 1) (.t 46)), o' 48 (.bin .mul (i' 256) (.t 47)), o' 49 (.mksl [(.int .u8 0)] 1 (.t 48) (.t 48)), o' 50 (.fad 4 (.t 8)), n' (.st 1 (.t 50) (.t 49))] [2, 3, 4, 5, 6, 7, 8, 22, 23]) c20x22
def c20x25 : AC := .seq (.reg [m' 43 7, o' 44 (.bin .eql (.t 43) (i' 8))] [2, 3, 4, 5, 6, 7, 8, 22, 23, 44]) (.cond (.t 44) c20x23 .skip)
def c20x27 : AC := .seq (.reg [m' 31 6, o' 32 (.bin .add (i' 97) (.t 31)), o' 33 (.cvt .i32 (.t 32)), o' 34 (.i2s (.t 33)), o' 35 (.bin .add (.k (.string ⟨#[99, 104, 105, 112, 45]⟩)) (.t 34)), m' 36 7, m' 37 5, o' 38 (.bsl [(.int .i64 0)] 9 [(0, (i' 0)), (1, (i' 0)), (2, (i' 9)), (3, (i' 4)), (4, (i' 2)), (5, (i' 3)), (6, (i' 32)), (7, (i' 8)), (8, (i' 4))]), m' 39 7, o' 40 (.idx 1 none (.t 38) (.t 39)), o' 41 (.ld none (.t 40)), o' 42 (.build [(.string ⟨#[]⟩), (.int .i64 0), (.int .i64 0), (.int .i64 0), (.slice none 0 0)] [(0, 1, (.t 35)), (1, 1, (.t 36)), (2, 1, (.t 37)), (3, 1, (.t 41))]), o' 8 (.zero [(.string ⟨#[]⟩), (.int .i64 0), (.int .i64 0), (.int .i64 0), (.slice none 0 0)]), n' (.st 5 (.t 8) (.t 42))] [2, 3, 4, 5, 6, 7, 8, 22, 23]) (.seq c20x25 (.seq c20x10 c20x7))
def c20x28 : AC := .seq (.reg [o' 26 (.bsl [(.int .i64 0)] 8 [(0, (i' 3)), (1, (i' 5)), (2, (i' 4)), (3, (i' 6)), (4, (i' 7)), (5, (i' 8)), (6, (i' 2)), (7, (i' 3))]), m' 27 3, o' 28 (.call 53 [.t 27, i' 8]), o' 29 (.idx 1 none (.t 26) (.t 28)), o' 30 (.ld none (.t 29)), m' 7 30] [2, 3, 4, 5, 6, 7, 22, 23]) c20x27
def c20x29 : AC := .seq (.reg [m' 25 23, m' 6 25] [2, 3, 4, 5, 6, 22, 23]) c20x28
def c20x34 : AC := .seq (.reg [o' 24 (.bin .lss (.t 23) (.t 22))] [2, 3, 4, 5, 22, 23, 24]) (.seq (.cond (.t 24) .skip (.exit 0)) (.seq (.block 1 c20x29) c20x2))
def c20x37 : AC := .seq (.reg [m' 21 3, o' 22 (.call 53 [.t 21, i' 5]), o' 23 (.mv (i' 0))] [2, 3, 4, 5, 22, 23]) (.block 0 (.loop c20x34))
def c20x40 : AC := .seq (.reg [o' 15 (.fad 6 (.t 4)), o' 16 (.ld none (.t 15)), o' 17 (.build [(.string ⟨#[]⟩), (.int .i64 0), (.int .i64 0), (.int .i64 0), (.slice none 0 0)] [(0, 1, (.k (.string ⟨#[114, 97, 109]⟩))), (1, 1, (i' 0)), (3, 1, (i' 768))]), o' 18 (.bsl [(.string ⟨#[]⟩), (.int .i64 0), (.int .i64 0), (.int .i64 0), (.slice none 0 0)] 1 [(0, (.t 17))]), o' 19 (.app 5 64 (.t 16) (.t 18)), o' 20 (.fad 6 (.t 4)), n' (.st 1 (.t 20) (.t 19))] [2, 3, 4]) (.seq (.reg [o' 5 (.mv (i' 57344))] [2, 3, 4, 5]) (.seq c20x37 c20x1))
def c20x41 : AC := .seq (.reg [o' 13 (.call 52 []), o' 14 (.build zLB [(0, 1, (.k (.string ⟨#[98, 111, 97, 114, 100]⟩))), (1, 5, (.t 13))]), o' 4 (.zero zLB), n' (.st 8 (.t 4) (.t 14))] [2, 3, 4]) c20x40
def c20x42 : AC := .seq (.reg [m' 10 0, o' 11 (.build [(.slice none 0 0)] [(0, 1, (.t 10))]), o' 12 (.new 1 (.t 11)), m' 3 12] [2, 3]) c20x41
def c20 : AC := .seq (.reg [o' 2 (.zero zLB)] [0, 2]) c20x42
theorem k20 : kS Tryz.prog Tryz.f20 (lvs c20) = some c20 := by kernel_rfl
theorem e20 : enters Tryz.prog 20 = true := by kernel_rfl
theorem q20 : qS Tryz.prog Tryz.f20 = some [.cell (some 8) 2] := by kernel_rfl
def c53x0 : AC := .seq (.reg [m' 30 5, m' 31 1, o' 32 (.call 17 [.t 30, .t 31]), m' 4 32] [4]) .ret
def c53x1 : AC := .seq (.reg [m' 22 0, m' 23 0, o' 24 (.nilc (.t 23)), o' 25 (.fad 0 (.t 24)), o' 26 (.ld none (.t 25)), o' 27 (.slc 1 (.t 26) (some (i' 1)) none), o' 28 (.nilc (.t 22)), o' 29 (.fad 0 (.t 28)), n' (.st 1 (.t 29) (.t 27))] [1, 5]) c53x0
def c53x2 : AC := .seq (.reg [m' 16 0, o' 17 (.nilc (.t 16)), o' 18 (.fad 0 (.t 17)), o' 19 (.ld none (.t 18)), o' 20 (.idx 1 none (.t 19) (i' 0)), o' 21 (.ld none (.t 20)), m' 5 21] [0, 1, 5]) c53x1
def c53x5 : AC := .seq (.reg [m' 6 1, o' 7 (.bin .lss (.t 6) (i' 1)), m' 8 7, gF' 9 8 (.mv (.t 0)), gF' 10 8 (.nilc (.t 9)), gF' 11 8 (.fad 0 (.t 10)), gF' 12 8 (.ld none (.t 11)), gF' 13 8 (.len (.t 12)), gF' 14 8 (.bin .eql (.t 13) (i' 0)), o' 15 (.pick (.t 8) kT' (.t 14))] [0, 1, 15]) (.cond (.t 15) (.seq (.reg [o' 4 (.mv (i' 0))] [4]) .ret) .skip)
def c53 : AC := .seq (.reg [o' 4 (.mv (i' 0))] [0, 1]) (.seq c53x5 c53x2)
theorem k53 : kS Tryz.prog Tryz.f53 (lvs c53) = some c53 := by kernel_rfl
theorem e53 : enters Tryz.prog 53 = true := by kernel_rfl
theorem q53 : qS Tryz.prog Tryz.f53 = some [.t 4] := by kernel_rfl
def c54x1 : AC := .reg [o' 25 (.bin .add (.t 16) (i' 1)), m' 16 25] [5, 6, 15, 16]
def c54x2 : AC := .reg [m' 19 6, m' 20 7, m' 21 5, o' 22 (.call 53 [.t 21, i' 256]), o' 23 (.cvt .u8 (.t 22)), o' 24 (.idx 1 none (.t 19) (.t 20)), n' (.st 1 (.t 24) (.t 23))] [5, 6, 15, 16]
def c54x8 : AC := .seq (.reg [o' 17 (.bin .lss (.t 16) (.t 15))] [5, 6, 15, 16, 17]) (.seq (.cond (.t 17) .skip (.exit 0)) (.seq (.block 1 (.seq (.reg [m' 18 16, m' 7 18] [5, 6, 7, 15, 16]) c54x2)) c54x1))
def c54x11 : AC := .seq (.reg [m' 14 6, o' 15 (.len (.t 14)), o' 16 (.mv (i' 0))] [5, 6, 15, 16]) (.block 0 (.loop c54x8))
def c54x13 : AC := .seq (.reg [m' 11 1, o' 12 (.mnx true [i' 0, .t 11]), o' 13 (.mksl [(.int .u8 0)] 1 (.t 12) (.t 12)), m' 6 13] [5, 6]) (.seq c54x11 (.seq (.reg [m' 26 6, m' 4 26] [4]) .ret))
def c54x14 : AC := .seq (.reg [m' 8 0, o' 9 (.build [(.slice none 0 0)] [(0, 1, (.t 8))]), o' 10 (.new 1 (.t 9)), m' 5 10] [1, 5]) c54x13
def c54 : AC := .seq (.reg [o' 4 (.mv (.k (.slice none 0 0)))] [0, 1]) c54x14
theorem k54 : kS Tryz.prog Tryz.f54 (lvs c54) = some c54 := by kernel_rfl
theorem e54 : enters Tryz.prog 54 = true := by kernel_rfl
theorem q54 : qS Tryz.prog Tryz.f54 = some [.t 4] := by kernel_rfl
def c55x1 : AC := .seq (.reg [m' 65 4, m' 66 4, o' 67 (.idx 1 none (.t 65) (i' 252)), n' (.st 1 (.t 67) (.k (.int .u8 0))), o' 68 (.idx 1 none (.t 66) (i' 253)), n' (.st 1 (.t 68) (.k (.int .u8 255)))] [4]) (.seq (.reg [m' 69 4, m' 2 69] [2]) .ret)
def c55x2 : AC := .reg [o' 64 (.bin .add (.t 53) (i' 1)), m' 53 64] [4, 51, 52, 53]
def c55x3 : AC := .reg [m' 57 4, m' 58 9, m' 59 4, m' 60 9, o' 61 (.bin .add (.t 60) (i' 1)), o' 62 (.idx 1 none (.t 57) (.t 58)), n' (.st 1 (.t 62) (.k (.int .u8 180))), o' 63 (.idx 1 none (.t 59) (.t 61)), n' (.st 1 (.t 63) (.k (.int .u8 255)))] [4, 51, 52, 53]
def c55x4 : AC := .seq (.reg [o' 55 (.idx 1 none (.t 51) (.t 53)), o' 56 (.ld none (.t 55)), m' 9 56] [4, 9, 51, 52, 53]) c55x3
def c55x9 : AC := .seq (.reg [o' 54 (.bin .lss (.t 53) (.t 52))] [4, 51, 52, 53, 54]) (.seq (.cond (.t 54) .skip (.exit 0)) (.seq (.block 1 c55x4) c55x2))
def c55x12 : AC := .seq (.reg [o' 51 (.bsl [(.int .i64 0)] 2 [(0, (i' 250)), (1, (i' 254))]), o' 52 (.len (.t 51)), o' 53 (.mv (i' 0))] [4, 51, 52, 53]) (.block 0 (.loop c55x9))
def c55x14 : AC := .seq (.reg [m' 47 4, o' 48 (.slc 1 (.t 47) (some (i' 180)) none), m' 49 7, o' 50 (.copy 1 (.t 48) (.t 49))] [4]) (.seq c55x12 c55x1)
def c55x15 : AC := .seq (.reg [o' 38 (.call 106 [(.k (.string ⟨#[112, 104, 112]⟩))]), o' 39 (.call 106 [(.k (.string ⟨#[112, 104, 97]⟩))]), o' 40 (.call 107 [(.k (.string ⟨#[105, 110, 99]⟩)), (i' 2)]), o' 41 (.call 107 [(.k (.string ⟨#[108, 100, 97]⟩)), (i' 4)]), o' 42 (.call 107 [(.k (.string ⟨#[108, 100, 97]⟩)), (i' 4)]), o' 43 (.call 106 [(.k (.string ⟨#[112, 108, 97]⟩))]), o' 44 (.call 106 [(.k (.string ⟨#[112, 108, 112]⟩))]), o' 45 (.call 106 [(.k (.string ⟨#[114, 116, 105]⟩))]), o' 46 (.bsl [(.int .u8 0)] 13 [(0, (.t 38)), (1, (.t 39)), (2, (.t 40)), (3, (.k (.int .u8 9))), (4, (.t 41)), (5, (.k (.int .u8 3))), (6, (.k (.int .u8 224))), (7, (.t 42)), (8, (.k (.int .u8 16))), (9, (.k (.int .u8 224))), (10, (.t 43)), (11, (.t 44)), (12, (.t 45))]), m' 7 46] [4, 7]) c55x14
def c55x16 : AC := .seq (.reg [m' 26 4, m' 27 6, m' 28 4, m' 29 6, o' 30 (.bin .add (.t 29) (i' 1)), m' 31 4, m' 32 6, o' 33 (.bin .add (.t 32) (i' 2)), o' 34 (.call 106 [(.k (.string ⟨#[106, 109, 112]⟩))]), o' 35 (.idx 1 none (.t 26) (.t 27)), n' (.st 1 (.t 35) (.t 34)), o' 36 (.idx 1 none (.t 28) (.t 30)), n' (.st 1 (.t 36) (.k (.int .u8 0))), o' 37 (.idx 1 none (.t 31) (.t 33)), n' (.st 1 (.t 37) (.k (.int .u8 255)))] [4]) c55x15
def c55x17 : AC := .seq (.reg [m' 23 4, m' 24 5, o' 25 (.copy 1 (.t 23) (.t 24)), m' 6 25] [4, 6]) c55x16
def c55x18 : AC := .reg [o' 19 (.call 106 [(.k (.string ⟨#[99, 108, 105]⟩))]), o' 20 (.bsl [(.int .u8 0)] 1 [(0, (.t 19))]), m' 21 5, o' 22 (.app 1 1 (.t 20) (.t 21)), m' 5 22] [4, 5]
def c55x20 : AC := .seq (.reg [m' 16 3, o' 17 (.call 53 [.t 16, i' 3]), o' 18 (.bin .gtr (.t 17) (i' 0))] [4, 5, 18]) (.cond (.t 18) c55x18 .skip)
def c55x22 : AC := .seq (.reg [m' 14 3, o' 15 (.call 105 [.t 14, i' 160]), m' 5 15] [3, 4, 5]) (.seq c55x20 c55x17)
def c55x23 : AC := .seq (.reg [o' 13 (.mksl [(.int .u8 0)] 1 (i' 256) (i' 256)), m' 4 13] [3, 4]) c55x22
def c55x24 : AC := .seq (.reg [m' 10 0, o' 11 (.build [(.slice none 0 0)] [(0, 1, (.t 10))]), o' 12 (.new 1 (.t 11)), m' 3 12] [3]) c55x23
def c55 : AC := .seq (.reg [o' 2 (.mv (.k (.slice none 0 0)))] [0]) c55x24
theorem k55 : kS Tryz.prog Tryz.f55 (lvs c55) = some c55 := by kernel_rfl
theorem e55 : enters Tryz.prog 55 = true := by kernel_rfl
theorem q55 : qS Tryz.prog Tryz.f55 = some [.t 2] := by kernel_rfl
def c105x1 : AC := .reg [m' 46 6, m' 47 8, o' 48 (.app 1 1 (.t 46) (.t 47)), m' 6 48] [0, 1, 5, 6]
def c105x3 : AC := .seq (.reg [m' 39 6, o' 40 (.len (.t 39)), m' 41 8, o' 42 (.len (.t 41)), o' 43 (.bin .add (.t 40) (.t 42)), m' 44 1, o' 45 (.bin .gtr (.t 43) (.t 44))] [0, 1, 5, 6, 8, 45]) (.cond (.t 45) (.exit 0) .skip)
def c105x5 : AC := .seq (.dreg [o' 31 (.fad 0 (.t 7)), o' 32 (.ld none (.t 31)), o' 33 (.cvt .u8 (.t 32)), o' 34 (.bsl [(.int .u8 0)] 1 [(0, (.t 33))]), m' 35 0, o' 36 (.ld (some 4) (.t 7)), o' 37 (.call 183 [.t 35, .t 36]), o' 38 (.app 1 1 (.t 34) (.t 37)), m' 8 38] (bf [[], [0, 1], [0, 2], [0, 3], [], [], [4, 6], [0, 7], [0, 8]]) [0, 1, 5, 6, 8]) (.seq c105x3 c105x1)
def c105x6 : AC := .seq (.dreg [o' 22 (.fad 1 (.t 5)), o' 23 (.ld none (.t 22)), m' 24 0, o' 25 (.fad 1 (.t 5)), o' 26 (.ld none (.t 25)), o' 27 (.len (.t 26)), o' 28 (.call 53 [.t 24, .t 27]), o' 29 (.idx 4 none (.t 23) (.t 28)), o' 30 (.ld (some 4) (.t 29)), o' 7 (.zero [(.int .i64 0), (.string ⟨#[]⟩), (.int .i64 0), (.slice none 0 0)]), n' (.st 4 (.t 7) (.t 30))] (bf [[], [0, 1], [], [], [3, 4], [3, 5], [2, 6], [0, 7], [0, 8], [], [0, 10]]) [0, 1, 5, 6, 7]) c105x5
def c105x9 : AC := .seq (.reg [m' 10 0, o' 11 (.nilc (.t 10)), o' 12 (.fad 0 (.t 11)), o' 13 (.ld none (.t 12)), o' 14 (.len (.t 13)), o' 15 (.bin .gtr (.t 14) (i' 0)), m' 16 15, gT' 17 16 (.fad 1 (.t 5)), gT' 18 16 (.ld none (.t 17)), gT' 19 16 (.len (.t 18)), gT' 20 16 (.bin .gtr (.t 19) (i' 0)), o' 21 (.pick (.t 16) (.t 20) kF')] [0, 1, 5, 6, 21]) (.cond (.t 21) .skip (.exit 0))
def c105x14 : AC := .seq (.reg [o' 6 (.mv (.k (.slice none 0 0)))] [0, 1, 5, 6]) (.seq (.block 0 (.loop (.seq c105x9 (.block 1 c105x6)))) (.seq (.reg [m' 49 6, m' 4 49] [4]) .ret))
def c105x15 : AC := .seq (.reg [o' 9 (.call 52 []), o' 5 (.zero [(.string ⟨#[]⟩), (.slice none 0 0), (.slice none 0 0), (.slice none 0 0), (.slice none 0 0)]), n' (.st 5 (.t 5) (.t 9))] [0, 1, 5]) c105x14
def c105 : AC := .seq (.reg [o' 4 (.mv (.k (.slice none 0 0)))] [0, 1]) c105x15
theorem k105 : kS Tryz.prog Tryz.f105 (lvs c105) = some c105 := by kernel_rfl
theorem e105 : enters Tryz.prog 105 = true := by kernel_rfl
theorem q105 : qS Tryz.prog Tryz.f105 = some [.t 4] := by kernel_rfl
def c106x0 : AC := .seq (.reg [m' 3 0, o' 4 (.call 107 [.t 3, i' 0]), m' 5 0, o' 6 (.call 107 [.t 5, i' 4]), o' 7 (.mnx true [.t 4, .t 6]), m' 2 7] [2]) .ret
def c106 : AC := .seq (.reg [o' 2 (.mv (.k (.int .u8 0)))] [0]) c106x0
theorem k106 : kS Tryz.prog Tryz.f106 (lvs c106) = some c106 := by kernel_rfl
theorem e106 : enters Tryz.prog 106 = true := by kernel_rfl
theorem q106 : qS Tryz.prog Tryz.f106 = some [.t 2] := by kernel_rfl
def c107x1 : AC := .reg [o' 27 (.bin .add (.t 10) (i' 1)), m' 10 27] [0, 1, 8, 9, 10]
def c107x2 : AC := .seq (.reg [o' 24 (.fad 0 (.t 6)), o' 25 (.ld none (.t 24)), o' 26 (.cvt .u8 (.t 25)), m' 4 26] [4]) .ret
def c107x4 : AC := .seq (.reg [o' 14 (.fad 1 (.t 6)), o' 15 (.ld none (.t 14)), m' 16 0, o' 17 (.bin .eql (.t 15) (.t 16)), m' 18 17, gT' 19 18 (.fad 2 (.t 6)), gT' 20 18 (.ld none (.t 19)), gT' 21 18 (.mv (.t 1)), gT' 22 18 (.bin .eql (.t 20) (.t 21)), o' 23 (.pick (.t 18) (.t 22) kF')] [0, 1, 6, 8, 9, 10, 23]) (.cond (.t 23) c107x2 .skip)
def c107x5 : AC := .seq (.reg [o' 12 (.idx 4 none (.t 8) (.t 10)), o' 13 (.ld (some 4) (.t 12)), o' 6 (.zero [(.int .i64 0), (.string ⟨#[]⟩), (.int .i64 0), (.slice none 0 0)]), n' (.st 4 (.t 6) (.t 13))] [0, 1, 6, 8, 9, 10]) c107x4
def c107x10 : AC := .seq (.reg [o' 11 (.bin .lss (.t 10) (.t 9))] [0, 1, 8, 9, 10, 11]) (.seq (.cond (.t 11) .skip (.exit 0)) (.seq (.block 1 c107x5) c107x1))
def c107x13 : AC := .seq (.reg [o' 7 (.call 52 []), o' 8 (.fld 1 none (.t 7)), o' 9 (.len (.t 8)), o' 10 (.mv (i' 0))] [0, 1, 8, 9, 10]) (.block 0 (.loop c107x10))
def c107 : AC := .seq (.reg [o' 4 (.mv (.k (.int .u8 0)))] [0, 1]) (.seq c107x13 (.seq (.reg [o' 4 (.mv (.k (.int .u8 0)))] [4]) .ret))
theorem k107 : kS Tryz.prog Tryz.f107 (lvs c107) = some c107 := by kernel_rfl
theorem e107 : enters Tryz.prog 107 = true := by kernel_rfl
theorem q107 : qS Tryz.prog Tryz.f107 = some [.t 4] := by kernel_rfl
def c183x1 : AC := .seq (.reg [m' 10 0, o' 11 (.call 53 [.t 10, i' 256]), o' 12 (.cvt .u8 (.t 11)), o' 13 (.bsl [(.int .u8 0)] 1 [(0, (.t 12))]), m' 4 13] [4]) .ret
def c183x2 : AC := .seq (.reg [m' 18 0, o' 19 (.call 53 [.t 18, i' 16]), o' 20 (.cvt .u8 (.t 19)), o' 21 (.bsl [(.int .u8 0)] 1 [(0, (.t 20))]), m' 4 21] [4]) .ret
def c183x3 : AC := .seq (.reg [m' 24 0, o' 25 (.call 53 [.t 24, i' 8]), o' 26 (.bin .sub (.t 25) (i' 3)), o' 27 (.cvt .u8 (.t 26)), o' 28 (.bsl [(.int .u8 0)] 1 [(0, (.t 27))]), m' 4 28] [4]) .ret
def c183x4 : AC := .seq (.reg [m' 53 5, o' 54 (.cvt .u8 (.t 53)), m' 55 5, o' 56 (.bin .shr (.t 55) (.k (.int .u64 8))), o' 57 (.cvt .u8 (.t 56)), o' 58 (.bsl [(.int .u8 0)] 2 [(0, (.t 54)), (1, (.t 57))]), m' 4 58] [4]) .ret
def c183x5 : AC := .reg [m' 44 0, o' 45 (.call 53 [.t 44, i' 64]), o' 46 (.bin .add (i' 65280) (.t 45)), m' 5 46] [5]
def c183x6 : AC := .reg [m' 50 0, o' 51 (.call 53 [.t 50, i' 64]), o' 52 (.bin .add (i' 512) (.t 51)), m' 5 52] [5]
def c183x8 : AC := .seq (.reg [m' 47 0, o' 48 (.call 53 [.t 47, i' 3]), o' 49 (.bin .eql (.t 48) (i' 0))] [0, 5, 49]) (.cond (.t 49) c183x6 .skip)
def c183x10 : AC := .seq (.reg [o' 36 (.fad 1 (.t 3)), o' 37 (.ld none (.t 36)), o' 38 (.bin .eql (.t 37) (.k (.string ⟨#[106, 109, 112]⟩))), m' 39 38, gF' 40 39 (.fad 1 (.t 3)), gF' 41 39 (.ld none (.t 40)), gF' 42 39 (.bin .eql (.t 41) (.k (.string ⟨#[106, 115, 114]⟩))), o' 43 (.pick (.t 39) kT' (.t 42))] [0, 5, 43]) (.cond (.t 43) c183x5 c183x8)
def c183x12 : AC := .seq (.reg [m' 33 0, o' 34 (.call 53 [.t 33, i' 48]), o' 35 (.bin .add (i' 57344) (.t 34)), m' 5 35] [0, 3, 5]) (.seq c183x10 c183x4)
def c183x16 : AC := .seq (.reg [o' 31 (.bin .eql (.t 7) (i' 5)), m' 29 31] [0, 3, 7, 29]) (.cond (.t 29) .skip (.reg [o' 32 (.bin .eql (.t 7) (i' 6)), m' 29 32] [0, 3, 29]))
def c183x18 : AC := .seq (.reg [o' 30 (.bin .eql (.t 7) (i' 4)), m' 29 30] [0, 3, 7, 29]) (.cond (.t 29) .skip c183x16)
def c183x21 : AC := .seq (.reg [o' 23 (.bin .eql (.t 7) (i' 7)), m' 22 23] [0, 3, 7, 22]) (.cond (.t 22) c183x3 (.seq c183x18 (.cond (.t 29) c183x12 .skip)))
def c183x23 : AC := .reg [o' 17 (.bin .eql (.t 7) (i' 8)), m' 14 17] [0, 3, 7, 14]
def c183x25 : AC := .seq (.reg [o' 16 (.bin .eql (.t 7) (i' 3)), m' 14 16] [0, 3, 7, 14]) (.cond (.t 14) .skip c183x23)
def c183x27 : AC := .seq (.reg [o' 15 (.bin .eql (.t 7) (i' 2)), m' 14 15] [0, 3, 7, 14]) (.cond (.t 14) .skip c183x25)
def c183x30 : AC := .seq (.reg [o' 9 (.bin .eql (.t 7) (i' 1)), m' 8 9] [0, 3, 7, 8]) (.cond (.t 8) c183x1 (.seq c183x27 (.cond (.t 14) c183x2 c183x21)))
def c183x32 : AC := .seq (.reg [o' 6 (.fad 2 (.t 3)), o' 7 (.ld none (.t 6))] [0, 3, 7]) (.block 0 c183x30)
def c183 : AC := .seq (.reg [o' 3 (.new 4 (.t 1)), o' 4 (.mv (.k (.slice none 0 0)))] [0, 3]) (.seq c183x32 (.seq (.reg [o' 4 (.mv (.k (.slice none 0 0)))] [4]) .ret))
theorem k183 : kS Tryz.prog Tryz.f183 (lvs c183) = some c183 := by kernel_rfl
theorem e183 : enters Tryz.prog 183 = true := by kernel_rfl
theorem q183 : qS Tryz.prog Tryz.f183 = some [.t 4] := by kernel_rfl
end Go.Proofs.YtpfagchhmfigfaaGreat.Code

namespace Go.Proofs.YtpfagchhmfigfaaGreat.Code
open Go Go.Proofs.YtpfagchhmfigfaaGreat.Calc
set_option maxRecDepth 100000
def c108x1 : AC := .reg [o' 48 (.bin .add (.t 25) (i' 1)), m' 25 48] [23, 24, 25]
def c108x4 : AC := .seq (.reg [m' 29 4, o' 30 (.bin .geq (.t 29) (.k (.int .u8 97))), m' 31 30, gT' 32 31 (.mv (.t 4)), gT' 33 31 (.bin .leq (.t 32) (.k (.int .u8 122))), o' 34 (.pick (.t 31) (.t 33) kF'), m' 35 34, gF' 36 35 (.mv (.t 4)), gF' 37 35 (.bin .geq (.t 36) (.k (.int .u8 48))), gF' 38 35 (.mv (.t 37)), gT' 39 38 (.mv (.t 4)), gT' 40 38 (.bin .leq (.t 39) (.k (.int .u8 57))), gF' 41 35 (.pick (.t 38) (.t 40) kF'), o' 42 (.pick (.t 35) kT' (.t 41)), m' 43 42, gF' 44 43 (.mv (.t 4)), gF' 45 43 (.bin .eql (.t 44) (.k (.int .u8 45))), o' 46 (.pick (.t 43) kT' (.t 45)), o' 47 (.not (.t 46))] [23, 24, 25, 47]) (.cond (.t 47) (.seq (.reg [o' 2 (.mv kF')] [2]) .ret) .skip)
def c108x5 : AC := .seq (.reg [o' 27 (.idx 1 none (.t 23) (.t 25)), o' 28 (.ld none (.t 27)), m' 4 28] [4, 23, 24, 25]) c108x4
def c108x10 : AC := .seq (.reg [o' 26 (.bin .lss (.t 25) (.t 24))] [23, 24, 25, 26]) (.seq (.cond (.t 26) .skip (.exit 0)) (.seq (.block 1 c108x5) c108x1))
def c108x13 : AC := .seq (.reg [m' 22 0, o' 23 (.s2b (.t 22)), o' 24 (.len (.t 23)), o' 25 (.mv (i' 0))] [23, 24, 25]) (.block 0 (.loop c108x10))
def c108x17 : AC := .seq (.reg [m' 5 0, o' 6 (.bin .eql (.t 5) (.k (.string ⟨#[]⟩))), m' 7 6, gF' 8 7 (.mv (.t 0)), gF' 9 7 (.lens (.t 8)), gF' 10 7 (.bin .gtr (.t 9) (i' 20)), o' 11 (.pick (.t 7) kT' (.t 10)), m' 12 11, gF' 13 12 (.mv (.t 0)), gF' 14 12 (.ixs (.t 13) (i' 0)), gF' 15 12 (.bin .lss (.t 14) (.k (.int .u8 97))), o' 16 (.pick (.t 12) kT' (.t 15)), m' 17 16, gF' 18 17 (.mv (.t 0)), gF' 19 17 (.ixs (.t 18) (i' 0)), gF' 20 17 (.bin .gtr (.t 19) (.k (.int .u8 122))), o' 21 (.pick (.t 17) kT' (.t 20))] [0, 21]) (.cond (.t 21) (.seq (.reg [o' 2 (.mv kF')] [2]) .ret) .skip)
def c108 : AC := .seq (.reg [o' 2 (.mv kF')] [0]) (.seq c108x17 (.seq c108x13 (.seq (.reg [o' 2 (.mv kT')] [2]) .ret)))
theorem k108 : kS Tryz.prog Tryz.f108 (lvs c108) = some c108 := by kernel_rfl
theorem e108 : enters Tryz.prog 108 = true := by kernel_rfl
theorem q108 : qS Tryz.prog Tryz.f108 = some [.t 2] := by kernel_rfl
def c109x1 : AC := .reg [o' 99 (.bin .add (.t 90) (i' 1)), m' 90 99] [88, 89, 90]
def c109x4 : AC := .seq (.reg [m' 96 8, o' 97 (.bin .neq (.t 96) (i' 0))] [8, 88, 89, 90, 97]) (.cond (.t 97) (.seq (.reg [m' 98 8, m' 2 98] [2]) .ret) .skip)
def c109x5 : AC := .seq (.reg [m' 94 7, o' 95 (.call 187 [.t 94]), m' 8 95] [8, 88, 89, 90]) c109x4
def c109x6 : AC := .seq (.reg [o' 92 (.idx 1 none (.t 88) (.t 90)), o' 93 (.ld none (.t 92)), m' 7 93] [7, 88, 89, 90]) c109x5
def c109x11 : AC := .seq (.reg [o' 91 (.bin .lss (.t 90) (.t 89))] [88, 89, 90, 91]) (.seq (.cond (.t 91) .skip (.exit 4)) (.seq (.block 5 c109x6) c109x1))
def c109x14 : AC := .seq (.reg [o' 82 (.fad 2 (.t 1)), o' 83 (.ld none (.t 82)), o' 84 (.fad 3 (.t 1)), o' 85 (.ld none (.t 84)), o' 86 (.fad 4 (.t 1)), o' 87 (.ld none (.t 86)), o' 88 (.bsl [(.slice none 0 0)] 3 [(0, (.t 83)), (1, (.t 85)), (2, (.t 87))]), o' 89 (.len (.t 88)), o' 90 (.mv (i' 0))] [88, 89, 90]) (.block 4 (.loop c109x11))
def c109x16 : AC := .reg [o' 81 (.bin .add (.t 22) (i' 1)), m' 22 81] [1, 20, 21, 22]
def c109x19 : AC := .seq (.dreg [o' 74 (.fad 3 (.t 4)), o' 75 (.ld none (.t 74)), o' 76 (.call 188 [.t 75]), o' 77 (.fad 2 (.t 4)), o' 78 (.ld none (.t 77)), o' 79 (.call 184 [.t 78]), o' 80 (.bin .neq (.t 76) (.t 79))] (bf [[], [0, 1], [0, 2], [], [3, 4], [0, 5], [0, 6]]) [1, 20, 21, 22, 80]) (.cond (.t 80) (.seq (.reg [o' 2 (.mv (i' 3))] [2]) .ret) .skip)
def c109x22 : AC := .seq (.reg [m' 71 5, o' 72 (.bin .neq (.t 71) (i' 0))] [1, 4, 5, 20, 21, 22, 72]) (.cond (.t 72) (.seq (.reg [m' 73 5, m' 2 73] [2]) .ret) .skip)
def c109x23 : AC := .seq (.reg [o' 68 (.fad 3 (.t 4)), o' 69 (.ld none (.t 68)), o' 70 (.call 187 [.t 69]), m' 5 70] [1, 4, 5, 20, 21, 22]) c109x22
def c109x31 : AC := .seq (.reg [o' 62 (.fad 1 (.t 1)), o' 63 (.ld none (.t 62)), m' 64 3, o' 65 (.slc 4 (.t 63) none (some (.t 64))), o' 66 (.mkf 186 [.t 4]), o' 67 (.call 185 [.t 65, .t 66]), m' 61 67] [1, 4, 20, 21, 22, 61]) (.cond (.t 61) (.seq (.reg [o' 2 (.mv (i' 5))] [2]) .ret) .skip)
def c109x33 : AC := .seq (.reg [o' 57 (.fad 2 (.t 4)), o' 58 (.ld none (.t 57)), o' 59 (.call 184 [.t 58]), o' 60 (.bin .lss (.t 59) (i' 0)), m' 56 60] [1, 3, 4, 20, 21, 22, 56]) (.cond (.t 56) (.seq (.reg [o' 2 (.mv (i' 8))] [2]) .ret) c109x31)
def c109x35 : AC := .seq (.reg [o' 52 (.fad 1 (.t 4)), o' 53 (.ld none (.t 52)), o' 54 (.call 108 [.t 53]), o' 55 (.not (.t 54)), m' 51 55] [1, 3, 4, 20, 21, 22, 51]) (.cond (.t 51) (.seq (.reg [o' 2 (.mv (i' 15))] [2]) .ret) c109x33)
def c109x37 : AC := .seq (.dreg [m' 37 3, o' 38 (.bin .gtr (.t 37) (i' 0)), m' 39 38, gT' 40 39 (.fad 0 (.t 4)), gT' 41 39 (.ld none (.t 40)), gT' 42 39 (.fad 1 (.t 1)), gT' 43 39 (.ld none (.t 42)), gT' 44 39 (.mv (.t 3)), gT' 45 39 (.bin .sub (.t 44) (i' 1)), gT' 46 39 (.idx 4 none (.t 43) (.t 45)), gT' 47 39 (.fad 0 (.t 46)), gT' 48 39 (.ld none (.t 47)), gT' 49 39 (.bin .leq (.t 41) (.t 48)), o' 50 (.pick (.t 39) (.t 49) kF'), m' 36 50] (bf [[], [0, 1], [0, 2], [0, 3], [0, 4], [0, 3], [0, 3, 5, 6], [0, 3], [0, 3, 7, 8], [0, 3, 5, 9], [0, 3, 5, 10], [0, 3, 5, 11], [0, 12], [0, 13], [0, 14]]) [1, 3, 4, 20, 21, 22, 36]) (.cond (.t 36) (.seq (.reg [o' 2 (.mv (i' 9))] [2]) .ret) c109x35)
def c109x39 : AC := .seq (.reg [o' 28 (.fad 0 (.t 4)), o' 29 (.ld none (.t 28)), o' 30 (.bin .lss (.t 29) (i' 0)), m' 31 30, gF' 32 31 (.fad 0 (.t 4)), gF' 33 31 (.ld none (.t 32)), gF' 34 31 (.bin .gtr (.t 33) (i' 255)), o' 35 (.pick (.t 31) kT' (.t 34)), m' 27 35] [1, 3, 4, 20, 21, 22, 27]) (.cond (.t 27) (.seq (.reg [o' 2 (.mv (i' 1))] [2]) .ret) c109x37)
def c109x42 : AC := .seq (.reg [m' 24 22, o' 25 (.idx 4 none (.t 20) (.t 22)), o' 26 (.ld (some 4) (.t 25)), o' 4 (.zero [(.int .i64 0), (.string ⟨#[]⟩), (.int .i64 0), (.slice none 0 0)]), m' 3 24, n' (.st 4 (.t 4) (.t 26))] [1, 3, 4, 20, 21, 22]) (.seq (.block 3 c109x39) (.seq c109x23 c109x19))
def c109x47 : AC := .seq (.reg [o' 23 (.bin .lss (.t 22) (.t 21))] [1, 20, 21, 22, 23]) (.seq (.cond (.t 23) .skip (.exit 1)) (.seq (.block 2 c109x42) c109x16))
def c109x50 : AC := .seq (.reg [o' 19 (.fad 1 (.t 1)), o' 20 (.ld none (.t 19)), o' 21 (.len (.t 20)), o' 22 (.mv (i' 0))] [1, 20, 21, 22]) (.block 1 (.loop c109x47))
def c109x55 : AC := .seq (.reg [o' 15 (.fad 1 (.t 1)), o' 16 (.ld none (.t 15)), o' 17 (.len (.t 16)), o' 18 (.bin .gtr (.t 17) (i' 256)), m' 14 18] [1, 14]) (.cond (.t 14) (.seq (.reg [o' 2 (.mv (i' 2))] [2]) .ret) .skip)
def c109x57 : AC := .seq (.reg [o' 10 (.fad 0 (.t 1)), o' 11 (.ld none (.t 10)), o' 12 (.call 108 [.t 11]), o' 13 (.not (.t 12)), m' 9 13] [1, 9]) (.cond (.t 9) (.seq (.reg [o' 2 (.mv (i' 15))] [2]) .ret) c109x55)
def c109 : AC := .seq (.reg [o' 1 (.new 5 (.t 0)), o' 2 (.mv (i' 0))] [1]) (.seq (.block 0 c109x57) (.seq c109x50 (.seq c109x14 (.seq (.reg [o' 2 (.mv (i' 0))] [2]) .ret))))
theorem k109 : kS Tryz.prog Tryz.f109 (lvs c109) = some c109 := by kernel_rfl
theorem e109 : enters Tryz.prog 109 = true := by kernel_rfl
theorem q109 : qS Tryz.prog Tryz.f109 = some [.t 2] := by kernel_rfl
def c184x7 : AC := .seq (.reg [o' 14 (.bin .eql (.t 3) (i' 7)), m' 10 14] [3, 10]) (.cond (.t 10) .skip (.reg [o' 15 (.bin .eql (.t 3) (i' 8)), m' 10 15] [10]))
def c184x9 : AC := .seq (.reg [o' 13 (.bin .eql (.t 3) (i' 3)), m' 10 13] [3, 10]) (.cond (.t 10) .skip c184x7)
def c184x11 : AC := .seq (.reg [o' 12 (.bin .eql (.t 3) (i' 2)), m' 10 12] [3, 10]) (.cond (.t 10) .skip c184x9)
def c184x13 : AC := .seq (.reg [o' 11 (.bin .eql (.t 3) (i' 1)), m' 10 11] [3, 10]) (.cond (.t 10) .skip c184x11)
def c184x18 : AC := .seq (.reg [o' 8 (.bin .eql (.t 3) (i' 5)), m' 6 8] [3, 6]) (.cond (.t 6) .skip (.reg [o' 9 (.bin .eql (.t 3) (i' 6)), m' 6 9] [3, 6]))
def c184x20 : AC := .seq (.reg [o' 7 (.bin .eql (.t 3) (i' 4)), m' 6 7] [3, 6]) (.cond (.t 6) .skip c184x18)
def c184x23 : AC := .seq (.reg [o' 5 (.bin .eql (.t 3) (i' 0)), m' 4 5] [3, 4]) (.cond (.t 4) (.seq (.reg [o' 2 (.mv (i' 0))] [2]) .ret) (.seq c184x20 (.cond (.t 6) (.seq (.reg [o' 2 (.mv (i' 2))] [2]) .ret) (.seq c184x13 (.cond (.t 10) (.seq (.reg [o' 2 (.mv (i' 1))] [2]) .ret) .skip)))))
def c184 : AC := .seq (.reg [o' 2 (.mv (i' 0))] [0]) (.seq (.seq (.reg [m' 3 0] [3]) (.block 0 c184x23)) (.seq (.reg [o' 2 (.mv (.k (.int .i64 (-1))))] [2]) .ret))
theorem k184 : kS Tryz.prog Tryz.f184 (lvs c184) = some c184 := by kernel_rfl
theorem e184 : enters Tryz.prog 184 = true := by kernel_rfl
theorem q184 : qS Tryz.prog Tryz.f184 = some [.t 2] := by kernel_rfl
def c186x0 : AC := .seq (.reg [o' 4 (.fad 1 (.t 2)), o' 5 (.ld none (.t 4)), o' 6 (.fad 1 (.t 1)), o' 7 (.ld none (.t 6)), o' 8 (.bin .eql (.t 5) (.t 7)), m' 9 8, gT' 10 9 (.fad 2 (.t 2)), gT' 11 9 (.ld none (.t 10)), gT' 12 9 (.fad 2 (.t 1)), gT' 13 9 (.ld none (.t 12)), gT' 14 9 (.bin .eql (.t 11) (.t 13)), o' 15 (.pick (.t 9) (.t 14) kF'), m' 3 15] [3]) .ret
def c186 : AC := .seq (.reg [o' 2 (.new 4 (.t 0)), o' 3 (.mv kF')] [1, 2]) c186x0
theorem k186 : kS Tryz.prog Tryz.f186 (lvs c186) = some c186 := by kernel_rfl
theorem e186 : enters Tryz.prog 186 = true := by kernel_rfl
theorem q186 : qS Tryz.prog Tryz.f186 = some [.t 3] := by kernel_rfl
def c187x1 : AC := .reg [o' 20 (.bin .add (.t 11) (i' 1)), m' 11 20] [9, 10, 11]
def c187x4 : AC := .seq (.reg [m' 17 5, o' 18 (.bin .neq (.t 17) (i' 0))] [5, 9, 10, 11, 18]) (.cond (.t 18) (.seq (.reg [m' 19 5, m' 2 19] [2]) .ret) .skip)
def c187x5 : AC := .seq (.reg [o' 15 (.ld (some 4) (.t 4)), o' 16 (.call 235 [.t 15]), m' 5 16] [5, 9, 10, 11]) c187x4
def c187x6 : AC := .seq (.reg [o' 13 (.idx 4 none (.t 9) (.t 11)), o' 14 (.ld (some 4) (.t 13)), o' 4 (.zero [(.int .i64 0), (.int .i64 0), (.int .i64 0), (.slice none 0 0)]), n' (.st 4 (.t 4) (.t 14))] [4, 9, 10, 11]) c187x5
def c187x11 : AC := .seq (.reg [o' 12 (.bin .lss (.t 11) (.t 10))] [9, 10, 11, 12]) (.seq (.cond (.t 12) .skip (.exit 0)) (.seq (.block 1 c187x6) c187x1))
def c187x14 : AC := .seq (.reg [m' 9 0, o' 10 (.len (.t 9)), o' 11 (.mv (i' 0))] [9, 10, 11]) (.block 0 (.loop c187x11))
def c187x18 : AC := .seq (.reg [m' 6 0, o' 7 (.len (.t 6)), o' 8 (.bin .gtr (.t 7) (i' 8))] [0, 8]) (.cond (.t 8) (.seq (.reg [o' 2 (.mv (i' 2))] [2]) .ret) .skip)
def c187 : AC := .seq (.reg [o' 2 (.mv (i' 0))] [0]) (.seq c187x18 (.seq c187x14 (.seq (.reg [o' 2 (.mv (i' 0))] [2]) .ret)))
theorem k187 : kS Tryz.prog Tryz.f187 (lvs c187) = some c187 := by kernel_rfl
theorem e187 : enters Tryz.prog 187 = true := by kernel_rfl
theorem q187 : qS Tryz.prog Tryz.f187 = some [.t 2] := by kernel_rfl
def c188x2 : AC := .reg [m' 20 3, o' 21 (.bin .add (.t 20) (i' 1)), m' 3 21] [3, 6, 7, 8]
def c188x4 : AC := .seq (.reg [o' 12 (.fad 0 (.t 5)), o' 13 (.ld none (.t 12)), o' 14 (.bin .eql (.t 13) (i' 1)), m' 15 14, gT' 16 15 (.fad 1 (.t 5)), gT' 17 15 (.ld none (.t 16)), gT' 18 15 (.bin .eql (.t 17) (i' 0)), o' 19 (.pick (.t 15) (.t 18) kF')] [3, 6, 7, 8, 19]) (.cond (.t 19) c188x2 .skip)
def c188x5 : AC := .seq (.reg [o' 10 (.idx 4 none (.t 6) (.t 8)), o' 11 (.ld (some 4) (.t 10)), o' 5 (.zero [(.int .i64 0), (.int .i64 0), (.int .i64 0), (.slice none 0 0)]), n' (.st 4 (.t 5) (.t 11))] [3, 5, 6, 7, 8]) c188x4
def c188x10 : AC := .seq (.reg [o' 9 (.bin .lss (.t 8) (.t 7))] [3, 6, 7, 8, 9]) (.seq (.cond (.t 9) .skip (.exit 0)) (.seq (.block 1 c188x5) (.reg [o' 22 (.bin .add (.t 8) (i' 1)), m' 8 22] [3, 6, 7, 8])))
def c188x13 : AC := .seq (.reg [m' 6 0, o' 7 (.len (.t 6)), o' 8 (.mv (i' 0))] [3, 6, 7, 8]) (.block 0 (.loop c188x10))
def c188 : AC := .seq (.reg [o' 2 (.mv (i' 0))] [0]) (.seq (.reg [o' 3 (.mv (i' 0))] [0, 3]) (.seq c188x13 (.seq (.reg [m' 23 3, m' 2 23] [2]) .ret)))
theorem k188 : kS Tryz.prog Tryz.f188 (lvs c188) = some c188 := by kernel_rfl
theorem e188 : enters Tryz.prog 188 = true := by kernel_rfl
theorem q188 : qS Tryz.prog Tryz.f188 = some [.t 2] := by kernel_rfl
def c228x0 : AC := .seq (.reg [m' 3 0, o' 4 (.bin .eql (.t 3) (i' 7)), m' 5 4, gF' 6 5 (.mv (.t 0)), gF' 7 5 (.bin .eql (.t 6) (i' 8)), o' 8 (.pick (.t 5) kT' (.t 7)), m' 2 8] [2]) .ret
def c228 : AC := .seq (.reg [o' 2 (.mv kF')] [0]) c228x0
theorem k228 : kS Tryz.prog Tryz.f228 (lvs c228) = some c228 := by kernel_rfl
theorem e228 : enters Tryz.prog 228 = true := by kernel_rfl
theorem q228 : qS Tryz.prog Tryz.f228 = some [.t 2] := by kernel_rfl
def c235x1 : AC := .reg [o' 66 (.bin .add (.t 57) (i' 1)), m' 57 66] [55, 56, 57]
def c235x4 : AC := .seq (.reg [m' 63 5, o' 64 (.bin .neq (.t 63) (i' 0))] [5, 55, 56, 57, 64]) (.cond (.t 64) (.seq (.reg [m' 65 5, m' 2 65] [2]) .ret) .skip)
def c235x5 : AC := .seq (.reg [o' 61 (.ld (some 4) (.t 4)), o' 62 (.call 250 [.t 61]), m' 5 62] [5, 55, 56, 57]) c235x4
def c235x6 : AC := .seq (.reg [o' 59 (.idx 4 none (.t 55) (.t 57)), o' 60 (.ld (some 4) (.t 59)), o' 4 (.zero [(.int .i64 0), (.int .i64 0), (.int .i64 0), (.int .i64 0)]), n' (.st 4 (.t 4) (.t 60))] [4, 55, 56, 57]) c235x5
def c235x11 : AC := .seq (.reg [o' 58 (.bin .lss (.t 57) (.t 56))] [55, 56, 57, 58]) (.seq (.cond (.t 58) .skip (.exit 1)) (.seq (.block 2 c235x6) c235x1))
def c235x14 : AC := .seq (.reg [o' 54 (.fad 3 (.t 1)), o' 55 (.ld none (.t 54)), o' 56 (.len (.t 55)), o' 57 (.mv (i' 0))] [55, 56, 57]) (.block 1 (.loop c235x11))
def c235x21 : AC := .seq (.reg [o' 50 (.fad 3 (.t 1)), o' 51 (.ld none (.t 50)), o' 52 (.len (.t 51)), o' 53 (.bin .gtr (.t 52) (i' 6)), m' 49 53] [1, 49]) (.cond (.t 49) (.seq (.reg [o' 2 (.mv (i' 2))] [2]) .ret) .skip)
def c235x23 : AC := .seq (.reg [o' 30 (.fad 1 (.t 1)), o' 31 (.ld none (.t 30)), o' 32 (.bin .lss (.t 31) (i' 0)), m' 33 32, gF' 34 33 (.fad 1 (.t 1)), gF' 35 33 (.ld none (.t 34)), gF' 36 33 (.bin .geq (.t 35) (i' 12)), o' 37 (.pick (.t 33) kT' (.t 36)), m' 38 37, gF' 39 38 (.fad 2 (.t 1)), gF' 40 38 (.ld none (.t 39)), gF' 41 38 (.call 249 [.t 40]), gF' 42 38 (.not (.t 41)), o' 43 (.pick (.t 38) kT' (.t 42)), m' 44 43, gF' 45 44 (.fad 2 (.t 1)), gF' 46 44 (.ld none (.t 45)), gF' 47 44 (.call 228 [.t 46]), o' 48 (.pick (.t 44) kT' (.t 47)), m' 29 48] [1, 29]) (.cond (.t 29) (.seq (.reg [o' 2 (.mv (i' 1))] [2]) .ret) c235x21)
def c235x25 : AC := .seq (.reg [o' 16 (.fad 0 (.t 1)), o' 17 (.ld none (.t 16)), o' 18 (.bin .eql (.t 17) (i' 0)), m' 19 18, gT' 20 19 (.fad 1 (.t 1)), gT' 21 19 (.ld none (.t 20)), gT' 22 19 (.bin .neq (.t 21) (i' 0)), gT' 23 19 (.mv (.t 22)), gF' 24 23 (.fad 2 (.t 1)), gF' 25 23 (.ld none (.t 24)), gF' 26 23 (.bin .neq (.t 25) (i' 0)), gT' 27 19 (.pick (.t 23) kT' (.t 26)), o' 28 (.pick (.t 19) (.t 27) kF'), m' 15 28] [1, 15]) (.cond (.t 15) (.seq (.reg [o' 2 (.mv (i' 3))] [2]) .ret) c235x23)
def c235x27 : AC := .seq (.reg [o' 7 (.fad 0 (.t 1)), o' 8 (.ld none (.t 7)), o' 9 (.bin .lss (.t 8) (i' 0)), m' 10 9, gF' 11 10 (.fad 0 (.t 1)), gF' 12 10 (.ld none (.t 11)), gF' 13 10 (.bin .gtr (.t 12) (i' 2)), o' 14 (.pick (.t 10) kT' (.t 13)), m' 6 14] [1, 6]) (.cond (.t 6) (.seq (.reg [o' 2 (.mv (i' 8))] [2]) .ret) c235x25)
def c235 : AC := .seq (.reg [o' 1 (.new 4 (.t 0)), o' 2 (.mv (i' 0))] [1]) (.seq (.block 0 c235x27) (.seq c235x14 (.seq (.reg [o' 2 (.mv (i' 0))] [2]) .ret)))
theorem k235 : kS Tryz.prog Tryz.f235 (lvs c235) = some c235 := by kernel_rfl
theorem e235 : enters Tryz.prog 235 = true := by kernel_rfl
theorem q235 : qS Tryz.prog Tryz.f235 = some [.t 2] := by kernel_rfl
def c249x0 : AC := .seq (.reg [m' 3 0, o' 4 (.bin .geq (.t 3) (i' 0)), m' 5 4, gT' 6 5 (.mv (.t 0)), gT' 7 5 (.bin .lss (.t 6) (i' 9)), o' 8 (.pick (.t 5) (.t 7) kF'), m' 2 8] [2]) .ret
def c249 : AC := .seq (.reg [o' 2 (.mv kF')] [0]) c249x0
theorem k249 : kS Tryz.prog Tryz.f249 (lvs c249) = some c249 := by kernel_rfl
theorem e249 : enters Tryz.prog 249 = true := by kernel_rfl
theorem q249 : qS Tryz.prog Tryz.f249 = some [.t 2] := by kernel_rfl
def c250x3 : AC := .seq (.dreg [o' 63 (.fad 1 (.t 1)), o' 64 (.ld none (.t 63)), m' 65 3, o' 66 (.call 253 [.t 64, .t 65]), o' 67 (.not (.t 66)), m' 68 67, gF' 69 68 (.fad 2 (.t 1)), gF' 70 68 (.ld none (.t 69)), gF' 71 68 (.mv (.t 4)), gF' 72 68 (.call 253 [.t 70, .t 71]), gF' 73 68 (.not (.t 72)), o' 74 (.pick (.t 68) kT' (.t 73)), m' 75 74, gF' 76 75 (.mv (.t 3)), gF' 77 75 (.bin .eql (.t 76) (.k (.int .u8 115))), gF' 78 75 (.mv (.t 77)), gT' 79 78 (.fad 1 (.t 1)), gT' 80 78 (.ld none (.t 79)), gT' 81 78 (.call 228 [.t 80]), gT' 82 78 (.fad 2 (.t 1)), gT' 83 78 (.ld none (.t 82)), gT' 84 78 (.call 228 [.t 83]), gT' 85 78 (.eqb true (.t 81) (.t 84)), gF' 86 75 (.pick (.t 78) (.t 85) kF'), o' 87 (.pick (.t 75) kT' (.t 86)), m' 88 87, gF' 89 88 (.fad 3 (.t 1)), gF' 90 88 (.ld none (.t 89)), gF' 91 88 (.bin .lss (.t 90) (i' 0)), o' 92 (.pick (.t 88) kT' (.t 91)), m' 93 92, gF' 94 93 (.fad 3 (.t 1)), gF' 95 93 (.ld none (.t 94)), gF' 96 93 (.mv (.t 6)), gF' 97 93 (.bin .gtr (.t 95) (.t 96)), o' 98 (.pick (.t 93) kT' (.t 97))] (bf [[], [0, 1], [], [0, 3], [0, 4], [0, 5], [0, 6], [0, 7], [0, 6], [0, 9], [0, 10], [0, 11], [0, 12], [0, 13], [0, 14], [0, 15], [0, 16], [0, 17], [0, 18], [0, 16], [0, 16, 19, 20], [0, 21], [0, 22], [0, 23], [0, 24], [0, 25], [0, 26], [0, 27], [0, 28], [0, 29], [0, 30], [0, 31], [0, 32], [0, 31], [0, 34], [0, 35]]) [98]) (.cond (.t 98) (.seq (.reg [o' 2 (.mv (i' 1))] [2]) .ret) .skip)
def c250x7 : AC := .seq (.reg [m' 61 5, o' 62 (.not (.t 61))] [1, 3, 4, 6, 62]) (.cond (.t 62) (.reg [o' 6 (.mv (i' 0))] [1, 3, 4, 6]) .skip)
def c250x11 : AC := .seq (.reg [o' 48 (.fad 0 (.t 1)), o' 49 (.ld none (.t 48)), o' 50 (.bin .eql (.t 49) (i' 2)), m' 51 50, gT' 52 51 (.fad 1 (.t 1)), gT' 53 51 (.ld none (.t 52)), gT' 54 51 (.call 249 [.t 53]), o' 55 (.pick (.t 51) (.t 54) kF'), m' 56 55, gT' 57 56 (.fad 1 (.t 1)), gT' 58 56 (.ld none (.t 57)), gT' 59 56 (.call 228 [.t 58]), o' 60 (.pick (.t 56) (.t 59) kF')] [1, 3, 4, 5, 6, 60]) (.cond (.t 60) (.reg [o' 6 (.mv (i' 65535))] [1, 3, 4, 5, 6]) .skip)
def c250x14 : AC := .seq (.reg [o' 42 (.fad 0 (.t 1)), o' 43 (.ld none (.t 42)), o' 44 (.call 252 [.t 43]), m' 41 44, o' 45 (.ext (.t 41) 0), o' 46 (.ext (.t 41) 1), o' 47 (.ext (.t 41) 2), m' 3 45, m' 4 46, m' 5 47] [1, 3, 4, 5]) (.seq (.reg [o' 6 (.mv (i' 255))] [1, 3, 4, 5, 6]) (.seq c250x11 (.seq c250x7 (.seq c250x3 (.seq (.reg [o' 2 (.mv (i' 0))] [2]) .ret)))))
def c250x18 : AC := .seq (.reg [o' 18 (.fad 1 (.t 1)), o' 19 (.ld none (.t 18)), o' 20 (.bin .neq (.t 19) (i' 0)), m' 21 20, gF' 22 21 (.fad 2 (.t 1)), gF' 23 21 (.ld none (.t 22)), gF' 24 21 (.bin .lss (.t 23) (i' 0)), o' 25 (.pick (.t 21) kT' (.t 24)), m' 26 25, gF' 27 26 (.fad 2 (.t 1)), gF' 28 26 (.ld none (.t 27)), gF' 29 26 (.bin .gtr (.t 28) (i' 1)), o' 30 (.pick (.t 26) kT' (.t 29)), m' 31 30, gF' 32 31 (.fad 3 (.t 1)), gF' 33 31 (.ld none (.t 32)), gF' 34 31 (.bin .lss (.t 33) (i' 0)), o' 35 (.pick (.t 31) kT' (.t 34)), m' 36 35, gF' 37 36 (.fad 3 (.t 1)), gF' 38 36 (.ld none (.t 37)), gF' 39 36 (.bin .gtr (.t 38) (i' 255)), o' 40 (.pick (.t 36) kT' (.t 39))] [40]) (.cond (.t 40) (.seq (.reg [o' 2 (.mv (i' 1))] [2]) .ret) .skip)
def c250x21 : AC := .seq (.reg [o' 15 (.fad 0 (.t 1)), o' 16 (.ld none (.t 15)), o' 17 (.bin .eql (.t 16) (i' 24))] [1, 17]) (.cond (.t 17) (.seq c250x18 (.seq (.reg [o' 2 (.mv (i' 0))] [2]) .ret)) .skip)
def c250x25 : AC := .seq (.reg [o' 7 (.fad 0 (.t 1)), o' 8 (.ld none (.t 7)), o' 9 (.bin .lss (.t 8) (i' 0)), m' 10 9, gF' 11 10 (.fad 0 (.t 1)), gF' 12 10 (.ld none (.t 11)), gF' 13 10 (.bin .geq (.t 12) (i' 25)), o' 14 (.pick (.t 10) kT' (.t 13))] [1, 14]) (.cond (.t 14) (.seq (.reg [o' 2 (.mv (i' 8))] [2]) .ret) .skip)
def c250 : AC := .seq (.reg [o' 1 (.new 4 (.t 0)), o' 2 (.mv (i' 0))] [1]) (.seq c250x25 (.seq c250x21 c250x14))
theorem k250 : kS Tryz.prog Tryz.f250 (lvs c250) = some c250 := by kernel_rfl
theorem e250 : enters Tryz.prog 250 = true := by kernel_rfl
theorem q250 : qS Tryz.prog Tryz.f250 = some [.t 2] := by kernel_rfl
def c252x0 : AC := .seq (.reg [o' 2 (.mv (.k (.int .u8 0))), o' 3 (.mv (.k (.int .u8 0))), o' 4 (.mv kF')] [2, 3, 4]) .ret
def c252x1 : AC := .seq (.reg [o' 2 (.mv (.k (.int .u8 115))), o' 3 (.mv (.k (.int .u8 115))), o' 4 (.mv kF')] [2, 3, 4]) .ret
def c252x2 : AC := .seq (.reg [o' 2 (.mv (.k (.int .u8 97))), o' 3 (.mv (.k (.int .u8 0))), o' 4 (.mv kT')] [2, 3, 4]) .ret
def c252x3 : AC := .seq (.reg [o' 2 (.mv (.k (.int .u8 98))), o' 3 (.mv (.k (.int .u8 0))), o' 4 (.mv kF')] [2, 3, 4]) .ret
def c252x4 : AC := .seq (.reg [o' 2 (.mv (.k (.int .u8 98))), o' 3 (.mv (.k (.int .u8 98))), o' 4 (.mv kF')] [2, 3, 4]) .ret
def c252x5 : AC := .seq (.reg [o' 2 (.mv (.k (.int .u8 97))), o' 3 (.mv (.k (.int .u8 0))), o' 4 (.mv kF')] [2, 3, 4]) .ret
def c252x6 : AC := .seq (.reg [o' 2 (.mv (.k (.int .u8 0))), o' 3 (.mv (.k (.int .u8 0))), o' 4 (.mv kT')] [2, 3, 4]) .ret
def c252x7 : AC := .seq (.reg [o' 2 (.mv (.k (.int .u8 119))), o' 3 (.mv (.k (.int .u8 98))), o' 4 (.mv kF')] [2, 3, 4]) .ret
def c252x8 : AC := .seq (.reg [o' 2 (.mv (.k (.int .u8 98))), o' 3 (.mv (.k (.int .u8 119))), o' 4 (.mv kF')] [2, 3, 4]) .ret
def c252x12 : AC := .seq (.reg [o' 35 (.bin .eql (.t 5) (i' 20)), m' 34 35] [5, 34]) (.cond (.t 34) .skip (.reg [o' 36 (.bin .eql (.t 5) (i' 21)), m' 34 36] [34]))
def c252x17 : AC := .seq (.reg [o' 32 (.bin .eql (.t 5) (i' 22)), m' 29 32] [5, 29]) (.cond (.t 29) .skip (.reg [o' 33 (.bin .eql (.t 5) (i' 23)), m' 29 33] [5, 29]))
def c252x19 : AC := .seq (.reg [o' 31 (.bin .eql (.t 5) (i' 19)), m' 29 31] [5, 29]) (.cond (.t 29) .skip c252x17)
def c252x21 : AC := .seq (.reg [o' 30 (.bin .eql (.t 5) (i' 18)), m' 29 30] [5, 29]) (.cond (.t 29) .skip c252x19)
def c252x26 : AC := .seq (.reg [o' 27 (.bin .eql (.t 5) (i' 16)), m' 26 27] [5, 26]) (.cond (.t 26) .skip (.reg [o' 28 (.bin .eql (.t 5) (i' 17)), m' 26 28] [5, 26]))
def c252x31 : AC := .seq (.reg [o' 24 (.bin .eql (.t 5) (i' 10)), m' 23 24] [5, 23]) (.cond (.t 23) .skip (.reg [o' 25 (.bin .eql (.t 5) (i' 11)), m' 23 25] [5, 23]))
def c252x36 : AC := .seq (.reg [o' 21 (.bin .eql (.t 5) (i' 8)), m' 16 21] [5, 16]) (.cond (.t 16) .skip (.reg [o' 22 (.bin .eql (.t 5) (i' 9)), m' 16 22] [5, 16]))
def c252x38 : AC := .seq (.reg [o' 20 (.bin .eql (.t 5) (i' 7)), m' 16 20] [5, 16]) (.cond (.t 16) .skip c252x36)
def c252x40 : AC := .seq (.reg [o' 19 (.bin .eql (.t 5) (i' 6)), m' 16 19] [5, 16]) (.cond (.t 16) .skip c252x38)
def c252x42 : AC := .seq (.reg [o' 18 (.bin .eql (.t 5) (i' 5)), m' 16 18] [5, 16]) (.cond (.t 16) .skip c252x40)
def c252x44 : AC := .seq (.reg [o' 17 (.bin .eql (.t 5) (i' 4)), m' 16 17] [5, 16]) (.cond (.t 16) .skip c252x42)
def c252x49 : AC := .seq (.reg [o' 14 (.bin .eql (.t 5) (i' 14)), m' 10 14] [5, 10]) (.cond (.t 10) .skip (.reg [o' 15 (.bin .eql (.t 5) (i' 15)), m' 10 15] [5, 10]))
def c252x51 : AC := .seq (.reg [o' 13 (.bin .eql (.t 5) (i' 13)), m' 10 13] [5, 10]) (.cond (.t 10) .skip c252x49)
def c252x53 : AC := .seq (.reg [o' 12 (.bin .eql (.t 5) (i' 12)), m' 10 12] [5, 10]) (.cond (.t 10) .skip c252x51)
def c252x55 : AC := .seq (.reg [o' 11 (.bin .eql (.t 5) (i' 3)), m' 10 11] [5, 10]) (.cond (.t 10) .skip c252x53)
def c252x58 : AC := .seq (.reg [o' 9 (.bin .eql (.t 5) (i' 2)), m' 8 9] [5, 8]) (.cond (.t 8) c252x2 (.seq c252x55 (.cond (.t 10) c252x3 (.seq c252x44 (.cond (.t 16) c252x4 (.seq c252x31 (.cond (.t 23) c252x5 (.seq c252x26 (.cond (.t 26) c252x6 (.seq c252x21 (.cond (.t 29) c252x7 (.seq c252x12 (.cond (.t 34) c252x8 .skip)))))))))))))
def c252x60 : AC := .seq (.reg [o' 7 (.bin .eql (.t 5) (i' 1)), m' 6 7] [5, 6]) (.cond (.t 6) c252x1 c252x58)
def c252 : AC := .seq (.reg [o' 2 (.mv (.k (.int .u8 0))), o' 3 (.mv (.k (.int .u8 0))), o' 4 (.mv kF')] [0]) (.seq (.seq (.reg [m' 5 0] [5]) (.block 0 c252x60)) c252x0)
theorem k252 : kS Tryz.prog Tryz.f252 (lvs c252) = some c252 := by kernel_rfl
theorem e252 : enters Tryz.prog 252 = true := by kernel_rfl
theorem q252 : qS Tryz.prog Tryz.f252 = some [.t 2, .t 3, .t 4] := by kernel_rfl
def c253x0 : AC := .seq (.reg [m' 27 0, o' 28 (.call 249 [.t 27]), m' 4 28] [4]) .ret
def c253x1 : AC := .seq (.reg [m' 8 0, o' 9 (.bin .eql (.t 8) (i' 0)), m' 4 9] [4]) .ret
def c253x2 : AC := .seq (.reg [m' 12 0, o' 13 (.call 249 [.t 12]), m' 14 13, gT' 15 14 (.mv (.t 0)), gT' 16 14 (.call 228 [.t 15]), o' 17 (.pick (.t 14) (.t 16) kF'), m' 4 17] [4]) .ret
def c253x3 : AC := .seq (.reg [m' 20 0, o' 21 (.call 249 [.t 20]), m' 22 21, gT' 23 22 (.mv (.t 0)), gT' 24 22 (.call 228 [.t 23]), gT' 25 22 (.not (.t 24)), o' 26 (.pick (.t 22) (.t 25) kF'), m' 4 26] [4]) .ret
def c253x5 : AC := .seq (.reg [o' 19 (.bin .eql (.t 5) (.k (.int .u8 98))), m' 18 19] [0, 18]) (.cond (.t 18) c253x3 .skip)
def c253x7 : AC := .seq (.reg [o' 11 (.bin .eql (.t 5) (.k (.int .u8 119))), m' 10 11] [0, 5, 10]) (.cond (.t 10) c253x2 c253x5)
def c253x9 : AC := .seq (.reg [o' 7 (.bin .eql (.t 5) (.k (.int .u8 0))), m' 6 7] [0, 5, 6]) (.cond (.t 6) c253x1 c253x7)
def c253 : AC := .seq (.reg [o' 4 (.mv kF')] [0, 1]) (.seq (.seq (.reg [m' 5 1] [0, 5]) (.block 0 c253x9)) c253x0)
theorem k253 : kS Tryz.prog Tryz.f253 (lvs c253) = some c253 := by kernel_rfl
theorem e253 : enters Tryz.prog 253 = true := by kernel_rfl
theorem q253 : qS Tryz.prog Tryz.f253 = some [.t 4] := by kernel_rfl
end Go.Proofs.YtpfagchhmfigfaaGreat.Code

namespace Go.Proofs.YtpfagchhmfigfaaGreat.Code
open Go Go.Proofs.YtpfagchhmfigfaaGreat.Calc
set_option maxRecDepth 100000
def c22x4 : AC := .seq (.reg [m' 11 1, m' 12 0, m' 13 5, o' 14 (.idx 5 none (.t 12) (.t 13)), o' 15 (.ld (some 5) (.t 14)), o' 16 (.callc (.t 11) [.t 15])] [0, 1, 5, 7, 8, 16]) (.cond (.t 16) (.seq (.reg [m' 17 5, m' 4 17] [4]) .ret) .skip)
def c22x10 : AC := .seq (.reg [o' 9 (.bin .lss (.t 8) (.t 7))] [0, 1, 7, 8, 9]) (.seq (.cond (.t 9) .skip (.exit 0)) (.seq (.block 1 (.seq (.reg [m' 10 8, m' 5 10] [0, 1, 5, 7, 8]) c22x4)) (.reg [o' 18 (.bin .add (.t 8) (i' 1)), m' 8 18] [0, 1, 7, 8])))
def c22x13 : AC := .seq (.reg [m' 6 0, o' 7 (.len (.t 6)), o' 8 (.mv (i' 0))] [0, 1, 7, 8]) (.block 0 (.loop c22x10))
def c22 : AC := .seq (.reg [o' 4 (.mv (i' 0))] [0, 1]) (.seq c22x13 (.seq (.reg [o' 4 (.mv (.k (.int .i64 (-1))))] [4]) .ret))
theorem k22 : kS Tryz.prog Tryz.f22 (lvs c22) = some c22 := by kernel_rfl
theorem e22 : enters Tryz.prog 22 = true := by kernel_rfl
theorem q22 : qS Tryz.prog Tryz.f22 = some [.t 4] := by kernel_rfl
def c43x0 : AC := .seq (.reg [o' 5 (.bsl [(.int .u8 0)] 0 []), m' 6 0, o' 7 (.app 1 1 (.t 5) (.t 6)), m' 2 7] [2]) .ret
def c43x3 : AC := .seq (.reg [m' 3 0, o' 4 (.eqn false (.t 3))] [0, 4]) (.cond (.t 4) (.seq (.reg [o' 2 (.mv (.k (.slice none 0 0)))] [2]) .ret) .skip)
def c43 : AC := .seq (.reg [o' 2 (.mv (.k (.slice none 0 0)))] [0]) (.seq c43x3 c43x0)
theorem k43 : kS Tryz.prog Tryz.f43 (lvs c43) = some c43 := by kernel_rfl
theorem e43 : enters Tryz.prog 43 = true := by kernel_rfl
theorem q43 : qS Tryz.prog Tryz.f43 = some [.t 2] := by kernel_rfl
def c65x1 : AC := .reg [o' 31 (.bin .add (.t 17) (i' 1)), m' 17 31] [1, 2, 15, 16, 17]
def c65x4 : AC := .seq (.reg [m' 26 2, o' 27 (.ld (some 2) (.t 8)), o' 28 (.ld (some 2) (.t 9)), o' 29 (.callc (.t 26) [.t 27, .t 28]), o' 30 (.not (.t 29))] [1, 2, 15, 16, 17, 30]) (.cond (.t 30) (.seq (.reg [o' 6 (.mv kF')] [6]) .ret) .skip)
def c65x5 : AC := .seq (.reg [m' 22 1, m' 23 7, o' 24 (.idx 2 none (.t 22) (.t 23)), o' 25 (.ld (some 2) (.t 24)), o' 9 (.zero [(.slice none 0 0), (.slice none 0 0)]), n' (.st 2 (.t 9) (.t 25))] [1, 2, 8, 9, 15, 16, 17]) c65x4
def c65x6 : AC := .seq (.reg [m' 19 17, o' 20 (.idx 2 none (.t 15) (.t 17)), o' 21 (.ld (some 2) (.t 20)), o' 8 (.zero [(.slice none 0 0), (.slice none 0 0)]), m' 7 19, n' (.st 2 (.t 8) (.t 21))] [1, 2, 7, 8, 15, 16, 17]) c65x5
def c65x11 : AC := .seq (.reg [o' 18 (.bin .lss (.t 17) (.t 16))] [1, 2, 15, 16, 17, 18]) (.seq (.cond (.t 18) .skip (.exit 0)) (.seq (.block 1 c65x6) c65x1))
def c65x14 : AC := .seq (.reg [m' 15 0, o' 16 (.len (.t 15)), o' 17 (.mv (i' 0))] [1, 2, 15, 16, 17]) (.block 0 (.loop c65x11))
def c65x18 : AC := .seq (.reg [m' 10 0, o' 11 (.len (.t 10)), m' 12 1, o' 13 (.len (.t 12)), o' 14 (.bin .neq (.t 11) (.t 13))] [0, 1, 2, 14]) (.cond (.t 14) (.seq (.reg [o' 6 (.mv kF')] [6]) .ret) .skip)
def c65 : AC := .seq (.reg [o' 6 (.mv kF')] [0, 1, 2]) (.seq c65x18 (.seq c65x14 (.seq (.reg [o' 6 (.mv kT')] [6]) .ret)))
theorem k65 : kS Tryz.prog Tryz.f65 (lvs c65) = some c65 := by kernel_rfl
theorem e65 : enters Tryz.prog 65 = true := by kernel_rfl
theorem q65 : qS Tryz.prog Tryz.f65 = some [.t 6] := by kernel_rfl
def c67x1 : AC := .reg [o' 25 (.bin .add (.t 13) (i' 1)), m' 13 25] [0, 1, 12, 13]
def c67x4 : AC := .seq (.dreg [m' 16 0, m' 17 5, o' 18 (.idx 1 none (.t 16) (.t 17)), o' 19 (.ld none (.t 18)), m' 20 1, m' 21 5, o' 22 (.idx 1 none (.t 20) (.t 21)), o' 23 (.ld none (.t 22)), o' 24 (.bin .neq (.t 19) (.t 23))] (bf [[], [], [0, 2], [0, 3], [], [], [4, 6], [4, 7], [0, 8]]) [0, 1, 12, 13, 24]) (.cond (.t 24) (.seq (.reg [o' 4 (.mv kF')] [4]) .ret) .skip)
def c67x10 : AC := .seq (.reg [o' 14 (.bin .lss (.t 13) (.t 12))] [0, 1, 12, 13, 14]) (.seq (.cond (.t 14) .skip (.exit 0)) (.seq (.block 1 (.seq (.reg [m' 15 13, m' 5 15] [0, 1, 5, 12, 13]) c67x4)) c67x1))
def c67x13 : AC := .seq (.reg [m' 11 0, o' 12 (.len (.t 11)), o' 13 (.mv (i' 0))] [0, 1, 12, 13]) (.block 0 (.loop c67x10))
def c67x17 : AC := .seq (.reg [m' 6 0, o' 7 (.len (.t 6)), m' 8 1, o' 9 (.len (.t 8)), o' 10 (.bin .neq (.t 7) (.t 9))] [0, 1, 10]) (.cond (.t 10) (.seq (.reg [o' 4 (.mv kF')] [4]) .ret) .skip)
def c67 : AC := .seq (.reg [o' 4 (.mv kF')] [0, 1]) (.seq c67x17 (.seq c67x13 (.seq (.reg [o' 4 (.mv kT')] [4]) .ret)))
theorem k67 : kS Tryz.prog Tryz.f67 (lvs c67) = some c67 := by kernel_rfl
theorem e67 : enters Tryz.prog 67 = true := by kernel_rfl
theorem q67 : qS Tryz.prog Tryz.f67 = some [.t 4] := by kernel_rfl
def c68x1 : AC := .reg [o' 25 (.bin .add (.t 13) (i' 1)), m' 13 25] [0, 1, 12, 13]
def c68x4 : AC := .seq (.dreg [m' 16 0, m' 17 5, o' 18 (.idx 1 none (.t 16) (.t 17)), o' 19 (.ld none (.t 18)), m' 20 1, m' 21 5, o' 22 (.idx 1 none (.t 20) (.t 21)), o' 23 (.ld none (.t 22)), o' 24 (.bin .neq (.t 19) (.t 23))] (bf [[], [], [0, 2], [0, 3], [], [], [4, 6], [4, 7], [0, 8]]) [0, 1, 12, 13, 24]) (.cond (.t 24) (.seq (.reg [o' 4 (.mv kF')] [4]) .ret) .skip)
def c68x10 : AC := .seq (.reg [o' 14 (.bin .lss (.t 13) (.t 12))] [0, 1, 12, 13, 14]) (.seq (.cond (.t 14) .skip (.exit 0)) (.seq (.block 1 (.seq (.reg [m' 15 13, m' 5 15] [0, 1, 5, 12, 13]) c68x4)) c68x1))
def c68x13 : AC := .seq (.reg [m' 11 0, o' 12 (.len (.t 11)), o' 13 (.mv (i' 0))] [0, 1, 12, 13]) (.block 0 (.loop c68x10))
def c68x17 : AC := .seq (.reg [m' 6 0, o' 7 (.len (.t 6)), m' 8 1, o' 9 (.len (.t 8)), o' 10 (.bin .neq (.t 7) (.t 9))] [0, 1, 10]) (.cond (.t 10) (.seq (.reg [o' 4 (.mv kF')] [4]) .ret) .skip)
def c68 : AC := .seq (.reg [o' 4 (.mv kF')] [0, 1]) (.seq c68x17 (.seq c68x13 (.seq (.reg [o' 4 (.mv kT')] [4]) .ret)))
theorem k68 : kS Tryz.prog Tryz.f68 (lvs c68) = some c68 := by kernel_rfl
theorem e68 : enters Tryz.prog 68 = true := by kernel_rfl
theorem q68 : qS Tryz.prog Tryz.f68 = some [.t 4] := by kernel_rfl
def c89x0 : AC := .seq (.reg [o' 5 (.bsl [(.slice none 0 0), (.slice none 0 0)] 0 []), m' 6 0, o' 7 (.app 2 48 (.t 5) (.t 6)), m' 2 7] [2]) .ret
def c89x3 : AC := .seq (.reg [m' 3 0, o' 4 (.eqn false (.t 3))] [0, 4]) (.cond (.t 4) (.seq (.reg [o' 2 (.mv (.k (.slice none 0 0)))] [2]) .ret) .skip)
def c89 : AC := .seq (.reg [o' 2 (.mv (.k (.slice none 0 0)))] [0]) (.seq c89x3 c89x0)
theorem k89 : kS Tryz.prog Tryz.f89 (lvs c89) = some c89 := by kernel_rfl
theorem e89 : enters Tryz.prog 89 = true := by kernel_rfl
theorem q89 : qS Tryz.prog Tryz.f89 = some [.t 2] := by kernel_rfl
def c90x0 : AC := .seq (.reg [o' 5 (.bsl [(.int .i64 0)] 0 []), m' 6 0, o' 7 (.app 1 8 (.t 5) (.t 6)), m' 2 7] [2]) .ret
def c90x3 : AC := .seq (.reg [m' 3 0, o' 4 (.eqn false (.t 3))] [0, 4]) (.cond (.t 4) (.seq (.reg [o' 2 (.mv (.k (.slice none 0 0)))] [2]) .ret) .skip)
def c90 : AC := .seq (.reg [o' 2 (.mv (.k (.slice none 0 0)))] [0]) (.seq c90x3 c90x0)
theorem k90 : kS Tryz.prog Tryz.f90 (lvs c90) = some c90 := by kernel_rfl
theorem e90 : enters Tryz.prog 90 = true := by kernel_rfl
theorem q90 : qS Tryz.prog Tryz.f90 = some [.t 2] := by kernel_rfl
def c112x0 : AC := .seq (.reg [m' 5 0, o' 6 (.ld (some 2) (.t 3)), o' 7 (.call 194 [.t 5, .t 6]), o' 8 (.bin .geq (.t 7) (i' 0)), m' 4 8] [4]) .ret
def c112 : AC := .seq (.reg [o' 3 (.new 2 (.t 1)), o' 4 (.mv kF')] [0, 3]) c112x0
theorem k112 : kS Tryz.prog Tryz.f112 (lvs c112) = some c112 := by kernel_rfl
theorem e112 : enters Tryz.prog 112 = true := by kernel_rfl
theorem q112 : qS Tryz.prog Tryz.f112 = some [.t 4] := by kernel_rfl
def c185x0 : AC := .seq (.reg [m' 5 0, m' 6 1, o' 7 (.call 223 [.t 5, .t 6]), o' 8 (.bin .geq (.t 7) (i' 0)), m' 4 8] [4]) .ret
def c185 : AC := .seq (.reg [o' 4 (.mv kF')] [0, 1]) c185x0
theorem k185 : kS Tryz.prog Tryz.f185 (lvs c185) = some c185 := by kernel_rfl
theorem e185 : enters Tryz.prog 185 = true := by kernel_rfl
theorem q185 : qS Tryz.prog Tryz.f185 = some [.t 4] := by kernel_rfl
def c194x4 : AC := .seq (.dreg [o' 11 (.ld (some 2) (.t 3)), m' 12 0, m' 13 5, o' 14 (.idx 2 none (.t 12) (.t 13)), o' 15 (.ld (some 2) (.t 14)), o' 16 (.eqs [.s, .s] false (.t 11) (.t 15))] (bf [[], [], [], [1, 3], [1, 4], [0, 5]]) [0, 3, 5, 7, 8, 16]) (.cond (.t 16) (.seq (.reg [m' 17 5, m' 4 17] [4]) .ret) .skip)
def c194x10 : AC := .seq (.reg [o' 9 (.bin .lss (.t 8) (.t 7))] [0, 3, 7, 8, 9]) (.seq (.cond (.t 9) .skip (.exit 0)) (.seq (.block 1 (.seq (.reg [m' 10 8, m' 5 10] [0, 3, 5, 7, 8]) c194x4)) (.reg [o' 18 (.bin .add (.t 8) (i' 1)), m' 8 18] [0, 3, 7, 8])))
def c194x13 : AC := .seq (.reg [m' 6 0, o' 7 (.len (.t 6)), o' 8 (.mv (i' 0))] [0, 3, 7, 8]) (.block 0 (.loop c194x10))
def c194 : AC := .seq (.reg [o' 3 (.new 2 (.t 1)), o' 4 (.mv (i' 0))] [0, 3]) (.seq c194x13 (.seq (.reg [o' 4 (.mv (.k (.int .i64 (-1))))] [4]) .ret))
theorem k194 : kS Tryz.prog Tryz.f194 (lvs c194) = some c194 := by kernel_rfl
theorem e194 : enters Tryz.prog 194 = true := by kernel_rfl
theorem q194 : qS Tryz.prog Tryz.f194 = some [.t 4] := by kernel_rfl
def c223x4 : AC := .seq (.reg [m' 11 1, m' 12 0, m' 13 5, o' 14 (.idx 4 none (.t 12) (.t 13)), o' 15 (.ld (some 4) (.t 14)), o' 16 (.callc (.t 11) [.t 15])] [0, 1, 5, 7, 8, 16]) (.cond (.t 16) (.seq (.reg [m' 17 5, m' 4 17] [4]) .ret) .skip)
def c223x10 : AC := .seq (.reg [o' 9 (.bin .lss (.t 8) (.t 7))] [0, 1, 7, 8, 9]) (.seq (.cond (.t 9) .skip (.exit 0)) (.seq (.block 1 (.seq (.reg [m' 10 8, m' 5 10] [0, 1, 5, 7, 8]) c223x4)) (.reg [o' 18 (.bin .add (.t 8) (i' 1)), m' 8 18] [0, 1, 7, 8])))
def c223x13 : AC := .seq (.reg [m' 6 0, o' 7 (.len (.t 6)), o' 8 (.mv (i' 0))] [0, 1, 7, 8]) (.block 0 (.loop c223x10))
def c223 : AC := .seq (.reg [o' 4 (.mv (i' 0))] [0, 1]) (.seq c223x13 (.seq (.reg [o' 4 (.mv (.k (.int .i64 (-1))))] [4]) .ret))
theorem k223 : kS Tryz.prog Tryz.f223 (lvs c223) = some c223 := by kernel_rfl
theorem e223 : enters Tryz.prog 223 = true := by kernel_rfl
theorem q223 : qS Tryz.prog Tryz.f223 = some [.t 4] := by kernel_rfl
end Go.Proofs.YtpfagchhmfigfaaGreat.Code

namespace Go.Proofs.YtpfagchhmfigfaaGreat.Code
open Go Go.Proofs.YtpfagchhmfigfaaGreat.Calc
set_option maxRecDepth 100000
def c52x0 : AC := .seq (.dreg [m' 18 1, o' 19 (.nilc (.t 18)), o' 20 (.fad 0 (.t 19)), o' 21 (.ld none (.t 20)), m' 22 2, o' 23 (.call 104 [i' 6, i' 7]), o' 24 (.call 104 [i' 8, i' 9]), o' 25 (.build [(.string ⟨#[]⟩), (.slice none 0 0), (.slice none 0 0), (.slice none 0 0), (.slice none 0 0)] [(0, 1, (.k (.string ⟨#[115, 116, 100]⟩))), (1, 1, (.t 21)), (2, 1, (.t 22)), (3, 1, (.t 23)), (4, 1, (.t 24))]), n' (.st 5 (.t 0) (.t 25))] (bf [[], [0, 1], [0, 2], [0, 3], [], [], [5, 6], [0, 7], [0, 8]]) [0]) .ret
def c52x1 : AC := .seq (.reg [o' 11 (.call 102 [i' 10, i' 5, (.k (.slice none 0 0))]), o' 12 (.call 103 [i' 7]), o' 13 (.build [(.int .i64 0), (.int .i64 0), (.int .i64 0), (.int .i64 0)] [(0, 1, (i' 2)), (1, 1, (i' 3)), (3, 1, (i' 255))]), o' 14 (.bsl [(.int .i64 0), (.int .i64 0), (.int .i64 0), (.int .i64 0)] 1 [(0, (.t 13))]), o' 15 (.app 4 32 (.t 12) (.t 14)), o' 16 (.call 102 [i' 11, i' 6, .t 15]), o' 17 (.bsl [(.int .i64 0), (.int .i64 0), (.int .i64 0), (.slice none 0 0)] 2 [(0, (.t 11)), (1, (.t 16))]), m' 2 17] [0, 1, 2]) c52x0
def c52x2 : AC := .seq (.reg [m' 9 1, o' 10 (.call 101 [.t 9])] [0, 1]) c52x1
def c52x5 : AC := .seq (.reg [o' 3 (.build [(.slice none 0 0)] []), o' 4 (.new 1 (.t 3)), m' 1 4] [0, 1]) (.seq (.reg [m' 5 1, o' 6 (.call 99 [.t 5])] [0, 1]) (.seq (.reg [m' 7 1, o' 8 (.call 100 [.t 7])] [0, 1]) c52x2))
def c52 : AC := .seq (.reg [o' 0 (.zero [(.string ⟨#[]⟩), (.slice none 0 0), (.slice none 0 0), (.slice none 0 0), (.slice none 0 0)])] [0]) c52x5
theorem k52 : kS Tryz.prog Tryz.f52 (lvs c52) = some c52 := by kernel_rfl
theorem e52 : enters Tryz.prog 52 = true := by kernel_rfl
theorem q52 : qS Tryz.prog Tryz.f52 = some [.cell (some 5) 0] := by kernel_rfl
def c99x0 : AC := .reg [m' 63 0, o' 64 (.bsl [(.int .i64 0)] 2 [(0, (i' 0)), (1, (i' 2))]), o' 65 (.call 177 [.t 63, (.k (.string ⟨#[114, 111, 114]⟩)), (i' 15), (.t 64)])] []
def c99x1 : AC := .seq (.reg [m' 60 0, o' 61 (.bsl [(.int .i64 0)] 2 [(0, (i' 0)), (1, (i' 2))]), o' 62 (.call 177 [.t 60, (.k (.string ⟨#[114, 111, 108]⟩)), (i' 14), (.t 61)])] [0]) c99x0
def c99x2 : AC := .seq (.reg [m' 57 0, o' 58 (.bsl [(.int .i64 0)] 2 [(0, (i' 0)), (1, (i' 2))]), o' 59 (.call 177 [.t 57, (.k (.string ⟨#[108, 115, 114]⟩)), (i' 13), (.t 58)])] [0]) c99x1
def c99x3 : AC := .seq (.reg [m' 54 0, o' 55 (.bsl [(.int .i64 0)] 2 [(0, (i' 0)), (1, (i' 2))]), o' 56 (.call 177 [.t 54, (.k (.string ⟨#[97, 115, 108]⟩)), (i' 12), (.t 55)])] [0]) c99x2
def c99x4 : AC := .seq (.reg [m' 51 0, o' 52 (.bsl [(.int .i64 0)] 2 [(0, (i' 2)), (1, (i' 4))]), o' 53 (.call 177 [.t 51, (.k (.string ⟨#[100, 101, 99]⟩)), (i' 11), (.t 52)])] [0]) c99x3
def c99x5 : AC := .seq (.reg [m' 48 0, o' 49 (.bsl [(.int .i64 0)] 2 [(0, (i' 2)), (1, (i' 4))]), o' 50 (.call 177 [.t 48, (.k (.string ⟨#[105, 110, 99]⟩)), (i' 10), (.t 49)])] [0]) c99x4
def c99x6 : AC := .seq (.reg [m' 45 0, o' 46 (.bsl [(.int .i64 0)] 2 [(0, (i' 1)), (1, (i' 2))]), o' 47 (.call 176 [.t 45, (.k (.string ⟨#[99, 112, 121]⟩)), (i' 6), (i' 2), (.t 46)])] [0]) c99x5
def c99x7 : AC := .seq (.reg [m' 42 0, o' 43 (.bsl [(.int .i64 0)] 2 [(0, (i' 1)), (1, (i' 2))]), o' 44 (.call 176 [.t 42, (.k (.string ⟨#[99, 112, 120]⟩)), (i' 6), (i' 1), (.t 43)])] [0]) c99x6
def c99x8 : AC := .reg [o' 41 (.bin .add (.t 30) (i' 1)), m' 30 41] [0, 28, 29, 30]
def c99x9 : AC := .reg [m' 34 0, o' 35 (.fad 0 (.t 3)), o' 36 (.ld none (.t 35)), o' 37 (.fad 1 (.t 3)), o' 38 (.ld none (.t 37)), o' 39 (.bsl [(.int .i64 0)] 4 [(0, (i' 1)), (1, (i' 2)), (2, (i' 4)), (3, (i' 5))]), o' 40 (.call 176 [.t 34, .t 36, .t 38, i' 0, .t 39])] [0, 28, 29, 30]
def c99x10 : AC := .seq (.reg [o' 32 (.idx 2 none (.t 28) (.t 30)), o' 33 (.ld (some 2) (.t 32)), o' 3 (.zero [(.string ⟨#[]⟩), (.int .i64 0)]), n' (.st 2 (.t 3) (.t 33))] [0, 3, 28, 29, 30]) c99x9
def c99x15 : AC := .seq (.reg [o' 31 (.bin .lss (.t 30) (.t 29))] [0, 28, 29, 30, 31]) (.seq (.cond (.t 31) .skip (.exit 0)) (.seq (.block 1 c99x10) c99x8))
def c99x18 : AC := .seq (.reg [o' 22 (.build [(.string ⟨#[]⟩), (.int .i64 0)] [(0, 1, (.k (.string ⟨#[97, 100, 99]⟩))), (1, 1, (i' 4))]), o' 23 (.build [(.string ⟨#[]⟩), (.int .i64 0)] [(0, 1, (.k (.string ⟨#[115, 98, 99]⟩))), (1, 1, (i' 5))]), o' 24 (.build [(.string ⟨#[]⟩), (.int .i64 0)] [(0, 1, (.k (.string ⟨#[97, 110, 100]⟩))), (1, 1, (i' 7))]), o' 25 (.build [(.string ⟨#[]⟩), (.int .i64 0)] [(0, 1, (.k (.string ⟨#[111, 114, 97]⟩))), (1, 1, (i' 8))]), o' 26 (.build [(.string ⟨#[]⟩), (.int .i64 0)] [(0, 1, (.k (.string ⟨#[101, 111, 114]⟩))), (1, 1, (i' 9))]), o' 27 (.build [(.string ⟨#[]⟩), (.int .i64 0)] [(0, 1, (.k (.string ⟨#[99, 109, 112]⟩))), (1, 1, (i' 6))]), o' 28 (.bsl [(.string ⟨#[]⟩), (.int .i64 0)] 6 [(0, (.t 22)), (1, (.t 23)), (2, (.t 24)), (3, (.t 25)), (4, (.t 26)), (5, (.t 27))]), o' 29 (.len (.t 28)), o' 30 (.mv (i' 0))] [0, 28, 29, 30]) (.block 0 (.loop c99x15))
def c99x20 : AC := .seq (.reg [m' 19 0, o' 20 (.bsl [(.int .i64 0)] 2 [(0, (i' 2)), (1, (i' 4))]), o' 21 (.call 175 [.t 19, (.k (.string ⟨#[115, 116, 121]⟩)), (i' 2), (.t 20)])] [0]) (.seq c99x18 c99x7)
def c99x21 : AC := .seq (.reg [m' 16 0, o' 17 (.bsl [(.int .i64 0)] 2 [(0, (i' 2)), (1, (i' 4))]), o' 18 (.call 175 [.t 16, (.k (.string ⟨#[115, 116, 120]⟩)), (i' 1), (.t 17)])] [0]) c99x20
def c99x22 : AC := .seq (.reg [m' 13 0, o' 14 (.bsl [(.int .i64 0)] 6 [(0, (i' 2)), (1, (i' 3)), (2, (i' 4)), (3, (i' 5)), (4, (i' 6)), (5, (i' 8))]), o' 15 (.call 175 [.t 13, (.k (.string ⟨#[115, 116, 97]⟩)), (i' 0), (.t 14)])] [0]) c99x21
def c99x23 : AC := .seq (.reg [m' 10 0, o' 11 (.bsl [(.int .i64 0)] 3 [(0, (i' 1)), (1, (i' 2)), (2, (i' 4))]), o' 12 (.call 174 [.t 10, (.k (.string ⟨#[108, 100, 121]⟩)), (i' 2), (.t 11)])] [0]) c99x22
def c99x24 : AC := .seq (.reg [m' 7 0, o' 8 (.bsl [(.int .i64 0)] 3 [(0, (i' 1)), (1, (i' 2)), (2, (i' 4))]), o' 9 (.call 174 [.t 7, (.k (.string ⟨#[108, 100, 120]⟩)), (i' 1), (.t 8)])] [0]) c99x23
def c99 : AC := .seq (.reg [m' 4 0, o' 5 (.bsl [(.int .i64 0)] 7 [(0, (i' 1)), (1, (i' 2)), (2, (i' 3)), (3, (i' 4)), (4, (i' 5)), (5, (i' 6)), (6, (i' 8))]), o' 6 (.call 174 [.t 4, (.k (.string ⟨#[108, 100, 97]⟩)), (i' 0), (.t 5)])] [0]) c99x24
theorem k99 : kS Tryz.prog Tryz.f99 (lvs c99) = some c99 := by kernel_rfl
theorem e99 : enters Tryz.prog 99 = true := by kernel_rfl
theorem q99 : qS Tryz.prog Tryz.f99 = some [] := by kernel_rfl
def c100x0 : AC := .reg [m' 103 0, o' 104 (.call 102 [i' 5, i' 4, (.k (.slice none 0 0))]), o' 105 (.bsl [(.int .i64 0), (.int .i64 0), (.int .i64 0), (.slice none 0 0)] 1 [(0, (.t 104))]), o' 106 (.call 178 [.t 103, (.k (.string ⟨#[112, 108, 112]⟩)), (i' 0), (.t 105)])] []
def c100x1 : AC := .seq (.reg [m' 99 0, o' 100 (.call 182 [i' 4, i' 4, (.k (.slice none 0 0))]), o' 101 (.bsl [(.int .i64 0), (.int .i64 0), (.int .i64 0), (.slice none 0 0)] 1 [(0, (.t 100))]), o' 102 (.call 178 [.t 99, (.k (.string ⟨#[112, 104, 112]⟩)), (i' 0), (.t 101)])] [0]) c100x0
def c100x2 : AC := .seq (.reg [m' 93 0, o' 94 (.call 181 [i' 3, i' 0]), o' 95 (.bsl [(.int .i64 0), (.int .i64 0), (.int .i64 0), (.int .i64 0)] 1 [(0, (.t 94))]), o' 96 (.call 102 [i' 5, i' 0, .t 95]), o' 97 (.bsl [(.int .i64 0), (.int .i64 0), (.int .i64 0), (.slice none 0 0)] 1 [(0, (.t 96))]), o' 98 (.call 178 [.t 93, (.k (.string ⟨#[112, 108, 97]⟩)), (i' 0), (.t 97)])] [0]) c100x1
def c100x3 : AC := .seq (.reg [m' 89 0, o' 90 (.call 182 [i' 4, i' 0, (.k (.slice none 0 0))]), o' 91 (.bsl [(.int .i64 0), (.int .i64 0), (.int .i64 0), (.slice none 0 0)] 1 [(0, (.t 90))]), o' 92 (.call 178 [.t 89, (.k (.string ⟨#[112, 104, 97]⟩)), (i' 0), (.t 91)])] [0]) c100x2
def c100x4 : AC := .seq (.reg [m' 85 0, o' 86 (.call 179 [(.k (.slice none 0 0))]), o' 87 (.bsl [(.int .i64 0), (.int .i64 0), (.int .i64 0), (.slice none 0 0)] 1 [(0, (.t 86))]), o' 88 (.call 178 [.t 85, (.k (.string ⟨#[110, 111, 112]⟩)), (i' 0), (.t 87)])] [0]) c100x3
def c100x5 : AC := .seq (.reg [m' 79 0, o' 80 (.build [(.int .i64 0), (.int .i64 0), (.int .i64 0), (.int .i64 0)] [(0, 1, (i' 16)), (3, 1, (i' 4))]), o' 81 (.bsl [(.int .i64 0), (.int .i64 0), (.int .i64 0), (.int .i64 0)] 1 [(0, (.t 80))]), o' 82 (.call 179 [.t 81]), o' 83 (.bsl [(.int .i64 0), (.int .i64 0), (.int .i64 0), (.slice none 0 0)] 1 [(0, (.t 82))]), o' 84 (.call 178 [.t 79, (.k (.string ⟨#[115, 101, 105]⟩)), (i' 0), (.t 83)])] [0]) c100x4
def c100x6 : AC := .seq (.reg [m' 73 0, o' 74 (.build [(.int .i64 0), (.int .i64 0), (.int .i64 0), (.int .i64 0)] [(0, 1, (i' 17)), (3, 1, (i' 4))]), o' 75 (.bsl [(.int .i64 0), (.int .i64 0), (.int .i64 0), (.int .i64 0)] 1 [(0, (.t 74))]), o' 76 (.call 179 [.t 75]), o' 77 (.bsl [(.int .i64 0), (.int .i64 0), (.int .i64 0), (.slice none 0 0)] 1 [(0, (.t 76))]), o' 78 (.call 178 [.t 73, (.k (.string ⟨#[99, 108, 105]⟩)), (i' 0), (.t 77)])] [0]) c100x5
def c100x7 : AC := .seq (.reg [m' 67 0, o' 68 (.build [(.int .i64 0), (.int .i64 0), (.int .i64 0), (.int .i64 0)] [(0, 1, (i' 16)), (3, 1, (i' 1))]), o' 69 (.bsl [(.int .i64 0), (.int .i64 0), (.int .i64 0), (.int .i64 0)] 1 [(0, (.t 68))]), o' 70 (.call 179 [.t 69]), o' 71 (.bsl [(.int .i64 0), (.int .i64 0), (.int .i64 0), (.slice none 0 0)] 1 [(0, (.t 70))]), o' 72 (.call 178 [.t 67, (.k (.string ⟨#[115, 101, 99]⟩)), (i' 0), (.t 71)])] [0]) c100x6
def c100x8 : AC := .seq (.reg [m' 61 0, o' 62 (.build [(.int .i64 0), (.int .i64 0), (.int .i64 0), (.int .i64 0)] [(0, 1, (i' 17)), (3, 1, (i' 1))]), o' 63 (.bsl [(.int .i64 0), (.int .i64 0), (.int .i64 0), (.int .i64 0)] 1 [(0, (.t 62))]), o' 64 (.call 179 [.t 63]), o' 65 (.bsl [(.int .i64 0), (.int .i64 0), (.int .i64 0), (.slice none 0 0)] 1 [(0, (.t 64))]), o' 66 (.call 178 [.t 61, (.k (.string ⟨#[99, 108, 99]⟩)), (i' 0), (.t 65)])] [0]) c100x7
def c100x9 : AC := .seq (.reg [m' 55 0, o' 56 (.call 181 [i' 11, i' 2]), o' 57 (.bsl [(.int .i64 0), (.int .i64 0), (.int .i64 0), (.int .i64 0)] 1 [(0, (.t 56))]), o' 58 (.call 179 [.t 57]), o' 59 (.bsl [(.int .i64 0), (.int .i64 0), (.int .i64 0), (.slice none 0 0)] 1 [(0, (.t 58))]), o' 60 (.call 178 [.t 55, (.k (.string ⟨#[100, 101, 121]⟩)), (i' 0), (.t 59)])] [0]) c100x8
def c100x10 : AC := .seq (.reg [m' 49 0, o' 50 (.call 181 [i' 11, i' 1]), o' 51 (.bsl [(.int .i64 0), (.int .i64 0), (.int .i64 0), (.int .i64 0)] 1 [(0, (.t 50))]), o' 52 (.call 179 [.t 51]), o' 53 (.bsl [(.int .i64 0), (.int .i64 0), (.int .i64 0), (.slice none 0 0)] 1 [(0, (.t 52))]), o' 54 (.call 178 [.t 49, (.k (.string ⟨#[100, 101, 120]⟩)), (i' 0), (.t 53)])] [0]) c100x9
def c100x11 : AC := .seq (.reg [m' 43 0, o' 44 (.call 181 [i' 10, i' 2]), o' 45 (.bsl [(.int .i64 0), (.int .i64 0), (.int .i64 0), (.int .i64 0)] 1 [(0, (.t 44))]), o' 46 (.call 179 [.t 45]), o' 47 (.bsl [(.int .i64 0), (.int .i64 0), (.int .i64 0), (.slice none 0 0)] 1 [(0, (.t 46))]), o' 48 (.call 178 [.t 43, (.k (.string ⟨#[105, 110, 121]⟩)), (i' 0), (.t 47)])] [0]) c100x10
def c100x12 : AC := .seq (.reg [m' 37 0, o' 38 (.call 181 [i' 10, i' 1]), o' 39 (.bsl [(.int .i64 0), (.int .i64 0), (.int .i64 0), (.int .i64 0)] 1 [(0, (.t 38))]), o' 40 (.call 179 [.t 39]), o' 41 (.bsl [(.int .i64 0), (.int .i64 0), (.int .i64 0), (.slice none 0 0)] 1 [(0, (.t 40))]), o' 42 (.call 178 [.t 37, (.k (.string ⟨#[105, 110, 120]⟩)), (i' 0), (.t 41)])] [0]) c100x11
def c100x13 : AC := .seq (.reg [m' 31 0, o' 32 (.call 180 [i' 1, i' 3, i' 1]), o' 33 (.bsl [(.int .i64 0), (.int .i64 0), (.int .i64 0), (.int .i64 0)] 1 [(0, (.t 32))]), o' 34 (.call 179 [.t 33]), o' 35 (.bsl [(.int .i64 0), (.int .i64 0), (.int .i64 0), (.slice none 0 0)] 1 [(0, (.t 34))]), o' 36 (.call 178 [.t 31, (.k (.string ⟨#[116, 120, 115]⟩)), (i' 0), (.t 35)])] [0]) c100x12
def c100x14 : AC := .reg [o' 30 (.bin .add (.t 11) (i' 1)), m' 11 30] [0, 9, 10, 11]
def c100x15 : AC := .dreg [m' 15 0, o' 16 (.fad 0 (.t 3)), o' 17 (.ld none (.t 16)), o' 18 (.fad 1 (.t 3)), o' 19 (.ld none (.t 18)), o' 20 (.fad 2 (.t 3)), o' 21 (.ld none (.t 20)), o' 22 (.call 180 [i' 1, .t 19, .t 21]), o' 23 (.fad 1 (.t 3)), o' 24 (.ld none (.t 23)), o' 25 (.call 181 [i' 3, .t 24]), o' 26 (.bsl [(.int .i64 0), (.int .i64 0), (.int .i64 0), (.int .i64 0)] 2 [(0, (.t 22)), (1, (.t 25))]), o' 27 (.call 179 [.t 26]), o' 28 (.bsl [(.int .i64 0), (.int .i64 0), (.int .i64 0), (.slice none 0 0)] 1 [(0, (.t 27))]), o' 29 (.call 178 [.t 15, .t 17, i' 0, .t 28])] (bf [[], [], [1, 2], [], [3, 4], [], [5, 6], [3, 7], [], [8, 9], [3, 10], [3, 11], [3, 12], [3, 13], [0, 14]]) [0, 9, 10, 11]
def c100x16 : AC := .seq (.reg [o' 13 (.idx 3 none (.t 9) (.t 11)), o' 14 (.ld (some 3) (.t 13)), o' 3 (.zero [(.string ⟨#[]⟩), (.int .i64 0), (.int .i64 0)]), n' (.st 3 (.t 3) (.t 14))] [0, 3, 9, 10, 11]) c100x15
def c100x21 : AC := .seq (.reg [o' 12 (.bin .lss (.t 11) (.t 10))] [0, 9, 10, 11, 12]) (.seq (.cond (.t 12) .skip (.exit 0)) (.seq (.block 1 c100x16) c100x14))
def c100x24 : AC := .seq (.reg [o' 4 (.build [(.string ⟨#[]⟩), (.int .i64 0), (.int .i64 0)] [(0, 1, (.k (.string ⟨#[116, 97, 120]⟩))), (1, 1, (i' 1)), (2, 1, (i' 0))]), o' 5 (.build [(.string ⟨#[]⟩), (.int .i64 0), (.int .i64 0)] [(0, 1, (.k (.string ⟨#[116, 97, 121]⟩))), (1, 1, (i' 2)), (2, 1, (i' 0))]), o' 6 (.build [(.string ⟨#[]⟩), (.int .i64 0), (.int .i64 0)] [(0, 1, (.k (.string ⟨#[116, 120, 97]⟩))), (1, 1, (i' 0)), (2, 1, (i' 1))]), o' 7 (.build [(.string ⟨#[]⟩), (.int .i64 0), (.int .i64 0)] [(0, 1, (.k (.string ⟨#[116, 121, 97]⟩))), (1, 1, (i' 0)), (2, 1, (i' 2))]), o' 8 (.build [(.string ⟨#[]⟩), (.int .i64 0), (.int .i64 0)] [(0, 1, (.k (.string ⟨#[116, 115, 120]⟩))), (1, 1, (i' 1)), (2, 1, (i' 3))]), o' 9 (.bsl [(.string ⟨#[]⟩), (.int .i64 0), (.int .i64 0)] 5 [(0, (.t 4)), (1, (.t 5)), (2, (.t 6)), (3, (.t 7)), (4, (.t 8))]), o' 10 (.len (.t 9)), o' 11 (.mv (i' 0))] [0, 9, 10, 11]) (.block 0 (.loop c100x21))
def c100 : AC := .seq c100x24 c100x13
theorem k100 : kS Tryz.prog Tryz.f100 (lvs c100) = some c100 := by kernel_rfl
theorem e100 : enters Tryz.prog 100 = true := by kernel_rfl
theorem q100 : qS Tryz.prog Tryz.f100 = some [] := by kernel_rfl
def c101x0 : AC := .reg [o' 66 (.bin .add (.t 47) (i' 1)), m' 47 66] [0, 45, 46, 47]
def c101x1 : AC := .dreg [m' 51 0, o' 52 (.fad 0 (.t 3)), o' 53 (.ld none (.t 52)), o' 54 (.fad 2 (.t 3)), o' 55 (.ld none (.t 54)), o' 56 (.fad 1 (.t 3)), o' 57 (.ld none (.t 56)), o' 58 (.build [(.int .i64 0), (.int .i64 0), (.int .i64 0), (.int .i64 0)] [(0, 1, (i' 24)), (2, 1, (.t 55)), (3, 1, (.t 57))]), o' 59 (.bsl [(.int .i64 0), (.int .i64 0), (.int .i64 0), (.int .i64 0)] 1 [(0, (.t 58))]), o' 60 (.call 102 [i' 0, i' 5, .t 59]), o' 61 (.call 180 [i' 23, i' 7, i' 5]), o' 62 (.bsl [(.int .i64 0), (.int .i64 0), (.int .i64 0), (.int .i64 0)] 1 [(0, (.t 61))]), o' 63 (.call 179 [.t 62]), o' 64 (.bsl [(.int .i64 0), (.int .i64 0), (.int .i64 0), (.slice none 0 0)] 2 [(0, (.t 60)), (1, (.t 63))]), o' 65 (.call 178 [.t 51, .t 53, i' 7, .t 64])] (bf [[], [], [1, 2], [], [3, 4], [], [5, 6], [3, 7], [3, 8], [3, 9], [3, 10], [3, 11], [3, 12], [3, 13], [0, 14]]) [0, 45, 46, 47]
def c101x2 : AC := .seq (.reg [o' 49 (.idx 3 none (.t 45) (.t 47)), o' 50 (.ld (some 3) (.t 49)), o' 3 (.zero [(.string ⟨#[]⟩), (.int .i64 0), (.int .i64 0)]), n' (.st 3 (.t 3) (.t 50))] [0, 3, 45, 46, 47]) c101x1
def c101x7 : AC := .seq (.reg [o' 48 (.bin .lss (.t 47) (.t 46))] [0, 45, 46, 47, 48]) (.seq (.cond (.t 48) .skip (.exit 0)) (.seq (.block 1 c101x2) c101x0))
def c101x10 : AC := .seq (.reg [o' 39 (.build [(.string ⟨#[]⟩), (.int .i64 0), (.int .i64 0)] [(0, 1, (.k (.string ⟨#[98, 101, 113]⟩))), (1, 1, (i' 2)), (2, 1, (i' 1))]), o' 40 (.build [(.string ⟨#[]⟩), (.int .i64 0), (.int .i64 0)] [(0, 1, (.k (.string ⟨#[98, 110, 101]⟩))), (1, 1, (i' 2)), (2, 1, (i' 0))]), o' 41 (.build [(.string ⟨#[]⟩), (.int .i64 0), (.int .i64 0)] [(0, 1, (.k (.string ⟨#[98, 99, 115]⟩))), (1, 1, (i' 1)), (2, 1, (i' 1))]), o' 42 (.build [(.string ⟨#[]⟩), (.int .i64 0), (.int .i64 0)] [(0, 1, (.k (.string ⟨#[98, 99, 99]⟩))), (1, 1, (i' 1)), (2, 1, (i' 0))]), o' 43 (.build [(.string ⟨#[]⟩), (.int .i64 0), (.int .i64 0)] [(0, 1, (.k (.string ⟨#[98, 109, 105]⟩))), (1, 1, (i' 128)), (2, 1, (i' 1))]), o' 44 (.build [(.string ⟨#[]⟩), (.int .i64 0), (.int .i64 0)] [(0, 1, (.k (.string ⟨#[98, 112, 108]⟩))), (1, 1, (i' 128)), (2, 1, (i' 0))]), o' 45 (.bsl [(.string ⟨#[]⟩), (.int .i64 0), (.int .i64 0)] 6 [(0, (.t 39)), (1, (.t 40)), (2, (.t 41)), (3, (.t 42)), (4, (.t 43)), (5, (.t 44))]), o' 46 (.len (.t 45)), o' 47 (.mv (i' 0))] [0, 45, 46, 47]) (.block 0 (.loop c101x7))
def c101x11 : AC := .seq (.reg [m' 32 0, o' 33 (.call 102 [i' 5, i' 4, (.k (.slice none 0 0))]), o' 34 (.call 102 [i' 5, i' 5, (.k (.slice none 0 0))]), o' 35 (.call 103 [i' 7]), o' 36 (.call 102 [i' 5, i' 6, .t 35]), o' 37 (.bsl [(.int .i64 0), (.int .i64 0), (.int .i64 0), (.slice none 0 0)] 3 [(0, (.t 33)), (1, (.t 34)), (2, (.t 36))]), o' 38 (.call 178 [.t 32, (.k (.string ⟨#[114, 116, 105]⟩)), (i' 0), (.t 37)])] [0]) c101x10
def c101x12 : AC := .seq (.reg [m' 26 0, o' 27 (.call 102 [i' 5, i' 5, (.k (.slice none 0 0))]), o' 28 (.call 103 [i' 7]), o' 29 (.call 102 [i' 5, i' 6, .t 28]), o' 30 (.bsl [(.int .i64 0), (.int .i64 0), (.int .i64 0), (.slice none 0 0)] 2 [(0, (.t 27)), (1, (.t 29))]), o' 31 (.call 178 [.t 26, (.k (.string ⟨#[114, 116, 115]⟩)), (i' 0), (.t 30)])] [0]) c101x11
def c101x13 : AC := .seq (.reg [m' 10 0, o' 11 (.call 180 [i' 18, i' 8, i' 5]), o' 12 (.bsl [(.int .i64 0), (.int .i64 0), (.int .i64 0), (.int .i64 0)] 1 [(0, (.t 11))]), o' 13 (.call 102 [i' 0, i' 5, .t 12]), o' 14 (.call 180 [i' 19, i' 8, i' 5]), o' 15 (.call 180 [i' 21, i' 5, i' 7]), o' 16 (.bsl [(.int .i64 0), (.int .i64 0), (.int .i64 0), (.int .i64 0)] 2 [(0, (.t 14)), (1, (.t 15))]), o' 17 (.call 102 [i' 0, i' 5, .t 16]), o' 18 (.call 180 [i' 20, i' 5, i' 7]), o' 19 (.bsl [(.int .i64 0), (.int .i64 0), (.int .i64 0), (.int .i64 0)] 1 [(0, (.t 18))]), o' 20 (.call 182 [i' 4, i' 5, .t 19]), o' 21 (.call 180 [i' 1, i' 7, i' 8]), o' 22 (.bsl [(.int .i64 0), (.int .i64 0), (.int .i64 0), (.int .i64 0)] 1 [(0, (.t 21))]), o' 23 (.call 182 [i' 4, i' 5, .t 22]), o' 24 (.bsl [(.int .i64 0), (.int .i64 0), (.int .i64 0), (.slice none 0 0)] 4 [(0, (.t 13)), (1, (.t 17)), (2, (.t 20)), (3, (.t 23))]), o' 25 (.call 178 [.t 10, (.k (.string ⟨#[106, 115, 114]⟩)), (i' 4), (.t 24)])] [0]) c101x12
def c101 : AC := .seq (.reg [m' 4 0, o' 5 (.call 102 [i' 0, i' 5, (.k (.slice none 0 0))]), o' 6 (.call 103 [i' 7]), o' 7 (.call 102 [i' 0, i' 6, .t 6]), o' 8 (.bsl [(.int .i64 0), (.int .i64 0), (.int .i64 0), (.slice none 0 0)] 2 [(0, (.t 5)), (1, (.t 7))]), o' 9 (.call 178 [.t 4, (.k (.string ⟨#[106, 109, 112]⟩)), (i' 4), (.t 8)])] [0]) c101x13
theorem k101 : kS Tryz.prog Tryz.f101 (lvs c101) = some c101 := by kernel_rfl
theorem e101 : enters Tryz.prog 101 = true := by kernel_rfl
theorem q101 : qS Tryz.prog Tryz.f101 = some [] := by kernel_rfl
def c102x0 : AC := .seq (.reg [m' 7 0, m' 8 1, m' 9 2, o' 10 (.build [(.int .i64 0), (.int .i64 0), (.int .i64 0), (.slice none 0 0)] [(0, 1, (i' 1)), (1, 1, (.t 7)), (2, 1, (.t 8)), (3, 1, (.t 9))]), n' (.st 4 (.t 6) (.t 10))] [6]) .ret
def c102 : AC := .seq (.reg [o' 6 (.zero [(.int .i64 0), (.int .i64 0), (.int .i64 0), (.slice none 0 0)])] [0, 1, 2, 6]) c102x0
theorem k102 : kS Tryz.prog Tryz.f102 (lvs c102) = some c102 := by kernel_rfl
theorem e102 : enters Tryz.prog 102 = true := by kernel_rfl
theorem q102 : qS Tryz.prog Tryz.f102 = some [.cell (some 4) 6] := by kernel_rfl
def c103x0 : AC := .seq (.reg [m' 3 0, o' 4 (.call 180 [i' 18, .t 3, i' 5]), m' 5 0, o' 6 (.call 180 [i' 19, .t 5, i' 6]), o' 7 (.bsl [(.int .i64 0), (.int .i64 0), (.int .i64 0), (.int .i64 0)] 2 [(0, (.t 4)), (1, (.t 6))]), m' 2 7] [2]) .ret
def c103 : AC := .seq (.reg [o' 2 (.mv (.k (.slice none 0 0)))] [0]) c103x0
theorem k103 : kS Tryz.prog Tryz.f103 (lvs c103) = some c103 := by kernel_rfl
theorem e103 : enters Tryz.prog 103 = true := by kernel_rfl
theorem q103 : qS Tryz.prog Tryz.f103 = some [.t 2] := by kernel_rfl
def c104x0 : AC := .seq (.reg [o' 5 (.call 180 [i' 21, i' 5, i' 7]), o' 6 (.bsl [(.int .i64 0), (.int .i64 0), (.int .i64 0), (.int .i64 0)] 1 [(0, (.t 5))]), o' 7 (.call 179 [.t 6]), o' 8 (.call 180 [i' 20, i' 5, i' 7]), o' 9 (.bsl [(.int .i64 0), (.int .i64 0), (.int .i64 0), (.int .i64 0)] 1 [(0, (.t 8))]), o' 10 (.call 182 [i' 4, i' 5, .t 9]), o' 11 (.call 182 [i' 4, i' 5, (.k (.slice none 0 0))]), o' 12 (.build [(.int .i64 0), (.int .i64 0), (.int .i64 0), (.int .i64 0)] [(0, 1, (i' 16)), (3, 1, (i' 4))]), o' 13 (.bsl [(.int .i64 0), (.int .i64 0), (.int .i64 0), (.int .i64 0)] 1 [(0, (.t 12))]), o' 14 (.call 182 [i' 4, i' 4, .t 13]), m' 15 0, o' 16 (.call 102 [.t 15, i' 5, (.k (.slice none 0 0))]), m' 17 1, o' 18 (.call 103 [i' 7]), o' 19 (.call 102 [.t 17, i' 6, .t 18]), o' 20 (.bsl [(.int .i64 0), (.int .i64 0), (.int .i64 0), (.slice none 0 0)] 6 [(0, (.t 7)), (1, (.t 10)), (2, (.t 11)), (3, (.t 14)), (4, (.t 16)), (5, (.t 19))]), m' 4 20] [4]) .ret
def c104 : AC := .seq (.reg [o' 4 (.mv (.k (.slice none 0 0)))] [0, 1]) c104x0
theorem k104 : kS Tryz.prog Tryz.f104 (lvs c104) = some c104 := by kernel_rfl
theorem e104 : enters Tryz.prog 104 = true := by kernel_rfl
theorem q104 : qS Tryz.prog Tryz.f104 = some [.t 4] := by kernel_rfl
def c174x0 : AC := .reg [o' 27 (.bin .add (.t 12) (i' 1)), m' 12 27] [0, 1, 2, 10, 11, 12]
def c174x1 : AC := .reg [m' 16 0, m' 17 1, m' 18 9, m' 19 9, m' 20 2, o' 21 (.call 180 [i' 1, .t 20, i' 5]), m' 22 2, o' 23 (.call 181 [i' 3, .t 22]), o' 24 (.bsl [(.int .i64 0), (.int .i64 0), (.int .i64 0), (.int .i64 0)] 2 [(0, (.t 21)), (1, (.t 23))]), o' 25 (.call 233 [.t 19, .t 24]), o' 26 (.call 178 [.t 16, .t 17, .t 18, .t 25])] [0, 1, 2, 10, 11, 12]
def c174x2 : AC := .seq (.reg [o' 14 (.idx 1 none (.t 10) (.t 12)), o' 15 (.ld none (.t 14)), m' 9 15] [0, 1, 2, 9, 10, 11, 12]) c174x1
def c174x7 : AC := .seq (.reg [o' 13 (.bin .lss (.t 12) (.t 11))] [0, 1, 2, 10, 11, 12, 13]) (.seq (.cond (.t 13) .skip (.exit 0)) (.seq (.block 1 c174x2) c174x0))
def c174 : AC := .seq (.reg [m' 10 3, o' 11 (.len (.t 10)), o' 12 (.mv (i' 0))] [0, 1, 2, 10, 11, 12]) (.block 0 (.loop c174x7))
theorem k174 : kS Tryz.prog Tryz.f174 (lvs c174) = some c174 := by kernel_rfl
theorem e174 : enters Tryz.prog 174 = true := by kernel_rfl
theorem q174 : qS Tryz.prog Tryz.f174 = some [] := by kernel_rfl
def c175x0 : AC := .reg [o' 26 (.bin .add (.t 12) (i' 1)), m' 12 26] [0, 1, 2, 10, 11, 12]
def c175x1 : AC := .reg [m' 16 0, m' 17 1, m' 18 9, m' 19 9, o' 20 (.call 234 [.t 19]), m' 21 2, o' 22 (.call 182 [i' 2, .t 21, (.k (.slice none 0 0))]), o' 23 (.bsl [(.int .i64 0), (.int .i64 0), (.int .i64 0), (.slice none 0 0)] 1 [(0, (.t 22))]), o' 24 (.app 4 48 (.t 20) (.t 23)), o' 25 (.call 178 [.t 16, .t 17, .t 18, .t 24])] [0, 1, 2, 10, 11, 12]
def c175x2 : AC := .seq (.reg [o' 14 (.idx 1 none (.t 10) (.t 12)), o' 15 (.ld none (.t 14)), m' 9 15] [0, 1, 2, 9, 10, 11, 12]) c175x1
def c175x7 : AC := .seq (.reg [o' 13 (.bin .lss (.t 12) (.t 11))] [0, 1, 2, 10, 11, 12, 13]) (.seq (.cond (.t 13) .skip (.exit 0)) (.seq (.block 1 c175x2) c175x0))
def c175 : AC := .seq (.reg [m' 10 3, o' 11 (.len (.t 10)), o' 12 (.mv (i' 0))] [0, 1, 2, 10, 11, 12]) (.block 0 (.loop c175x7))
theorem k175 : kS Tryz.prog Tryz.f175 (lvs c175) = some c175 := by kernel_rfl
theorem e175 : enters Tryz.prog 175 = true := by kernel_rfl
theorem q175 : qS Tryz.prog Tryz.f175 = some [] := by kernel_rfl
def c176x0 : AC := .reg [o' 28 (.bin .add (.t 14) (i' 1)), m' 14 28] [0, 1, 2, 3, 12, 13, 14]
def c176x1 : AC := .reg [m' 18 0, m' 19 1, m' 20 11, m' 21 11, m' 22 2, m' 23 3, o' 24 (.call 180 [.t 22, .t 23, i' 5]), o' 25 (.bsl [(.int .i64 0), (.int .i64 0), (.int .i64 0), (.int .i64 0)] 1 [(0, (.t 24))]), o' 26 (.call 233 [.t 21, .t 25]), o' 27 (.call 178 [.t 18, .t 19, .t 20, .t 26])] [0, 1, 2, 3, 12, 13, 14]
def c176x2 : AC := .seq (.reg [o' 16 (.idx 1 none (.t 12) (.t 14)), o' 17 (.ld none (.t 16)), m' 11 17] [0, 1, 2, 3, 11, 12, 13, 14]) c176x1
def c176x7 : AC := .seq (.reg [o' 15 (.bin .lss (.t 14) (.t 13))] [0, 1, 2, 3, 12, 13, 14, 15]) (.seq (.cond (.t 15) .skip (.exit 0)) (.seq (.block 1 c176x2) c176x0))
def c176 : AC := .seq (.reg [m' 12 4, o' 13 (.len (.t 12)), o' 14 (.mv (i' 0))] [0, 1, 2, 3, 12, 13, 14]) (.block 0 (.loop c176x7))
theorem k176 : kS Tryz.prog Tryz.f176 (lvs c176) = some c176 := by kernel_rfl
theorem e176 : enters Tryz.prog 176 = true := by kernel_rfl
theorem q176 : qS Tryz.prog Tryz.f176 = some [] := by kernel_rfl
def c177x0 : AC := .reg [o' 40 (.bin .add (.t 12) (i' 1)), m' 12 40] [0, 1, 2, 10, 11, 12]
def c177x1 : AC := .reg [m' 27 0, m' 28 1, m' 29 9, m' 30 9, o' 31 (.call 234 [.t 30]), m' 32 2, o' 33 (.call 181 [.t 32, i' 5]), o' 34 (.bsl [(.int .i64 0), (.int .i64 0), (.int .i64 0), (.int .i64 0)] 1 [(0, (.t 33))]), o' 35 (.call 102 [i' 2, i' 5, .t 34]), o' 36 (.call 182 [i' 2, i' 5, (.k (.slice none 0 0))]), o' 37 (.bsl [(.int .i64 0), (.int .i64 0), (.int .i64 0), (.slice none 0 0)] 2 [(0, (.t 35)), (1, (.t 36))]), o' 38 (.app 4 48 (.t 31) (.t 37)), o' 39 (.call 178 [.t 27, .t 28, .t 29, .t 38])] [0, 1, 2, 10, 11, 12]
def c177x2 : AC := .seq (.reg [m' 18 0, m' 19 1, m' 20 9, m' 21 2, o' 22 (.call 181 [.t 21, i' 0]), o' 23 (.bsl [(.int .i64 0), (.int .i64 0), (.int .i64 0), (.int .i64 0)] 1 [(0, (.t 22))]), o' 24 (.call 179 [.t 23]), o' 25 (.bsl [(.int .i64 0), (.int .i64 0), (.int .i64 0), (.slice none 0 0)] 1 [(0, (.t 24))]), o' 26 (.call 178 [.t 18, .t 19, .t 20, .t 25])] [0, 1, 2, 10, 11, 12]) (.exit 1)
def c177x4 : AC := .seq (.reg [m' 16 9, o' 17 (.bin .eql (.t 16) (i' 0))] [0, 1, 2, 9, 10, 11, 12, 17]) (.cond (.t 17) c177x2 .skip)
def c177x6 : AC := .seq (.reg [o' 14 (.idx 1 none (.t 10) (.t 12)), o' 15 (.ld none (.t 14)), m' 9 15] [0, 1, 2, 9, 10, 11, 12]) (.seq c177x4 c177x1)
def c177x11 : AC := .seq (.reg [o' 13 (.bin .lss (.t 12) (.t 11))] [0, 1, 2, 10, 11, 12, 13]) (.seq (.cond (.t 13) .skip (.exit 0)) (.seq (.block 1 c177x6) c177x0))
def c177 : AC := .seq (.reg [m' 10 3, o' 11 (.len (.t 10)), o' 12 (.mv (i' 0))] [0, 1, 2, 10, 11, 12]) (.block 0 (.loop c177x11))
theorem k177 : kS Tryz.prog Tryz.f177 (lvs c177) = some c177 := by kernel_rfl
theorem e177 : enters Tryz.prog 177 = true := by kernel_rfl
theorem q177 : qS Tryz.prog Tryz.f177 = some [] := by kernel_rfl
def c178 : AC := .dreg [m' 8 0, m' 9 0, o' 10 (.nilc (.t 9)), o' 11 (.fad 0 (.t 10)), o' 12 (.ld none (.t 11)), m' 13 0, o' 14 (.nilc (.t 13)), o' 15 (.fad 0 (.t 14)), o' 16 (.ld none (.t 15)), o' 17 (.len (.t 16)), o' 18 (.bin .add (.t 17) (i' 1)), m' 19 1, m' 20 2, m' 21 3, o' 22 (.build [(.int .i64 0), (.string ⟨#[]⟩), (.int .i64 0), (.slice none 0 0)] [(0, 1, (.t 18)), (1, 1, (.t 19)), (2, 1, (.t 20)), (3, 1, (.t 21))]), o' 23 (.bsl [(.int .i64 0), (.string ⟨#[]⟩), (.int .i64 0), (.slice none 0 0)] 1 [(0, (.t 22))]), o' 24 (.app 4 56 (.t 12) (.t 23)), o' 25 (.nilc (.t 8)), o' 26 (.fad 0 (.t 25)), n' (.st 1 (.t 26) (.t 24))] (bf [[], [], [1, 2], [1, 3], [1, 4], [], [5, 6], [5, 7], [5, 8], [5, 9], [5, 10], [], [], [], [5, 14], [5, 15], [1, 16], [0, 17], [0, 18], [0, 19]]) []
theorem k178 : kS Tryz.prog Tryz.f178 (lvs c178) = some c178 := by kernel_rfl
theorem e178 : enters Tryz.prog 178 = true := by kernel_rfl
theorem q178 : qS Tryz.prog Tryz.f178 = some [] := by kernel_rfl
def c179x0 : AC := .seq (.reg [m' 3 0, o' 4 (.build [(.int .i64 0), (.int .i64 0), (.int .i64 0), (.slice none 0 0)] [(3, 1, (.t 3))]), n' (.st 4 (.t 2) (.t 4))] [2]) .ret
def c179 : AC := .seq (.reg [o' 2 (.zero [(.int .i64 0), (.int .i64 0), (.int .i64 0), (.slice none 0 0)])] [0, 2]) c179x0
theorem k179 : kS Tryz.prog Tryz.f179 (lvs c179) = some c179 := by kernel_rfl
theorem e179 : enters Tryz.prog 179 = true := by kernel_rfl
theorem q179 : qS Tryz.prog Tryz.f179 = some [.cell (some 4) 2] := by kernel_rfl
def c180x0 : AC := .seq (.reg [m' 7 0, m' 8 1, m' 9 2, o' 10 (.build [(.int .i64 0), (.int .i64 0), (.int .i64 0), (.int .i64 0)] [(0, 1, (.t 7)), (1, 1, (.t 8)), (2, 1, (.t 9))]), n' (.st 4 (.t 6) (.t 10))] [6]) .ret
def c180 : AC := .seq (.reg [o' 6 (.zero [(.int .i64 0), (.int .i64 0), (.int .i64 0), (.int .i64 0)])] [0, 1, 2, 6]) c180x0
theorem k180 : kS Tryz.prog Tryz.f180 (lvs c180) = some c180 := by kernel_rfl
theorem e180 : enters Tryz.prog 180 = true := by kernel_rfl
theorem q180 : qS Tryz.prog Tryz.f180 = some [.cell (some 4) 6] := by kernel_rfl
def c181x0 : AC := .seq (.reg [m' 5 0, m' 6 1, o' 7 (.build [(.int .i64 0), (.int .i64 0), (.int .i64 0), (.int .i64 0)] [(0, 1, (.t 5)), (1, 1, (.t 6))]), n' (.st 4 (.t 4) (.t 7))] [4]) .ret
def c181 : AC := .seq (.reg [o' 4 (.zero [(.int .i64 0), (.int .i64 0), (.int .i64 0), (.int .i64 0)])] [0, 1, 4]) c181x0
theorem k181 : kS Tryz.prog Tryz.f181 (lvs c181) = some c181 := by kernel_rfl
theorem e181 : enters Tryz.prog 181 = true := by kernel_rfl
theorem q181 : qS Tryz.prog Tryz.f181 = some [.cell (some 4) 4] := by kernel_rfl
def c182x0 : AC := .seq (.reg [m' 7 0, m' 8 1, m' 9 2, o' 10 (.build [(.int .i64 0), (.int .i64 0), (.int .i64 0), (.slice none 0 0)] [(0, 1, (i' 2)), (1, 1, (.t 7)), (2, 1, (.t 8)), (3, 1, (.t 9))]), n' (.st 4 (.t 6) (.t 10))] [6]) .ret
def c182 : AC := .seq (.reg [o' 6 (.zero [(.int .i64 0), (.int .i64 0), (.int .i64 0), (.slice none 0 0)])] [0, 1, 2, 6]) c182x0
theorem k182 : kS Tryz.prog Tryz.f182 (lvs c182) = some c182 := by kernel_rfl
theorem e182 : enters Tryz.prog 182 = true := by kernel_rfl
theorem q182 : qS Tryz.prog Tryz.f182 = some [.cell (some 4) 6] := by kernel_rfl
def c233x0 : AC := .seq (.reg [m' 8 0, o' 9 (.call 234 [.t 8]), m' 10 5, m' 11 1, o' 12 (.call 102 [.t 10, i' 5, .t 11]), o' 13 (.bsl [(.int .i64 0), (.int .i64 0), (.int .i64 0), (.slice none 0 0)] 1 [(0, (.t 12))]), o' 14 (.app 4 48 (.t 9) (.t 13)), m' 4 14] [4]) .ret
def c233x3 : AC := .seq (.reg [m' 6 0, o' 7 (.bin .eql (.t 6) (i' 1))] [0, 1, 5, 7]) (.cond (.t 7) (.reg [o' 5 (.mv (i' 0))] [0, 1, 5]) .skip)
def c233 : AC := .seq (.reg [o' 4 (.mv (.k (.slice none 0 0)))] [0, 1]) (.seq (.reg [o' 5 (.mv (i' 2))] [0, 1, 5]) (.seq c233x3 c233x0))
theorem k233 : kS Tryz.prog Tryz.f233 (lvs c233) = some c233 := by kernel_rfl
theorem e233 : enters Tryz.prog 233 = true := by kernel_rfl
theorem q233 : qS Tryz.prog Tryz.f233 = some [.t 4] := by kernel_rfl
def c234x1 : AC := .seq (.reg [o' 19 (.ld (some 4) (.t 3)), o' 20 (.bsl [(.int .i64 0), (.int .i64 0), (.int .i64 0), (.slice none 0 0)] 1 [(0, (.t 19))]), m' 2 20] [2]) .ret
def c234x2 : AC := .seq (.dreg [o' 29 (.ld (some 4) (.t 3)), o' 30 (.call 180 [i' 20, i' 5, i' 8]), o' 31 (.call 248 []), o' 32 (.call 180 [i' 18, i' 8, i' 5]), o' 33 (.bsl [(.int .i64 0), (.int .i64 0), (.int .i64 0), (.int .i64 0)] 3 [(0, (.t 30)), (1, (.t 31)), (2, (.t 32))]), o' 34 (.call 179 [.t 33]), o' 35 (.bsl [(.int .i64 0), (.int .i64 0), (.int .i64 0), (.slice none 0 0)] 2 [(0, (.t 29)), (1, (.t 34))]), m' 2 35] (bf [[], [], [1, 2], [1, 3], [1, 4], [1, 5], [0, 6], [0, 7]]) [2]) .ret
def c234x3 : AC := .seq (.dreg [o' 23 (.fad 3 (.t 3)), o' 24 (.ld none (.t 23)), o' 25 (.call 180 [i' 22, i' 8, i' 1]), o' 26 (.bsl [(.int .i64 0), (.int .i64 0), (.int .i64 0), (.int .i64 0)] 1 [(0, (.t 25))]), o' 27 (.app 4 32 (.t 24) (.t 26)), o' 28 (.fad 3 (.t 3)), n' (.st 1 (.t 28) (.t 27))] (bf [[], [0, 1], [], [2, 3], [0, 4], [0, 5], [0, 6]]) [3]) c234x2
def c234x4 : AC := .seq (.reg [o' 38 (.ld (some 4) (.t 4)), o' 39 (.ld (some 4) (.t 5)), o' 40 (.bsl [(.int .i64 0), (.int .i64 0), (.int .i64 0), (.slice none 0 0)] 2 [(0, (.t 38)), (1, (.t 39))]), m' 2 40] [2]) .ret
def c234x5 : AC := .seq (.dreg [o' 43 (.ld (some 4) (.t 4)), o' 44 (.ld (some 4) (.t 5)), o' 45 (.call 180 [i' 22, i' 8, i' 1]), o' 46 (.bsl [(.int .i64 0), (.int .i64 0), (.int .i64 0), (.int .i64 0)] 1 [(0, (.t 45))]), o' 47 (.call 179 [.t 46]), o' 48 (.bsl [(.int .i64 0), (.int .i64 0), (.int .i64 0), (.slice none 0 0)] 3 [(0, (.t 43)), (1, (.t 44)), (2, (.t 47))]), m' 2 48] (bf [[], [], [], [2, 3], [2, 4], [0, 5], [0, 6]]) [2]) .ret
def c234x6 : AC := .seq (.dreg [o' 51 (.ld (some 4) (.t 4)), o' 52 (.ld (some 4) (.t 5)), o' 53 (.call 180 [i' 22, i' 8, i' 2]), o' 54 (.bsl [(.int .i64 0), (.int .i64 0), (.int .i64 0), (.int .i64 0)] 1 [(0, (.t 53))]), o' 55 (.call 179 [.t 54]), o' 56 (.bsl [(.int .i64 0), (.int .i64 0), (.int .i64 0), (.slice none 0 0)] 3 [(0, (.t 51)), (1, (.t 52)), (2, (.t 55))]), m' 2 56] (bf [[], [], [], [2, 3], [2, 4], [0, 5], [0, 6]]) [2]) .ret
def c234x7 : AC := .seq (.dreg [o' 59 (.ld (some 4) (.t 3)), o' 60 (.call 102 [i' 2, i' 5, (.k (.slice none 0 0))]), o' 61 (.call 103 [i' 8]), o' 62 (.call 180 [i' 22, i' 8, i' 2]), o' 63 (.bsl [(.int .i64 0), (.int .i64 0), (.int .i64 0), (.int .i64 0)] 1 [(0, (.t 62))]), o' 64 (.app 4 32 (.t 61) (.t 63)), o' 65 (.call 102 [i' 3, i' 6, .t 64]), o' 66 (.bsl [(.int .i64 0), (.int .i64 0), (.int .i64 0), (.slice none 0 0)] 3 [(0, (.t 59)), (1, (.t 60)), (2, (.t 65))]), m' 2 66] (bf [[], [], [1, 2], [1, 3], [1, 4], [1, 5], [1, 6], [0, 7], [0, 8]]) [2]) .ret
def c234x9 : AC := .seq (.reg [o' 58 (.bin .eql (.t 16) (i' 8)), m' 57 58] [3, 57]) (.cond (.t 57) c234x7 .skip)
def c234x11 : AC := .seq (.reg [o' 50 (.bin .eql (.t 16) (i' 6)), m' 49 50] [3, 4, 5, 16, 49]) (.cond (.t 49) c234x6 c234x9)
def c234x13 : AC := .seq (.reg [o' 42 (.bin .eql (.t 16) (i' 5)), m' 41 42] [3, 4, 5, 16, 41]) (.cond (.t 41) c234x5 c234x11)
def c234x15 : AC := .seq (.reg [o' 37 (.bin .eql (.t 16) (i' 4)), m' 36 37] [3, 4, 5, 16, 36]) (.cond (.t 36) c234x4 c234x13)
def c234x17 : AC := .seq (.reg [o' 22 (.bin .eql (.t 16) (i' 3)), m' 21 22] [3, 4, 5, 16, 21]) (.cond (.t 21) c234x3 c234x15)
def c234x19 : AC := .seq (.reg [o' 18 (.bin .eql (.t 16) (i' 2)), m' 17 18] [3, 4, 5, 16, 17]) (.cond (.t 17) c234x1 c234x17)
def c234x23 : AC := .seq (.reg [o' 13 (.call 180 [i' 19, i' 8, i' 5]), o' 14 (.bsl [(.int .i64 0), (.int .i64 0), (.int .i64 0), (.int .i64 0)] 1 [(0, (.t 13))]), o' 15 (.call 102 [i' 0, i' 5, .t 14]), o' 5 (.zero [(.int .i64 0), (.int .i64 0), (.int .i64 0), (.slice none 0 0)]), n' (.st 4 (.t 5) (.t 15))] [0, 3, 4, 5]) (.seq (.seq (.reg [m' 16 0] [3, 4, 5, 16]) (.block 0 c234x19)) (.seq (.reg [o' 2 (.mv (.k (.slice none 0 0)))] [2]) .ret))
def c234x24 : AC := .seq (.reg [o' 10 (.call 180 [i' 18, i' 8, i' 5]), o' 11 (.bsl [(.int .i64 0), (.int .i64 0), (.int .i64 0), (.int .i64 0)] 1 [(0, (.t 10))]), o' 12 (.call 102 [i' 0, i' 5, .t 11]), o' 4 (.zero [(.int .i64 0), (.int .i64 0), (.int .i64 0), (.slice none 0 0)]), n' (.st 4 (.t 4) (.t 12))] [0, 3, 4]) c234x23
def c234x25 : AC := .seq (.reg [o' 6 (.call 248 []), o' 7 (.call 180 [i' 18, i' 8, i' 5]), o' 8 (.bsl [(.int .i64 0), (.int .i64 0), (.int .i64 0), (.int .i64 0)] 2 [(0, (.t 6)), (1, (.t 7))]), o' 9 (.call 102 [i' 0, i' 5, .t 8]), o' 3 (.zero [(.int .i64 0), (.int .i64 0), (.int .i64 0), (.slice none 0 0)]), n' (.st 4 (.t 3) (.t 9))] [0, 3]) c234x24
def c234 : AC := .seq (.reg [o' 2 (.mv (.k (.slice none 0 0)))] [0]) c234x25
theorem k234 : kS Tryz.prog Tryz.f234 (lvs c234) = some c234 := by kernel_rfl
theorem e234 : enters Tryz.prog 234 = true := by kernel_rfl
theorem q234 : qS Tryz.prog Tryz.f234 = some [.t 2] := by kernel_rfl
def c248x0 : AC := .seq (.reg [o' 1 (.build [(.int .i64 0), (.int .i64 0), (.int .i64 0), (.int .i64 0)] [(0, 1, (i' 2)), (1, 1, (i' 8))]), n' (.st 4 (.t 0) (.t 1))] [0]) .ret
def c248 : AC := .seq (.reg [o' 0 (.zero [(.int .i64 0), (.int .i64 0), (.int .i64 0), (.int .i64 0)])] [0]) c248x0
theorem k248 : kS Tryz.prog Tryz.f248 (lvs c248) = some c248 := by kernel_rfl
theorem e248 : enters Tryz.prog 248 = true := by kernel_rfl
theorem q248 : qS Tryz.prog Tryz.f248 = some [.cell (some 4) 0] := by kernel_rfl
end Go.Proofs.YtpfagchhmfigfaaGreat.Code

namespace Go.Proofs.YtpfagchhmfigfaaGreat.Code
open Go Go.Proofs.YtpfagchhmfigfaaGreat.Calc
set_option maxRecDepth 100000
def c119x0 : AC := .seq (.reg [o' 12 (.mksl [(.int .i64 0)] 8 (i' 10) (i' 10)), m' 13 3, o' 14 (.build [(.slice none 0 0), (.slice none 0 0)] [(0, 1, (.t 12)), (1, 1, (.t 13))]), n' (.st 2 (.t 2) (.t 14))] [2]) .ret
def c119x1 : AC := .seq (.reg [m' 9 3, m' 10 0, o' 11 (.copy 1 (.t 9) (.t 10))] [2, 3]) c119x0
def c119x2 : AC := .seq (.reg [m' 4 0, o' 5 (.len (.t 4)), o' 6 (.bin .quo (.t 5) (i' 256)), o' 7 (.bin .mul (.t 6) (i' 256)), o' 8 (.mksl [(.int .u8 0)] 1 (.t 7) (.t 7)), m' 3 8] [0, 2, 3]) c119x1
def c119 : AC := .seq (.reg [o' 2 (.zero [(.slice none 0 0), (.slice none 0 0)])] [0, 2]) c119x2
theorem k119 : kS Tryz.prog Tryz.f119 (lvs c119) = some c119 := by kernel_rfl
theorem e119 : enters Tryz.prog 119 = true := by kernel_rfl
theorem q119 : qS Tryz.prog Tryz.f119 = some [.cell (some 2) 2] := by kernel_rfl
def c133x0 : AC := .seq (.reg [m' 39 7, m' 40 8, o' 41 (.build [(.slice none 0 0), (.slice none 0 0)] [(0, 1, (.t 39)), (1, 1, (.t 40))]), n' (.st 2 (.t 6) (.t 41))] [6]) .ret
def c133x1 : AC := .reg [m' 17 7, m' 18 2, o' 19 (.call 77 [.t 18, i' 8]), o' 20 (.call 205 [.t 17, .t 19])] [6, 7, 8]
def c133x2 : AC := .reg [m' 31 7, o' 32 (.idx 1 none (.t 31) (i' 7)), n' (.st 1 (.t 32) (i' 0))] [6, 7, 8]
def c133x4 : AC := .seq (.reg [m' 27 7, o' 28 (.idx 1 none (.t 27) (i' 2)), o' 29 (.ld none (.t 28)), o' 30 (.bin .eql (.t 29) (i' 4))] [6, 7, 8, 30]) (.cond (.t 30) c133x2 .skip)
def c133x5 : AC := .seq (.reg [m' 23 7, m' 24 2, o' 25 (.call 77 [.t 24, i' 8]), o' 26 (.idx 1 none (.t 23) (i' 6)), n' (.st 1 (.t 26) (.t 25))] [6, 7, 8]) c133x4
def c133x6 : AC := .reg [m' 35 7, m' 36 2, o' 37 (.call 77 [.t 36, i' 1]), o' 38 (.idx 1 none (.t 35) (i' 9)), n' (.st 1 (.t 38) (.t 37))] [6, 7, 8]
def c133x8 : AC := .seq (.reg [o' 34 (.bin .eql (.t 14) (i' 3)), m' 33 34] [2, 6, 7, 8, 33]) (.cond (.t 33) c133x6 .skip)
def c133x10 : AC := .seq (.reg [o' 22 (.bin .eql (.t 14) (i' 1)), m' 21 22] [2, 6, 7, 8, 14, 21]) (.cond (.t 21) c133x5 c133x8)
def c133x12 : AC := .seq (.reg [o' 16 (.bin .eql (.t 14) (i' 0)), m' 15 16] [2, 6, 7, 8, 14, 15]) (.cond (.t 15) c133x1 c133x10)
def c133x16 : AC := .seq (.reg [o' 10 (.ld (some 2) (.t 3)), o' 11 (.call 151 [.t 10]), m' 9 11, o' 12 (.ext (.t 9) 0), o' 13 (.ext (.t 9) 1), m' 7 12, m' 8 13] [1, 2, 6, 7, 8]) (.seq (.seq (.reg [m' 14 1] [2, 6, 7, 8, 14]) (.block 0 c133x12)) c133x0)
def c133 : AC := .seq (.reg [o' 3 (.new 2 (.t 0)), o' 6 (.zero [(.slice none 0 0), (.slice none 0 0)])] [1, 2, 3, 6]) c133x16
theorem k133 : kS Tryz.prog Tryz.f133 (lvs c133) = some c133 := by kernel_rfl
theorem e133 : enters Tryz.prog 133 = true := by kernel_rfl
theorem q133 : qS Tryz.prog Tryz.f133 = some [.cell (some 2) 6] := by kernel_rfl
def c151x0 : AC := .seq (.reg [m' 53 4, m' 54 7, m' 2 53, m' 3 54] [2, 3]) .ret
def c151x1 : AC := .reg [m' 51 4, o' 52 (.idx 1 none (.t 51) (i' 2)), n' (.st 1 (.t 52) (i' 0))] [4, 7]
def c151x3 : AC := .seq (.reg [m' 47 4, o' 48 (.idx 1 none (.t 47) (i' 2)), o' 49 (.ld none (.t 48)), o' 50 (.bin .gtr (.t 49) (i' 4))] [4, 7, 50]) (.cond (.t 50) c151x1 .skip)
def c151x5 : AC := .reg [m' 45 4, o' 46 (.idx 1 none (.t 45) (i' 0)), n' (.st 1 (.t 46) (i' 0))] [4, 7]
def c151x7 : AC := .seq (.reg [m' 38 4, o' 39 (.idx 1 none (.t 38) (i' 0)), o' 40 (.ld none (.t 39)), m' 41 7, o' 42 (.len (.t 41)), o' 43 (.bin .quo (.t 42) (i' 256)), o' 44 (.bin .gtr (.t 40) (.t 43))] [4, 7, 44]) (.cond (.t 44) c151x5 .skip)
def c151x9 : AC := .seq (.reg [m' 34 7, o' 35 (.fad 1 (.t 1)), o' 36 (.ld none (.t 35)), o' 37 (.copy 1 (.t 34) (.t 36))] [4, 7]) (.seq c151x7 (.seq c151x3 c151x0))
def c151x10 : AC := .seq (.reg [o' 28 (.fad 1 (.t 1)), o' 29 (.ld none (.t 28)), o' 30 (.len (.t 29)), o' 31 (.bin .quo (.t 30) (i' 256)), o' 32 (.bin .mul (.t 31) (i' 256)), o' 33 (.mksl [(.int .u8 0)] 1 (.t 32) (.t 32)), m' 7 33] [1, 4, 7]) c151x9
def c151x11 : AC := .reg [o' 27 (.bin .add (.t 14) (i' 1)), m' 14 27] [1, 4, 13, 14]
def c151x12 : AC := .reg [m' 18 4, m' 19 5, m' 20 4, m' 21 5, o' 22 (.idx 1 none (.t 20) (.t 21)), o' 23 (.ld none (.t 22)), m' 24 6, o' 25 (.call 77 [.t 23, .t 24]), o' 26 (.idx 1 none (.t 18) (.t 19)), n' (.st 1 (.t 26) (.t 25))] [1, 4, 13, 14]
def c151x13 : AC := .seq (.reg [m' 16 14, o' 17 (.ixa 10 1 none (.t 13) (.t 14)), m' 5 16, m' 6 17] [1, 4, 5, 6, 13, 14]) c151x12
def c151x18 : AC := .seq (.reg [o' 15 (.bin .lss (.t 14) (i' 10))] [1, 4, 13, 14, 15]) (.seq (.cond (.t 15) .skip (.exit 0)) (.seq (.block 1 c151x13) c151x11))
def c151x21 : AC := .seq (.reg [o' 13 (.build [(.int .i64 0), (.int .i64 0), (.int .i64 0), (.int .i64 0), (.int .i64 0), (.int .i64 0), (.int .i64 0), (.int .i64 0), (.int .i64 0), (.int .i64 0)] [(0, 1, (i' 8)), (1, 1, (i' 2)), (2, 1, (i' 3)), (3, 1, (i' 2)), (4, 1, (i' 4)), (5, 1, (i' 6)), (6, 1, (i' 8)), (7, 1, (i' 1)), (8, 1, (i' 1)), (9, 1, (i' 1))]), o' 14 (.mv (i' 0))] [1, 4, 13, 14]) (.block 0 (.loop c151x18))
def c151x23 : AC := .seq (.reg [m' 9 4, o' 10 (.fad 0 (.t 1)), o' 11 (.ld none (.t 10)), o' 12 (.copy 1 (.t 9) (.t 11))] [1, 4]) (.seq c151x21 c151x10)
def c151x24 : AC := .seq (.reg [o' 8 (.mksl [(.int .i64 0)] 8 (i' 10) (i' 10)), m' 4 8] [1, 4]) c151x23
def c151 : AC := .seq (.reg [o' 1 (.new 2 (.t 0)), o' 2 (.mv (.k (.slice none 0 0))), o' 3 (.mv (.k (.slice none 0 0)))] [1]) c151x24
theorem k151 : kS Tryz.prog Tryz.f151 (lvs c151) = some c151 := by kernel_rfl
theorem e151 : enters Tryz.prog 151 = true := by kernel_rfl
theorem q151 : qS Tryz.prog Tryz.f151 = some [.t 2, .t 3] := by kernel_rfl
def c205x0 : AC := .reg [m' 45 0, o' 46 (.idx 1 none (.t 45) (i' 7)), n' (.st 1 (.t 46) (i' 1))] []
def c205x2 : AC := .seq (.reg [m' 43 4, o' 44 (.bin .eql (.t 43) (i' 4))] [0, 44]) (.cond (.t 44) c205x0 .skip)
def c205x3 : AC := .seq (.reg [m' 41 0, o' 42 (.idx 1 none (.t 41) (i' 7)), n' (.st 1 (.t 42) (i' 0))] [0, 4]) c205x2
def c205x4 : AC := .seq (.reg [m' 29 0, m' 30 0, m' 31 0, m' 32 0, m' 33 4, m' 34 1, o' 35 (.bin .shr (.t 34) (.k (.int .u64 4))), o' 36 (.bin .and (.t 35) (i' 3)), o' 37 (.idx 1 none (.t 29) (i' 2)), n' (.st 1 (.t 37) (.t 33)), o' 38 (.idx 1 none (.t 30) (i' 3)), n' (.st 1 (.t 38) (.t 36)), o' 39 (.idx 1 none (.t 31) (i' 4)), n' (.st 1 (.t 39) (i' 0)), o' 40 (.idx 1 none (.t 32) (i' 5)), n' (.st 1 (.t 40) (i' 30))] [0, 4]) c205x3
def c205x6 : AC := .seq (.reg [m' 7 0, o' 8 (.idx 1 none (.t 7) (i' 2)), o' 9 (.ld none (.t 8)), o' 10 (.bin .gtr (.t 9) (i' 0)), m' 11 10, gF' 12 11 (.mv (.t 4)), gF' 13 11 (.bin .lss (.t 12) (i' 1)), o' 14 (.pick (.t 11) kT' (.t 13)), m' 15 14, gF' 16 15 (.mv (.t 4)), gF' 17 15 (.bin .gtr (.t 16) (i' 4)), o' 18 (.pick (.t 15) kT' (.t 17)), m' 19 18, gF' 20 19 (.mv (.t 4)), gF' 21 19 (.bin .geq (.t 20) (i' 3)), gF' 22 19 (.mv (.t 21)), gT' 23 22 (.mv (.t 0)), gT' 24 22 (.idx 1 none (.t 23) (i' 0)), gT' 25 22 (.ld none (.t 24)), gT' 26 22 (.bin .eql (.t 25) (i' 0)), gF' 27 19 (.pick (.t 22) (.t 26) kF'), o' 28 (.pick (.t 19) kT' (.t 27))] [0, 1, 4, 28]) (.cond (.t 28) .ret .skip)
def c205 : AC := .seq (.reg [m' 5 1, o' 6 (.bin .and (.t 5) (i' 15)), m' 4 6] [0, 1, 4]) (.seq c205x6 c205x4)
theorem k205 : kS Tryz.prog Tryz.f205 (lvs c205) = some c205 := by kernel_rfl
theorem e205 : enters Tryz.prog 205 = true := by kernel_rfl
theorem q205 : qS Tryz.prog Tryz.f205 = some [] := by kernel_rfl
end Go.Proofs.YtpfagchhmfigfaaGreat.Code

namespace Go.Proofs.YtpfagchhmfigfaaGreat.Code
open Go Go.Proofs.YtpfagchhmfigfaaGreat.Calc
set_option maxRecDepth 100000
def c58x0 : AC := .seq (.reg [o' 45 (.build [(.slice none 0 0), (.slice none 0 0)] []), n' (.st 2 (.t 2) (.t 45))] [2]) .ret
def c58x1 : AC := .seq (.reg [o' 24 (.ld (some 2) (.t 3)), n' (.st 2 (.t 2) (.t 24))] [2]) .ret
def c58x2 : AC := .reg [o' 22 (.bsl [(.int .i64 0)] 1 [(0, (i' 0))]), o' 23 (.fad 0 (.t 3)), n' (.st 1 (.t 23) (.t 22))] [2, 3]
def c58x4 : AC := .seq (.reg [o' 19 (.fad 1 (.t 1)), o' 20 (.ld none (.t 19)), o' 21 (.bin .eql (.t 20) (i' 2))] [2, 3, 21]) (.cond (.t 21) c58x2 .skip)
def c58x6 : AC := .seq (.reg [o' 14 (.fad 1 (.t 3)), o' 15 (.ld none (.t 14)), o' 16 (.fad 4 (.t 1)), o' 17 (.ld none (.t 16)), o' 18 (.copy 1 (.t 15) (.t 17))] [1, 2, 3]) (.seq c58x4 c58x1)
def c58x7 : AC := .seq (.reg [o' 10 (.ld (some 5) (.t 1)), o' 11 (.call 113 [.t 10]), o' 12 (.mksl [(.int .u8 0)] 1 (.t 11) (.t 11)), o' 13 (.build [(.slice none 0 0), (.slice none 0 0)] [(1, 1, (.t 12))]), o' 3 (.zero [(.slice none 0 0), (.slice none 0 0)]), n' (.st 2 (.t 3) (.t 13))] [1, 2, 3]) c58x6
def c58x8 : AC := .seq (.reg [o' 27 (.call 114 []), n' (.st 2 (.t 2) (.t 27))] [2]) .ret
def c58x9 : AC := .seq (.reg [o' 30 (.call 115 []), n' (.st 2 (.t 2) (.t 30))] [2]) .ret
def c58x10 : AC := .seq (.reg [o' 33 (.call 116 []), n' (.st 2 (.t 2) (.t 33))] [2]) .ret
def c58x11 : AC := .seq (.reg [o' 36 (.call 117 []), n' (.st 2 (.t 2) (.t 36))] [2]) .ret
def c58x12 : AC := .seq (.reg [o' 39 (.call 118 []), n' (.st 2 (.t 2) (.t 39))] [2]) .ret
def c58x13 : AC := .seq (.reg [o' 42 (.fad 4 (.t 1)), o' 43 (.ld none (.t 42)), o' 44 (.call 119 [.t 43]), n' (.st 2 (.t 2) (.t 44))] [2]) .ret
def c58x15 : AC := .seq (.reg [o' 41 (.bin .eql (.t 5) (i' 8)), m' 40 41] [1, 2, 40]) (.cond (.t 40) c58x13 .skip)
def c58x17 : AC := .seq (.reg [o' 38 (.bin .eql (.t 5) (i' 7)), m' 37 38] [1, 2, 5, 37]) (.cond (.t 37) c58x12 c58x15)
def c58x19 : AC := .seq (.reg [o' 35 (.bin .eql (.t 5) (i' 6)), m' 34 35] [1, 2, 5, 34]) (.cond (.t 34) c58x11 c58x17)
def c58x21 : AC := .seq (.reg [o' 32 (.bin .eql (.t 5) (i' 5)), m' 31 32] [1, 2, 5, 31]) (.cond (.t 31) c58x10 c58x19)
def c58x23 : AC := .seq (.reg [o' 29 (.bin .eql (.t 5) (i' 4)), m' 28 29] [1, 2, 5, 28]) (.cond (.t 28) c58x9 c58x21)
def c58x25 : AC := .seq (.reg [o' 26 (.bin .eql (.t 5) (i' 3)), m' 25 26] [1, 2, 5, 25]) (.cond (.t 25) c58x8 c58x23)
def c58x29 : AC := .seq (.reg [o' 8 (.bin .eql (.t 5) (i' 1)), m' 6 8] [1, 2, 5, 6]) (.cond (.t 6) .skip (.reg [o' 9 (.bin .eql (.t 5) (i' 2)), m' 6 9] [1, 2, 5, 6]))
def c58x31 : AC := .seq (.reg [o' 7 (.bin .eql (.t 5) (i' 0)), m' 6 7] [1, 2, 5, 6]) (.cond (.t 6) .skip c58x29)
def c58x34 : AC := .seq (.reg [o' 4 (.fad 1 (.t 1)), o' 5 (.ld none (.t 4))] [1, 2, 5]) (.block 0 (.seq c58x31 (.cond (.t 6) c58x7 c58x25)))
def c58 : AC := .seq (.reg [o' 1 (.new 5 (.t 0)), o' 2 (.zero [(.slice none 0 0), (.slice none 0 0)])] [1, 2]) (.seq c58x34 c58x0)
theorem k58 : kS Tryz.prog Tryz.f58 (lvs c58) = some c58 := by kernel_rfl
theorem e58 : enters Tryz.prog 58 = true := by kernel_rfl
theorem q58 : qS Tryz.prog Tryz.f58 = some [.cell (some 2) 2] := by kernel_rfl
def c78x0 : AC := .seq (.reg [o' 56 (.build [(.slice none 0 0), (.slice none 0 0)] []), n' (.st 2 (.t 8) (.t 56))] [8]) .ret
def c78x1 : AC := .seq (.reg [o' 15 (.ld (some 5) (.t 4)), o' 16 (.ld (some 2) (.t 5)), m' 17 2, m' 18 3, o' 19 (.call 127 [.t 15, .t 16, .t 17, .t 18]), n' (.st 2 (.t 8) (.t 19))] [8]) .ret
def c78x2 : AC := .seq (.reg [o' 22 (.ld (some 2) (.t 5)), m' 23 2, m' 24 3, o' 25 (.call 128 [.t 22, .t 23, .t 24]), n' (.st 2 (.t 8) (.t 25))] [8]) .ret
def c78x3 : AC := .seq (.reg [o' 28 (.ld (some 2) (.t 5)), m' 29 2, m' 30 3, o' 31 (.call 129 [.t 28, .t 29, .t 30]), n' (.st 2 (.t 8) (.t 31))] [8]) .ret
def c78x4 : AC := .seq (.reg [o' 34 (.ld (some 2) (.t 5)), m' 35 2, m' 36 3, o' 37 (.call 130 [.t 34, .t 35, .t 36]), n' (.st 2 (.t 8) (.t 37))] [8]) .ret
def c78x5 : AC := .seq (.reg [o' 40 (.ld (some 2) (.t 5)), m' 41 2, m' 42 3, o' 43 (.call 131 [.t 40, .t 41, .t 42]), n' (.st 2 (.t 8) (.t 43))] [8]) .ret
def c78x6 : AC := .seq (.reg [o' 46 (.ld (some 2) (.t 5)), m' 47 2, m' 48 3, o' 49 (.call 132 [.t 46, .t 47, .t 48]), n' (.st 2 (.t 8) (.t 49))] [8]) .ret
def c78x7 : AC := .seq (.reg [o' 52 (.ld (some 2) (.t 5)), m' 53 2, m' 54 3, o' 55 (.call 133 [.t 52, .t 53, .t 54]), n' (.st 2 (.t 8) (.t 55))] [8]) .ret
def c78x9 : AC := .seq (.reg [o' 51 (.bin .eql (.t 10) (i' 8)), m' 50 51] [2, 3, 5, 8, 50]) (.cond (.t 50) c78x7 .skip)
def c78x11 : AC := .seq (.reg [o' 45 (.bin .eql (.t 10) (i' 7)), m' 44 45] [2, 3, 5, 8, 10, 44]) (.cond (.t 44) c78x6 c78x9)
def c78x13 : AC := .seq (.reg [o' 39 (.bin .eql (.t 10) (i' 6)), m' 38 39] [2, 3, 5, 8, 10, 38]) (.cond (.t 38) c78x5 c78x11)
def c78x15 : AC := .seq (.reg [o' 33 (.bin .eql (.t 10) (i' 5)), m' 32 33] [2, 3, 5, 8, 10, 32]) (.cond (.t 32) c78x4 c78x13)
def c78x17 : AC := .seq (.reg [o' 27 (.bin .eql (.t 10) (i' 4)), m' 26 27] [2, 3, 5, 8, 10, 26]) (.cond (.t 26) c78x3 c78x15)
def c78x19 : AC := .seq (.reg [o' 21 (.bin .eql (.t 10) (i' 3)), m' 20 21] [2, 3, 5, 8, 10, 20]) (.cond (.t 20) c78x2 c78x17)
def c78x21 : AC := .reg [o' 14 (.bin .eql (.t 10) (i' 2)), m' 11 14] [2, 3, 4, 5, 8, 10, 11]
def c78x23 : AC := .seq (.reg [o' 13 (.bin .eql (.t 10) (i' 1)), m' 11 13] [2, 3, 4, 5, 8, 10, 11]) (.cond (.t 11) .skip c78x21)
def c78x25 : AC := .seq (.reg [o' 12 (.bin .eql (.t 10) (i' 0)), m' 11 12] [2, 3, 4, 5, 8, 10, 11]) (.cond (.t 11) .skip c78x23)
def c78x28 : AC := .seq (.reg [o' 9 (.fad 1 (.t 4)), o' 10 (.ld none (.t 9))] [2, 3, 4, 5, 8, 10]) (.block 0 (.seq c78x25 (.cond (.t 11) c78x1 c78x19)))
def c78 : AC := .seq (.reg [o' 4 (.new 5 (.t 0)), o' 5 (.new 2 (.t 1)), o' 8 (.zero [(.slice none 0 0), (.slice none 0 0)])] [2, 3, 4, 5, 8]) (.seq c78x28 c78x0)
theorem k78 : kS Tryz.prog Tryz.f78 (lvs c78) = some c78 := by kernel_rfl
theorem e78 : enters Tryz.prog 78 = true := by kernel_rfl
theorem q78 : qS Tryz.prog Tryz.f78 = some [.cell (some 2) 8] := by kernel_rfl
def c79x0 : AC := .seq (.reg [o' 62 (.build [(.slice none 0 0), (.slice none 0 0)] []), n' (.st 2 (.t 6) (.t 62)), o' 7 (.mv (i' 0))] [6, 7]) .ret
def c79x1 : AC := .seq (.reg [o' 14 (.ld (some 5) (.t 3)), o' 15 (.ld (some 2) (.t 4)), m' 16 2, o' 17 (.call 134 [.t 14, .t 15, .t 16]), o' 18 (.ext (.t 17) 0), o' 19 (.ext (.t 17) 1), n' (.st 2 (.t 6) (.t 18)), m' 7 19] [6, 7]) .ret
def c79x2 : AC := .seq (.reg [o' 22 (.ld (some 2) (.t 4)), m' 23 2, o' 24 (.call 135 [.t 22, .t 23]), o' 25 (.ext (.t 24) 0), o' 26 (.ext (.t 24) 1), n' (.st 2 (.t 6) (.t 25)), m' 7 26] [6, 7]) .ret
def c79x3 : AC := .seq (.reg [o' 29 (.ld (some 2) (.t 4)), m' 30 2, o' 31 (.call 136 [.t 29, .t 30]), o' 32 (.ext (.t 31) 0), o' 33 (.ext (.t 31) 1), n' (.st 2 (.t 6) (.t 32)), m' 7 33] [6, 7]) .ret
def c79x4 : AC := .seq (.reg [o' 36 (.ld (some 2) (.t 4)), m' 37 2, o' 38 (.call 137 [.t 36, .t 37]), o' 39 (.ext (.t 38) 0), o' 40 (.ext (.t 38) 1), n' (.st 2 (.t 6) (.t 39)), m' 7 40] [6, 7]) .ret
def c79x5 : AC := .seq (.reg [o' 43 (.ld (some 2) (.t 4)), m' 44 2, o' 45 (.call 138 [.t 43, .t 44]), o' 46 (.ext (.t 45) 0), o' 47 (.ext (.t 45) 1), n' (.st 2 (.t 6) (.t 46)), m' 7 47] [6, 7]) .ret
def c79x6 : AC := .seq (.reg [o' 50 (.ld (some 2) (.t 4)), m' 51 2, o' 52 (.call 139 [.t 50, .t 51]), o' 53 (.ext (.t 52) 0), o' 54 (.ext (.t 52) 1), n' (.st 2 (.t 6) (.t 53)), m' 7 54] [6, 7]) .ret
def c79x7 : AC := .seq (.reg [o' 57 (.ld (some 2) (.t 4)), m' 58 2, o' 59 (.call 140 [.t 57, .t 58]), o' 60 (.ext (.t 59) 0), o' 61 (.ext (.t 59) 1), n' (.st 2 (.t 6) (.t 60)), m' 7 61] [6, 7]) .ret
def c79x9 : AC := .seq (.reg [o' 56 (.bin .eql (.t 9) (i' 8)), m' 55 56] [2, 4, 6, 55]) (.cond (.t 55) c79x7 .skip)
def c79x11 : AC := .seq (.reg [o' 49 (.bin .eql (.t 9) (i' 7)), m' 48 49] [2, 4, 6, 9, 48]) (.cond (.t 48) c79x6 c79x9)
def c79x13 : AC := .seq (.reg [o' 42 (.bin .eql (.t 9) (i' 6)), m' 41 42] [2, 4, 6, 9, 41]) (.cond (.t 41) c79x5 c79x11)
def c79x15 : AC := .seq (.reg [o' 35 (.bin .eql (.t 9) (i' 5)), m' 34 35] [2, 4, 6, 9, 34]) (.cond (.t 34) c79x4 c79x13)
def c79x17 : AC := .seq (.reg [o' 28 (.bin .eql (.t 9) (i' 4)), m' 27 28] [2, 4, 6, 9, 27]) (.cond (.t 27) c79x3 c79x15)
def c79x19 : AC := .seq (.reg [o' 21 (.bin .eql (.t 9) (i' 3)), m' 20 21] [2, 4, 6, 9, 20]) (.cond (.t 20) c79x2 c79x17)
def c79x21 : AC := .reg [o' 13 (.bin .eql (.t 9) (i' 2)), m' 10 13] [2, 3, 4, 6, 9, 10]
def c79x23 : AC := .seq (.reg [o' 12 (.bin .eql (.t 9) (i' 1)), m' 10 12] [2, 3, 4, 6, 9, 10]) (.cond (.t 10) .skip c79x21)
def c79x25 : AC := .seq (.reg [o' 11 (.bin .eql (.t 9) (i' 0)), m' 10 11] [2, 3, 4, 6, 9, 10]) (.cond (.t 10) .skip c79x23)
def c79x28 : AC := .seq (.reg [o' 8 (.fad 1 (.t 3)), o' 9 (.ld none (.t 8))] [2, 3, 4, 6, 9]) (.block 0 (.seq c79x25 (.cond (.t 10) c79x1 c79x19)))
def c79 : AC := .seq (.reg [o' 3 (.new 5 (.t 0)), o' 4 (.new 2 (.t 1)), o' 6 (.zero [(.slice none 0 0), (.slice none 0 0)]), o' 7 (.mv (i' 0))] [2, 3, 4, 6]) (.seq c79x28 c79x0)
theorem k79 : kS Tryz.prog Tryz.f79 (lvs c79) = some c79 := by kernel_rfl
theorem e79 : enters Tryz.prog 79 = true := by kernel_rfl
theorem q79 : qS Tryz.prog Tryz.f79 = some [.cell (some 2) 6, .t 7] := by kernel_rfl
def c80x0 : AC := .seq (.reg [o' 40 (.ld (some 2) (.t 5)), n' (.st 2 (.t 4) (.t 40))] [4]) .ret
def c80x1 : AC := .dreg [o' 24 (.fad 0 (.t 5)), o' 25 (.ld none (.t 24)), o' 26 (.fad 0 (.t 3)), o' 27 (.ld none (.t 26)), o' 28 (.idx 1 none (.t 27) (i' 0)), o' 29 (.ld none (.t 28)), o' 30 (.ld (some 5) (.t 2)), o' 31 (.call 141 [.t 30]), o' 32 (.bin .rem (.t 29) (.t 31)), o' 33 (.ld (some 5) (.t 2)), o' 34 (.call 141 [.t 33]), o' 35 (.bin .add (.t 32) (.t 34)), o' 36 (.ld (some 5) (.t 2)), o' 37 (.call 141 [.t 36]), o' 38 (.bin .rem (.t 35) (.t 37)), o' 39 (.idx 1 none (.t 25) (i' 0)), n' (.st 1 (.t 39) (.t 38))] (bf [[], [0, 1], [], [2, 3], [2, 4], [2, 5], [], [6, 7], [2, 8], [], [6, 8, 9, 10], [2, 11], [], [6, 8, 9, 11, 12, 13], [2, 14], [0, 15], [0, 16]]) [4, 5]
def c80x3 : AC := .seq (.reg [o' 20 (.fad 0 (.t 3)), o' 21 (.ld none (.t 20)), o' 22 (.len (.t 21)), o' 23 (.bin .gtr (.t 22) (i' 0))] [2, 3, 4, 5, 23]) (.cond (.t 23) c80x1 .skip)
def c80x4 : AC := .seq (.reg [o' 18 (.bsl [(.int .i64 0)] 1 [(0, (i' 0))]), o' 19 (.fad 0 (.t 5)), n' (.st 1 (.t 19) (.t 18))] [2, 3, 4, 5]) c80x3
def c80x6 : AC := .seq (.reg [o' 15 (.fad 1 (.t 2)), o' 16 (.ld none (.t 15)), o' 17 (.bin .eql (.t 16) (i' 2))] [2, 3, 4, 5, 17]) (.cond (.t 17) c80x4 .skip)
def c80x8 : AC := .seq (.reg [o' 10 (.fad 1 (.t 5)), o' 11 (.ld none (.t 10)), o' 12 (.fad 1 (.t 3)), o' 13 (.ld none (.t 12)), o' 14 (.copy 1 (.t 11) (.t 13))] [2, 3, 4, 5]) (.seq c80x6 c80x0)
def c80x9 : AC := .seq (.reg [o' 6 (.ld (some 5) (.t 2)), o' 7 (.call 113 [.t 6]), o' 8 (.mksl [(.int .u8 0)] 1 (.t 7) (.t 7)), o' 9 (.build [(.slice none 0 0), (.slice none 0 0)] [(1, 1, (.t 8))]), o' 5 (.zero [(.slice none 0 0), (.slice none 0 0)]), n' (.st 2 (.t 5) (.t 9))] [2, 3, 4, 5]) c80x8
def c80 : AC := .seq (.reg [o' 2 (.new 5 (.t 0)), o' 3 (.new 2 (.t 1)), o' 4 (.zero [(.slice none 0 0), (.slice none 0 0)])] [2, 3, 4]) c80x9
theorem k80 : kS Tryz.prog Tryz.f80 (lvs c80) = some c80 := by kernel_rfl
theorem e80 : enters Tryz.prog 80 = true := by kernel_rfl
theorem q80 : qS Tryz.prog Tryz.f80 = some [.cell (some 2) 4] := by kernel_rfl
def c110x9 : AC := .seq (.reg [o' 72 (.fad 1 (.t 1)), o' 73 (.ld none (.t 72)), o' 74 (.bin .eql (.t 73) (i' 0)), m' 75 74, gF' 76 75 (.fad 1 (.t 1)), gF' 77 75 (.ld none (.t 76)), gF' 78 75 (.bin .eql (.t 77) (i' 1)), o' 79 (.pick (.t 75) kT' (.t 78)), m' 80 79, gT' 81 80 (.fad 4 (.t 1)), gT' 82 80 (.ld none (.t 81)), gT' 83 80 (.len (.t 82)), gT' 84 80 (.fad 3 (.t 1)), gT' 85 80 (.ld none (.t 84)), gT' 86 80 (.bin .gtr (.t 83) (.t 85)), o' 87 (.pick (.t 80) (.t 86) kF'), m' 88 87, gF' 89 88 (.fad 1 (.t 1)), gF' 90 88 (.ld none (.t 89)), gF' 91 88 (.call 189 [.t 90]), gF' 92 88 (.not (.t 91)), gF' 93 88 (.mv (.t 92)), gT' 94 93 (.fad 1 (.t 1)), gT' 95 93 (.ld none (.t 94)), gT' 96 93 (.bin .neq (.t 95) (i' 8)), gF' 97 88 (.pick (.t 93) (.t 96) kF'), gF' 98 88 (.mv (.t 97)), gT' 99 98 (.fad 4 (.t 1)), gT' 100 98 (.ld none (.t 99)), gT' 101 98 (.len (.t 100)), gT' 102 98 (.bin .gtr (.t 101) (i' 0)), gF' 103 88 (.pick (.t 98) (.t 102) kF'), o' 104 (.pick (.t 88) kT' (.t 103)), m' 105 104, gF' 106 105 (.fad 1 (.t 1)), gF' 107 105 (.ld none (.t 106)), gF' 108 105 (.bin .eql (.t 107) (i' 8)), gF' 109 105 (.mv (.t 108)), gT' 110 109 (.fad 4 (.t 1)), gT' 111 109 (.ld none (.t 110)), gT' 112 109 (.len (.t 111)), gT' 113 109 (.bin .rem (.t 112) (i' 256)), gT' 114 109 (.bin .neq (.t 113) (i' 0)), gF' 115 105 (.pick (.t 109) (.t 114) kF'), o' 116 (.pick (.t 105) kT' (.t 115)), m' 71 116] [71]) (.cond (.t 71) (.seq (.reg [o' 2 (.mv (i' 3))] [2]) .ret) .skip)
def c110x11 : AC := .seq (.reg [o' 60 (.fad 2 (.t 1)), o' 61 (.ld none (.t 60)), o' 62 (.bin .lss (.t 61) (i' 0)), m' 63 62, gF' 64 63 (.fad 2 (.t 1)), gF' 65 63 (.ld none (.t 64)), gF' 66 63 (.fad 3 (.t 1)), gF' 67 63 (.ld none (.t 66)), gF' 68 63 (.bin .sub (i' 65536) (.t 67)), gF' 69 63 (.bin .gtr (.t 65) (.t 68)), o' 70 (.pick (.t 63) kT' (.t 69)), m' 59 70] [1, 59]) (.cond (.t 59) (.seq (.reg [o' 2 (.mv (i' 19))] [2]) .ret) c110x9)
def c110x13 : AC := .seq (.reg [o' 50 (.fad 3 (.t 1)), o' 51 (.ld none (.t 50)), o' 52 (.bin .gtr (.t 51) (i' 4096)), m' 53 52, gF' 54 53 (.fad 4 (.t 1)), gF' 55 53 (.ld none (.t 54)), gF' 56 53 (.len (.t 55)), gF' 57 53 (.bin .gtr (.t 56) (i' 4096)), o' 58 (.pick (.t 53) kT' (.t 57)), m' 49 58] [1, 49]) (.cond (.t 49) (.seq (.reg [o' 2 (.mv (i' 2))] [2]) .ret) c110x11)
def c110x15 : AC := .seq (.dreg [o' 26 (.fad 1 (.t 1)), o' 27 (.ld none (.t 26)), o' 28 (.call 189 [.t 27]), m' 29 28, gT' 30 29 (.fad 3 (.t 1)), gT' 31 29 (.ld none (.t 30)), gT' 32 29 (.mv (.t 3)), gT' 33 29 (.bin .lss (.t 31) (.t 32)), o' 34 (.pick (.t 29) (.t 33) kF'), m' 35 34, gF' 36 35 (.fad 1 (.t 1)), gF' 37 35 (.ld none (.t 36)), gF' 38 35 (.call 189 [.t 37]), gF' 39 35 (.not (.t 38)), gF' 40 35 (.mv (.t 39)), gT' 41 40 (.fad 3 (.t 1)), gT' 42 40 (.ld none (.t 41)), gT' 43 40 (.fad 1 (.t 1)), gT' 44 40 (.ld none (.t 43)), gT' 45 40 (.call 190 [.t 44]), gT' 46 40 (.bin .neq (.t 42) (.t 45)), gF' 47 35 (.pick (.t 40) (.t 46) kF'), o' 48 (.pick (.t 35) kT' (.t 47)), m' 25 48] (bf [[], [0, 1], [0, 2], [0, 3], [0, 4], [0, 5], [0, 4], [0, 7], [0, 8], [0, 9], [0, 10], [0, 11], [0, 12], [0, 13], [0, 14], [0, 15], [0, 16], [0, 15], [0, 15, 17, 18], [0, 15, 17, 19], [0, 20], [0, 21], [0, 22], [0, 23]]) [1, 25]) (.cond (.t 25) (.seq (.reg [o' 2 (.mv (i' 1))] [2]) .ret) c110x13)
def c110x17 : AC := .seq (.reg [o' 17 (.fad 1 (.t 1)), o' 18 (.ld none (.t 17)), o' 19 (.bin .lss (.t 18) (i' 0)), m' 20 19, gF' 21 20 (.fad 1 (.t 1)), gF' 22 20 (.ld none (.t 21)), gF' 23 20 (.bin .geq (.t 22) (i' 9)), o' 24 (.pick (.t 20) kT' (.t 23)), m' 16 24] [1, 3, 16]) (.cond (.t 16) (.seq (.reg [o' 2 (.mv (i' 8))] [2]) .ret) c110x15)
def c110x19 : AC := .seq (.reg [o' 13 (.fad 0 (.t 1)), o' 14 (.ld none (.t 13)), o' 15 (.bin .eql (.t 14) (.k (.string ⟨#[99, 112, 117]⟩))), m' 12 15] [1, 3, 12]) (.cond (.t 12) (.seq (.reg [o' 2 (.mv (i' 20))] [2]) .ret) c110x17)
def c110x21 : AC := .seq (.reg [o' 8 (.fad 0 (.t 1)), o' 9 (.ld none (.t 8)), o' 10 (.call 108 [.t 9]), o' 11 (.not (.t 10)), m' 7 11] [1, 3, 7]) (.cond (.t 7) (.seq (.reg [o' 2 (.mv (i' 15))] [2]) .ret) c110x19)
def c110x26 : AC := .seq (.reg [o' 4 (.fad 1 (.t 1)), o' 5 (.ld none (.t 4)), o' 6 (.bin .eql (.t 5) (i' 2))] [1, 3, 6]) (.cond (.t 6) (.reg [o' 3 (.mv (i' 2))] [1, 3]) .skip)
def c110 : AC := .seq (.reg [o' 1 (.new 5 (.t 0)), o' 2 (.mv (i' 0))] [1]) (.seq (.reg [o' 3 (.mv (i' 1))] [1, 3]) (.seq c110x26 (.seq (.block 0 c110x21) (.seq (.reg [o' 2 (.mv (i' 0))] [2]) .ret))))
theorem k110 : kS Tryz.prog Tryz.f110 (lvs c110) = some c110 := by kernel_rfl
theorem e110 : enters Tryz.prog 110 = true := by kernel_rfl
theorem q110 : qS Tryz.prog Tryz.f110 = some [.t 2] := by kernel_rfl
def c113x0 : AC := .seq (.reg [o' 11 (.fad 3 (.t 1)), o' 12 (.ld none (.t 11)), o' 13 (.mnx false [.t 12, i' 65536]), o' 14 (.mnx true [i' 0, .t 13]), m' 2 14] [2]) .ret
def c113x1 : AC := .seq (.dreg [o' 6 (.ld (some 5) (.t 1)), o' 7 (.call 141 [.t 6]), o' 8 (.ld (some 5) (.t 1)), o' 9 (.call 195 [.t 8]), o' 10 (.bin .mul (.t 7) (.t 9)), m' 2 10] (bf [[], [0, 1], [], [0, 3], [0, 4], [0, 5]]) [2]) .ret
def c113x3 : AC := .seq (.reg [o' 3 (.fad 1 (.t 1)), o' 4 (.ld none (.t 3)), o' 5 (.bin .eql (.t 4) (i' 2))] [1, 5]) (.cond (.t 5) c113x1 .skip)
def c113 : AC := .seq (.reg [o' 1 (.new 5 (.t 0)), o' 2 (.mv (i' 0))] [1]) (.seq c113x3 c113x0)
theorem k113 : kS Tryz.prog Tryz.f113 (lvs c113) = some c113 := by kernel_rfl
theorem e113 : enters Tryz.prog 113 = true := by kernel_rfl
theorem q113 : qS Tryz.prog Tryz.f113 = some [.t 2] := by kernel_rfl
def c127x0 : AC := .seq (.reg [o' 47 (.ld (some 2) (.t 5)), n' (.st 2 (.t 8) (.t 47))] [8]) .ret
def c127x1 : AC := .dreg [o' 24 (.fad 1 (.t 5)), o' 25 (.ld none (.t 24)), m' 26 9, m' 27 3, o' 28 (.call 77 [.t 27, i' 8]), o' 29 (.cvt .u8 (.t 28)), o' 30 (.idx 1 none (.t 25) (.t 26)), n' (.st 1 (.t 30) (.t 29))] (bf [[], [0, 1], [], [], [3, 4], [3, 5], [0, 6], [0, 7]]) [5, 8]
def c127x2 : AC := .dreg [o' 39 (.fad 0 (.t 5)), o' 40 (.ld none (.t 39)), m' 41 3, o' 42 (.call 77 [.t 41, i' 8]), o' 43 (.ld (some 5) (.t 4)), o' 44 (.call 141 [.t 43]), o' 45 (.bin .rem (.t 42) (.t 44)), o' 46 (.idx 1 none (.t 40) (i' 0)), n' (.st 1 (.t 46) (.t 45))] (bf [[], [0, 1], [], [2, 3], [], [2, 5], [2, 6], [0, 7], [0, 8]]) [5, 8]
def c127x4 : AC := .seq (.reg [o' 32 (.fad 1 (.t 4)), o' 33 (.ld none (.t 32)), o' 34 (.bin .eql (.t 33) (i' 2)), m' 35 34, gT' 36 35 (.mv (.t 2)), gT' 37 35 (.bin .eql (.t 36) (i' 0)), o' 38 (.pick (.t 35) (.t 37) kF'), m' 31 38] [3, 4, 5, 8, 31]) (.cond (.t 31) c127x2 .skip)
def c127x6 : AC := .seq (.reg [m' 22 9, o' 23 (.bin .geq (.t 22) (i' 0)), m' 21 23] [2, 3, 4, 5, 8, 9, 21]) (.cond (.t 21) c127x1 c127x4)
def c127x8 : AC := .seq (.reg [o' 18 (.fad 1 (.t 4)), o' 19 (.ld none (.t 18)), o' 20 (.bin .eql (.t 19) (i' 1)), m' 17 20] [2, 3, 4, 5, 8, 9, 17]) (.cond (.t 17) .skip c127x6)
def c127x10 : AC := .seq (.reg [o' 13 (.ld (some 5) (.t 4)), o' 14 (.ld (some 2) (.t 5)), m' 15 2, o' 16 (.call 202 [.t 13, .t 14, .t 15]), m' 9 16] [2, 3, 4, 5, 8, 9]) (.block 0 c127x8)
def c127x12 : AC := .seq (.reg [o' 10 (.ld (some 5) (.t 4)), o' 11 (.ld (some 2) (.t 5)), o' 12 (.call 80 [.t 10, .t 11]), n' (.st 2 (.t 5) (.t 12))] [2, 3, 4, 5, 8]) (.seq c127x10 c127x0)
def c127 : AC := .seq (.reg [o' 4 (.new 5 (.t 0)), o' 5 (.new 2 (.t 1)), o' 8 (.zero [(.slice none 0 0), (.slice none 0 0)])] [2, 3, 4, 5, 8]) c127x12
theorem k127 : kS Tryz.prog Tryz.f127 (lvs c127) = some c127 := by kernel_rfl
theorem e127 : enters Tryz.prog 127 = true := by kernel_rfl
theorem q127 : qS Tryz.prog Tryz.f127 = some [.cell (some 2) 8] := by kernel_rfl
def c134x0 : AC := .seq (.reg [o' 39 (.ld (some 2) (.t 4)), n' (.st 2 (.t 6) (.t 39)), o' 7 (.mv (i' 0))] [6, 7]) .ret
def c134x1 : AC := .seq (.dreg [o' 19 (.ld (some 2) (.t 4)), o' 20 (.fad 1 (.t 4)), o' 21 (.ld none (.t 20)), m' 22 8, o' 23 (.idx 1 none (.t 21) (.t 22)), o' 24 (.ld none (.t 23)), o' 25 (.cvt .i64 (.t 24)), n' (.st 2 (.t 6) (.t 19)), m' 7 25] (bf [[], [], [1, 2], [], [1, 4], [1, 5], [1, 6], [0, 1], [0, 8]]) [6, 7]) .ret
def c134x2 : AC := .seq (.dreg [o' 34 (.ld (some 2) (.t 4)), o' 35 (.fad 0 (.t 4)), o' 36 (.ld none (.t 35)), o' 37 (.idx 1 none (.t 36) (i' 0)), o' 38 (.ld none (.t 37)), n' (.st 2 (.t 6) (.t 34)), m' 7 38] (bf [[], [], [1, 2], [1, 3], [1, 4], [0, 1], [0, 6]]) [6, 7]) .ret
def c134x4 : AC := .seq (.reg [o' 27 (.fad 1 (.t 3)), o' 28 (.ld none (.t 27)), o' 29 (.bin .eql (.t 28) (i' 2)), m' 30 29, gT' 31 30 (.mv (.t 2)), gT' 32 30 (.bin .eql (.t 31) (i' 0)), o' 33 (.pick (.t 30) (.t 32) kF'), m' 26 33] [4, 6, 26]) (.cond (.t 26) c134x2 .skip)
def c134x6 : AC := .seq (.reg [m' 17 8, o' 18 (.bin .geq (.t 17) (i' 0)), m' 16 18] [2, 3, 4, 6, 8, 16]) (.cond (.t 16) c134x1 c134x4)
def c134x8 : AC := .seq (.reg [o' 12 (.ld (some 5) (.t 3)), o' 13 (.ld (some 2) (.t 4)), m' 14 2, o' 15 (.call 202 [.t 12, .t 13, .t 14]), m' 8 15] [2, 3, 4, 6, 8]) (.block 0 c134x6)
def c134x10 : AC := .seq (.reg [o' 9 (.ld (some 5) (.t 3)), o' 10 (.ld (some 2) (.t 4)), o' 11 (.call 80 [.t 9, .t 10]), n' (.st 2 (.t 4) (.t 11))] [2, 3, 4, 6]) (.seq c134x8 c134x0)
def c134 : AC := .seq (.reg [o' 3 (.new 5 (.t 0)), o' 4 (.new 2 (.t 1)), o' 6 (.zero [(.slice none 0 0), (.slice none 0 0)]), o' 7 (.mv (i' 0))] [2, 3, 4, 6]) c134x10
theorem k134 : kS Tryz.prog Tryz.f134 (lvs c134) = some c134 := by kernel_rfl
theorem e134 : enters Tryz.prog 134 = true := by kernel_rfl
theorem q134 : qS Tryz.prog Tryz.f134 = some [.cell (some 2) 6, .t 7] := by kernel_rfl
def c141x0 : AC := .seq (.reg [o' 6 (.fad 4 (.t 1)), o' 7 (.ld none (.t 6)), o' 8 (.len (.t 7)), m' 9 3, o' 10 (.bin .add (.t 8) (.t 9)), o' 11 (.bin .sub (.t 10) (i' 1)), m' 12 3, o' 13 (.bin .quo (.t 11) (.t 12)), o' 14 (.mnx true [i' 1, .t 13]), m' 2 14] [2]) .ret
def c141x1 : AC := .seq (.reg [o' 4 (.ld (some 5) (.t 1)), o' 5 (.call 195 [.t 4]), m' 3 5] [1, 3]) c141x0
def c141 : AC := .seq (.reg [o' 1 (.new 5 (.t 0)), o' 2 (.mv (i' 0))] [1]) c141x1
theorem k141 : kS Tryz.prog Tryz.f141 (lvs c141) = some c141 := by kernel_rfl
theorem e141 : enters Tryz.prog 141 = true := by kernel_rfl
theorem q141 : qS Tryz.prog Tryz.f141 = some [.t 2] := by kernel_rfl
def c189x0 : AC := .seq (.reg [m' 3 0, o' 4 (.bin .eql (.t 3) (i' 0)), m' 5 4, gF' 6 5 (.mv (.t 0)), gF' 7 5 (.bin .eql (.t 6) (i' 1)), o' 8 (.pick (.t 5) kT' (.t 7)), m' 9 8, gF' 10 9 (.mv (.t 0)), gF' 11 9 (.bin .eql (.t 10) (i' 2)), o' 12 (.pick (.t 9) kT' (.t 11)), m' 2 12] [2]) .ret
def c189 : AC := .seq (.reg [o' 2 (.mv kF')] [0]) c189x0
theorem k189 : kS Tryz.prog Tryz.f189 (lvs c189) = some c189 := by kernel_rfl
theorem e189 : enters Tryz.prog 189 = true := by kernel_rfl
theorem q189 : qS Tryz.prog Tryz.f189 = some [.t 2] := by kernel_rfl
def c190x8 : AC := .seq (.reg [o' 15 (.bin .eql (.t 3) (i' 8)), m' 14 15] [14]) (.cond (.t 14) (.seq (.reg [o' 2 (.mv (i' 4))] [2]) .ret) .skip)
def c190x10 : AC := .seq (.reg [o' 13 (.bin .eql (.t 3) (i' 7)), m' 12 13] [3, 12]) (.cond (.t 12) (.seq (.reg [o' 2 (.mv (i' 8))] [2]) .ret) c190x8)
def c190x12 : AC := .seq (.reg [o' 11 (.bin .eql (.t 3) (i' 6)), m' 10 11] [3, 10]) (.cond (.t 10) (.seq (.reg [o' 2 (.mv (i' 32))] [2]) .ret) c190x10)
def c190x14 : AC := .seq (.reg [o' 9 (.bin .eql (.t 3) (i' 5)), m' 8 9] [3, 8]) (.cond (.t 8) (.seq (.reg [o' 2 (.mv (i' 3))] [2]) .ret) c190x12)
def c190x16 : AC := .seq (.reg [o' 7 (.bin .eql (.t 3) (i' 4)), m' 6 7] [3, 6]) (.cond (.t 6) (.seq (.reg [o' 2 (.mv (i' 2))] [2]) .ret) c190x14)
def c190x18 : AC := .seq (.reg [o' 5 (.bin .eql (.t 3) (i' 3)), m' 4 5] [3, 4]) (.cond (.t 4) (.seq (.reg [o' 2 (.mv (i' 4))] [2]) .ret) c190x16)
def c190 : AC := .seq (.reg [o' 2 (.mv (i' 0))] [0]) (.seq (.seq (.reg [m' 3 0] [3]) (.block 0 c190x18)) (.seq (.reg [o' 2 (.mv (i' 0))] [2]) .ret))
theorem k190 : kS Tryz.prog Tryz.f190 (lvs c190) = some c190 := by kernel_rfl
theorem e190 : enters Tryz.prog 190 = true := by kernel_rfl
theorem q190 : qS Tryz.prog Tryz.f190 = some [.t 2] := by kernel_rfl
def c195x0 : AC := .seq (.reg [o' 3 (.fad 3 (.t 1)), o' 4 (.ld none (.t 3)), o' 5 (.mnx true [.t 4, i' 1]), o' 6 (.mnx false [.t 5, i' 4097]), o' 7 (.bin .sub (.t 6) (i' 1)), o' 8 (.mnx true [i' 1, .t 7]), m' 2 8] [2]) .ret
def c195 : AC := .seq (.reg [o' 1 (.new 5 (.t 0)), o' 2 (.mv (i' 0))] [1]) c195x0
theorem k195 : kS Tryz.prog Tryz.f195 (lvs c195) = some c195 := by kernel_rfl
theorem e195 : enters Tryz.prog 195 = true := by kernel_rfl
theorem q195 : qS Tryz.prog Tryz.f195 = some [.t 2] := by kernel_rfl
def c202x3 : AC := .seq (.reg [m' 28 2, o' 29 (.bin .lss (.t 28) (i' 0)), m' 30 29, gF' 31 30 (.mv (.t 2)), gF' 32 30 (.fad 1 (.t 4)), gF' 33 30 (.ld none (.t 32)), gF' 34 30 (.len (.t 33)), gF' 35 30 (.bin .geq (.t 31) (.t 34)), o' 36 (.pick (.t 30) kT' (.t 35))] [2, 36]) (.cond (.t 36) (.seq (.reg [o' 6 (.mv (.k (.int .i64 (-1))))] [6]) .ret) .skip)
def c202x5 : AC := .seq (.dreg [o' 18 (.fad 0 (.t 4)), o' 19 (.ld none (.t 18)), o' 20 (.idx 1 none (.t 19) (i' 0)), o' 21 (.ld none (.t 20)), o' 22 (.ld (some 5) (.t 3)), o' 23 (.call 195 [.t 22]), o' 24 (.bin .mul (.t 21) (.t 23)), m' 25 2, o' 26 (.bin .add (.t 24) (.t 25)), o' 27 (.bin .sub (.t 26) (i' 1)), m' 6 27] (bf [[], [0, 1], [0, 2], [0, 3], [], [4, 5], [0, 6], [], [0, 8], [0, 9], [0, 10]]) [6]) .ret
def c202x8 : AC := .seq (.reg [m' 10 2, o' 11 (.bin .lss (.t 10) (i' 1)), m' 12 11, gF' 13 12 (.mv (.t 2)), gF' 14 12 (.ld (some 5) (.t 3)), gF' 15 12 (.call 195 [.t 14]), gF' 16 12 (.bin .gtr (.t 13) (.t 15)), o' 17 (.pick (.t 12) kT' (.t 16))] [2, 3, 4, 17]) (.cond (.t 17) (.seq (.reg [o' 6 (.mv (.k (.int .i64 (-1))))] [6]) .ret) .skip)
def c202x11 : AC := .seq (.reg [o' 7 (.fad 1 (.t 3)), o' 8 (.ld none (.t 7)), o' 9 (.bin .eql (.t 8) (i' 2))] [2, 3, 4, 9]) (.cond (.t 9) (.seq c202x8 c202x5) .skip)
def c202 : AC := .seq (.reg [o' 3 (.new 5 (.t 0)), o' 4 (.new 2 (.t 1)), o' 6 (.mv (i' 0))] [2, 3, 4]) (.seq c202x11 (.seq c202x3 (.seq (.reg [m' 37 2, m' 6 37] [6]) .ret)))
theorem k202 : kS Tryz.prog Tryz.f202 (lvs c202) = some c202 := by kernel_rfl
theorem e202 : enters Tryz.prog 202 = true := by kernel_rfl
theorem q202 : qS Tryz.prog Tryz.f202 = some [.t 6] := by kernel_rfl
end Go.Proofs.YtpfagchhmfigfaaGreat.Code

namespace Go.Proofs.YtpfagchhmfigfaaGreat.Code
open Go Go.Proofs.YtpfagchhmfigfaaGreat.Calc
set_option maxRecDepth 100000
def c114x0 : AC := .seq (.reg [o' 1 (.mksl [(.int .i64 0)] 8 (i' 4) (i' 4)), o' 2 (.build [(.slice none 0 0), (.slice none 0 0)] [(0, 1, (.t 1))]), n' (.st 2 (.t 0) (.t 2))] [0]) .ret
def c114 : AC := .seq (.reg [o' 0 (.zero [(.slice none 0 0), (.slice none 0 0)])] [0]) c114x0
theorem k114 : kS Tryz.prog Tryz.f114 (lvs c114) = some c114 := by kernel_rfl
theorem e114 : enters Tryz.prog 114 = true := by kernel_rfl
theorem q114 : qS Tryz.prog Tryz.f114 = some [.cell (some 2) 0] := by kernel_rfl
def c128x0 : AC := .seq (.reg [m' 37 7, o' 38 (.build [(.slice none 0 0), (.slice none 0 0)] [(0, 1, (.t 37))]), n' (.st 2 (.t 6) (.t 38))] [6]) .ret
def c128x1 : AC := .reg [m' 14 7, m' 15 7, o' 16 (.idx 1 none (.t 15) (i' 1)), o' 17 (.ld none (.t 16)), m' 18 1, o' 19 (.bin .mul (i' 8) (.t 18)), m' 20 2, o' 21 (.call 203 [.t 17, .t 19, i' 8, .t 20]), o' 22 (.idx 1 none (.t 14) (i' 1)), n' (.st 1 (.t 22) (.t 21))] [6, 7]
def c128x2 : AC := .reg [m' 32 7, m' 33 7, o' 34 (.idx 1 none (.t 33) (i' 1)), o' 35 (.ld none (.t 34)), o' 36 (.idx 1 none (.t 32) (i' 0)), n' (.st 1 (.t 36) (.t 35))] [6, 7]
def c128x4 : AC := .seq (.reg [m' 29 2, o' 30 (.bin .and (.t 29) (i' 128)), o' 31 (.bin .neq (.t 30) (i' 0))] [6, 7, 31]) (.cond (.t 31) c128x2 .skip)
def c128x5 : AC := .seq (.reg [m' 25 7, m' 26 2, o' 27 (.call 77 [.t 26, i' 3]), o' 28 (.idx 1 none (.t 25) (i' 2)), n' (.st 1 (.t 28) (.t 27))] [2, 6, 7]) c128x4
def c128x7 : AC := .seq (.reg [o' 24 (.bin .eql (.t 10) (i' 2)), m' 23 24] [2, 6, 7, 23]) (.cond (.t 23) c128x5 .skip)
def c128x9 : AC := .reg [o' 13 (.bin .eql (.t 10) (i' 1)), m' 11 13] [1, 2, 6, 7, 10, 11]
def c128x11 : AC := .seq (.reg [o' 12 (.bin .eql (.t 10) (i' 0)), m' 11 12] [1, 2, 6, 7, 10, 11]) (.cond (.t 11) .skip c128x9)
def c128x16 : AC := .seq (.reg [o' 8 (.ld (some 2) (.t 3)), o' 9 (.call 142 [.t 8]), m' 7 9] [1, 2, 6, 7]) (.seq (.seq (.reg [m' 10 1] [1, 2, 6, 7, 10]) (.block 0 (.seq c128x11 (.cond (.t 11) c128x1 c128x7)))) c128x0)
def c128 : AC := .seq (.reg [o' 3 (.new 2 (.t 0)), o' 6 (.zero [(.slice none 0 0), (.slice none 0 0)])] [1, 2, 3, 6]) c128x16
theorem k128 : kS Tryz.prog Tryz.f128 (lvs c128) = some c128 := by kernel_rfl
theorem e128 : enters Tryz.prog 128 = true := by kernel_rfl
theorem q128 : qS Tryz.prog Tryz.f128 = some [.cell (some 2) 6] := by kernel_rfl
def c142x1 : AC := .seq (.dreg [m' 9 3, m' 10 3, m' 11 3, m' 12 3, m' 13 3, o' 14 (.idx 1 none (.t 13) (i' 0)), o' 15 (.ld none (.t 14)), o' 16 (.call 77 [.t 15, i' 16]), m' 17 3, o' 18 (.idx 1 none (.t 17) (i' 1)), o' 19 (.ld none (.t 18)), o' 20 (.call 77 [.t 19, i' 16]), m' 21 3, o' 22 (.idx 1 none (.t 21) (i' 2)), o' 23 (.ld none (.t 22)), o' 24 (.call 77 [.t 23, i' 3]), m' 25 3, o' 26 (.idx 1 none (.t 25) (i' 3)), o' 27 (.ld none (.t 26)), o' 28 (.call 77 [.t 27, i' 1]), o' 29 (.idx 1 none (.t 9) (i' 0)), n' (.st 1 (.t 29) (.t 16)), o' 30 (.idx 1 none (.t 10) (i' 1)), n' (.st 1 (.t 30) (.t 20)), o' 31 (.idx 1 none (.t 11) (i' 2)), n' (.st 1 (.t 31) (.t 24)), o' 32 (.idx 1 none (.t 12) (i' 3)), n' (.st 1 (.t 32) (.t 28))] (bf [[], [], [], [], [], [4, 5], [4, 6], [4, 7], [], [8, 9], [8, 10], [4, 11], [], [12, 13], [12, 14], [4, 15], [], [16, 17], [16, 18], [4, 19], [0, 1, 4, 20], [0, 1, 4, 21], [0, 2, 4, 22], [0, 2, 4, 23], [0, 3, 4, 24], [0, 3, 4, 25], [0, 26], [0, 27]]) [3]) (.seq (.reg [m' 33 3, m' 2 33] [2]) .ret)
def c142x2 : AC := .seq (.reg [m' 5 3, o' 6 (.fad 0 (.t 1)), o' 7 (.ld none (.t 6)), o' 8 (.copy 1 (.t 5) (.t 7))] [3]) c142x1
def c142x3 : AC := .seq (.reg [o' 4 (.mksl [(.int .i64 0)] 8 (i' 4) (i' 4)), m' 3 4] [1, 3]) c142x2
def c142 : AC := .seq (.reg [o' 1 (.new 2 (.t 0)), o' 2 (.mv (.k (.slice none 0 0)))] [1]) c142x3
theorem k142 : kS Tryz.prog Tryz.f142 (lvs c142) = some c142 := by kernel_rfl
theorem e142 : enters Tryz.prog 142 = true := by kernel_rfl
theorem q142 : qS Tryz.prog Tryz.f142 = some [.t 2] := by kernel_rfl
end Go.Proofs.YtpfagchhmfigfaaGreat.Code

namespace Go.Proofs.YtpfagchhmfigfaaGreat.Code
open Go Go.Proofs.YtpfagchhmfigfaaGreat.Calc
set_option maxRecDepth 100000
def c116x0 : AC := .seq (.reg [o' 1 (.mksl [(.int .i64 0)] 8 (i' 8) (i' 8)), o' 2 (.build [(.slice none 0 0), (.slice none 0 0)] [(0, 1, (.t 1))]), n' (.st 2 (.t 0) (.t 2))] [0]) .ret
def c116 : AC := .seq (.reg [o' 0 (.zero [(.slice none 0 0), (.slice none 0 0)])] [0]) c116x0
theorem k116 : kS Tryz.prog Tryz.f116 (lvs c116) = some c116 := by kernel_rfl
theorem e116 : enters Tryz.prog 116 = true := by kernel_rfl
theorem q116 : qS Tryz.prog Tryz.f116 = some [.cell (some 2) 0] := by kernel_rfl
def c130x0 : AC := .seq (.reg [m' 32 7, o' 33 (.build [(.slice none 0 0), (.slice none 0 0)] [(0, 1, (.t 32))]), n' (.st 2 (.t 6) (.t 33))] [6]) .ret
def c130x1 : AC := .reg [m' 19 7, m' 20 7, m' 21 2, o' 22 (.call 77 [.t 21, i' 8]), o' 23 (.idx 1 none (.t 19) (i' 0)), n' (.st 1 (.t 23) (.t 22)), o' 24 (.idx 1 none (.t 20) (i' 1)), n' (.st 1 (.t 24) (i' 40))] [6, 7]
def c130x2 : AC := .reg [m' 28 7, m' 29 2, o' 30 (.call 77 [.t 29, i' 2]), o' 31 (.idx 1 none (.t 28) (i' 5)), n' (.st 1 (.t 31) (.t 30))] [6, 7]
def c130x4 : AC := .seq (.reg [m' 26 1, o' 27 (.bin .eql (.t 26) (i' 2)), m' 25 27] [2, 6, 7, 25]) (.cond (.t 25) c130x2 .skip)
def c130x6 : AC := .seq (.reg [m' 11 1, o' 12 (.bin .eql (.t 11) (i' 0)), m' 13 12, gT' 14 13 (.mv (.t 7)), gT' 15 13 (.idx 1 none (.t 14) (i' 1)), gT' 16 13 (.ld none (.t 15)), gT' 17 13 (.bin .eql (.t 16) (i' 0)), o' 18 (.pick (.t 13) (.t 17) kF'), m' 10 18] [1, 2, 6, 7, 10]) (.cond (.t 10) c130x1 c130x4)
def c130x9 : AC := .seq (.reg [o' 8 (.ld (some 2) (.t 3)), o' 9 (.call 144 [.t 8]), m' 7 9] [1, 2, 6, 7]) (.seq (.block 0 c130x6) c130x0)
def c130 : AC := .seq (.reg [o' 3 (.new 2 (.t 0)), o' 6 (.zero [(.slice none 0 0), (.slice none 0 0)])] [1, 2, 3, 6]) c130x9
theorem k130 : kS Tryz.prog Tryz.f130 (lvs c130) = some c130 := by kernel_rfl
theorem e130 : enters Tryz.prog 130 = true := by kernel_rfl
theorem q130 : qS Tryz.prog Tryz.f130 = some [.cell (some 2) 6] := by kernel_rfl
def c144x1 : AC := .reg [o' 25 (.bin .add (.t 12) (i' 1)), m' 12 25] [3, 11, 12]
def c144x2 : AC := .reg [m' 16 3, m' 17 4, m' 18 3, m' 19 4, o' 20 (.idx 1 none (.t 18) (.t 19)), o' 21 (.ld none (.t 20)), m' 22 5, o' 23 (.call 77 [.t 21, .t 22]), o' 24 (.idx 1 none (.t 16) (.t 17)), n' (.st 1 (.t 24) (.t 23))] [3, 11, 12]
def c144x3 : AC := .seq (.reg [m' 14 12, o' 15 (.ixa 8 1 none (.t 11) (.t 12)), m' 4 14, m' 5 15] [3, 4, 5, 11, 12]) c144x2
def c144x8 : AC := .seq (.reg [o' 13 (.bin .lss (.t 12) (i' 8))] [3, 11, 12, 13]) (.seq (.cond (.t 13) .skip (.exit 0)) (.seq (.block 1 c144x3) c144x1))
def c144x11 : AC := .seq (.reg [o' 11 (.build [(.int .i64 0), (.int .i64 0), (.int .i64 0), (.int .i64 0), (.int .i64 0), (.int .i64 0), (.int .i64 0), (.int .i64 0)] [(0, 1, (i' 8)), (1, 1, (i' 6)), (2, 1, (i' 8)), (3, 1, (i' 1)), (4, 1, (i' 1)), (5, 1, (i' 2)), (6, 1, (i' 20)), (7, 1, (i' 8))]), o' 12 (.mv (i' 0))] [3, 11, 12]) (.block 0 (.loop c144x8))
def c144x13 : AC := .seq (.reg [m' 7 3, o' 8 (.fad 0 (.t 1)), o' 9 (.ld none (.t 8)), o' 10 (.copy 1 (.t 7) (.t 9))] [3]) (.seq c144x11 (.seq (.reg [m' 26 3, m' 2 26] [2]) .ret))
def c144x14 : AC := .seq (.reg [o' 6 (.mksl [(.int .i64 0)] 8 (i' 8) (i' 8)), m' 3 6] [1, 3]) c144x13
def c144 : AC := .seq (.reg [o' 1 (.new 2 (.t 0)), o' 2 (.mv (.k (.slice none 0 0)))] [1]) c144x14
theorem k144 : kS Tryz.prog Tryz.f144 (lvs c144) = some c144 := by kernel_rfl
theorem e144 : enters Tryz.prog 144 = true := by kernel_rfl
theorem q144 : qS Tryz.prog Tryz.f144 = some [.t 2] := by kernel_rfl
end Go.Proofs.YtpfagchhmfigfaaGreat.Code

namespace Go.Proofs.YtpfagchhmfigfaaGreat.Code
open Go Go.Proofs.YtpfagchhmfigfaaGreat.Calc
set_option maxRecDepth 100000
def c117x0 : AC := .seq (.reg [o' 1 (.mksl [(.int .u8 0)] 1 (i' 32) (i' 32)), o' 2 (.call 147 [i' 2559, i' 0, .t 1]), n' (.st 2 (.t 0) (.t 2))] [0]) .ret
def c117 : AC := .seq (.reg [o' 0 (.zero [(.slice none 0 0), (.slice none 0 0)])] [0]) c117x0
theorem k117 : kS Tryz.prog Tryz.f117 (lvs c117) = some c117 := by kernel_rfl
theorem e117 : enters Tryz.prog 117 = true := by kernel_rfl
theorem q117 : qS Tryz.prog Tryz.f117 = some [.cell (some 2) 0] := by kernel_rfl
def c131x0 : AC := .seq (.reg [m' 36 7, m' 37 8, m' 38 9, o' 39 (.call 147 [.t 36, .t 37, .t 38]), n' (.st 2 (.t 6) (.t 39))] [6]) .ret
def c131x1 : AC := .reg [m' 30 9, m' 31 1, m' 32 2, o' 33 (.call 77 [.t 32, i' 8]), o' 34 (.cvt .u8 (.t 33)), o' 35 (.idx 1 none (.t 30) (.t 31)), n' (.st 1 (.t 35) (.t 34))] [6, 7, 8, 9]
def c131x3 : AC := .seq (.reg [m' 16 1, o' 17 (.bin .geq (.t 16) (i' 0)), m' 18 17, gT' 19 18 (.mv (.t 1)), gT' 20 18 (.bin .lss (.t 19) (i' 32)), o' 21 (.pick (.t 18) (.t 20) kF'), m' 22 21, gT' 23 22 (.mv (.t 1)), gT' 24 22 (.bin .lss (.t 23) (i' 5)), gT' 25 22 (.mv (.t 24)), gF' 26 25 (.mv (.t 1)), gF' 27 25 (.bin .gtr (.t 26) (i' 7)), gT' 28 22 (.pick (.t 25) kT' (.t 27)), o' 29 (.pick (.t 22) (.t 28) kF')] [1, 2, 6, 7, 8, 9, 29]) (.cond (.t 29) c131x1 .skip)
def c131x5 : AC := .seq (.reg [o' 11 (.ld (some 2) (.t 3)), o' 12 (.call 145 [.t 11]), m' 10 12, o' 13 (.ext (.t 10) 0), o' 14 (.ext (.t 10) 1), o' 15 (.ext (.t 10) 2), m' 7 13, m' 8 14, m' 9 15] [1, 2, 6, 7, 8, 9]) (.seq c131x3 c131x0)
def c131 : AC := .seq (.reg [o' 3 (.new 2 (.t 0)), o' 6 (.zero [(.slice none 0 0), (.slice none 0 0)])] [1, 2, 3, 6]) c131x5
theorem k131 : kS Tryz.prog Tryz.f131 (lvs c131) = some c131 := by kernel_rfl
theorem e131 : enters Tryz.prog 131 = true := by kernel_rfl
theorem q131 : qS Tryz.prog Tryz.f131 = some [.cell (some 2) 6] := by kernel_rfl
def c145x0 : AC := .seq (.reg [m' 33 5, m' 34 6, m' 35 7, m' 2 33, m' 3 34, m' 4 35] [2, 3, 4]) .ret
def c145x1 : AC := .seq (.reg [m' 29 7, o' 30 (.fad 1 (.t 1)), o' 31 (.ld none (.t 30)), o' 32 (.copy 1 (.t 29) (.t 31))] [5, 6, 7]) c145x0
def c145x2 : AC := .seq (.reg [o' 28 (.mksl [(.int .u8 0)] 1 (i' 32) (i' 32)), m' 7 28] [1, 5, 6, 7]) c145x1
def c145x3 : AC := .reg [o' 23 (.fad 0 (.t 1)), o' 24 (.ld none (.t 23)), o' 25 (.idx 1 none (.t 24) (i' 1)), o' 26 (.ld none (.t 25)), o' 27 (.call 77 [.t 26, i' 1]), m' 6 27] [1, 5, 6]
def c145x5 : AC := .seq (.reg [o' 19 (.fad 0 (.t 1)), o' 20 (.ld none (.t 19)), o' 21 (.len (.t 20)), o' 22 (.bin .gtr (.t 21) (i' 1))] [1, 5, 6, 22]) (.cond (.t 22) c145x3 .skip)
def c145x7 : AC := .reg [o' 12 (.fad 0 (.t 1)), o' 13 (.ld none (.t 12)), o' 14 (.idx 1 none (.t 13) (i' 0)), o' 15 (.ld none (.t 14)), o' 16 (.bin .rem (.t 15) (i' 2560)), o' 17 (.bin .add (.t 16) (i' 2560)), o' 18 (.bin .rem (.t 17) (i' 2560)), m' 5 18] [1, 5, 6]
def c145x9 : AC := .seq (.reg [o' 8 (.fad 0 (.t 1)), o' 9 (.ld none (.t 8)), o' 10 (.len (.t 9)), o' 11 (.bin .gtr (.t 10) (i' 0))] [1, 5, 6, 11]) (.cond (.t 11) c145x7 .skip)
def c145x11 : AC := .seq (.reg [o' 5 (.mv (i' 2559)), o' 6 (.mv (i' 0))] [1, 5, 6]) (.seq c145x9 (.seq c145x5 c145x2))
def c145 : AC := .seq (.reg [o' 1 (.new 2 (.t 0)), o' 2 (.mv (i' 0)), o' 3 (.mv (i' 0)), o' 4 (.mv (.k (.slice none 0 0)))] [1]) c145x11
theorem k145 : kS Tryz.prog Tryz.f145 (lvs c145) = some c145 := by kernel_rfl
theorem e145 : enters Tryz.prog 145 = true := by kernel_rfl
theorem q145 : qS Tryz.prog Tryz.f145 = some [.t 2, .t 3, .t 4] := by kernel_rfl
def c147x0 : AC := .seq (.reg [m' 7 0, m' 8 1, o' 9 (.bsl [(.int .i64 0)] 2 [(0, (.t 7)), (1, (.t 8))]), m' 10 2, o' 11 (.build [(.slice none 0 0), (.slice none 0 0)] [(0, 1, (.t 9)), (1, 1, (.t 10))]), n' (.st 2 (.t 6) (.t 11))] [6]) .ret
def c147 : AC := .seq (.reg [o' 6 (.zero [(.slice none 0 0), (.slice none 0 0)])] [0, 1, 2, 6]) c147x0
theorem k147 : kS Tryz.prog Tryz.f147 (lvs c147) = some c147 := by kernel_rfl
theorem e147 : enters Tryz.prog 147 = true := by kernel_rfl
theorem q147 : qS Tryz.prog Tryz.f147 = some [.cell (some 2) 6] := by kernel_rfl
end Go.Proofs.YtpfagchhmfigfaaGreat.Code

namespace Go.Proofs.YtpfagchhmfigfaaGreat.Code
open Go Go.Proofs.YtpfagchhmfigfaaGreat.Calc
set_option maxRecDepth 100000
def c118x0 : AC := .seq (.reg [o' 1 (.mksl [(.int .i64 0)] 8 (i' 12) (i' 12)), o' 2 (.build [(.slice none 0 0), (.slice none 0 0)] [(0, 1, (.t 1))]), n' (.st 2 (.t 0) (.t 2))] [0]) .ret
def c118 : AC := .seq (.reg [o' 0 (.zero [(.slice none 0 0), (.slice none 0 0)])] [0]) c118x0
theorem k118 : kS Tryz.prog Tryz.f118 (lvs c118) = some c118 := by kernel_rfl
theorem e118 : enters Tryz.prog 118 = true := by kernel_rfl
theorem q118 : qS Tryz.prog Tryz.f118 = some [.cell (some 2) 0] := by kernel_rfl
def c132x0 : AC := .seq (.reg [m' 48 7, o' 49 (.build [(.slice none 0 0), (.slice none 0 0)] [(0, 1, (.t 48))]), n' (.st 2 (.t 6) (.t 49))] [6]) .ret
def c132x1 : AC := .reg [m' 24 8, m' 25 8, o' 26 (.idx 1 none (.t 25) (i' 0)), o' 27 (.ld none (.t 26)), m' 28 2, o' 29 (.call 203 [.t 27, i' 0, i' 8, .t 28]), o' 30 (.idx 1 none (.t 24) (i' 0)), n' (.st 1 (.t 30) (.t 29))] [6, 7]
def c132x2 : AC := .reg [m' 33 8, m' 34 8, o' 35 (.idx 1 none (.t 34) (i' 0)), o' 36 (.ld none (.t 35)), m' 37 2, o' 38 (.call 203 [.t 36, i' 8, i' 4, .t 37]), o' 39 (.idx 1 none (.t 33) (i' 0)), n' (.st 1 (.t 39) (.t 38))] [6, 7]
def c132x3 : AC := .reg [m' 42 8, m' 43 8, m' 44 2, o' 45 (.call 77 [.t 44, i' 4]), o' 46 (.idx 1 none (.t 42) (i' 1)), n' (.st 1 (.t 46) (.t 45)), o' 47 (.idx 1 none (.t 43) (i' 5)), n' (.st 1 (.t 47) (i' 0))] [6, 7]
def c132x4 : AC := .reg [m' 18 8, m' 19 2, o' 20 (.call 77 [.t 19, i' 8]), o' 21 (.idx 1 none (.t 18) (i' 2)), n' (.st 1 (.t 21) (.t 20))] [6, 7]
def c132x6 : AC := .seq (.reg [o' 41 (.bin .eql (.t 17) (i' 2)), m' 40 41] [2, 6, 7, 8, 40]) (.cond (.t 40) c132x3 c132x4)
def c132x8 : AC := .seq (.reg [o' 32 (.bin .eql (.t 17) (i' 1)), m' 31 32] [2, 6, 7, 8, 17, 31]) (.cond (.t 31) c132x2 c132x6)
def c132x10 : AC := .seq (.reg [o' 23 (.bin .eql (.t 17) (i' 0)), m' 22 23] [2, 6, 7, 8, 17, 22]) (.cond (.t 22) c132x1 c132x8)
def c132x12 : AC := .seq (.reg [m' 16 1, o' 17 (.bin .rem (.t 16) (i' 4))] [2, 6, 7, 8, 17]) (.block 0 c132x10)
def c132x14 : AC := .seq (.reg [m' 14 8, o' 15 (.eqn true (.t 14))] [1, 2, 6, 7, 8, 15]) (.cond (.t 15) c132x12 .skip)
def c132x15 : AC := .seq (.reg [m' 11 7, m' 12 1, o' 13 (.call 204 [.t 11, .t 12]), m' 8 13] [1, 2, 6, 7, 8]) c132x14
def c132x17 : AC := .seq (.reg [o' 9 (.ld (some 2) (.t 3)), o' 10 (.call 148 [.t 9]), m' 7 10] [1, 2, 6, 7]) (.seq c132x15 c132x0)
def c132 : AC := .seq (.reg [o' 3 (.new 2 (.t 0)), o' 6 (.zero [(.slice none 0 0), (.slice none 0 0)])] [1, 2, 3, 6]) c132x17
theorem k132 : kS Tryz.prog Tryz.f132 [(0, [1, 2, 3, 6]), (1, [1, 2, 6, 7]), (2, [1, 2, 6, 7, 8]), (3, [1, 2, 6, 7, 8, 15]), (4, [2, 6, 7, 8, 17]), (5, [6, 7]), (6, [2, 6, 7, 8, 17, 22]), (7, [6, 7]), (8, [2, 6, 7, 8, 17, 31]), (9, [6, 7]), (10, [2, 6, 7, 8, 40]), (11, [6, 7]), (12, [6])] = some c132 := by kernel_rfl
theorem e132 : enters Tryz.prog 132 = true := by kernel_rfl
theorem q132 : qS Tryz.prog Tryz.f132 = some [.cell (some 2) 6] := by kernel_rfl
def c148x2 : AC := .reg [o' 35 (.bin .add (.t 16) (i' 1)), m' 16 35] [3, 4, 12, 15, 16]
def c148x3 : AC := .reg [m' 20 3, m' 21 4, o' 22 (.bin .mul (.t 21) (i' 6)), m' 23 5, o' 24 (.bin .add (.t 22) (.t 23)), m' 25 3, m' 26 4, o' 27 (.bin .mul (.t 26) (i' 6)), m' 28 5, o' 29 (.bin .add (.t 27) (.t 28)), o' 30 (.idx 1 none (.t 25) (.t 29)), o' 31 (.ld none (.t 30)), m' 32 6, o' 33 (.call 77 [.t 31, .t 32]), o' 34 (.idx 1 none (.t 20) (.t 24)), n' (.st 1 (.t 34) (.t 33))] [3, 4, 12, 15, 16]
def c148x4 : AC := .seq (.reg [m' 18 16, o' 19 (.ixa 6 1 none (.t 15) (.t 16)), m' 5 18, m' 6 19] [3, 4, 5, 6, 12, 15, 16]) c148x3
def c148x9 : AC := .seq (.reg [o' 17 (.bin .lss (.t 16) (i' 6))] [3, 4, 12, 15, 16, 17]) (.seq (.cond (.t 17) .skip (.exit 2)) (.seq (.block 3 c148x4) c148x2))
def c148x12 : AC := .seq (.reg [o' 15 (.build [(.int .i64 0), (.int .i64 0), (.int .i64 0), (.int .i64 0), (.int .i64 0), (.int .i64 0)] [(0, 1, (i' 12)), (1, 1, (i' 4)), (2, 1, (i' 8)), (3, 1, (i' 12)), (4, 1, (i' 1)), (5, 1, (i' 14))]), o' 16 (.mv (i' 0))] [3, 4, 12, 15, 16]) (.block 2 (.loop c148x9))
def c148x18 : AC := .seq (.reg [o' 13 (.bin .lss (.t 12) (i' 2))] [3, 12, 13]) (.seq (.cond (.t 13) .skip (.exit 0)) (.seq (.block 1 (.seq (.reg [m' 14 12, m' 4 14] [3, 4, 12]) c148x12)) (.reg [o' 36 (.bin .add (.t 12) (i' 1)), m' 12 36] [3, 12])))
def c148x23 : AC := .seq (.reg [m' 8 3, o' 9 (.fad 0 (.t 1)), o' 10 (.ld none (.t 9)), o' 11 (.copy 1 (.t 8) (.t 10))] [3]) (.seq (.seq (.reg [o' 12 (.mv (i' 0))] [3, 12]) (.block 0 (.loop c148x18))) (.seq (.reg [m' 37 3, m' 2 37] [2]) .ret))
def c148x24 : AC := .seq (.reg [o' 7 (.mksl [(.int .i64 0)] 8 (i' 12) (i' 12)), m' 3 7] [1, 3]) c148x23
def c148 : AC := .seq (.reg [o' 1 (.new 2 (.t 0)), o' 2 (.mv (.k (.slice none 0 0)))] [1]) c148x24
theorem k148 : kS Tryz.prog Tryz.f148 (lvs c148) = some c148 := by kernel_rfl
theorem e148 : enters Tryz.prog 148 = true := by kernel_rfl
theorem q148 : qS Tryz.prog Tryz.f148 = some [.t 2] := by kernel_rfl
def c204x0 : AC := .seq (.reg [m' 11 0, m' 12 1, o' 13 (.bin .quo (.t 12) (i' 4)), o' 14 (.bin .mul (.t 13) (i' 6)), m' 15 1, o' 16 (.bin .quo (.t 15) (i' 4)), o' 17 (.bin .mul (.t 16) (i' 6)), o' 18 (.bin .add (.t 17) (i' 6)), o' 19 (.slc 1 (.t 11) (some (.t 14)) (some (.t 18))), m' 4 19] [4]) .ret
def c204x3 : AC := .seq (.reg [m' 5 1, o' 6 (.bin .lss (.t 5) (i' 0)), m' 7 6, gF' 8 7 (.mv (.t 1)), gF' 9 7 (.bin .geq (.t 8) (i' 8)), o' 10 (.pick (.t 7) kT' (.t 9))] [0, 1, 10]) (.cond (.t 10) (.seq (.reg [o' 4 (.mv (.k (.slice none 0 0)))] [4]) .ret) .skip)
def c204 : AC := .seq (.reg [o' 4 (.mv (.k (.slice none 0 0)))] [0, 1]) (.seq c204x3 c204x0)
theorem k204 : kS Tryz.prog Tryz.f204 (lvs c204) = some c204 := by kernel_rfl
theorem e204 : enters Tryz.prog 204 = true := by kernel_rfl
theorem q204 : qS Tryz.prog Tryz.f204 = some [.t 4] := by kernel_rfl
end Go.Proofs.YtpfagchhmfigfaaGreat.Code

namespace Go.Proofs.YtpfagchhmfigfaaGreat.Code
open Go Go.Proofs.YtpfagchhmfigfaaGreat.Calc
set_option maxRecDepth 100000
def c115x0 : AC := .seq (.reg [o' 1 (.bsl [(.int .i64 0)] 3 [(0, (i' 255)), (1, (i' 0)), (2, (i' 0))]), o' 2 (.build [(.slice none 0 0), (.slice none 0 0)] [(0, 1, (.t 1))]), n' (.st 2 (.t 0) (.t 2))] [0]) .ret
def c115 : AC := .seq (.reg [o' 0 (.zero [(.slice none 0 0), (.slice none 0 0)])] [0]) c115x0
theorem k115 : kS Tryz.prog Tryz.f115 (lvs c115) = some c115 := by kernel_rfl
theorem e115 : enters Tryz.prog 115 = true := by kernel_rfl
theorem q115 : qS Tryz.prog Tryz.f115 = some [.cell (some 2) 0] := by kernel_rfl
def c129x0 : AC := .seq (.reg [m' 22 7, o' 23 (.build [(.slice none 0 0), (.slice none 0 0)] [(0, 1, (.t 22))]), n' (.st 2 (.t 6) (.t 23))] [6]) .ret
def c129x1 : AC := .reg [m' 16 7, m' 17 1, o' 18 (.bin .add (i' 1) (.t 17)), m' 19 2, o' 20 (.call 77 [.t 19, i' 8]), o' 21 (.idx 1 none (.t 16) (.t 18)), n' (.st 1 (.t 21) (.t 20))] [6, 7]
def c129x3 : AC := .seq (.reg [m' 10 1, o' 11 (.bin .eql (.t 10) (i' 0)), m' 12 11, gF' 13 12 (.mv (.t 1)), gF' 14 12 (.bin .eql (.t 13) (i' 1)), o' 15 (.pick (.t 12) kT' (.t 14))] [1, 2, 6, 7, 15]) (.cond (.t 15) c129x1 .skip)
def c129x5 : AC := .seq (.reg [o' 8 (.ld (some 2) (.t 3)), o' 9 (.call 143 [.t 8]), m' 7 9] [1, 2, 6, 7]) (.seq c129x3 c129x0)
def c129 : AC := .seq (.reg [o' 3 (.new 2 (.t 0)), o' 6 (.zero [(.slice none 0 0), (.slice none 0 0)])] [1, 2, 3, 6]) c129x5
theorem k129 : kS Tryz.prog Tryz.f129 (lvs c129) = some c129 := by kernel_rfl
theorem e129 : enters Tryz.prog 129 = true := by kernel_rfl
theorem q129 : qS Tryz.prog Tryz.f129 = some [.cell (some 2) 6] := by kernel_rfl
def c143x1 : AC := .reg [o' 23 (.bin .add (.t 12) (i' 1)), m' 12 23] [3, 11, 12]
def c143x2 : AC := .reg [m' 15 3, m' 16 4, m' 17 3, m' 18 4, o' 19 (.idx 1 none (.t 17) (.t 18)), o' 20 (.ld none (.t 19)), o' 21 (.call 77 [.t 20, i' 8]), o' 22 (.idx 1 none (.t 15) (.t 16)), n' (.st 1 (.t 22) (.t 21))] [3, 11, 12]
def c143x8 : AC := .seq (.reg [o' 13 (.bin .lss (.t 12) (.t 11))] [3, 11, 12, 13]) (.seq (.cond (.t 13) .skip (.exit 0)) (.seq (.block 1 (.seq (.reg [m' 14 12, m' 4 14] [3, 4, 11, 12]) c143x2)) c143x1))
def c143x11 : AC := .seq (.reg [m' 10 3, o' 11 (.len (.t 10)), o' 12 (.mv (i' 0))] [3, 11, 12]) (.block 0 (.loop c143x8))
def c143x13 : AC := .seq (.reg [m' 6 3, o' 7 (.fad 0 (.t 1)), o' 8 (.ld none (.t 7)), o' 9 (.copy 1 (.t 6) (.t 8))] [3]) (.seq c143x11 (.seq (.reg [m' 24 3, m' 2 24] [2]) .ret))
def c143x14 : AC := .seq (.reg [o' 5 (.mksl [(.int .i64 0)] 8 (i' 3) (i' 3)), m' 3 5] [1, 3]) c143x13
def c143 : AC := .seq (.reg [o' 1 (.new 2 (.t 0)), o' 2 (.mv (.k (.slice none 0 0)))] [1]) c143x14
theorem k143 : kS Tryz.prog Tryz.f143 (lvs c143) = some c143 := by kernel_rfl
theorem e143 : enters Tryz.prog 143 = true := by kernel_rfl
theorem q143 : qS Tryz.prog Tryz.f143 = some [.t 2] := by kernel_rfl
end Go.Proofs.YtpfagchhmfigfaaGreat.Code

namespace Go.Proofs.YtpfagchhmfigfaaGreat.Code
open Go Go.Proofs.YtpfagchhmfigfaaGreat.Calc
set_option maxRecDepth 100000
end Go.Proofs.YtpfagchhmfigfaaGreat.Code

namespace Go.Proofs.YtpfagchhmfigfaaGreat.Code
open Go Go.Proofs.YtpfagchhmfigfaaGreat.Calc
set_option maxRecDepth 100000
def c56x1 : AC := .reg [o' 99 (.bin .add (.t 82) (i' 1)), m' 82 99] [1, 80, 81, 82]
def c56x4 : AC := .seq (.dreg [o' 93 (.fad 7 (.t 1)), o' 94 (.ld none (.t 93)), m' 95 9, o' 96 (.slc 2 (.t 94) none (some (.t 95))), o' 97 (.ld (some 2) (.t 10)), o' 98 (.call 112 [.t 96, .t 97])] (bf [[], [0, 1], [], [0, 3], [], [0, 5]]) [1, 80, 81, 82, 98]) (.cond (.t 98) (.seq (.reg [o' 2 (.mv (i' 5))] [2]) .ret) .skip)
def c56x7 : AC := .seq (.reg [m' 90 11, o' 91 (.bin .neq (.t 90) (i' 0))] [1, 9, 10, 11, 80, 81, 82, 91]) (.cond (.t 91) (.seq (.reg [m' 92 11, m' 2 92] [2]) .ret) .skip)
def c56x8 : AC := .seq (.reg [o' 87 (.ld (some 8) (.t 1)), o' 88 (.ld (some 2) (.t 10)), o' 89 (.call 111 [.t 87, .t 88]), m' 11 89] [1, 9, 10, 11, 80, 81, 82]) c56x7
def c56x10 : AC := .seq (.reg [m' 84 82, o' 85 (.idx 2 none (.t 80) (.t 82)), o' 86 (.ld (some 2) (.t 85)), o' 10 (.zero [(.string ⟨#[]⟩), (.string ⟨#[]⟩)]), m' 9 84, n' (.st 2 (.t 10) (.t 86))] [1, 9, 10, 80, 81, 82]) (.seq c56x8 c56x4)
def c56x15 : AC := .seq (.reg [o' 83 (.bin .lss (.t 82) (.t 81))] [1, 80, 81, 82, 83]) (.seq (.cond (.t 83) .skip (.exit 5)) (.seq (.block 6 c56x10) c56x1))
def c56x18 : AC := .seq (.reg [o' 79 (.fad 7 (.t 1)), o' 80 (.ld none (.t 79)), o' 81 (.len (.t 80)), o' 82 (.mv (i' 0))] [1, 80, 81, 82]) (.block 5 (.loop c56x15))
def c56x22 : AC := .seq (.reg [o' 75 (.fad 7 (.t 1)), o' 76 (.ld none (.t 75)), o' 77 (.len (.t 76)), o' 78 (.bin .gtr (.t 77) (i' 40))] [1, 78]) (.cond (.t 78) (.seq (.reg [o' 2 (.mv (i' 2))] [2]) .ret) .skip)
def c56x24 : AC := .reg [o' 74 (.bin .add (.t 29) (i' 1)), m' 29 74] [1, 27, 28, 29]
def c56x25 : AC := .reg [o' 73 (.bin .add (.t 44) (i' 1)), m' 44 73] [1, 5, 27, 28, 29, 42, 43, 44]
def c56x29 : AC := .seq (.reg [o' 55 (.fad 2 (.t 5)), o' 56 (.ld none (.t 55)), o' 57 (.fad 2 (.t 8)), o' 58 (.ld none (.t 57)), o' 59 (.fad 3 (.t 8)), o' 60 (.ld none (.t 59)), o' 61 (.bin .add (.t 58) (.t 60)), o' 62 (.bin .lss (.t 56) (.t 61)), m' 63 62, gT' 64 63 (.fad 2 (.t 8)), gT' 65 63 (.ld none (.t 64)), gT' 66 63 (.fad 2 (.t 5)), gT' 67 63 (.ld none (.t 66)), gT' 68 63 (.fad 3 (.t 5)), gT' 69 63 (.ld none (.t 68)), gT' 70 63 (.bin .add (.t 67) (.t 69)), gT' 71 63 (.bin .lss (.t 65) (.t 70)), o' 72 (.pick (.t 63) (.t 71) kF'), m' 54 72] [1, 5, 27, 28, 29, 42, 43, 44, 54]) (.cond (.t 54) (.seq (.reg [o' 2 (.mv (i' 16))] [2]) .ret) .skip)
def c56x31 : AC := .seq (.reg [o' 49 (.fad 0 (.t 8)), o' 50 (.ld none (.t 49)), o' 51 (.fad 0 (.t 5)), o' 52 (.ld none (.t 51)), o' 53 (.bin .eql (.t 50) (.t 52)), m' 48 53] [1, 5, 8, 27, 28, 29, 42, 43, 44, 48]) (.cond (.t 48) (.seq (.reg [o' 2 (.mv (i' 5))] [2]) .ret) c56x29)
def c56x33 : AC := .seq (.reg [o' 46 (.idx 5 none (.t 42) (.t 44)), o' 47 (.ld (some 5) (.t 46)), o' 8 (.zero [(.string ⟨#[]⟩), (.int .i64 0), (.int .i64 0), (.int .i64 0), (.slice none 0 0)]), n' (.st 5 (.t 8) (.t 47))] [1, 5, 8, 27, 28, 29, 42, 43, 44]) (.block 4 c56x31)
def c56x38 : AC := .seq (.reg [o' 45 (.bin .lss (.t 44) (.t 43))] [1, 5, 27, 28, 29, 42, 43, 44, 45]) (.seq (.cond (.t 45) .skip (.exit 2)) (.seq (.block 3 c56x33) c56x25))
def c56x41 : AC := .seq (.reg [o' 39 (.fad 6 (.t 1)), o' 40 (.ld none (.t 39)), m' 41 4, o' 42 (.slc 5 (.t 40) none (some (.t 41))), o' 43 (.len (.t 42)), o' 44 (.mv (i' 0))] [1, 5, 27, 28, 29, 42, 43, 44]) (.block 2 (.loop c56x38))
def c56x44 : AC := .seq (.reg [m' 36 6, o' 37 (.bin .neq (.t 36) (i' 0))] [1, 4, 5, 6, 27, 28, 29, 37]) (.cond (.t 37) (.seq (.reg [m' 38 6, m' 2 38] [2]) .ret) .skip)
def c56x45 : AC := .seq (.reg [o' 34 (.ld (some 5) (.t 5)), o' 35 (.call 110 [.t 34]), m' 6 35] [1, 4, 5, 6, 27, 28, 29]) c56x44
def c56x47 : AC := .seq (.reg [m' 31 29, o' 32 (.idx 5 none (.t 27) (.t 29)), o' 33 (.ld (some 5) (.t 32)), o' 5 (.zero [(.string ⟨#[]⟩), (.int .i64 0), (.int .i64 0), (.int .i64 0), (.slice none 0 0)]), m' 4 31, n' (.st 5 (.t 5) (.t 33))] [1, 4, 5, 27, 28, 29]) (.seq c56x45 c56x41)
def c56x52 : AC := .seq (.reg [o' 30 (.bin .lss (.t 29) (.t 28))] [1, 27, 28, 29, 30]) (.seq (.cond (.t 30) .skip (.exit 0)) (.seq (.block 1 c56x47) c56x24))
def c56x55 : AC := .seq (.reg [o' 26 (.fad 6 (.t 1)), o' 27 (.ld none (.t 26)), o' 28 (.len (.t 27)), o' 29 (.mv (i' 0))] [1, 27, 28, 29]) (.block 0 (.loop c56x52))
def c56x59 : AC := .seq (.reg [o' 22 (.fad 6 (.t 1)), o' 23 (.ld none (.t 22)), o' 24 (.len (.t 23)), o' 25 (.bin .gtr (.t 24) (i' 12))] [1, 25]) (.cond (.t 25) (.seq (.reg [o' 2 (.mv (i' 2))] [2]) .ret) .skip)
def c56x63 : AC := .seq (.reg [m' 19 3, o' 20 (.bin .neq (.t 19) (i' 0))] [1, 3, 20]) (.cond (.t 20) (.seq (.reg [m' 21 3, m' 2 21] [2]) .ret) .skip)
def c56x64 : AC := .seq (.reg [o' 16 (.fad 1 (.t 1)), o' 17 (.ld (some 5) (.t 16)), o' 18 (.call 109 [.t 17]), m' 3 18] [1, 3]) c56x63
def c56x68 : AC := .seq (.reg [o' 12 (.fad 0 (.t 1)), o' 13 (.ld none (.t 12)), o' 14 (.call 108 [.t 13]), o' 15 (.not (.t 14))] [1, 15]) (.cond (.t 15) (.seq (.reg [o' 2 (.mv (i' 15))] [2]) .ret) .skip)
def c56 : AC := .seq (.reg [o' 1 (.new 8 (.t 0)), o' 2 (.mv (i' 0))] [1]) (.seq c56x68 (.seq c56x64 (.seq c56x59 (.seq c56x55 (.seq c56x22 (.seq c56x18 (.seq (.reg [o' 2 (.mv (i' 0))] [2]) .ret)))))))
theorem k56 : kS Tryz.prog Tryz.f56 (lvs c56) = some c56 := by kernel_rfl
theorem e56 : enters Tryz.prog 56 = true := by kernel_rfl
theorem q56 : qS Tryz.prog Tryz.f56 = some [.t 2] := by kernel_rfl
def c76x0 : AC := .seq (.reg [o' 4 (.mv (i' 0)), o' 5 (.mv (i' 0)), o' 6 (.mv kF')] [4, 5, 6]) .ret
def c76x1 : AC := .reg [o' 43 (.bin .add (.t 12) (i' 1)), m' 12 43] [1, 10, 11, 12]
def c76x2 : AC := .seq (.dreg [m' 38 7, m' 39 1, o' 40 (.fad 2 (.t 8)), o' 41 (.ld none (.t 40)), o' 42 (.bin .sub (.t 39) (.t 41)), m' 4 38, m' 5 42, o' 6 (.mv kT')] (bf [[], [], [], [2, 3], [1, 4], [0, 1], [0, 6], [0, 7]]) [4, 5, 6]) .ret
def c76x4 : AC := .seq (.reg [m' 17 1, o' 18 (.fad 2 (.t 8)), o' 19 (.ld none (.t 18)), o' 20 (.bin .geq (.t 17) (.t 19)), m' 21 20, gT' 22 21 (.fad 3 (.t 8)), gT' 23 21 (.ld none (.t 22)), gT' 24 21 (.bin .gtr (.t 23) (i' 0)), o' 25 (.pick (.t 21) (.t 24) kF'), m' 26 25, gT' 27 26 (.mv (.t 1)), gT' 28 26 (.cvt .u64 (.t 27)), gT' 29 26 (.fad 2 (.t 8)), gT' 30 26 (.ld none (.t 29)), gT' 31 26 (.cvt .u64 (.t 30)), gT' 32 26 (.bin .sub (.t 28) (.t 31)), gT' 33 26 (.fad 3 (.t 8)), gT' 34 26 (.ld none (.t 33)), gT' 35 26 (.cvt .u64 (.t 34)), gT' 36 26 (.bin .lss (.t 32) (.t 35)), o' 37 (.pick (.t 26) (.t 36) kF')] [1, 7, 8, 10, 11, 12, 37]) (.cond (.t 37) c76x2 .skip)
def c76x5 : AC := .seq (.reg [m' 14 12, o' 15 (.idx 5 none (.t 10) (.t 12)), o' 16 (.ld (some 5) (.t 15)), o' 8 (.zero [(.string ⟨#[]⟩), (.int .i64 0), (.int .i64 0), (.int .i64 0), (.slice none 0 0)]), m' 7 14, n' (.st 5 (.t 8) (.t 16))] [1, 7, 8, 10, 11, 12]) c76x4
def c76x10 : AC := .seq (.reg [o' 13 (.bin .lss (.t 12) (.t 11))] [1, 10, 11, 12, 13]) (.seq (.cond (.t 13) .skip (.exit 0)) (.seq (.block 1 c76x5) c76x1))
def c76x13 : AC := .seq (.reg [o' 9 (.fad 6 (.t 2)), o' 10 (.ld none (.t 9)), o' 11 (.len (.t 10)), o' 12 (.mv (i' 0))] [1, 10, 11, 12]) (.block 0 (.loop c76x10))
def c76 : AC := .seq (.reg [o' 2 (.new 8 (.t 0)), o' 4 (.mv (i' 0)), o' 5 (.mv (i' 0)), o' 6 (.mv kF')] [1, 2]) (.seq c76x13 c76x0)
theorem k76 : kS Tryz.prog Tryz.f76 (lvs c76) = some c76 := by kernel_rfl
theorem e76 : enters Tryz.prog 76 = true := by kernel_rfl
theorem q76 : qS Tryz.prog Tryz.f76 = some [.t 4, .t 5, .t 6] := by kernel_rfl
def c111x5 : AC := .seq (.reg [o' 36 (.fad 1 (.t 3)), o' 37 (.ld none (.t 36)), o' 38 (.bin .neq (.t 37) (.k (.string ⟨#[99, 112, 117, 46, 105, 114, 113]⟩))), m' 35 38] [35]) (.cond (.t 35) (.seq (.reg [o' 4 (.mv (i' 20))] [4]) .ret) .skip)
def c111x7 : AC := .seq (.reg [m' 23 6, o' 24 (.bin .neq (.t 23) (.k (.string ⟨#[105, 114, 113]⟩))), m' 25 24, gF' 26 25 (.fad 6 (.t 2)), gF' 27 25 (.ld none (.t 26)), gF' 28 25 (.mv (.t 8)), gF' 29 25 (.idx 5 none (.t 27) (.t 28)), gF' 30 25 (.fad 1 (.t 29)), gF' 31 25 (.ld none (.t 30)), gF' 32 25 (.call 193 [.t 31]), gF' 33 25 (.not (.t 32)), o' 34 (.pick (.t 25) kT' (.t 33)), m' 22 34] [3, 22]) (.cond (.t 22) (.seq (.reg [o' 4 (.mv (i' 8))] [4]) .ret) c111x5)
def c111x9 : AC := .seq (.reg [m' 20 8, o' 21 (.bin .lss (.t 20) (i' 0)), m' 19 21] [2, 3, 6, 8, 19]) (.cond (.t 19) (.seq (.reg [o' 4 (.mv (i' 4))] [4]) .ret) c111x7)
def c111x12 : AC := .seq (.reg [o' 16 (.ld (some 8) (.t 2)), m' 17 5, o' 18 (.call 192 [.t 16, .t 17]), m' 8 18] [2, 3, 6, 8]) (.seq (.block 0 c111x9) (.seq (.reg [o' 4 (.mv (i' 0))] [4]) .ret))
def c111x13 : AC := .seq (.reg [o' 10 (.fad 0 (.t 3)), o' 11 (.ld none (.t 10)), o' 12 (.call 191 [.t 11, (.k (.string ⟨#[46]⟩))]), m' 9 12, o' 13 (.ext (.t 9) 0), o' 14 (.ext (.t 9) 1), o' 15 (.ext (.t 9) 2), m' 5 13, m' 6 14, m' 7 15] [2, 3, 5, 6]) c111x12
def c111 : AC := .seq (.reg [o' 2 (.new 8 (.t 0)), o' 3 (.new 2 (.t 1)), o' 4 (.mv (i' 0))] [2, 3]) c111x13
theorem k111 : kS Tryz.prog Tryz.f111 (lvs c111) = some c111 := by kernel_rfl
theorem e111 : enters Tryz.prog 111 = true := by kernel_rfl
theorem q111 : qS Tryz.prog Tryz.f111 = some [.t 4] := by kernel_rfl
def c192x0 : AC := .seq (.reg [o' 5 (.fad 6 (.t 2)), o' 6 (.ld none (.t 5)), o' 7 (.mkf 237 [.t 3]), o' 8 (.call 22 [.t 6, .t 7]), m' 4 8] [4]) .ret
def c192 : AC := .seq (.reg [o' 2 (.new 8 (.t 0)), o' 3 (.new 1 (.t 1)), o' 4 (.mv (i' 0))] [2, 3]) c192x0
theorem k192 : kS Tryz.prog Tryz.f192 (lvs c192) = some c192 := by kernel_rfl
theorem e192 : enters Tryz.prog 192 = true := by kernel_rfl
theorem q192 : qS Tryz.prog Tryz.f192 = some [.t 4] := by kernel_rfl
def c193x0 : AC := .seq (.reg [m' 3 0, o' 4 (.bin .eql (.t 3) (i' 3)), m' 5 4, gF' 6 5 (.mv (.t 0)), gF' 7 5 (.bin .eql (.t 6) (i' 5)), o' 8 (.pick (.t 5) kT' (.t 7)), m' 9 8, gF' 10 9 (.mv (.t 0)), gF' 11 9 (.bin .eql (.t 10) (i' 8)), o' 12 (.pick (.t 9) kT' (.t 11)), m' 2 12] [2]) .ret
def c193 : AC := .seq (.reg [o' 2 (.mv kF')] [0]) c193x0
theorem k193 : kS Tryz.prog Tryz.f193 (lvs c193) = some c193 := by kernel_rfl
theorem e193 : enters Tryz.prog 193 = true := by kernel_rfl
theorem q193 : qS Tryz.prog Tryz.f193 = some [.t 2] := by kernel_rfl
def c237x0 : AC := .seq (.reg [o' 4 (.fad 0 (.t 2)), o' 5 (.ld none (.t 4)), o' 6 (.ld none (.t 1)), o' 7 (.bin .eql (.t 5) (.t 6)), m' 3 7] [3]) .ret
def c237 : AC := .seq (.reg [o' 2 (.new 5 (.t 0)), o' 3 (.mv kF')] [1, 2]) c237x0
theorem k237 : kS Tryz.prog Tryz.f237 (lvs c237) = some c237 := by kernel_rfl
theorem e237 : enters Tryz.prog 237 = true := by kernel_rfl
theorem q237 : qS Tryz.prog Tryz.f237 = some [.t 3] := by kernel_rfl
end Go.Proofs.YtpfagchhmfigfaaGreat.Code

namespace Go.Proofs.YtpfagchhmfigfaaGreat.Code
open Go Go.Proofs.YtpfagchhmfigfaaGreat.Calc
set_option maxRecDepth 100000
def c21x0 : AC := .seq (.reg [o' 31 (.ld (some 17) (.t 5)), n' (.st 17 (.t 2) (.t 31)), o' 3 (.mv (i' 0))] [2, 3]) .ret
def c21x1 : AC := .reg [o' 30 (.bin .add (.t 19) (i' 1)), m' 19 30] [2, 5, 17, 18, 19]
def c21x2 : AC := .dreg [o' 23 (.fad 13 (.t 5)), o' 24 (.ld none (.t 23)), o' 25 (.ld (some 5) (.t 7)), o' 26 (.call 58 [.t 25]), o' 27 (.bsl [(.slice none 0 0), (.slice none 0 0)] 1 [(0, (.t 26))]), o' 28 (.app 2 48 (.t 24) (.t 27)), o' 29 (.fad 13 (.t 5)), n' (.st 1 (.t 29) (.t 28))] (bf [[], [0, 1], [], [2, 3], [2, 4], [0, 5], [0, 6], [0, 7]]) [2, 5, 17, 18, 19]
def c21x3 : AC := .seq (.reg [o' 21 (.idx 5 none (.t 17) (.t 19)), o' 22 (.ld (some 5) (.t 21)), o' 7 (.zero [(.string ⟨#[]⟩), (.int .i64 0), (.int .i64 0), (.int .i64 0), (.slice none 0 0)]), n' (.st 5 (.t 7) (.t 22))] [2, 5, 7, 17, 18, 19]) c21x2
def c21x8 : AC := .seq (.reg [o' 20 (.bin .lss (.t 19) (.t 18))] [2, 5, 17, 18, 19, 20]) (.seq (.cond (.t 20) .skip (.exit 0)) (.seq (.block 1 c21x3) c21x1))
def c21x11 : AC := .seq (.reg [o' 16 (.fad 6 (.t 1)), o' 17 (.ld none (.t 16)), o' 18 (.len (.t 17)), o' 19 (.mv (i' 0))] [2, 5, 17, 18, 19]) (.block 0 (.loop c21x8))
def c21x13 : AC := .seq (.reg [o' 14 (.call 57 []), o' 15 (.build zLM [(1, 12, (.t 14))]), o' 5 (.zero zLM), n' (.st 17 (.t 5) (.t 15))] [1, 2, 5]) (.seq c21x11 c21x0)
def c21x14 : AC := .seq (.reg [o' 12 (.build zLM []), m' 13 4, n' (.st 17 (.t 2) (.t 12)), m' 3 13] [2, 3]) .ret
def c21x16 : AC := .seq (.reg [m' 10 4, o' 11 (.bin .neq (.t 10) (i' 0))] [1, 2, 4, 11]) (.cond (.t 11) c21x14 .skip)
def c21x17 : AC := .seq (.reg [o' 8 (.ld (some 8) (.t 1)), o' 9 (.call 56 [.t 8]), m' 4 9] [1, 2, 4]) c21x16
def c21 : AC := .seq (.reg [o' 1 (.new 8 (.t 0)), o' 2 (.zero zLM), o' 3 (.mv (i' 0))] [1, 2]) (.seq c21x17 c21x13)
theorem k21 : kS Tryz.prog Tryz.f21 (lvs c21) = some c21 := by kernel_rfl
theorem e21 : enters Tryz.prog 21 = true := by kernel_rfl
theorem q21 : qS Tryz.prog Tryz.f21 = some [.cell (some 17) 2, .t 3] := by kernel_rfl
def c28x0 : AC := .seq (.reg [o' 5 (.fad 0 (.t 2)), o' 6 (.ld none (.t 5)), o' 7 (.fad 0 (.t 3)), o' 8 (.ld none (.t 7)), o' 9 (.bin .eql (.t 6) (.t 8)), m' 10 9, gT' 11 10 (.fad 1 (.t 2)), gT' 12 10 (.ld (some 12) (.t 11)), gT' 13 10 (.fad 1 (.t 3)), gT' 14 10 (.ld (some 12) (.t 13)), gT' 15 10 (.eqs [.i .i64, .i .i64, .i .i64, .i .i64, .i .i64, .i .i64, .i .i64, .i .i64, .i .i64, .i .i64, .i .i64, .b] false (.t 12) (.t 14)), o' 16 (.pick (.t 10) (.t 15) kF'), m' 17 16, gT' 18 17 (.fad 14 (.t 2)), gT' 19 17 (.ld (some 3) (.t 18)), gT' 20 17 (.fad 14 (.t 3)), gT' 21 17 (.ld (some 3) (.t 20)), gT' 22 17 (.eqs [.i .i64, .i .i64, .i .i64] false (.t 19) (.t 21)), o' 23 (.pick (.t 17) (.t 22) kF'), m' 24 23, gT' 25 24 (.fad 13 (.t 2)), gT' 26 24 (.ld none (.t 25)), gT' 27 24 (.fad 13 (.t 3)), gT' 28 24 (.ld none (.t 27)), gT' 29 24 (.call 65 [.t 26, .t 28, (.f 66)]), o' 30 (.pick (.t 24) (.t 29) kF'), m' 4 30] [4]) .ret
def c28 : AC := .seq (.reg [o' 2 (.new 17 (.t 0)), o' 3 (.new 17 (.t 1)), o' 4 (.mv kF')] [2, 3]) c28x0
theorem k28 : kS Tryz.prog Tryz.f28 (lvs c28) = some c28 := by kernel_rfl
theorem e28 : enters Tryz.prog 28 = true := by kernel_rfl
theorem q28 : qS Tryz.prog Tryz.f28 = some [.t 4] := by kernel_rfl
def c34x0 : AC := .seq (.reg [o' 65 (.ld (some 17) (.t 5)), n' (.st 17 (.t 8) (.t 65))] [8]) .ret
def c34x1 : AC := .dreg [o' 48 (.fad 13 (.t 5)), o' 49 (.ld none (.t 48)), m' 50 9, o' 51 (.fad 6 (.t 4)), o' 52 (.ld none (.t 51)), m' 53 9, o' 54 (.idx 5 none (.t 52) (.t 53)), o' 55 (.ld (some 5) (.t 54)), o' 56 (.fad 13 (.t 5)), o' 57 (.ld none (.t 56)), m' 58 9, o' 59 (.idx 2 none (.t 57) (.t 58)), o' 60 (.ld (some 2) (.t 59)), m' 61 10, m' 62 3, o' 63 (.call 78 [.t 55, .t 60, .t 61, .t 62]), o' 64 (.idx 2 none (.t 49) (.t 50)), n' (.st 2 (.t 64) (.t 63))] (bf [[], [0, 1], [], [], [3, 4], [], [3, 6], [3, 7], [], [8, 9], [], [8, 11], [8, 12], [], [], [3, 15], [0, 16], [0, 17]]) [5, 8]
def c34x3 : AC := .seq (.reg [m' 22 11, m' 23 22, gT' 24 23 (.mv (.t 9)), gT' 25 23 (.fad 13 (.t 5)), gT' 26 23 (.ld none (.t 25)), gT' 27 23 (.len (.t 26)), gT' 28 23 (.bin .lss (.t 24) (.t 27)), o' 29 (.pick (.t 23) (.t 28) kF'), m' 30 29, gT' 31 30 (.fad 6 (.t 4)), gT' 32 30 (.ld none (.t 31)), gT' 33 30 (.mv (.t 9)), gT' 34 30 (.idx 5 none (.t 32) (.t 33)), gT' 35 30 (.fad 1 (.t 34)), gT' 36 30 (.ld none (.t 35)), gT' 37 30 (.bin .geq (.t 36) (i' 0)), o' 38 (.pick (.t 30) (.t 37) kF'), m' 39 38, gT' 40 39 (.fad 6 (.t 4)), gT' 41 39 (.ld none (.t 40)), gT' 42 39 (.mv (.t 9)), gT' 43 39 (.idx 5 none (.t 41) (.t 42)), gT' 44 39 (.fad 1 (.t 43)), gT' 45 39 (.ld none (.t 44)), gT' 46 39 (.bin .leq (.t 45) (i' 2)), o' 47 (.pick (.t 39) (.t 46) kF')] [3, 4, 5, 8, 9, 10, 47]) (.cond (.t 47) c34x1 .skip)
def c34x5 : AC := .seq (.dreg [o' 15 (.ld (some 8) (.t 4)), m' 16 2, o' 17 (.call 77 [.t 16, i' 16]), o' 18 (.call 76 [.t 15, .t 17]), m' 14 18, o' 19 (.ext (.t 14) 0), o' 20 (.ext (.t 14) 1), o' 21 (.ext (.t 14) 2), m' 9 19, m' 10 20, m' 11 21] (bf [[], [], [1, 2], [0, 3], [0, 4], [0, 5], [0, 5], [0, 5], [0, 6], [0, 7, 8, 9], [0, 10]]) [3, 4, 5, 8, 9, 10, 11]) (.seq c34x3 c34x0)
def c34x6 : AC := .seq (.reg [o' 12 (.ld (some 17) (.t 5)), o' 13 (.call 50 [.t 12]), n' (.st 17 (.t 5) (.t 13))] [2, 3, 4, 5, 8]) c34x5
def c34 : AC := .seq (.reg [o' 4 (.new 8 (.t 0)), o' 5 (.new 17 (.t 1)), o' 8 (.zero zLM)] [2, 3, 4, 5, 8]) c34x6
theorem k34 : kS Tryz.prog Tryz.f34 (lvs c34) = some c34 := by kernel_rfl
theorem e34 : enters Tryz.prog 34 = true := by kernel_rfl
theorem q34 : qS Tryz.prog Tryz.f34 = some [.cell (some 17) 8] := by kernel_rfl
def c36x1 : AC := .seq (.dreg [o' 48 (.fad 6 (.t 3)), o' 49 (.ld none (.t 48)), m' 50 7, o' 51 (.idx 5 none (.t 49) (.t 50)), o' 52 (.ld (some 5) (.t 51)), o' 53 (.fad 13 (.t 4)), o' 54 (.ld none (.t 53)), m' 55 7, o' 56 (.idx 2 none (.t 54) (.t 55)), o' 57 (.ld (some 2) (.t 56)), m' 58 8, o' 59 (.call 79 [.t 52, .t 57, .t 58]), m' 47 59, o' 60 (.ext (.t 47) 0), o' 61 (.ext (.t 47) 1), o' 10 (.zero [(.slice none 0 0), (.slice none 0 0)]), n' (.st 2 (.t 10) (.t 60)), m' 11 61] (bf [[], [0, 1], [], [0, 3], [0, 4], [], [5, 6], [], [5, 8], [5, 9], [], [0, 11], [0, 12], [0, 13], [0, 13], [], [0, 14, 15, 16], [0, 17]]) [11]) (.seq (.reg [m' 62 11, m' 6 62] [6]) .ret)
def c36x4 : AC := .seq (.reg [m' 20 9, o' 21 (.not (.t 20)), m' 22 21, gF' 23 22 (.mv (.t 7)), gF' 24 22 (.fad 13 (.t 4)), gF' 25 22 (.ld none (.t 24)), gF' 26 22 (.len (.t 25)), gF' 27 22 (.bin .geq (.t 23) (.t 26)), o' 28 (.pick (.t 22) kT' (.t 27)), m' 29 28, gF' 30 29 (.fad 6 (.t 3)), gF' 31 29 (.ld none (.t 30)), gF' 32 29 (.mv (.t 7)), gF' 33 29 (.idx 5 none (.t 31) (.t 32)), gF' 34 29 (.fad 1 (.t 33)), gF' 35 29 (.ld none (.t 34)), gF' 36 29 (.bin .lss (.t 35) (i' 0)), o' 37 (.pick (.t 29) kT' (.t 36)), m' 38 37, gF' 39 38 (.fad 6 (.t 3)), gF' 40 38 (.ld none (.t 39)), gF' 41 38 (.mv (.t 7)), gF' 42 38 (.idx 5 none (.t 40) (.t 41)), gF' 43 38 (.fad 1 (.t 42)), gF' 44 38 (.ld none (.t 43)), gF' 45 38 (.bin .gtr (.t 44) (i' 2)), o' 46 (.pick (.t 38) kT' (.t 45))] [3, 4, 7, 8, 46]) (.cond (.t 46) (.seq (.reg [o' 6 (.mv (i' 255))] [6]) .ret) .skip)
def c36x6 : AC := .seq (.dreg [o' 13 (.ld (some 8) (.t 3)), m' 14 2, o' 15 (.call 77 [.t 14, i' 16]), o' 16 (.call 76 [.t 13, .t 15]), m' 12 16, o' 17 (.ext (.t 12) 0), o' 18 (.ext (.t 12) 1), o' 19 (.ext (.t 12) 2), m' 7 17, m' 8 18, m' 9 19] (bf [[], [], [1, 2], [0, 3], [0, 4], [0, 5], [0, 5], [0, 5], [0, 6], [0, 7, 8, 9], [0, 10]]) [3, 4, 7, 8, 9]) (.seq c36x4 c36x1)
def c36 : AC := .seq (.reg [o' 3 (.new 8 (.t 0)), o' 4 (.new 17 (.t 1)), o' 6 (.mv (i' 0))] [2, 3, 4]) c36x6
theorem k36 : kS Tryz.prog Tryz.f36 (lvs c36) = some c36 := by kernel_rfl
theorem e36 : enters Tryz.prog 36 = true := by kernel_rfl
theorem q36 : qS Tryz.prog Tryz.f36 = some [.t 6] := by kernel_rfl
def c50x0 : AC := .seq (.reg [o' 29 (.ld (some 17) (.t 1)), n' (.st 17 (.t 2) (.t 29))] [2]) .ret
def c50x1 : AC := .reg [o' 28 (.bin .add (.t 12) (i' 1)), m' 12 28] [1, 2, 10, 11, 12]
def c50x2 : AC := .dreg [o' 17 (.fad 13 (.t 1)), o' 18 (.ld none (.t 17)), m' 19 3, o' 20 (.fad 0 (.t 4)), o' 21 (.ld none (.t 20)), o' 22 (.call 90 [.t 21]), o' 23 (.fad 1 (.t 4)), o' 24 (.ld none (.t 23)), o' 25 (.call 43 [.t 24]), o' 26 (.build [(.slice none 0 0), (.slice none 0 0)] [(0, 1, (.t 22)), (1, 1, (.t 25))]), o' 27 (.idx 2 none (.t 18) (.t 19)), n' (.st 2 (.t 27) (.t 26))] (bf [[], [0, 1], [], [], [3, 4], [3, 5], [], [6, 7], [3, 8], [3, 9], [0, 10], [0, 11]]) [1, 2, 10, 11, 12]
def c50x3 : AC := .seq (.reg [m' 14 12, o' 15 (.idx 2 none (.t 10) (.t 12)), o' 16 (.ld (some 2) (.t 15)), o' 4 (.zero [(.slice none 0 0), (.slice none 0 0)]), m' 3 14, n' (.st 2 (.t 4) (.t 16))] [1, 2, 3, 4, 10, 11, 12]) c50x2
def c50x8 : AC := .seq (.reg [o' 13 (.bin .lss (.t 12) (.t 11))] [1, 2, 10, 11, 12, 13]) (.seq (.cond (.t 13) .skip (.exit 0)) (.seq (.block 1 c50x3) c50x1))
def c50x11 : AC := .seq (.reg [o' 9 (.fad 13 (.t 1)), o' 10 (.ld none (.t 9)), o' 11 (.len (.t 10)), o' 12 (.mv (i' 0))] [1, 2, 10, 11, 12]) (.block 0 (.loop c50x8))
def c50x13 : AC := .seq (.reg [o' 5 (.fad 13 (.t 1)), o' 6 (.ld none (.t 5)), o' 7 (.call 89 [.t 6]), o' 8 (.fad 13 (.t 1)), n' (.st 1 (.t 8) (.t 7))] [1, 2]) (.seq c50x11 c50x0)
def c50 : AC := .seq (.reg [o' 1 (.new 17 (.t 0)), o' 2 (.zero zLM)] [1, 2]) c50x13
theorem k50 : kS Tryz.prog Tryz.f50 (lvs c50) = some c50 := by kernel_rfl
theorem e50 : enters Tryz.prog 50 = true := by kernel_rfl
theorem q50 : qS Tryz.prog Tryz.f50 = some [.cell (some 17) 2] := by kernel_rfl
def c66x0 : AC := .seq (.reg [o' 5 (.fad 0 (.t 2)), o' 6 (.ld none (.t 5)), o' 7 (.fad 0 (.t 3)), o' 8 (.ld none (.t 7)), o' 9 (.call 67 [.t 6, .t 8]), m' 10 9, gT' 11 10 (.fad 1 (.t 2)), gT' 12 10 (.ld none (.t 11)), gT' 13 10 (.fad 1 (.t 3)), gT' 14 10 (.ld none (.t 13)), gT' 15 10 (.call 68 [.t 12, .t 14]), o' 16 (.pick (.t 10) (.t 15) kF'), m' 4 16] [4]) .ret
def c66 : AC := .seq (.reg [o' 2 (.new 2 (.t 0)), o' 3 (.new 2 (.t 1)), o' 4 (.mv kF')] [2, 3]) c66x0
theorem k66 : kS Tryz.prog Tryz.f66 (lvs c66) = some c66 := by kernel_rfl
theorem e66 : enters Tryz.prog 66 = true := by kernel_rfl
theorem q66 : qS Tryz.prog Tryz.f66 = some [.t 4] := by kernel_rfl
end Go.Proofs.YtpfagchhmfigfaaGreat.Code

namespace Go.Proofs.YtpfagchhmfigfaaGreat.Code
open Go Go.Proofs.YtpfagchhmfigfaaGreat.Calc
set_option maxRecDepth 100000
def c57x0 : AC := .seq (.reg [o' 5 (.ld (some 12) (.t 1)), n' (.st 12 (.t 0) (.t 5))] [0]) .ret
def c57x1 : AC := .seq (.reg [o' 3 (.fad 0 (.t 1)), o' 4 (.idx 1 (some 9) (.t 3) (i' 4)), n' (.st 1 (.t 4) (i' 4))] [0, 1]) c57x0
def c57x2 : AC := .seq (.reg [o' 2 (.build [(.int .i64 0), (.int .i64 0), (.int .i64 0), (.int .i64 0), (.int .i64 0), (.int .i64 0), (.int .i64 0), (.int .i64 0), (.int .i64 0), (.int .i64 0), (.int .i64 0), (.bool false)] [(9, 1, (i' 258))]), o' 1 (.zero [(.int .i64 0), (.int .i64 0), (.int .i64 0), (.int .i64 0), (.int .i64 0), (.int .i64 0), (.int .i64 0), (.int .i64 0), (.int .i64 0), (.int .i64 0), (.int .i64 0), (.bool false)]), n' (.st 12 (.t 1) (.t 2))] [0, 1]) c57x1
def c57 : AC := .seq (.reg [o' 0 (.zero [(.int .i64 0), (.int .i64 0), (.int .i64 0), (.int .i64 0), (.int .i64 0), (.int .i64 0), (.int .i64 0), (.int .i64 0), (.int .i64 0), (.int .i64 0), (.int .i64 0), (.bool false)])] [0]) c57x2
theorem k57 : kS Tryz.prog Tryz.f57 (lvs c57) = some c57 := by kernel_rfl
theorem e57 : enters Tryz.prog 57 = true := by kernel_rfl
theorem q57 : qS Tryz.prog Tryz.f57 = some [.cell (some 12) 0] := by kernel_rfl
end Go.Proofs.YtpfagchhmfigfaaGreat.Code

namespace Go.Proofs.YtpfagchhmfigfaaGreat.Code
open Go Go.Proofs.YtpfagchhmfigfaaGreat.Calc
set_option maxRecDepth 100000
def c236x0 : AC := .seq (.reg [m' 22 0, m' 4 22, o' 5 (.mv (.k (.string ⟨#[]⟩))), o' 6 (.mv kF')] [4, 5, 6]) .ret
def c236x1 : AC := .seq (.dreg [m' 13 0, m' 14 7, o' 15 (.slcs (.t 13) none (some (.t 14))), m' 16 0, m' 17 7, m' 18 1, o' 19 (.lens (.t 18)), o' 20 (.bin .add (.t 17) (.t 19)), o' 21 (.slcs (.t 16) (some (.t 20)) none), m' 4 15, m' 5 21, o' 6 (.mv kT')] (bf [[], [], [0, 2], [], [], [], [5, 6], [4, 7], [3, 8], [0, 3], [0, 10], [0, 11]]) [4, 5, 6]) .ret
def c236x3 : AC := .seq (.reg [m' 11 7, o' 12 (.bin .geq (.t 11) (i' 0))] [0, 1, 7, 12]) (.cond (.t 12) c236x1 .skip)
def c236x4 : AC := .seq (.reg [m' 8 0, m' 9 1, o' 10 (.call 251 [.t 8, .t 9]), m' 7 10] [0, 1, 7]) c236x3
def c236 : AC := .seq (.reg [o' 4 (.mv (.k (.string ⟨#[]⟩))), o' 5 (.mv (.k (.string ⟨#[]⟩))), o' 6 (.mv kF')] [0, 1]) (.seq c236x4 c236x0)
theorem k236 : kS Tryz.prog Tryz.f236 (lvs c236) = some c236 := by kernel_rfl
theorem e236 : enters Tryz.prog 236 = true := by kernel_rfl
theorem q236 : qS Tryz.prog Tryz.f236 = some [.t 4, .t 5, .t 6] := by kernel_rfl
def c251x2 : AC := .seq (.reg [m' 115 12, m' 116 8, o' 117 (.bin .add (.t 115) (.t 116)), m' 4 117] [4]) .ret
def c251x4 : AC := .seq (.reg [m' 113 12, o' 114 (.bin .geq (.t 113) (i' 0))] [8, 12, 114]) (.cond (.t 114) c251x2 .skip)
def c251x6 : AC := .seq (.reg [m' 108 0, m' 109 8, o' 110 (.slcs (.t 108) (some (.t 109)) none), m' 111 1, o' 112 (.xcall 255 [.t 110, .t 111]), m' 12 112] [8, 12]) (.seq c251x4 (.seq (.reg [o' 4 (.mv (.k (.int .i64 (-1))))] [4]) .ret))
def c251x7 : AC := .seq (.reg [m' 140 8, m' 141 13, o' 142 (.bin .add (.t 140) (.t 141)), m' 4 142] [4]) .ret
def c251x10 : AC := .seq (.reg [m' 138 13, o' 139 (.bin .lss (.t 138) (i' 0))] [8, 13, 139]) (.cond (.t 139) (.seq (.reg [o' 4 (.mv (.k (.int .i64 (-1))))] [4]) .ret) .skip)
def c251x12 : AC := .seq (.reg [m' 133 0, m' 134 8, o' 135 (.slcs (.t 133) (some (.t 134)) none), m' 136 1, o' 137 (.call 257 [.t 135, .t 136]), m' 13 137] [8, 13]) (.seq c251x10 c251x7)
def c251x14 : AC := .seq (.reg [m' 118 5, o' 119 (.bad), o' 120 (.bin .gtr (.t 118) (.t 119)), m' 121 120, gT' 122 121 (.mv (.t 10)), gT' 123 121 (.mv (.t 8)), gT' 124 121 (.bin .shr (.t 123) (.k (.int .u64 4))), gT' 125 121 (.bin .add (i' 4) (.t 124)), gT' 126 121 (.bin .geq (.t 122) (.t 125)), o' 127 (.pick (.t 121) (.t 126) kF'), m' 128 127, gT' 129 128 (.mv (.t 8)), gT' 130 128 (.mv (.t 9)), gT' 131 128 (.bin .lss (.t 129) (.t 130)), o' 132 (.pick (.t 128) (.t 131) kF')] [0, 1, 5, 6, 7, 8, 9, 10, 132]) (.cond (.t 132) c251x12 .skip)
def c251x16 : AC := .seq (.reg [m' 99 5, o' 100 (.bad), o' 101 (.bin .leq (.t 99) (.t 100)), m' 102 101, gT' 103 102 (.mv (.t 10)), gT' 104 102 (.mv (.t 8)), gT' 105 102 (.call 256 [.t 104]), gT' 106 102 (.bin .gtr (.t 103) (.t 105)), o' 107 (.pick (.t 102) (.t 106) kF')] [0, 1, 5, 6, 7, 8, 9, 10, 107]) (.cond (.t 107) c251x6 c251x14)
def c251x17 : AC := .seq (.reg [m' 97 10, o' 98 (.bin .add (.t 97) (i' 1)), m' 10 98] [0, 1, 5, 6, 7, 8, 9, 10]) c251x16
def c251x18 : AC := .seq (.reg [m' 95 8, o' 96 (.bin .add (.t 95) (i' 1)), m' 8 96] [0, 1, 5, 6, 7, 8, 9, 10]) c251x17
def c251x21 : AC := .seq (.reg [m' 78 0, m' 79 8, o' 80 (.bin .add (.t 79) (i' 1)), o' 81 (.ixs (.t 78) (.t 80)), m' 82 7, o' 83 (.bin .eql (.t 81) (.t 82)), m' 84 83, gT' 85 84 (.mv (.t 0)), gT' 86 84 (.mv (.t 8)), gT' 87 84 (.mv (.t 8)), gT' 88 84 (.mv (.t 5)), gT' 89 84 (.bin .add (.t 87) (.t 88)), gT' 90 84 (.slcs (.t 85) (some (.t 86)) (some (.t 89))), gT' 91 84 (.mv (.t 1)), gT' 92 84 (.bin .eql (.t 90) (.t 91)), o' 93 (.pick (.t 84) (.t 92) kF')] [0, 1, 5, 6, 7, 8, 9, 10, 93]) (.cond (.t 93) (.seq (.reg [m' 94 8, m' 4 94] [4]) .ret) .skip)
def c251x23 : AC := .reg [m' 74 8, m' 75 11, o' 76 (.bin .add (.t 75) (i' 1)), o' 77 (.bin .add (.t 74) (.t 76)), m' 8 77] [0, 1, 5, 6, 7, 8, 9, 10]
def c251x26 : AC := .seq (.reg [m' 72 11, o' 73 (.bin .lss (.t 72) (i' 0))] [0, 1, 5, 6, 7, 8, 9, 10, 11, 73]) (.cond (.t 73) (.seq (.reg [o' 4 (.mv (.k (.int .i64 (-1))))] [4]) .ret) .skip)
def c251x28 : AC := .seq (.reg [m' 65 0, m' 66 8, o' 67 (.bin .add (.t 66) (i' 1)), m' 68 9, o' 69 (.slcs (.t 65) (some (.t 67)) (some (.t 68))), m' 70 6, o' 71 (.call 254 [.t 69, .t 70]), m' 11 71] [0, 1, 5, 6, 7, 8, 9, 10, 11]) (.seq c251x26 c251x23)
def c251x30 : AC := .seq (.reg [m' 60 0, m' 61 8, o' 62 (.ixs (.t 60) (.t 61)), m' 63 6, o' 64 (.bin .neq (.t 62) (.t 63))] [0, 1, 5, 6, 7, 8, 9, 10, 64]) (.cond (.t 64) c251x28 .skip)
def c251x34 : AC := .seq (.reg [m' 57 8, m' 58 9, o' 59 (.bin .lss (.t 57) (.t 58))] [0, 1, 5, 6, 7, 8, 9, 10, 59]) (.cond (.t 59) .skip (.exit 1))
def c251x39 : AC := .seq (.reg [o' 10 (.mv (i' 0))] [0, 1, 5, 6, 7, 8, 9, 10]) (.seq (.block 1 (.loop (.seq c251x34 (.block 2 (.seq c251x30 (.seq c251x21 c251x18)))))) (.seq (.reg [o' 4 (.mv (.k (.int .i64 (-1))))] [4]) .ret))
def c251x40 : AC := .seq (.reg [m' 52 0, o' 53 (.lens (.t 52)), m' 54 5, o' 55 (.bin .sub (.t 53) (.t 54)), o' 56 (.bin .add (.t 55) (i' 1)), m' 9 56] [0, 1, 5, 6, 7, 8, 9]) c251x39
def c251x42 : AC := .seq (.reg [m' 50 1, o' 51 (.ixs (.t 50) (i' 1)), m' 7 51] [0, 1, 5, 6, 7]) (.seq (.reg [o' 8 (.mv (i' 0))] [0, 1, 5, 6, 7, 8]) c251x40)
def c251x43 : AC := .seq (.reg [m' 48 1, o' 49 (.ixs (.t 48) (i' 0)), m' 6 49] [0, 1, 5, 6]) c251x42
def c251x45 : AC := .seq (.reg [m' 27 0, m' 28 1, o' 29 (.ixs (.t 28) (i' 0)), o' 30 (.call 254 [.t 27, .t 29]), m' 4 30] [4]) .ret
def c251x47 : AC := .seq (.reg [m' 45 0, m' 46 1, o' 47 (.xcall 255 [.t 45, .t 46]), m' 4 47] [4]) .ret
def c251x49 : AC := .seq (.reg [m' 37 5, o' 38 (.bad), o' 39 (.bin .leq (.t 37) (.t 38)), m' 40 39, gT' 41 40 (.mv (.t 0)), gT' 42 40 (.lens (.t 41)), gT' 43 40 (.bin .leq (.t 42) (i' 64)), o' 44 (.pick (.t 40) (.t 43) kF'), m' 36 44] [0, 1, 5, 36]) (.cond (.t 36) c251x47 .skip)
def c251x51 : AC := .seq (.reg [m' 32 5, m' 33 0, o' 34 (.lens (.t 33)), o' 35 (.bin .geq (.t 32) (.t 34)), m' 31 35] [0, 1, 5, 31]) (.cond (.t 31) (.seq (.reg [o' 4 (.mv (.k (.int .i64 (-1))))] [4]) .ret) c251x49)
def c251x53 : AC := .seq (.reg [m' 25 5, o' 26 (.bin .eql (.t 25) (i' 1)), m' 24 26] [0, 1, 5, 24]) (.cond (.t 24) c251x45 c251x51)
def c251x55 : AC := .seq (.reg [m' 17 5, o' 18 (.bin .eql (.t 17) (i' 0)), m' 19 18, gF' 20 19 (.mv (.t 1)), gF' 21 19 (.mv (.t 0)), gF' 22 19 (.bin .eql (.t 20) (.t 21)), o' 23 (.pick (.t 19) kT' (.t 22)), m' 16 23] [0, 1, 5, 16]) (.cond (.t 16) (.seq (.reg [o' 4 (.mv (i' 0))] [4]) .ret) c251x53)
def c251x58 : AC := .seq (.reg [m' 14 1, o' 15 (.lens (.t 14)), m' 5 15] [0, 1, 5]) (.seq (.block 0 c251x55) c251x43)
def c251 : AC := .seq (.reg [o' 4 (.mv (i' 0))] [0, 1]) c251x58
theorem k251 : kS Tryz.prog Tryz.f251 (lvs c251) = some c251 := by kernel_rfl
theorem e251 : enters Tryz.prog 251 = true := by kernel_rfl
theorem q251 : qS Tryz.prog Tryz.f251 = some [.t 4] := by kernel_rfl
def c254x0 : AC := .seq (.reg [m' 5 0, m' 6 1, o' 7 (.xcall 258 [.t 5, .t 6]), m' 4 7] [4]) .ret
def c254 : AC := .seq (.reg [o' 4 (.mv (i' 0))] [0, 1]) c254x0
theorem k254 : kS Tryz.prog Tryz.f254 (lvs c254) = some c254 := by kernel_rfl
theorem e254 : enters Tryz.prog 254 = true := by kernel_rfl
theorem q254 : qS Tryz.prog Tryz.f254 = some [.t 4] := by kernel_rfl
end Go.Proofs.YtpfagchhmfigfaaGreat.Code

namespace Go.Proofs.YtpfagchhmfigfaaGreat.Code
open Go Go.Proofs.YtpfagchhmfigfaaGreat.Calc
set_option maxRecDepth 100000
def c191x0 : AC := .seq (.reg [m' 7 0, m' 8 1, o' 9 (.call 236 [.t 7, .t 8]), o' 10 (.ext (.t 9) 0), o' 11 (.ext (.t 9) 1), o' 12 (.ext (.t 9) 2), m' 4 10, m' 5 11, m' 6 12] [4, 5, 6]) .ret
def c191 : AC := .seq (.reg [o' 4 (.mv (.k (.string ⟨#[]⟩))), o' 5 (.mv (.k (.string ⟨#[]⟩))), o' 6 (.mv kF')] [0, 1]) c191x0
theorem k191 : kS Tryz.prog Tryz.f191 (lvs c191) = some c191 := by kernel_rfl
theorem e191 : enters Tryz.prog 191 = true := by kernel_rfl
theorem q191 : qS Tryz.prog Tryz.f191 = some [.t 4, .t 5, .t 6] := by kernel_rfl
end Go.Proofs.YtpfagchhmfigfaaGreat.Code

namespace Go.Proofs.YtpfagchhmfigfaaGreat.Code
open Go Go.Proofs.YtpfagchhmfigfaaGreat.Calc
set_option maxRecDepth 100000
theorem e3 : enters Tryz.prog 3 = true := by kernel_rfl
theorem e4 : enters Tryz.prog 4 = true := by kernel_rfl
theorem e5 : enters Tryz.prog 5 = true := by kernel_rfl
def c6x0 : AC := .seq (.dreg [o' 31 (.call 35 []), m' 32 31, gT' 33 32 (.mv (.t 11)), gT' 34 32 (.bin .eql (.t 33) (i' 0)), o' 35 (.pick (.t 32) (.t 34) kF'), m' 36 35, gT' 37 36 (.ld (some 8) (.t 9)), gT' 38 36 (.ld (some 17) (.t 12)), gT' 39 36 (.mv (.t 1)), gT' 40 36 (.call 36 [.t 37, .t 38, .t 39]), gT' 41 36 (.mv (.t 3)), gT' 42 36 (.bin .eql (.t 40) (.t 41)), o' 43 (.pick (.t 36) (.t 42) kF'), m' 44 43, gT' 45 44 (.mv (.t 2)), gT' 46 44 (.mv (.t 1)), gT' 47 44 (.bin .eql (.t 45) (.t 46)), gT' 48 44 (.mv (.t 47)), gF' 49 48 (.ld (some 8) (.t 9)), gF' 50 48 (.ld (some 17) (.t 12)), gF' 51 48 (.mv (.t 2)), gF' 52 48 (.call 36 [.t 49, .t 50, .t 51]), gF' 53 48 (.ld (some 8) (.t 9)), gF' 54 48 (.ld (some 17) (.t 10)), gF' 55 48 (.mv (.t 2)), gF' 56 48 (.call 36 [.t 53, .t 54, .t 55]), gF' 57 48 (.bin .eql (.t 52) (.t 56)), gT' 58 44 (.pick (.t 48) kT' (.t 57)), o' 59 (.pick (.t 44) (.t 58) kF'), m' 60 59, gT' 61 60 (.ld (some 8) (.t 9)), gT' 62 60 (.ld (some 17) (.t 12)), gT' 63 60 (.call 36 [.t 61, .t 62, i' 60000]), gT' 64 60 (.bin .eql (.t 63) (i' 255)), o' 65 (.pick (.t 60) (.t 64) kF'), m' 8 65] (bf [[], [0, 1], [0, 2], [0, 3], [0, 4], [0, 5], [0, 6], [0, 6], [0, 6], [0, 9], [0, 6], [0, 11], [0, 12], [0, 13], [0, 14], [0, 14], [0, 16], [0, 17], [0, 18], [0, 18], [0, 18], [0, 21], [0, 18], [0, 18], [0, 18], [0, 25], [0, 26], [0, 27], [0, 28], [0, 29], [0, 30], [0, 30], [0, 32], [0, 33], [0, 34], [0, 35]]) [8]) .ret
def c6x1 : AC := .seq (.reg [o' 26 (.ld (some 8) (.t 9)), o' 27 (.ld (some 17) (.t 10)), m' 28 1, m' 29 3, o' 30 (.call 34 [.t 26, .t 27, .t 28, .t 29]), o' 12 (.zero zLM), n' (.st 17 (.t 12) (.t 30))] [1, 2, 3, 9, 10, 11, 12]) c6x0
def c6x2 : AC := .seq (.reg [m' 20 1, o' 21 (.call 17 [.t 20, i' 768]), m' 22 2, o' 23 (.call 17 [.t 22, i' 768]), m' 24 3, o' 25 (.call 17 [.t 24, i' 256]), m' 1 21, m' 2 23, m' 3 25] [1, 2, 3, 9, 10, 11]) c6x1
def c6x3 : AC := .seq (.reg [o' 16 (.ld (some 8) (.t 9)), o' 17 (.call 21 [.t 16]), m' 15 17, o' 18 (.ext (.t 15) 0), o' 19 (.ext (.t 15) 1), o' 10 (.zero zLM), n' (.st 17 (.t 10) (.t 18)), m' 11 19] [1, 2, 3, 9, 10, 11]) c6x2
def c6x4 : AC := .seq (.reg [m' 13 0, o' 14 (.call 20 [.t 13]), o' 9 (.zero zLB), n' (.st 8 (.t 9) (.t 14))] [1, 2, 3, 9]) c6x3
def c6 : AC := .seq (.reg [o' 8 (.mv kF')] [0, 1, 2, 3]) c6x4
theorem k6 : kS Tryz.prog Tryz.f6 (lvs c6) = some c6 := by kernel_rfl
theorem e6 : enters Tryz.prog 6 = true := by kernel_rfl
theorem q6 : qS Tryz.prog Tryz.f6 = some [.t 8] := by kernel_rfl
theorem e7 : enters Tryz.prog 7 = true := by kernel_rfl
theorem e8 : enters Tryz.prog 8 = true := by kernel_rfl
theorem e9 : enters Tryz.prog 9 = true := by kernel_rfl
theorem e10 : enters Tryz.prog 10 = true := by kernel_rfl
def c35x0 : AC := .seq (.reg [m' 10 3, o' 11 (.bin .eql (.t 10) (i' 0)), m' 12 11, gT' 13 12 (.fad 13 (.t 2)), gT' 14 12 (.ld none (.t 13)), gT' 15 12 (.len (.t 14)), gT' 16 12 (.fad 6 (.t 1)), gT' 17 12 (.ld none (.t 16)), gT' 18 12 (.len (.t 17)), gT' 19 12 (.bin .eql (.t 15) (.t 18)), o' 20 (.pick (.t 12) (.t 19) kF'), m' 21 20, gT' 22 21 (.ld (some 17) (.t 2)), gT' 23 21 (.ld (some 17) (.t 2)), gT' 24 21 (.call 28 [.t 22, .t 23]), o' 25 (.pick (.t 21) (.t 24) kF'), m' 0 25] [0]) .ret
def c35x1 : AC := .seq (.reg [o' 6 (.ld (some 8) (.t 1)), o' 7 (.call 21 [.t 6]), m' 5 7, o' 8 (.ext (.t 5) 0), o' 9 (.ext (.t 5) 1), o' 2 (.zero zLM), n' (.st 17 (.t 2) (.t 8)), m' 3 9] [1, 2, 3]) c35x0
def c35x2 : AC := .seq (.reg [o' 4 (.call 20 [(.k (.slice none 0 0))]), o' 1 (.zero zLB), n' (.st 8 (.t 1) (.t 4))] [1]) c35x1
def c35 : AC := .seq (.reg [o' 0 (.mv kF')] []) c35x2
theorem k35 : kS Tryz.prog Tryz.f35 (lvs c35) = some c35 := by kernel_rfl
theorem e35 : enters Tryz.prog 35 = true := by kernel_rfl
theorem q35 : qS Tryz.prog Tryz.f35 = some [.t 0] := by kernel_rfl
end Go.Proofs.YtpfagchhmfigfaaGreat.Code

